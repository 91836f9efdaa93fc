/- What the functions of this chapter give, on plain data. No condition. -/
import Derived.Shelf.SortM.Plain
import Derived.Shelf.SortM.SortNone
import Derived.Shelf.Slices.CompactI
import Derived.Test.YtllpdgfanfffnaaGreatP1
set_option linter.unnecessarySimpa false
set_option linter.defProp false
set_option linter.unusedSectionVars false
set_option linter.unusedSimpArgs false
set_option linter.unusedVariables false
namespace Go.Am
open Go Go.Proofs
section
variable {E:List (List Nat)}{r:Nat}{O:List Nat}{at':List Int}{B:List (List Nat)}
def OZ (r:Nat) (O:List Nat) (up:Nat->Option Nat) (l:List Nat) (d:D):Prop:=(d=.int .i64 (-1)/\∀p∈l,up p=none)\/∃m,d=nD m/\m∈O/\up m≠none/\∀d,Ch r up m d ↔ ∀p∈l,up p≠none->Ch r up p d
theorem OZ.none {up:Nat->Option Nat}{l:List Nat}{d:D}(s:OZ r O up l d){p:Nat}(hp:up p=none):OZ r O up (l++[p]) d:=by
 grind [OZ]
theorem OZ.first {up:Nat->Option Nat}{l:List Nat}(h:∀p∈l,up p=Option.none){p:Nat}(hp:up p≠Option.none) (hO:p∈O):OZ r O up (l++[p]) (nD p):=by
 grind [OZ]
theorem OZ.meet {up:Nat->Option Nat}{l:List Nat}{m:Nat}(h3:∀d,Ch r up m d ↔ ∀p∈l,up p≠Option.none->Ch r up p d){p:Nat}(hp:up p≠Option.none){k:Nat}(hO:k∈O) (hk:up k≠Option.none) (hm:∀d,Ch r up k d↔Ch r up m d/\Ch r up p d):OZ r O up (l++[p]) (nD k):=by
 grind [OZ]
structure UpI (M:LSq) (r:Nat) (O:List Nat) (B:List (List Nat)) (nU n:Nat) (U:List Int) (k:Nat) (h:Heap):Prop where
 vs:Vs h ((nU,.arr 1 (aQ U))::M)
 len:U.length=n
 ph:SL r (preB B) (yM O) (· ∈ O) (upF U) k
def Stb (r:Nat) (B:List (List Nat)) (up:Nat->Option Nat) (v:Nat):Prop:=∀y,up v=some y->∀d,(∀p,p∈preB B v->up p≠none->Ch r up p d)↔Ch r up y d
variable {M:LSq}{v vB:D}{ng nO nA nU n k ig iO iA:Nat}{U:List Int}{h:Heap}
theorem aao (G:Ri E r O at' B) (hg:M[ig]?=some (ng,QK v nO O.length nA n)) (hA:M[iA]?=some (nA,.arr 1 (aQ at'))) (hn:n<=1000) (hE:E.length=n) (I:UpI M r O B nU n U k h)
  {b:Nat}(e:D) {l:List Nat}(hB:B[b]?=some l) (we':HT ((nU,.arr 1 (aQ U))::M) e l) (hl:l.length<=1000000) {f:Nat->D}{a1 a2 a3:D}{J:HJq}(hJ:∀d,OZ r O (upF U) l d->J [d] h) :
  jN h (.int .i64 (l.length:Int)) (.ptr ng 0 0) (.ms nU 0 n) a1 (nD b) a2 a3 f e J:=by
 have V:=I.vs;have b3:∀p∈l,p∈O:=λ p hp=>((G.bmem b p).1 (by rw[hB];exact hp)).1
 dsimp only[jN,xI,xL];refine⟨λ m q h'=>h'=h/\∃(i:Nat) (d:D),q=[d,nD i]/\i<=l.length/\m=l.length-i/\OZ r O (upF U) (l.take i) d,_,⟨rfl,0,_,rfl,by omega,rfl,Or.inl ⟨rfl,by simp⟩⟩,?_⟩;rintro m f h' ⟨e1,i,d,hq,hi,hm,hs⟩;subst e1;simp only[ah,and_true]at hq;obtain⟨q1,q2⟩:=hq;simp only[q1,q2,nD];by_cases b4:i<l.length
 ·rw[fY (by omega),af];obtain⟨p,hp⟩:∃p,l[i]?=some p:=⟨l[i],aq b4⟩;have a6:=b3 p (ak hp);have Z:l.take (i+1)=l.take i++[p]:=by rw[List.take_add_one,hp];rfl
  refine⟨λ q a8=>a8=h'/\∃d,q=[d]/\OZ r O (upF U) (l.take (i+1)) d,?_,?_⟩
  ·rintro f' a8 ⟨e2,d',a7,b1⟩;subst e2;simp only[ah,and_true]at a7;simp only[a7];rw[bB (by omega) (by omega)];simp only[aa,true_and];exact⟨_,by omega,i+1,d',rfl,by omega,rfl,b1⟩
  rw[we'.get V hp];have b2:p<n:=hE ▸ G.lt p a6;obtain⟨u,hu⟩:∃u,U[p]?=some u:=⟨U[p]'(by rw[I.len];exact b2),aq _⟩;rw[nD,V.ia 0 rfl (by omega) (by omega),aE,V.yQ 0 rfl (mD hu) rfl];by_cases Q:u<0
  ·rw[fY Q,af];simp only[aa,true_and];exact⟨d,rfl,by rw[Z];exact hs.none ((Nq hu).2 Q)⟩
  ·have H:upF U p≠none:=λ hh=>Q ((Nq hu).1 hh)
   rw[fU (by omega),ae];rcases hs with⟨rfl,hs⟩|⟨m,rfl,h1,h2,h3⟩
   ·rw[fY (by omega),af];simp only[aa,true_and];exact⟨_,rfl,by rw[Z];exact OZ.first hs H a6⟩
   ·rw[nD,fU (by omega),ae];refine aal (L:=(nU,.arr 1 (aQ U))::M) (at':=at') (U:=U) V (ig:=ig+1) (iA:=iA+1) (iU:=0) (by simpa using hg) (by simpa using hA) rfl I.len (by rw[G.xy,hE]) hn I.ph.tr G.dg.zero G.dg.inj (λ x hx=>G.at hx) h2 H h1 a6 λ k' c0 b7 b5=>?_
    simp only[aa,true_and];exact⟨_,rfl,by rw[Z];exact OZ.meet h3 H b7 c0 b5⟩
 grind [fU,ae,aa]
end
end Go.Am
namespace Go.Am
open Go Go.Proofs
section
variable {E:List (List Nat)}{r:Nat}{O:List Nat}{at':List Int}{B:List (List Nat)}
variable {M:LSq}{v vB:D}{ng nO nA nU n k ig iO iA:Nat}{U:List Int}{h:Heap}
theorem Vs.iao {P:Program}{KH:HKq}{L:LSq}(V:Vs h L) (i:Nat){m off l esz:Nat}{els:List D}{a:Int}(hi:L[i]?=some (m,.arr esz els)) (h0:0<=a) (h1:a<l):ab P (.iadd (.c (.ms m off l)) (.c (.int .i64 a)) esz) h KH=KH (.ptr m (off+a.toNat) 0) h:=by
 rw[pw];apply propext;constructor
 ·exact λ H=>H.2.2.2
 ·exact λ G=>⟨h0,h1,⟨els,by rw[V.get i _ _ hi];rfl⟩,G⟩
theorem VR (hO:∀x∈O,x<n) (hU:U.length=n){b m:Nat}(hb:b∈O) (hm:yM O m<=n) (hlt:∀y,upF U b=some y->yM O m<yM O y):IA O (U.set b (m:Int)) n<IA O U n:=by
 have G:b<U.length:=by rw[hU];exact hO b hb
 refine Tf (λ x hx=>?_) ⟨b,hb,?_⟩
 ·grind [upF]
 grind [upF]
theorem VF (G:Ri E r O at' B) (wB:LR M vB B) (hg:M[ig]?=some (ng,QK v nO O.length nA n)) (hO:M[iO]?=some (nO,.arr 1 (aR O))) (hA:M[iA]?=some (nA,.arr 1 (aQ at'))) (hn:n<=1000) (hE:E.length=n) (hBl:∀(b:Nat) (l:List Nat),B[b]?=some l->l.length<=1000000) (I:UpI M r O B nU n U k h)
  {I2:Nat->HJq}{J:HJq}
  (hI:∀(U':List Int) (k':Nat) (h':Heap),UpI M r O B nU n U' k' h'->IA O U' n<IA O U n->∃m,I2 m [.ms nU 0 n,vB] h')
  (hJ:(∀x d,x∈O->(Ch r (upF U) x d↔Dm r (preB B) d x))->(∀x∈O,upF U x≠none)->J [] h) :
  gk h (nD (O.length-1)) (.ms nO 1 (O.length-1)) (.ms nU 0 n) (.ptr ng 0 0) I2 vB J:=by
 have V:=I.vs;have D:=G.dg
 have c8:O.length<=n:=by
  have:O.length<=(List.range n).length:=G.nd.length_le_of_subset (λ x hx=>List.mem_range.2 (hE ▸ G.lt x hx));simpa using this
 have e0:0<O.length:=(ar.1 G.hd).1;have a2:∀{x},x∈O->yM O x<O.length:=λ hx=>List.idxOf_lt_length_of_mem hx
 dsimp only[gk,xI,xL,xS];refine⟨λ m q h'=>h'=h/\∃i:Nat,q=[nD i]/\i<=O.length-1/\m=O.length-1-i/\∀x∈O,yM O x<=i->upF U x≠none/\(x≠r->Stb r B (upF U) x),_,⟨rfl,0,rfl,by omega,rfl,λ x hx hi=>?_⟩,?_⟩
 ·have:x=r:=D.inj x r hx D.root (by rw[D.zero];omega);subst this;exact⟨by rw[I.ph.tr.rt];simp,λ h=>absurd rfl h⟩
 rintro m f h' ⟨e1,i,hq,hi,hm,hs⟩;subst e1;simp only[ah,and_true]at hq;simp only[hq,nD];by_cases e3:i<O.length-1
 ·rw[fY (by omega),af];obtain⟨b,hb⟩:∃b,O[1+i]?=some b:=⟨O[1+i]'(by omega),aq _⟩;have H:b∈O:=ak hb;have c2:yM O b=1+i:=A7 G.nd hb;have a7:b<n:=hE ▸ G.lt b H;have a6:b≠r:=λ e=>by rw[e,D.zero]at c2;omega
  rw[V.iao (iO+1) (by simpa using hO) (by omega) (by omega),aE,V.yQ (iO+1) (by simpa using hO) (fC hb) rfl];obtain⟨l,hl⟩:∃l,B[b]?=some l:=⟨B[b]'(by rw[G.blen,hE];exact a7),aq _⟩;obtain⟨w,hw⟩:∃w,U[b]?=some w:=⟨U[b]'(by rw[I.len];exact a7),aq _⟩;refine⟨λ q b4=>b4=h'/\∃d,q=[d]/\OZ r O (upF U) l d,?_,?_⟩
  ·rintro f' b4 ⟨e2,d,b1,c0⟩;subst e2;simp only[ah,and_true]at b1;simp only[b1]
   have hk:yM O b<=yM O k+1:=by
    obtain⟨x,hx⟩:∃x,O[i]?=some x:=⟨O[i]'(by omega),aq _⟩;have Q:=ak hx;have c6:=A7 G.nd hx;have:=(I.ph.pk x Q).1 (hs x Q (by omega)).1;omega
   obtain⟨p,hp,b7,-⟩:=I.ph.some D H a6 hk;have c1:p∈l:=by simpa[preB,hl] using hp
   rcases c0 with⟨-,h0⟩|⟨m',rfl,h1,h2,h3⟩
   ·exact absurd (h0 p c1) b7
   have BS:Bst r (preB B) (upF U) b m':=⟨h2,λ d=>by grind [preB]⟩;rw[nD,V.ia 0 rfl (by omega) (by omega),aE,V.yQ 0 rfl (mD hw) rfl];by_cases he:(m':Int)=w
   ·rw[nD,Ik he,ae,bB (by omega) (by omega)];simp only[aa,true_and];refine⟨_,by omega,i+1,rfl,by omega,rfl,λ x hx c5=>?_⟩;by_cases e:yM O x<=i
    ·exact hs x hx e
    ·have:x=b:=D.inj x b hx H (by omega);subst this
     have a8:upF U x=some m':=by
      unfold upF;rw[hw, <- he];simp
     refine⟨by rw[a8];simp,λ _ y hy d=>?_⟩;rw[a8]at hy;cases hy;exact(BS.iff d).symm
   ·rw[nD,Zv he,af,V.ia 0 rfl (by omega) (by omega),aE];have b3:b<U.length:=by rw[I.len];exact a7
    refine V.wA 0 rfl (by rw[gO];exact b3) rfl Mv λ c3 V2=>?_
    simp only[List.set_cons_zero,Mu]at V2;simp only[aa,true_and];have b2:yM O m'<=n:=by have:=a2 h1;omega
    refine hI (U.set b (m':Int)) (if upF U b=none then b else k) c3 ⟨V2,by rw[List.length_set];exact I.len,?_⟩ (VR (λ x hx=>hE ▸ G.lt x hx) I.len H b2 λ y hy=>?_)
    ·rw[Qa b3];by_cases Z:upF U b=none
     ·rw[if_pos Z]
      have c7:yM O k<=i:=by
       have:¬yM O b<=yM O k:=λ hh=>absurd Z ((I.ph.pk b H).2 hh)
       omega
      refine Wc D I.ph (λ x y hx hy=>?_) H Z (by omega) BS;have Q:=(I.ph.tr.nd x y hy).1;have c4:=(I.ph.pk x Q).1 (by rw[hy];simp);exact(hs x Q (by omega)).2 hx y hy
     ·rw[if_neg Z]
      cases ho:upF U b with
      | none=>exact absurd ho Z
      | some o =>
       refine(Tc D I.ph H a6 ho BS λ e=>he ?_).1;grind [rV]
    ·refine(Tc D I.ph H a6 hy BS λ e=>he ?_).2;grind [rV]
  ·have b5:=wB.mono (L':=(nU,.arr 1 (aQ U))::M) λ x hx=>List.mem_cons_of_mem _ hx
   refine LR.get V b5 hl λ e we=>?_
   rw[we.len V];grind [aao]
 ·have:i=O.length-1:=by omega
  subst this;rw[fU (by omega),ae];simp only[aa,true_and];have a1:∀x∈O,upF U x≠none:=λ x hx=>(hs x hx (by have:=a2 hx;omega)).1
  exact hJ (λ x d hx=>Wu I.ph a1 D.src (λ y z hy hz=>(hs y (I.ph.tr.nd y z hz).1 (by have:=a2 (I.ph.tr.nd y z hz).1;omega)).2 hy z hz) hx d) a1
end
end Go.Am
namespace Go.Am
open Go Go.Proofs
theorem Uf (a:Nat) (ha:a<18446744073709551616):ibits .and .u64 (a:Int) 4294967295=((a % 4294967296:Nat):Int):=by
 rw[show ibits .and .u64 (a:Int) 4294967295=((a &&& 4294967295:Nat):Int) from ZD a 4294967295 ha (by decide)];rw[show a &&& 4294967295=a % 4294967296 from Nat.and_two_pow_sub_one_eq_mod a 32]
theorem aaY (a:Nat):Jt .u64 (a:Int) 32=((a / 4294967296:Nat):Int):=Ul a 32 (by decide)
theorem XA (a b:Nat) (ha:a<32768) (hb:b<32768):aK PP kQ [.int .u64 (a:Int),.int .u64 (b:Int)] (· = .tup [.int .u64 0,.int .u64 ((a*b:Nat):Int)]):=by
 refine aZ yy (aG _ _ _) rfl (xW _ _ _) ?_;unfold qz
 have Z:a*b<1073741824:=by
  have:=Nat.mul_lt_mul'' ha hb;omega
 have Q:ibits .and .u64 (a:Int) 4294967295=(a:Int):=by grind [Uf]
 have I:ibits .and .u64 (b:Int) 4294967295=(b:Int):=by grind [Uf]
 have s1:∀x:Nat,x<4294967296->Jt .u64 (x:Int) 32=0:=by
  grind [aaY]
 have sa:=s1 a (by omega);have sb:=s1 b (by omega)
 have hp:IntKind.u64.wrap ((a:Int)*(b:Int))=((a*b:Nat):Int):=by
  rw[show((a:Int)*(b:Int))=((a*b:Nat):Int) by simp,SU,Nat.mod_eq_of_lt (by omega)]
 have sp:=s1 (a*b) (by omega);have G:IntKind.u64.wrap 0=0:=by decide
 have V:ibits .and .u64 0 4294967295=0:=by decide
 have H:Jt .u64 0 32=0:=by decide
 have n32:(0:Int)<=32:=by omega
 simp only[↓P8,↓P7,↓K3,↓fv,Q,I,sa,sb,n32,true_and,hp,Int.zero_mul,Int.mul_zero,G,sp,Int.add_zero,V,H];refine IB (λ d hd=>?_) rfl;simp only[List.mem_cons,List.not_mem_nil,or_false]at hd;rcases hd with rfl|rfl<;>exact aI.pair
theorem acd (a b:Nat) (ha:a<32768) (hb:b<32768):aK PP na [.int .u64 (a:Int),.int .u64 (b:Int)] (· = .tup [.int .u64 0,.int .u64 ((a*b:Nat):Int)]):=by
 refine aZ BU (aG _ _ _) rfl (BH _ _ _) ?_;dsimp only[uV,xC];rw[ae];refine aW (XA a b ha hb) (by simp[↓amR]) ?_;rintro r rfl;simp only[h_ext];exact IB (by simp[↓amR]) rfl
theorem abG {P:Program}{m off len esz:Nat}{x:D}{h:Heap}{KH:HKq}:ab P (.Iy (.c (.ms m off len)) (.c x) esz) h KH=velems esz x h λ ys=>(∀y∈ys,aL y)/\∃els,h m=.arr esz els/\off+len<=els.length /\
    KH (.int .i64 (min ys.length len:Nat)) (aF h m (.arr esz (els.take off++ys.take len++els.drop (off+min ys.length len)))):=rfl
theorem TK {d:D}{els:List D}{n c:Nat}(hl:els.length=c) (hn:n<=c) (ht:els.take n=List.replicate n d) :
  (els.take n++(els.take n).take (c-n)++els.drop (n+min n (c-n))).take (n+min n (c-n))=List.replicate (n+min n (c-n)) d /\
   (els.take n++(els.take n).take (c-n)++els.drop (n+min n (c-n))).length=c:=by
 grind [List.replicate_append_replicate]
theorem Vs.Iy {h:Heap}{L:LSq}{KH:HKq}{m off len:Nat}{x:D}{els ys:List D}(V:Vs h ((m,.arr 1 els)::L)) (hx:∀{K:List D->Prop},K ys->velems 1 x h K) (h1:∀y∈ys,aL y) (hl:off+len<=els.length)
  (hK:∀h',Vs h' ((m,.arr 1 (els.take off++ys.take len++els.drop (off+min ys.length len)))::L)->KH (.int .i64 (min ys.length len:Nat)) h'):ab PP (.Iy (.c (.ms m off len)) (.c x) 1) h KH:=by
 rw[abG];refine hx ⟨h1,els,V.get 0 _ _ rfl,hl,?_⟩;have:=V.bK 0 rfl (s':=.arr 1 (els.take off++ys.take len++els.drop (off+min ys.length len))) (by simp);exact hK _ this
theorem EI {h:Heap}{m off len:Nat}{els:List D}{K:List D->Prop}(hm:h m=.arr 1 els) (hl:off+len<=els.length) (hK:K ((els.drop off).take len)):velems 1 (.ms m off len) h K:=⟨els,by rw[hm];rfl,hl,hK⟩
theorem OQ {h:Heap}{L:LSq}{KH:HKq}(V:Vs h L){n:Nat}(hn1:1<=n) (hn:n<=30000){k:Int}{d:D}(hd:d=.sl [.int .i64 k]\/∃(m i:Nat),d=.ms m 0 1/\L[i]?=some (m,Slot.arr 1 [.int .i64 k]))
  (hK:∀m h',Vs h' ((m,.arr 1 (aQ (List.replicate n k)))::L)->KH (.ms m 0 n) h'):ag PP cX [d,nD n] h KH:=by
 refine aY oT (aG _ _ _) rfl (oQ _ _ _) ?_;dsimp only[jt,xC,xP]
 have ln:∀{K:D->Prop},aM d h K=K (.int .i64 ((1:Nat):Int)):=by
  intro K;rcases hd with rfl|⟨m,i,rfl,hi⟩
  ·rfl
  ·rw[bH,V.get i _ _ hi];apply propext;exact⟨λ hh=>hh.2,λ H=>⟨rfl,H⟩⟩
 refine⟨λ _ h'=>h'=h,?_,?_⟩
 ·rintro _ h5 rfl;rw[ln,jb,nD,jb];have w1:IntKind.u64.wrap ((1:Nat):Int)=((1:Nat):Int):=by rw[SU]
  have wc:IntKind.u64.wrap (n:Int)=(n:Int):=by rw[SU,Nat.mod_eq_of_lt (by omega)]
  rw[w1,wc];refine aW (acd 1 n (by omega) (by omega)) (by simp[↓amR]) ?_;rintro r rfl;simp only[h_ext,List.getElem?_cons_zero,List.getElem?_cons_succ];refine⟨λ _ h'=>h'=h5,?_,?_⟩
  ·rintro _ h6 rfl;rw[jb,Nat.one_mul,wrap64 (by omega) (by omega)];refine V.SQ (by omega) (by omega) λ m h7 V1=>?_
   refine V1.Iy (ys:=[.int .i64 k]) (λ {K} H=>?_) (λ y hy=>by simp at hy;subst hy;exact aI.one) (by simp) λ h8 V2=>?_
   ·rcases hd with rfl|⟨m',i,rfl,hi⟩
    ·exact⟨λ e he=>by simp at he;subst he;rfl,H⟩
    ·exact EI (els:=[.int .i64 k]) (V1.get (i+1) _ _ (by simpa using hi)) (by simp) H
   refine⟨λ _ h'=>Vs h' ((m,.arr 1 (aQ (List.replicate n k)))::L),λ _ h9 G=>hK m h9 G,?_⟩;unfold gQ;refine⟨λ q l h'=>∃(j:Nat) (els:List D),l=[.int .i64 (j:Int)]/\q=n-j/\1<=j/\j<=n/\Vs h' ((m,.arr 1 els)::L)/\els.length=n/\els.take j=List.replicate j (.int .i64 k),_,⟨1,_,?_,rfl,by omega,hn1,V2,?_,?_⟩,?_⟩
   ·grind
   ·simp;omega
   ·grind
   rintro q f h9 ⟨j,els,hf,hq,a2,Q,G,hl,ht⟩;simp only[ah,and_true]at hf;simp only[hf];rw[bH,G.get 0 _ _ rfl];refine⟨rfl,?_⟩;by_cases a1:j<n
   ·rw[fY (by omega),af];simp only[JH,yT];simp only[vopt,vint,Arg.get];have row:∃I,(h9 m).row=some (1,I):=⟨els,by rw[G.get 0 _ _ rfl];rfl⟩;refine⟨by omega,by omega,by omega,by omega,row,by omega,by omega,by omega,by omega,row,?_⟩;have e1:0+(j:Int).toNat=j:=by omega
    have e2:((n:Int)-(j:Int)).toNat=n-j:=by omega
    have e4:((j:Int)-((0:Nat):Int)).toNat=j:=by omega
    simp only[e1,e2,e4];refine G.Iy (ys:=els.take j) (λ {K} H=>EI (G.get 0 _ _ rfl) (by simp;omega) (by simpa using H)) (λ y hy=>by rw[ht]at hy;obtain⟨-,rfl⟩:=List.mem_replicate.1 hy;exact aI.one) (by omega) λ a6 V4=>?_
    have Z:(els.take j).length=j:=by simp;omega
    simp only[Z]at V4 ⊢;rw[bB (by omega) (by omega)];simp only[aa,true_and];have rs:=TK hl Q ht;exact⟨_,by omega,j+min j (n-j),_,by congr 2,rfl,by omega,by omega,V4,rs.2,rs.1⟩
   ·rw[fU (by omega),ae];simp only[aa,true_and];have:j=n:=by omega
    subst this;rw[List.take_of_length_le (by omega)]at ht;rw[ht]at G;simpa[aQ] using G
  grind [WZ,my,cq,ae,aa]
 grind [nD,fU,ae,aa]
end Go.Am
namespace Go.Am
open Go Go.Proofs
theorem Vs.sub {h:Heap}{L L':LSq}(s:L'.Sublist L) (V:Vs h L):Vs h L':=by
 grind [Vs.iff]
structure RR (Bs:List (List Nat)) (els:List D) (W:LSq) (nm:Nat->Nat):Prop where
 len:els.length=Bs.length
 el:∀(b:Nat) (l:List Nat),Bs[b]?=some l->(l=[]/\els[b]?=some .nil)\/(l≠[]/\els[b]?=some (.ms (nm b) 0 l.length)/\(nm b,.arr 1 (aR l))∈W)
 inj:∀(b b':Nat) (l l':List Nat),Bs[b]?=some l->Bs[b']?=some l'->l≠[]->l'≠[]->nm b=nm b'->b=b'
def iL (h:Heap) (L:LSq) (v:D) (Bs:List (List Nat)):Prop:=∃(nB:Nat) (els:List D) (W:LSq) (nm:Nat->Nat),v=.ms nB 0 Bs.length/\Vs h ((nB,.arr 1 els)::(W++L))/\RR Bs els W nm
section
variable {h:Heap}{L:LSq}{v:D}{Bs:List (List Nat)}{KH:HKq}{K:D->Prop}
theorem iL.vs (q:iL h L v Bs):Vs h L:=by
 obtain⟨G,els,W,nm,-,V,-⟩:=q;exact V.pop.JV
theorem RR.one {els:List D}{W:LSq}{nm:Nat->Nat}(R:RR Bs els W nm):∀x∈els,x.one=true:=by
 intro x hx;obtain⟨b,hb⟩:=ba hx;have G:=(ar.1 hb).1;obtain⟨l,hl⟩:∃l,Bs[b]?=some l:=⟨Bs[b]'(by rw[<- R.len];exact G),aq _⟩;rcases R.el b l hl with⟨-,h⟩|⟨-,h,-⟩<;>(rw[hb]at h;cases h;rfl)
theorem iL.lr (q:iL h L v Bs):∃X,Vs h (X++L)/\LR X v Bs:=by
 obtain⟨G,els,W,nm,rfl,V,R⟩:=q;refine⟨(G,.arr 1 els)::W,V,Or.inr ⟨G,els,rfl,by simp,R.len,λ b e l he hl=>?_⟩⟩;refine⟨R.one e (ak he),?_⟩;rcases R.el b l hl with⟨h1,h2⟩|⟨-,h2,h3⟩
 ·rw[he]at h2;cases h2;exact Or.inl ⟨rfl,h1⟩
 ·rw[he]at h2;cases h2;exact Or.inr (Or.inr ⟨_,rfl,by simp[h3]⟩)
theorem iL.mk0 {n nB:Nat}(V:Vs h ((nB,.arr 1 (List.replicate n .nil))::L)):iL h L (.ms nB 0 n) (List.replicate n []):=by
 refine⟨nB,_,[],id,by simp,V,by simp,λ b l hl=>Or.inl ?_,λ b b' l l' hb _ h=>?_⟩
 ·grind
 grind
theorem iL.len (q:iL h L v Bs):aM v h K=K (.int .i64 (Bs.length:Int)):=by
 obtain⟨I,els,W,nm,rfl,V,R⟩:=q;rw[bH,V.get 0 _ _ rfl];apply propext;exact⟨λ H=>H.2,λ G=>⟨rfl,G⟩⟩
theorem iL.app (q:iL h L v Bs){b x:Nat}{l:List Nat}(hb:Bs[b]?=some l) (hl:l.length<=10000000){z z':D}(hK:∀h',iL h' L v (Bs.set b (l++[x]))->KH .undef h') :
  ab PP (.iadd (.c v) (.c (nD b)) 1) h λ a h1=>ab PP (.ld (.c a) 1 false) h1 λ e h2=>ab PP (.bldS true 1 1 z [(0,.c (nD x))]) h2 λ y h3=>ab PP (.app (.c e) (.c y) 1 8 z') h3 λ e' h4=>ab PP (.iadd (.c v) (.c (nD b)) 1) h4 λ a' h5=>ab PP (.st (.c a') (.c e') 1) h5 KH:=by
 obtain⟨nB,els,W,nm,rfl,V,R⟩:=q;have a2:=(ar.1 hb).1;obtain⟨e,he⟩:∃e,els[b]?=some e:=⟨els[b]'(by rw[R.len];exact a2),aq _⟩
 have hx:∃Z,QD h ((nB,.arr 1 els)::(Z++L)) e (aR l)/\(∀x∈Z,x∈W)/\∀(b':Nat) (l':List Nat),b'≠b->Bs[b']?=some l'->l'≠[]->(nm b',.arr 1 (aR l'))∈Z:=by
  rcases R.el b l hb with⟨h1,h2⟩|⟨h0,h2,h3⟩
  ·rw[he]at h2;cases h2;subst h1;refine⟨W,Or.inl ⟨rfl,rfl,V⟩,λ _ h=>h,λ b' l' hne G H=>?_⟩;rcases R.el b' l' G with⟨I,-⟩|⟨-,-,g3⟩
   ·exact absurd I H
   ·exact g3
  ·rw[he]at h2;cases h2;obtain⟨S,T,rfl⟩:=List.append_of_mem h3
   refine⟨S++T,Or.inr ⟨nm b,by rw[bk],V.perm ?_⟩,λ x hx=>by
    grind,λ b' l' hne G H=>?_⟩
   ·grind [List.perm_middle]
   ·rcases R.el b' l' G with⟨I,-⟩|⟨-,-,g3⟩
    ·exact absurd I H
    ·have b3:nm b'≠nm b:=λ e=>hne (R.inj b' b l' l G hb H h0 e)
     grind
 obtain⟨Z,Q,hW,a8⟩:=hx;have hone:=R.one;have V0:=Q.vs;rw[nD,V.ia 0 rfl (by omega) (by omega),aE,V.yQ 0 rfl he (hone e (ak he))];refine Q.push aI rfl (by rw[bk];omega) (by rw[bk];omega) λ v' h' Q'=>?_
 rcases Q' with⟨-,h0,-⟩|⟨m,rfl,V'⟩
 ·simp at h0
 have a7:b<els.length:=by rw[R.len];exact a2
 rw[V'.ia 1 rfl (by omega) (by omega),aE];refine V'.wA 1 rfl a7 rfl hone λ h2 V2=>hK h2 ?_
 simp only[List.set_cons_succ,List.set_cons_zero]at V2;have e2:aR l++[nD x]=aR (l++[x]):=by simp[aR]
 refine⟨nB,els.set b (.ms m 0 (aR l++[nD x]).length),(m,.arr 1 (aR (l++[x])))::Z,λ y=>if y=b then m else nm y,by simp,?_,?_⟩
 ·rw[e2]at V2;exact V2.swap.perm (by simp[e2])
 ·have b4:∀s,(m,s)∉Z:=by
   grind [Vs.iff]
  refine⟨by simp[R.len],λ b' l' G=>?_,λ b1 b2 l1 l2 h1 h2 n1 n2 a1=>?_⟩
  ·rw[List.getElem?_set]at G ⊢;by_cases a6:b=b'
   ·grind [bk]
   ·rw[if_neg a6]at G ⊢;rw[if_neg (λ e=>a6 e.symm)];rcases R.el b' l' G with⟨I,g2⟩|⟨I,g2,g3⟩
    ·exact Or.inl ⟨I,g2⟩
    grind
  ·have key:∀(b':Nat) (l':List Nat),b'≠b->(Bs.set b (l++[x]))[b']?=some l'->l'≠[]->nm b'≠m:=λ b' l' hne G hn e=>by
    grind
   by_cases e1:b1=b
   ·grind
   ·by_cases e2:b2=b
    ·grind
    ·simp only[if_neg e1,if_neg e2]at a1;rw[List.getElem?_set,if_neg (λ e=>e1 e.symm)]at h1;rw[List.getElem?_set,if_neg (λ e=>e2 e.symm)]at h2;exact R.inj b1 b2 l1 l2 h1 h2 n1 n2 a1
end
end Go.Am
namespace Go.Am
open Go Go.Proofs
def gL (E:List (List Nat)) (b:Nat):List Nat:=(E[b]?).getD []
def lM (p:Nat) (Bs:List (List Nat)) (to:Nat):List (List Nat):=Bs.set to (gL Bs to++[p])
def BA (E:List (List Nat)) (Bs:List (List Nat)) (p:Nat):List (List Nat):=(gL E p).foldl (lM p) Bs
def EH (E:List (List Nat)) (O:List Nat) (n:Nat):List (List Nat):=O.foldl (BA E) (List.replicate n [])
theorem Dl {p to:Nat}{Bs:List (List Nat)}:(lM p Bs to).length=Bs.length:=by simp[lM]
theorem sD {p:Nat}:∀{l:List Nat}{Bs:List (List Nat)},(l.foldl (lM p) Bs).length=Bs.length
 | [],_=>rfl
 | a::l,Bs=>by rw[List.foldl_cons,sD,Dl]
theorem Dc {E:List (List Nat)}{p:Nat}{Bs:List (List Nat)}:(BA E Bs p).length=Bs.length:=sD
theorem JS {E:List (List Nat)}:∀{O:List Nat}{Bs:List (List Nat)},(O.foldl (BA E) Bs).length=Bs.length
 | [],_=>rfl
 | a::l,Bs=>by rw[List.foldl_cons,JS,Dc]
theorem uh {E:List (List Nat)}{O:List Nat}{n:Nat}:(EH E O n).length=n:=by rw[EH,JS,List.length_replicate]
theorem ZI {Bs:List (List Nat)}{to b:Nat}{l:List Nat}(h:to<Bs.length):gL (Bs.set to l) b=if b=to then l else gL Bs b:=by
 grind [gL]
theorem Ir {p to b:Nat}{Bs:List (List Nat)}(h:to<Bs.length):gL (lM p Bs to) b=if b=to then gL Bs to++[p] else gL Bs b:=ZI h
theorem LN {p q b:Nat}:∀{l:List Nat}{Bs:List (List Nat)},(∀x∈l,x<Bs.length)->(q∈gL (l.foldl (lM p) Bs) b↔q∈gL Bs b\/(q=p/\b∈l))
 | [],_,_=>by simp
 | a::l,Bs,h=>by
  rw[List.foldl_cons,LN (λ x hx=>by grind [Dl]),Ir (h a (by simp))];grind
theorem Dj {p b:Nat}:∀{l:List Nat}{Bs:List (List Nat)},(∀x∈l,x<Bs.length)->(gL (l.foldl (lM p) Bs) b).length<=(gL Bs b).length+l.length
 | [],_,_=>by simp
 | a::l,Bs,h=>by
  rw[List.foldl_cons];refine Nat.le_trans (Dj λ x hx=>by grind [Dl]) ?_;grind [Ir]
section
variable {E:List (List Nat)}{n:Nat}(hE:∀l∈E,(∀x∈l,x<n)/\l.length<=1000)
include hE
theorem qk {p x:Nat}(h:x∈gL E p):x<n:=by
 grind [gL]
theorem OB {q b:Nat}:∀{O:List Nat}{Bs:List (List Nat)},Bs.length=n->(q∈gL (O.foldl (BA E) Bs) b↔q∈gL Bs b\/(q∈O/\b∈gL E q))
 | [],_,_=>by simp
 | a::O,Bs,h=>by
  rw[List.foldl_cons,OB (by rw[Dc];exact h),BA,LN λ x hx=>by rw[h];exact qk hE hx];grind
theorem MZ {b:Nat}:∀{O:List Nat}{Bs:List (List Nat)},Bs.length=n->(gL (O.foldl (BA E) Bs) b).length<=(gL Bs b).length+O.length*1000
 | [],_,_=>by simp
 | a::O,Bs,h=>by
  rw[List.foldl_cons];have h1:=MZ (b:=b) (O:=O) (Bs:=BA E Bs a) (by rw[Dc];exact h);grind [Dj,gL,BA]
theorem Us {b:Nat}:gL (List.replicate n ([]:List Nat)) b=[]:=by
 grind [gL]
theorem lg {O:List Nat}{q b:Nat}:q∈gL (EH E O n) b↔q∈O/\b∈gL E q:=by
 rw[EH,OB hE (by simp),Us hE];simp
theorem OP {h:Heap}{L:LSq}{KH:HKq}{ng nO nA:Nat}{v:D}{O:List Nat}(V:Vs h L){ig iO:Nat}(hg:L[ig]?=some (ng,QK v nO O.length nA n)) (hO:L[iO]?=some (nO,.arr 1 (aR O))) (wE:LR L v E) (hn:E.length=n) (hnn:n<=1000)
  (hOl:O.length<=1000) (hOlt:∀x∈O,x<n) (hK:∀v' h',iL h' L v' (EH E O n)->KH v' h'):ag PP gh [.ptr ng 0 0] h KH:=by
 refine aY wz (aG _ _ _) rfl (wh _ _) ?_;dsimp only[pU,xF,xL];rw[V.fa ig hg,V.fa ig hg,V.bI ig (j:=0) hg rfl,wE.len V,hn];refine V.SQ (by omega) (by omega) λ Z h1 V1=>?_
 have R0:=iL.mk0 V1;refine⟨λ _ h'=>iL h' L (.ms Z 0 n) (EH E O n),λ f h' R=>hK _ h' R,?_⟩;have V0:=R0.vs;rw[V0.fa ig hg,V0.fa ig hg,V0.bI ig (j:=1) hg rfl,bH,V0.get iO _ _ hO];refine⟨rfl,?_⟩;dsimp only[lQ,xF,xI,xL];refine⟨λ m q h'=>∃i:Nat,q=[nD i]/\i<=O.length/\m=O.length-i/\iL h' L (.ms Z 0 n) ((O.take i).foldl (BA E) (List.replicate n [])),_,⟨0,rfl,by omega,rfl,R0⟩,?_⟩;rintro m f h2 ⟨i,hq,hi,hm,R⟩;simp only[ah,and_true]at hq;simp only[hq,nD];by_cases a2:i<O.length
 ·rw[fY (by omega),af];obtain⟨p,hp⟩:∃p,O[i]?=some p:=⟨O[i],aq a2⟩;have a1:=hOlt p (ak hp);obtain⟨l,hl⟩:∃l,E[p]?=some l:=⟨E[p]'(by rw[hn];exact a1),aq _⟩;have b3:gL E p=l:=by unfold gL;rw[hl];rfl
  have b2:l.length<=1000:=(hE l (ak hl)).2
  let I:=(O.take i).foldl (BA E) (List.replicate n [])
  have a7:I.length=n:=by grind [JS]
  refine⟨λ _ h'=>iL h' L (.ms Z 0 n) ((O.take (i+1)).foldl (BA E) (List.replicate n [])),λ f' h' R'=>?_,?_⟩
  ·rw[bB (by omega) (by omega)];simp only[aa,true_and];exact⟨_,by omega,i+1,rfl,by omega,rfl,R'⟩
  have H:=R.vs;rw[H.ia iO hO (by omega) (by omega),aE,H.yQ iO hO (fC hp) rfl,H.fa ig hg,H.fa ig hg,H.bI ig (j:=0) hg rfl];refine wE.get H hl λ e we=>?_
  rw[we.len H];dsimp only[lT,xI,xL,xS];refine⟨λ m' q' h'=>∃j:Nat,q'=[nD j]/\j<=l.length/\m'=l.length-j/\iL h' L (.ms Z 0 n) ((l.take j).foldl (lM p) I),_,⟨0,rfl,by omega,rfl,R⟩,?_⟩;rintro m' f' h3 ⟨j,Q,hj,b1,R3⟩;simp only[ah,and_true]at Q;simp only[Q,nD];have V3:=R3.vs;by_cases a6:j<l.length
  ·rw[fY (by omega),af];obtain⟨to,G⟩:∃to,l[j]?=some to:=⟨l[j],aq a6⟩;have a8:to<n:=(hE l (ak hl)).1 to (ak G);rw[we.get V3 G];have hlen:((l.take j).foldl (lM p) I).length=n:=by rw[sD,a7]
   have hb:((l.take j).foldl (lM p) I)[to]?=some (gL ((l.take j).foldl (lM p) I) to):=by
    grind [gL]
   refine R3.app (x:=p) hb ?_ λ h4 R4=>?_
   ·have h1:=Dj (p:=p) (b:=to) (l:=l.take j) (Bs:=I) λ x hx=>by grind
    have h2:=MZ hE (b:=to) (O:=O.take i) (Bs:=List.replicate n []) (by simp);rw[Us hE]at h2;grind
   ·rw[bB (by omega) (by omega)];simp only[aa,true_and];refine⟨_,by omega,j+1,rfl,by omega,rfl,?_⟩;rw[List.take_add_one,G];simp only[Option.toList_some,List.foldl_append,List.foldl_cons,List.foldl_nil];exact R4
  grind [fU,ae,aa,List.take_add_one,BA]
 ·have:i=O.length:=by omega
  subst this;rw[fU (by omega),ae];simp only[aa,true_and];rw[List.take_length]at R;exact R
end
end Go.Am
namespace Go.Am
open Go Go.Proofs
structure acx (r:Nat) (O:List Nat) (B:List (List Nat)) (n:Nat) (U:List Int):Prop where
 len:U.length=n
 tr:Tr r (yM O) (· ∈ O) (upF U)
 al:∀x∈O,upF U x≠none
 ch:∀x d,x∈O->(Ch r (upF U) x d↔Dm r (preB B) d x)
theorem Wd {n:Nat}:upF (List.replicate n (-1))=λ _=>none:=by
 grind [upF]
theorem acD {h:Heap}{a b c:D}{f:Nat->D}{m:Nat}{I2:Nat->HJq}{J:HJq}:pS h a b f c m I2 J=gk h a b (f 3) c (λ k q h'=>k<m/\I2 k q h') (f 4) J:=rfl
theorem aaW {h:Heap}{L:LSq}{KH:HKq}(V:Vs h L) (i:Nat){m l:Nat}{els:List D}(hi:L[i]?=some (m,.arr 1 els)) (hl:1<=l):ab PP (.mZ (.c (.ms m 0 l)) (some (.c (.int .i64 1))) none none 1) h KH=KH (.ms m 1 (l-1)) h:=by
 rw[yT];simp only[vopt,vint,Arg.get];apply propext;constructor
 ·grind
 ·intro G;refine⟨by omega,by omega,by omega,by omega,⟨els,by rw[V.get i _ _ hi];rfl⟩,?_⟩;grind
section
variable {E:List (List Nat)}{r n:Nat}{O:List Nat}{at':List Int}
theorem acu {h:Heap}{L:LSq}{KH:HKq}{ng nO nA:Nat}{v:D}(hE:∀l∈E,(∀x∈l,x<n)/\l.length<=1000) (V:Vs h L){ig iO iA:Nat}(hg:L[ig]?=some (ng,QK v nO O.length nA n)) (hO:L[iO]?=some (nO,.arr 1 (aR O))) (hA:L[iA]?=some (nA,.arr 1 (aQ at')))
  (wE:LR L v E) (hn:E.length=n) (hnn:n<=1000) (G:Ri E r O at' (EH E O n)) (hK:∀nU U h',Vs h' ((nU,.arr 1 (aQ U))::L)->acx r O (EH E O n) n U->KH (.ms nU 0 n) h'):ag PP nc [.ptr ng 0 0] h KH:=by
 have c0:0<O.length:=(ar.1 G.hd).1;have a1:∀x∈O,x<n:=λ x hx=>hn ▸ G.lt x hx
 have b7:O.length<=n:=by
  have:O.length<=(List.range n).length:=G.nd.length_le_of_subset (λ x hx=>List.mem_range.2 (a1 x hx));simpa using this
 have hr:r<n:=a1 r (ak G.hd)
 have b1:∀(b:Nat) (l:List Nat),(EH E O n)[b]?=some l->l.length<=1000000:=λ b l hb=>by
  have h2:=MZ hE (b:=b) (O:=O) (Bs:=List.replicate n []) (by simp);grind [gL,EH]
 refine aY BX (aG _ _ _) rfl (BJ _ _) ?_;dsimp only[uX,xF,xL,xS,yF,yI,yL];refine⟨λ m q h'=>∃(nU:Nat) (vB:D) (X:LSq) (U:List Int) (k:Nat),q=[.ms nU 0 n,vB]/\UpI (X++L) r O (EH E O n) nU n U k h'/\m=IA O U n/\LR (X++L) vB (EH E O n),?_,?_⟩
 ·refine Mz rfl (aI (k:=.i64) (n:=-1)).one rfl λ nS t7=>?_
  have V7:=V.push (s:=.arr 1 [.int .i64 (-1)]) t7.free (by simp);rw[V7.fa (ig+1) hg,V7.fa (ig+1) hg,V7.bI (ig+1) (j:=0) hg rfl,(wE.mono λ x hx=>List.mem_cons_of_mem _ hx).len V7,hn];refine OQ V7 (k:=-1) (by omega) (by omega) (Or.inr ⟨nS,0,rfl,rfl⟩) λ nU c1 b4=>?_
  refine OP hE b4 (ig:=ig+2) (iO:=iO+2) (nO:=nO) (by simpa using hg) (by simpa using hO) (wE.mono λ x hx=>List.mem_cons_of_mem _ (List.mem_cons_of_mem _ hx)) hn hnn (by omega) a1 λ vB b3 b5=>?_
  obtain⟨X0,Q,wB⟩:=b5.lr
  let X:=X0++[(nS,Slot.arr 1 [.int .i64 (-1)])]
  have Q:Vs b3 ((nU,.arr 1 (aQ (List.replicate n (-1))))::(X++L)):=by
   refine Q.perm ?_;grind [List.perm_middle]
  have Z:∀{U:List Int}{i:Nat}{x:Nat×Slot},L[i]?=some x->((nU,Slot.arr 1 (aQ U))::(X++L))[X.length+i+1]?=some x:=λ hi=>by grind
  simp only[Q.lH _ (Z hg),Q.gw _ (j:=1) (Z hg) rfl,Q.Bw _ (Z hO) (show(0:Int)<=0 by omega) (show(0:Int)<(O.length:Int) by omega),Int.toNat_zero,Q.Fy _ (Z hO) (fC G.hd) rfl];simp only[nD];rw[Q.Bw 0 rfl (by omega) (by omega),aE];refine Q.wA 0 rfl (by simp[aQ,hr]) rfl Mv λ b2 H=>?_
  simp only[List.set_cons_zero,nD,Mu]at H;refine⟨λ _ h'=>KH (.ms nU 0 n) h',λ _ h' hk=>hk,?_⟩;rw[H.fa _ (Z hg),H.fa _ (Z hg),H.bI _ (j:=1) (Z hg) rfl,aaW H _ (Z hO) (by omega),bH,H.get _ _ _ (Z hO)];refine⟨rfl,?_⟩;have hU:upF ((List.replicate n (-1)).set r (r:Int))=iT (λ _=>none) r r:=by grind [Qa,Wd]
  have a8:LR (X++L) vB (EH E O n):=wB.mono λ x hx=>List.mem_append_left _ (List.mem_append_left _ hx)
  have I:UpI (X++L) r O (EH E O n) nU n ((List.replicate n (-1)).set r (r:Int)) r b2:=⟨H,by simp,by rw[hU];exact TS G.dg⟩;have a2:∀{i:Nat}{x:Nat×Slot},L[i]?=some x->(X++L)[X.length+i]?=some x:=λ hi=>by grind
  refine VF G a8 (a2 hg) (a2 hO) (a2 hA) hnn hn b1 I (λ U' k' h' I' _=>⟨IA O U' n,nU,vB,X,U',k',rfl,I',rfl,a8⟩) λ a6 a7=>hK nU _ b2 (H.sub ?_) ⟨I.len,I.ph.tr,a7,λ x d hx=>a6 x d hx⟩
  grind
 ·rintro m f h5 ⟨nU,vB,X,U,k,hq,I,hm,wB⟩;simp only[ah,and_true]at hq;obtain⟨q1,q2⟩:=hq;refine⟨λ _ h'=>KH (.ms nU 0 n) h',λ _ h' hk=>by rw[q1];exact hk,?_⟩;have Z:∀{i:Nat}{x:Nat×Slot},L[i]?=some x->(X++L)[X.length+i]?=some x:=λ hi=>by grind
  have V5:=I.vs;have iy:∀{i:Nat}{x:Nat×Slot},L[i]?=some x->((nU,Slot.arr 1 (aQ U))::(X++L))[X.length+i+1]?=some x:=λ hi=>by grind
  rw[V5.fa _ (iy hg),V5.fa _ (iy hg),V5.bI _ (j:=1) (iy hg) rfl,aaW V5 _ (iy hO) (by omega),bH,V5.get _ _ _ (iy hO)];refine⟨rfl,?_⟩;rw[acD,q1,q2];refine VF G wB (Z hg) (Z hO) (Z hA) hnn hn b1 I (λ U' k' h' I' hw=>⟨IA O U' n,by omega,nU,vB,X,U',k',rfl,I',rfl,wB⟩) λ a6 a7=>hK nU U h5 (V5.sub ?_) ⟨I.len,I.ph.tr,a7,λ x d hx=>a6 x d hx⟩
  grind
end
end Go.Am
namespace Go.Am
open Go Go.Proofs
inductive lN (E:List (List Nat)):List Nat->List Bool×List Nat->List Bool×List Nat->Prop
 | nil (p:List Bool×List Nat):lN E [] p p
 | skip {to:Nat}{l:List Nat}{p q:List Bool×List Nat}(hs:hasB p.1 to=true) (k:lN E l p q):lN E (to::l) p q
 | go {to:Nat}{l:List Nat}{p m q:List Bool×List Nat}(hs:hasB p.1 to=false) (k:lN E (gL E to) (p.1.set to true,p.2) m) (k':lN E l (m.1,to::m.2) q):lN E (to::l) p q
def YO (E:List (List Nat)) (p:List Bool×List Nat) (b:Nat) (q:List Bool×List Nat):Prop:=∃m,lN E (gL E b) (p.1.set b true,p.2) m/\q=(m.1,b::m.2)
section
variable {E:List (List Nat)}{l l':List Nat}{p q m:List Bool×List Nat}
theorem lN.det (h:lN E l p q):∀{q'},lN E l p q'->q'=q:=by
 induction h with
 | nil p=>intro q' h';cases h';rfl
 | skip hs k I =>
  intro q' h'
  cases h' with
  | skip _ H=>exact I H
  | go G _ _=>rw[hs]at G;cases G
 | go hs k k' I V =>
  intro q' h'
  cases h' with
  | skip G _=>rw[hs]at G;cases G
  | go _ H Q =>
   grind
theorem YO.det {b:Nat}{q':List Bool×List Nat}(h:YO E p b q) (h':YO E p b q'):q'=q:=by
 obtain⟨m,h1,rfl⟩:=h;obtain⟨G,h2,rfl⟩:=h';rw[h1.det h2]
theorem lN.app (h:lN E l p m) (k:lN E l' m q):lN E (l++l') p q:=by
 induction h with
 | nil p=>exact k
 | skip hs _ G=>exact .skip hs (G k)
 | go hs H _ _ G=>exact .go hs H (G k)
theorem lN.K4 {to:Nat}(h:lN E l p q) (hs:hasB q.1 to=true):lN E (l++[to]) p q:=h.app (.skip hs (.nil _))
theorem lN.Qk {to:Nat}{q':List Bool×List Nat}(h:lN E l p q) (hs:hasB q.1 to=false) (k:YO E q to q'):lN E (l++[to]) p q':=by
 obtain⟨m,h1,rfl⟩:=k;exact h.app (.go hs h1 (.nil _))
structure adM (E:List (List Nat)) (l:List Nat) (n:Nat) (S S':List Bool) (N:List Nat):Prop where
 len:S'.length=n
 nd:N.Nodup
 iff:∀x,hasB S' x=true↔hasB S x=true\/x∈N
 new:∀x∈N,hasB S x=false/\x<n
 cl:∀p b,p∈N->b∈gL E p->hasB S' b=true
 top:∀b∈l,hasB S' b=true
 par:∀(i b:Nat),N[i]?=some b->b∈l\/∃j p,j<i/\N[j]?=some p/\b∈gL E p
theorem lN.spec {n:Nat}(hE:∀p b,b∈gL E p->b<n) (h:lN E l p q) (hl:∀x∈l,x<n) (hS:p.1.length=n):∃N,q.2=N++p.2/\adM E l n p.1 q.1 N:=by
 induction h with
 | nil p=>exact⟨[],rfl,hS,by simp,by simp,by simp,by simp,by simp,by simp⟩
 | @skip to l p q hs k ih =>
  obtain⟨N,e,F⟩:=ih (λ x hx=>hl x (by simp[hx])) hS;refine⟨N,e,F.len,F.nd,F.iff,F.new,F.cl,λ b hb=>?_,λ i b hb=>?_⟩
  ·rcases List.mem_cons.1 hb with rfl|hb
   ·exact(F.iff b).2 (Or.inl hs)
   ·exact F.top b hb
  ·rcases F.par i b hb with h|h
   ·exact Or.inl (by simp[h])
   ·exact Or.inr h
 | @go to l p m q hs k k' ih Z =>
  have a1:to<n:=hl to (by simp);obtain⟨N1,e1,H⟩:=ih (λ x hx=>hE to x hx) (by grind);obtain⟨V,e2,I⟩:=Z (λ x hx=>hl x (by simp[hx])) H.len;have G:∀x,hasB (p.1.set to true) x=true↔x=to\/hasB p.1 x=true:=λ x=>by grind [bJ]
  have hf:∀x,hasB (p.1.set to true) x=false->hasB p.1 x=false/\x≠to:=λ x hx=>by
   grind
  refine⟨V++to::N1,by rw[e2,e1];simp,I.len,?_,λ x=>?_,λ x hx=>?_,λ Q b hp hb=>?_,λ b hb=>?_,λ i b hb=>?_⟩
  ·refine List.nodup_append.2 ⟨I.nd,List.nodup_cons.2 ⟨λ h=>(hf _ (H.new _ h).1).2 rfl,H.nd⟩,λ a ha b hb=>?_⟩;rintro rfl;have h2:=(I.new a ha).1;simp only at h2
   have:hasB m.1 a=true:=by
    rw[H.iff,G];grind
   rw[h2]at this;cases this
  ·rw[I.iff,H.iff,G];grind
  ·rcases List.mem_append.1 hx with hx|hx
   ·have h2:=I.new x hx;refine⟨?_,h2.2⟩
    cases hp:hasB p.1 x with
    | false=>rfl
    | true =>
     have:hasB m.1 x=true:=by rw[H.iff,G];exact Or.inl (Or.inr hp)
     grind
   ·rcases List.mem_cons.1 hx with rfl|hx
    ·exact⟨hs,a1⟩
    ·exact⟨(hf x (H.new x hx).1).1,(H.new x hx).2⟩
  ·rcases List.mem_append.1 hp with hp|hp
   ·exact I.cl Q b hp hb
   ·rcases List.mem_cons.1 hp with rfl|hp
    ·exact(I.iff b).2 (Or.inl (H.top b hb))
    ·exact(I.iff b).2 (Or.inl (H.cl Q b hp hb))
  ·rcases List.mem_cons.1 hb with rfl|hb
   ·refine(I.iff b).2 (Or.inl ((H.iff b).2 (Or.inl ((G b).2 (Or.inl rfl)))))
   ·exact I.top b hb
  ·rw[List.getElem?_append]at hb;split at hb
   ·rename_i a6;rcases I.par i b hb with h|⟨j,Q,h1,h2,h3⟩
    ·exact Or.inl (by simp[h])
    ·exact Or.inr ⟨j,Q,h1,by grind,h3⟩
   ·rename_i a7;have a2:(V++to::N1)[V.length]?=some to:=by grind
    obtain⟨k,rfl⟩:∃k,i=V.length+k:=⟨i-V.length,by omega⟩;rw[Nat.add_sub_cancel_left]at hb
    cases k with
    | zero=>grind
    | succ k =>
     rw[List.getElem?_cons_succ]at hb;rcases H.par k b hb with h|⟨j,Q,h1,h2,h3⟩
     ·grind
     ·refine Or.inr ⟨V.length+(j+1),Q,by omega,?_,h3⟩;grind
def zt (E:List (List Nat)) (n r:Nat) (O:List Nat):Prop:=∃S,YO E (List.replicate n false,[]) r (S,O)
theorem zt.det {n r:Nat}{O O':List Nat}(h:zt E n r O) (h':zt E n r O'):O=O':=by
 obtain⟨S,h⟩:=h;obtain⟨S',h'⟩:=h';exact(congrArg Prod.snd (h'.det h))
theorem yS {n k:Nat}:hasB (List.replicate n false) k=false:=by
 grind [hasB]
theorem zt.gr {n r:Nat}{O:List Nat}{at':List Int}(hE:∀l∈E,(∀x∈l,x<n)/\l.length<=1000) (hn:E.length=n) (hr:r<n) (h:zt E n r O)
  (xy:at'.length=n) (aat:∀(i x:Nat),O[i]?=some x->at'[x]?=some (i:Int)) (ano:∀x,x<n->x∉O->at'[x]?=some (-1)):Ri E r O at' (EH E O n):=by
 obtain⟨S,m,h1,e⟩:=h;cases e;obtain⟨N,e,F⟩:=h1.spec (n:=n) (λ p b=>qk hE) (λ x=>qk hE) (by simp);simp only[List.append_nil]at e;rw[e]at aat ano ⊢;have H:∀x,hasB ((List.replicate n false).set r true) x=true↔x=r:=λ x=>by grind [bJ,yS]
 have G:∀x,hasB m.1 x=true↔x∈r::N:=λ x=>by rw[F.iff];grind
 refine⟨List.nodup_cons.2 ⟨λ h=>?_,F.nd⟩,rfl,λ x hx=>?_,by rw[xy,hn],aat,λ x hx=>ano x (hn ▸ hx),λ i b hb hi=>?_,λ p b hp hb=>?_,by rw[uh,hn],λ b p=>?_⟩
 ·have h2:=(F.new r h).1;grind
 ·rw[hn];rcases List.mem_cons.1 hx with rfl|hx
  ·exact hr
  ·exact(F.new x hx).2
 ·cases i with
  | zero=>exact absurd rfl hi
  | succ i =>
   rw[List.getElem?_cons_succ]at hb;rcases F.par i b hb with h|⟨j,p,h1,h2,h3⟩
   ·exact⟨0,r,by omega,rfl,h⟩
   ·exact⟨j+1,p,by omega,by simpa using h2,h3⟩
 ·rw[<- G];rcases List.mem_cons.1 hp with rfl|hp
  ·exact F.top b hb
  ·exact F.cl p b hp hb
 ·exact lg hE
end
end Go.Am
namespace Go.Am
open Go Go.Proofs
def GS (h:Heap) (M:LSq) (nR ng nA n:Nat) (v:D) (S:List Bool) (T:List Nat):Prop:=∃ov,QD h ((nR,.arr 1 (bL S))::(ng,.box (.agg [v,ov,.ms nA 0 n]))::M) ov (aR T)
theorem GS.vs {h:Heap}{M:LSq}{nR ng nA n:Nat}{v:D}{S:List Bool}{T:List Nat}(g:GS h M nR ng nA n v S T):∃ov,Vs h ((nR,.arr 1 (bL S))::(ng,.box (.agg [v,ov,.ms nA 0 n]))::M):=by
 obtain⟨ov,q⟩:=g;exact⟨ov,q.vs⟩
theorem QD.XR {h:Heap}{L:LSq}{v d:D}{T:List D}(q:QD h L v T){z':D}{bytes:Nat}{KH:HKq}(hd:kx d) (h1:d.one=true) (hb:(T.length+1)*bytes<=140737488355328) (hl:T.length+1<=9223372036854775807)
  (hK:∀v h',QD h' L v (T++[d])->KH v h'):ab PP (.app (.c v) (.c (.sl [d])) 1 bytes z') h KH:=by
 have hc:d.cells.length=1:=by cases d<;>first|rfl|cases h1
 rcases q with⟨rfl,rfl,V⟩|⟨m,rfl,V⟩
 ·rw[Ln];refine⟨λ e he=>by grind,λ y hy=>by simp at hy;subst hy;exact hd.one,⟨by simpa using hb,by simp⟩,λ n t=>?_⟩;exact hK _ _ (Or.inr ⟨n,by simp,V.push t.free (by simp)⟩)
 ·refine V.rH (ys:=[d]) (λ {K} G=>⟨λ e he=>by grind,G⟩) (λ y hy=>by simp at hy;subst hy;exact hd.one) (by simpa using hb) (by simpa using hl) λ n h' H=>?_
  exact hK _ _ (Or.inr ⟨n,by simp,H⟩)
theorem Py {P:Program}{fz:Bool}{esz:Nat}{z d:D}{h:Heap}{K:D->Prop}(h2:aL d) (h3:d.cells.length=esz) (hv:∀y∈d.cells,y.vone=true) (hz:∀y∈z.cells,y.vone=true) (hk:K (.sl [d])):au P (.bldS fz esz 1 z [(0,.c d)]) h K:=by
 refine⟨λ p hp=>by grind [Arg.get],λ p hp=>by grind [Arg.get],hz,?_⟩;grind [Arg.get,setEls]
theorem Px {P:Program}{fz:Bool}{x:Nat}{z:Int}{h:Heap}{K:D->Prop}(hk:K (.sl [nD x])):au P (.bldS fz 1 1 (.int .i64 z) [(0,.c (nD x))]) h K :=
 Py (aI (k:=.i64) (n:=(x:Int))).one rfl (λ y hy=>by simp[nD,D.cells]at hy;subst hy;rfl) (λ y hy=>by simp[D.cells]at hy;subst hy;rfl) hk
theorem jW {d:D}(h:d.one=true):d.cells=[d]:=by cases d<;>first|rfl|cases h
section
variable {h:Heap}{L:LSq}{KH:HKq}{K:D->Prop}
theorem Vs.Im (V:Vs h L) (i:Nat){n:Nat}{d:D}(hi:L[i]?=some (n,.box d)) (h1:d.one=true):ab PP (.ld (.c (.ptr n 0 0)) 1 false) h KH=KH d h:=by
 rw[zh,V.get i _ _ hi];simp[gd,jW h1]
theorem Vs.JE (V:Vs h L) (i:Nat){n:Nat}{d:D}(hi:L[i]?=some (n,.box d)) (h1:d.one=true):au PP (.ld (.c (.ptr n 0 0)) 1 false) h K=K d:=by rw[mc,V.Im i hi h1]
theorem Vs.M9 (V:Vs h L) (i:Nat){n:Nat}{d d':D}(hi:L[i]?=some (n,.box d)) (h1:d.one=true) (h1':d'.one=true) (hK:∀h',Vs h' (L.set i (n,.box d'))->KH .undef h'):ab PP (.st (.c (.ptr n 0 0)) (.c d') 1) h KH:=by
 have e:setCells d 0 d'.cells=d':=by rw[jW h1'];cases d<;>first|rfl|cases h1
 rw[kW,V.get i _ _ hi];refine⟨by rw[jW h1'];rfl,λ x hx=>by grind [jW],rfl,by rw[jW h1];simp,?_⟩;rw[e];exact hK _ (V.bK i hi (by simp))
theorem LR.W3 {L':LSq}{v:D}{E:List (List Nat)}(V:Vs h L') (hs:∀x∈L,x∈L') (w:LR L v E){b:Nat}{l:List Nat}(hb:E[b]?=some l) (hK:∀e,HT L e l->KH e h):ab PP (.iadd (.c v) (.c (nD b)) 1) h λ a h1=>ab PP (.ld (.c a) 1 false) h1 KH:=by
 have hi:=(ar.1 hb).1;rcases w with rfl|⟨n,els,rfl,hn,hl,H⟩
 ·rw[nD,iN (esz:=1) (d:=.sl (aR l)) (by omega) (by grind) rfl,ni rfl];exact hK _ (Or.inr (Or.inl rfl))
 ·obtain⟨j,G⟩:=ba (hs _ hn);obtain⟨e,he⟩:∃e,els[b]?=some e:=⟨els[b]'(by omega),aq _⟩;obtain⟨h1,h2⟩:=H b e l he hb;rw[nD,V.ia j G (by omega) (by omega),aE,V.yQ j G he h1];exact hK e h2
theorem LR.one {v:D}{E:List (List Nat)}(w:LR L v E):v.one=true:=by
 rcases w with rfl|⟨n,els,rfl,-⟩<;>rfl
end
section
variable {E:List (List Nat)}{n:Nat}{M:LSq}{nR ng nA p1 p2 p3 p4 i1 i2 i3 i4:Nat}{v:D}
theorem U8:fF PP cD=true:=by kernel_rfl
theorem XU (hE:∀l∈E,(∀x∈l,x<n)/\l.length<=1000) (hn:E.length=n) (hnn:n<=1000) (wE:LR M v E)
  (h1:M[i1]?=some (p1,.box (.ms nR 0 n))) (h2:M[i2]?=some (p2,.box v)) (h3:M[i3]?=some (p3,.box (.fn cD [] [.ptr p1 0 0,.ptr p2 0 0,.ptr p3 0 0,.ptr p4 0 0]))) (h4:M[i4]?=some (p4,.box (.ptr ng 0 0))) :
  ∀(k c:Nat) (S:List Bool) (T:List Nat) (b:Nat) (h:Heap) (KH:HKq),S.length=n->jS (hasB S) n<=k->T.length+jS (hasB S) n<=c->c<=1000->b<n->hasB S b=false->GS h M nR ng nA n v S T ->
   (∀S' T' h',YO E (S,T.reverse) b (S',T'.reverse)->S'.length=n->T'.length+jS (hasB S') n<=c->(∀x,hasB S x=true->hasB S' x=true)->GS h' M nR ng nA n v S' T'->KH (.tup []) h') ->
   ag PP cD [nD b,.ptr p1 0 0,.ptr p2 0 0,.ptr p3 0 0,.ptr p4 0 0] h KH:=by
 intro k
 induction k with
 | zero =>
  intro c S T b h KH hS hk hT hc hb hs g hK;exfalso;have:jS (hasB (S.set b true)) n+1<=jS (hasB S) n:=kB (x:=b) (λ x hx=>by grind [bJ]) hb hs (by grind [bJ]);omega
 | succ k ih =>
  intro c S T b h KH hS hk hT hc hb hs g hK;refine aY yA (aG _ _ _) rfl (xY _ _ _ _ _ _) ?_;dsimp only[qC,xI,xL,xS,yF,yL];have e0:jS (hasB (S.set b true)) n+1<=jS (hasB S) n:=kB (x:=b) (λ x hx=>by grind [bJ]) hb hs (by grind [bJ]);have jx:∀{S:List Bool}{ov:D}{i:Nat}{x:Nat×Slot},M[i]?=some x->((nR,Slot.arr 1 (bL S))::(ng,.box (.agg [v,ov,.ms nA 0 n]))::M)[i+2]?=some x:=λ hi=>by simpa using hi
  have jm:∀{S:List Bool}{ov:D}{x:Nat×Slot},x∈M->x∈((nR,Slot.arr 1 (bL S))::(ng,.box (.agg [v,ov,.ms nA 0 n]))::M):=λ hi=>by simp[hi]
  have b5:=wE.one;obtain⟨ov,Q⟩:=g;have V:=Q.vs;obtain⟨l,hl⟩:∃l,E[b]?=some l:=⟨E[b]'(by rw[hn];exact hb),aq _⟩;have c2:gL E b=l:=by unfold gL;rw[hl];rfl
  have c0:=hE l (ak hl);have b2:∀{S:List Bool},S.length=n->(bL S).length=n:=λ e=>by simp[bL,e]
  rw[V.Im (i1+2) (jx h1) rfl,nD,V.ia 0 rfl (by omega) (by omega),aE]
  have b4:∀{KH:HKq},(∀h',GS h' M nR ng nA n v (S.set b true) T->KH .undef h')->ab PP (.st (.c (.ptr nR b 0)) (.c (.bool true)) 1) h KH:=by
   intro KH hK;rcases Q with⟨rfl,c3,V⟩|⟨m,rfl,V⟩
   ·refine V.wA 0 rfl (by rw[b2 hS];exact hb) rfl (ic _) λ h' V'=>hK h' ⟨_,Or.inl ⟨rfl,c3,?_⟩⟩
    rw[hZ]at V';exact V'
   ·refine V.wA 1 rfl (by rw[b2 hS];exact hb) rfl (ic _) λ h' V'=>hK h' ⟨_,Or.inr ⟨m,rfl,?_⟩⟩
    rw[hZ]at V';exact V'
  refine b4 λ e5 c6=>?_
  refine⟨λ _ h'=>∃G H,lN E l (S.set b true,T.reverse) (G,H.reverse)/\G.length=n/\H.length+jS (hasB G) n+1<=c/\(∀x,hasB (S.set b true) x=true->hasB G x=true)/\GS h' M nR ng nA n v G H,?_,?_⟩
  ·rintro f e4 ⟨G,H,hv,Z,b3,I,a8,Q1⟩;have V1:=Q1.vs;simp only[V1.JE (i4+2) (jx h4) rfl,V1.lH 1 rfl,Nat.zero_add,V1.gw 1 (j:=1) rfl rfl];refine Px ?_;refine Q1.XR (d:=nD b) aI rfl (by rw[bk];omega) (by rw[bk];omega) λ c8 e3 Q'=>?_
   rcases Q' with⟨-,h0,-⟩|⟨m,rfl,V'⟩
   ·simp at h0
   simp only[V'.JE (i4+3) (by simpa using h4) rfl,aa,true_and];refine V'.Yg 2 rfl (j:=1) (by simp) rfl λ c5 V2=>?_
   simp only[List.set_cons_succ,List.set_cons_zero]at V2;simp only[V2.JE (i4+3) (by simpa using h4) rfl,aa,true_and];have e2:aR H++[nD b]=aR (H++[b]):=by simp[aR]
   refine hK G (H++[b]) c5 ?_ Z (by simp;omega) (λ x hx=>I x ?_) ⟨_,Or.inr ⟨m,rfl,?_⟩⟩
   ·rw[List.reverse_append];exact⟨(G,H.reverse),by rw[c2];exact hv,rfl⟩
   ·grind [bJ]
   grind
  ·obtain⟨a8,Q1⟩:=c6;have V1:=Q1.vs;rw[V1.Im (i2+2) (jx h2) b5];refine wE.W3 V1 (λ x hx=>jm hx) hl λ e we=>?_
   rw[(we.mono λ x hx=>jm hx).len V1];dsimp only[mO,xI,xL]
   refine⟨λ m q h'=>∃(j:Nat) (G:List Bool) (H:List Nat),q=[nD j]/\j<=l.length/\m=l.length-j/\lN E (l.take j) (S.set b true,T.reverse) (G,H.reverse)/\G.length=n/\H.length+jS (hasB G) n+1<=c/\(∀x,hasB (S.set b true) x=true->hasB G x=true)/\GS h' M nR ng nA n v G H,_,
    ⟨0,S.set b true,T,rfl,by omega,rfl,.nil _,by grind,by omega,λ x hx=>hx,a8,Q1⟩,?_⟩
   rintro m f c4 ⟨j,G,H,hq,hj,hm,hv,Z,b3,I,g1⟩;simp only[ah,and_true]at hq;simp only[hq,nD];by_cases c1:j<l.length
   ·rw[fY (by omega),af];obtain⟨to,a6⟩:∃to,l[j]?=some to:=⟨l[j],aq c1⟩;have b7:to<n:=c0.1 to (ak a6);have b1:l.take (j+1)=l.take j++[to]:=by rw[List.take_add_one,a6];rfl
    refine⟨λ _ h'=>∃G H,lN E (l.take (j+1)) (S.set b true,T.reverse) (G,H.reverse)/\G.length=n/\H.length+jS (hasB G) n+1<=c/\(∀x,hasB (S.set b true) x=true->hasB G x=true)/\GS h' M nR ng nA n v G H,?_,?_⟩
    ·rintro f' h' ⟨S2,T2,a1,a2,a3,a4,a5⟩;rw[bB (by omega) (by omega)];simp only[aa,true_and];exact⟨_,by omega,j+1,S2,T2,rfl,by omega,rfl,a1,a2,a3,a4,a5⟩
    obtain⟨c7,V2⟩:=g1.vs;rw[(we.mono λ x hx=>jm hx).get V2 a6];rw[V2.Im (i1+2) (jx h1) rfl,nD,V2.ia 0 rfl (by omega) (by omega),aE,V2.yQ 0 rfl (cr (bo (by omega))) rfl,cw]
    cases a7:hasB G to with
    | true =>
     simp only[Bool.not_true];rw[ae];simp only[aa,true_and];exact⟨G,H,by rw[b1];exact hv.K4 a7,Z,b3,I,g1⟩
    | false =>
     simp only[Bool.not_false];rw[af,V2.Im (i3+2) (jx h3) rfl];refine⟨U8,?_⟩;have e1:jS (hasB G) n<=jS (hasB (S.set b true)) n:=Qb I;refine ih (c-1) G H to c4 _ Z (by omega) (by omega) (by omega) b7 a7 g1 λ S2 T2 h2 w1 w2 w3 w4 w5=>?_
     simp only[aa,true_and];exact⟨S2,T2,by rw[b1];exact hv.Qk a7 w1,w2,by omega,λ x hx=>w4 x (I x hx),w5⟩
   grind [fU,ae,aa]
end
end Go.Am
namespace Go.Am
open Go Go.Proofs
theorem SI {h:Heap}{L:LSq}{KH:HKq}{m:Nat}{T:List Nat}(V:Vs h ((m,.arr 1 (aR T))::L)) (h0:1<=T.length) (hl:T.length<=1000000) (hK:∀h',Vs h' ((m,.arr 1 (aR T.reverse))::L)->KH (.tup []) h'):ag PP eM [.ms m 0 T.length] h KH:=by
 refine aY nP (aG _ _ _) rfl (nq _ _) ?_;unfold iP;rw[bH,V.get 0 _ _ rfl];refine⟨rfl,?_⟩;rw[KG (by omega) (by omega)];dsimp only[gy,xS,yI,yL]
 refine⟨λ k q h'=>∃(i j:Nat) (X:List Nat),q=[nD i,nD j]/\i+j+1=T.length/\k=j+1-i/\X.length=T.length/\(∀y,y<T.length->X[y]?=if y<i\/j<y then T[T.length-1-y]? else T[y]?)/\Vs h' ((m,.arr 1 (aR X))::L),_,
  ⟨0,T.length-1,T,?_,by omega,rfl,rfl,λ y hy=>by rw[if_neg (by omega)],V⟩,?_⟩
 ·grind [nD]
 rintro k f h' ⟨i,j,X,Q,a2,hk,hX,a6,G⟩;simp only[ah,and_true]at Q;obtain⟨q1,Z⟩:=Q;simp only[q1,Z,nD];by_cases a1:i<j
 ·rw[fY (by omega),af];obtain⟨a,ha⟩:∃a,X[i]?=some a:=⟨X[i]'(by omega),aq _⟩;obtain⟨b,hb⟩:∃b,X[j]?=some b:=⟨X[j]'(by omega),aq _⟩;simp only[↓G.Bw 0 rfl (show(0:Int)<=(i:Int) by omega) (show(i:Int)<(T.length:Int) by omega),↓G.Bw 0 rfl (show(0:Int)<=(j:Int) by omega) (show(j:Int)<(T.length:Int) by omega),aE,↓G.Fy 0 rfl (fC ha) rfl,↓G.Fy 0 rfl (fC hb) rfl];refine G.wA 0 rfl (by rw[bk];omega) rfl Cw λ h2 I=>?_
  simp only[List.set_cons_zero]at I;simp only[↓I.Bw 0 rfl (show(0:Int)<=(j:Int) by omega) (show(j:Int)<(T.length:Int) by omega),aE,aa,true_and];refine I.wA 0 rfl (by rw[List.length_set,bk];omega) rfl (λ x hx=>?_) λ h3 H=>?_
  ·rcases List.mem_or_eq_of_mem_set hx with hx|rfl
   ·exact Cw x hx
   ·rfl
  simp only[List.set_cons_zero]at H;simp only[↓H.Bw 0 rfl (show(0:Int)<=(j:Int) by omega) (show(j:Int)<(T.length:Int) by omega),aE,aa,true_and];rw[bB (by omega) (by omega),KG (by omega) (by omega)];have e3:((aR X).set i (nD b)).set j (nD a)=aR ((X.set i b).set j a):=by simp[aR,List.map_set]
  rw[e3]at H;have e4:(j:Int)-1=((j-1:Nat):Int):=by omega
  refine⟨j-1+1-(i+1),by omega,i+1,j-1,(X.set i b).set j a,by rw[e4];rfl,by omega,rfl,by simp[hX],λ y hy=>?_,H⟩;grind
 ·rw[fU (by omega),ae];refine hK h' ?_
  have:X=T.reverse:=by
   apply List.ext_getElem?;grind
  rw[this]at G;exact G
end Go.Am
namespace Go.Am
open Go Go.Proofs
structure AtI (O:List Nat) (n i:Nat) (A:List Int):Prop where
 len:A.length=n
 at':∀(j x:Nat),j<i->O[j]?=some x->A[x]?=some (j:Int)
 no:∀x,x<n->x∉O.take i->A[x]?=some (-1)
theorem AtI.next {O:List Nat}{n i x:Nat}{A:List Int}(nd:O.Nodup) (a:AtI O n i A) (hx:O[i]?=some x) (hxn:x<n):AtI O n (i+1) (A.set x (i:Int)):=by
 refine⟨by rw[List.length_set];exact a.len,λ j y G hy=>?_,λ y hy hn=>?_⟩
 ·rw[List.getElem?_set];by_cases e:x=y
  ·subst e;have:i=j:=(List.getElem?_inj (ar.1 hx).1 nd).1 (hx.trans hy.symm);subst this;rw[if_pos rfl,if_pos (by rw[a.len];exact hxn)]
  ·rw[if_neg e];by_cases H:j=i
   ·grind
   ·exact a.at' j y (by omega) hy
 ·rw[List.take_add_one,hx]at hn;simp only[Option.toList_some,List.mem_append,List.mem_singleton,not_or]at hn;rw[List.getElem?_set,if_neg (λ e=>hn.2 e.symm)];exact a.no y hy hn.1
theorem ab1 {v x:D}{h:Heap}{K:D->Prop}(hv:v.one=true/\v.cells=[v]) (hx:x.one=true/\x.cells=[x]) (hK:K (.agg [v,.nil,x])):au PP (.bld [.nil,.nil,.nil] [(0,1,(.c v)),(2,1,(.c x))]) h K:=by
 rw[Lz,nX];refine⟨λ p hp=>?_,?_⟩
 ·grind [Arg.get]
 grind [fillD,Arg.get]
theorem S5 {E:List (List Nat)}{p q:List Bool×List Nat}{b:Nat}(h:YO E p b q):q.2≠[]:=by
 obtain⟨m,-,rfl⟩:=h;simp
section
variable {E:List (List Nat)}{n r:Nat}
theorem J0 {h:Heap}{L:LSq}{KH:HKq}{v:D}(hE:∀l∈E,(∀x∈l,x<n)/\l.length<=1000) (hn:E.length=n) (hnn:n<=1000) (hr:r<n) (V:Vs h L) (wE:LR L v E)
  (hK:∀ng nO nA O at' h',zt E n r O->Ri E r O at' (EH E O n)->Vs h' ((nO,.arr 1 (aR O))::(ng,QK v nO O.length nA n)::(nA,.arr 1 (aQ at'))::L)->KH (.ptr ng 0 0) h'):ag PP kR [v,nD r] h KH:=by
 refine aY ED (aG _ _ _) rfl (DO _ _ _) ?_;dsimp only[xZ,xB,xF,xL,xS,yL];have hv:=wE.one;have c0:aL v:=λ x hx=>by grind [jW]
 refine V.box c0 λ p2 h4 V4=>?_
 simp only[V4.JE 0 rfl hv];refine Py (aI (k:=.i64) (n:=-1)).one rfl (λ y hy=>by simp[D.cells]at hy;subst hy;rfl) (λ y hy=>by simp[D.cells]at hy;subst hy;rfl) ?_;have w4:=wE.mono (L':=(p2,.box v)::L) λ x hx=>List.mem_cons_of_mem _ hx
 rw[w4.len V4,hn];refine OQ V4 (k:=-1) (by omega) (by omega) (Or.inl rfl) λ nA h9 b5=>?_
 simp only[b5.JE 1 rfl hv,aa,and_true,true_and];refine ab1 ⟨hv,jW hv⟩ ⟨rfl,rfl⟩ ?_
 have hone:aL (.agg [v,.nil,.ms nA 0 n]):=by
  intro x hx;simp[D.cells]at hx;rcases hx with rfl|rfl|rfl
  ·exact hv
  ·rfl
  ·rfl
 refine b5.box hone λ ng h8 e9=>?_
 refine e9.alloc λ p4 h7 a6=>?_
 have b7:=wE.mono (L':=(p4,.box .nilp)::(ng,.box (.agg [v,.nil,.ms nA 0 n]))::(nA,.arr 1 (aQ (List.replicate n (-1))))::(p2,.box v)::L) λ x hx=>by simp[hx]
 simp only[a6.JE 3 rfl hv,aa,and_true,true_and];refine⟨?_,?_⟩
 ·have:=b7.len (K:=λ e5=>aD [e5] [D.int .i64 (n:Int)]) a6;rw[hn]at this;exact this.mpr (by simp only[aa])
 refine a6.M9 0 rfl rfl rfl λ h6 a1=>?_
 simp only[List.set_cons_zero]at a1;rw[a1.Im 3 rfl hv,(wE.mono λ x hx=>by simp[hx]).len a1,hn];refine a1.SQ (by omega) (by omega) λ nR h5 b4=>?_
 rw[show List.replicate n (D.bool false)=bL (List.replicate n false) by simp[bL]]at b4;refine b4.alloc λ p1 g8 e8=>?_
 refine e8.M9 0 rfl rfl rfl λ g7 b3=>?_
 simp only[List.set_cons_zero]at b3;refine b3.alloc λ p3 g6 e7=>?_
 rw[NT];refine e7.M9 0 rfl rfl rfl λ e4 a2=>?_
 simp only[List.set_cons_zero]at a2;rw[a2.Im 0 rfl rfl];refine⟨U8,?_⟩;have e6:=((a2.perm (List.perm_middle (l₁:=[_,_]))).perm (List.perm_middle (l₁:=[_,_,_,_]))).swap;have u0:=wI (hasB (List.replicate n false)) n
 let M:LSq:=(p3,.box (.fn cD [] [.ptr p1 0 0,.ptr p2 0 0,.ptr p3 0 0,.ptr p4 0 0]))::(p1,.box (.ms nR 0 n))::(p4,.box (.ptr ng 0 0))::(nA,.arr 1 (aQ (List.replicate n (-1))))::(p2,.box v)::L
 refine XU (M:=M) (i1:=1) (i2:=4) (i3:=0) (i4:=2) (p2:=p2) (p4:=p4) hE hn hnn (wE.mono λ x hx=>by simp[M,hx]) rfl rfl rfl rfl n n (List.replicate n false) [] r e4 _ (by simp) u0 (by simpa using u0) hnn hr yS ⟨.nil,Or.inl ⟨rfl,rfl,e6⟩⟩ λ S' T' g5 I g2 g1 _ g'=>?_
 have hne:=S5 I;simp only at hne;have c6:T'≠[]:=λ e=>hne (by rw[e];rfl)
 obtain⟨ov,Q⟩:=g';rcases Q with⟨-,h0,-⟩|⟨m,rfl,Z⟩
 ·exact absurd (by simpa[aR] using h0) c6
 have a8:1<=T'.length:=by grind
 have c5:T'.length<=1000:=by omega
 rw[bk]at Z;rw[Z.Im 5 rfl rfl,Z.fa 2 rfl,Z.fa 2 rfl,Z.bI 2 (j:=1) rfl rfl];refine SI Z a8 (by omega) λ e1 G=>?_
 have hO:zt E n r T'.reverse:=⟨S',I⟩;have c8:=λ at' (a:AtI T'.reverse n T'.reverse.length at')=>hO.gr hE hn hr a.len (λ i x hx=>a.at' i x (ar.1 hx).1 hx) (λ x hx g0=>a.no x hx (by rwa [List.take_length]))
 have c3:∀x,x∈T'.reverse->x<n:=by
  obtain⟨m',h1,e⟩:=I;obtain⟨N,e2,F⟩:=h1.spec (n:=n) (λ p b=>qk hE) (λ x=>qk hE) (by simp)
  have e3:T'.reverse=r::N:=by
   grind
  intro x hx;rw[e3]at hx;rcases List.mem_cons.1 hx with rfl|hx
  ·exact hr
  ·exact(F.new x hx).2
 have c2:T'.reverse.Nodup:=by
  obtain⟨m',h1,e⟩:=I;obtain⟨N,e2,F⟩:=h1.spec (n:=n) (λ p b=>qk hE) (λ x=>qk hE) (by simp)
  have e3:T'.reverse=r::N:=by
   grind
  rw[e3];refine List.nodup_cons.2 ⟨λ h=>?_,F.nd⟩;have h2:=(F.new r h).1;grind [bJ]
 generalize c7:T'.reverse=O at *;have c1:T'.length=O.length:=by rw[<- c7];simp
 rw[c1]at G c5 a8
 let LA:List Int->LSq:=λ A=>(m,.arr 1 (aR O))::(nR,.arr 1 (bL S'))::(ng,.box (.agg [v,.ms m 0 O.length,.ms nA 0 n]))::(p3,.box (.fn cD [] [.ptr p1 0 0,.ptr p2 0 0,.ptr p3 0 0,.ptr p4 0 0]))::(p1,.box (.ms nR 0 n))::(p4,.box (.ptr ng 0 0))::(nA,.arr 1 (aQ A))::(p2,.box v)::L
 have G:Vs e1 (LA (List.replicate n (-1))):=G;refine⟨λ _ h'=>∃A,AtI O n O.length A/\Vs h' (LA A),?_,?_⟩
 ·rintro f e0 ⟨A,hA,b2⟩;rw[b2.Im 5 rfl rfl];refine hK ng m nA O A e0 hO (c8 A hA) (b2.sub ?_);exact .cons_cons _ (.cons _ (.cons_cons _ (.cons _ (.cons _ (.cons _ (.cons_cons _ (.cons _ (.refl _))))))))
 rw[G.Im 5 rfl rfl,G.fa 2 rfl,G.fa 2 rfl,G.bI 2 (j:=1) rfl rfl,bH,G.get 0 _ _ rfl];refine⟨rfl,?_⟩;dsimp only[qB,xF,xI,xL,xS];refine⟨λ k q h'=>∃(i:Nat) (A:List Int),q=[nD i]/\i<=O.length/\k=O.length-i/\AtI O n i A/\Vs h' (LA A),_,⟨0,_,rfl,by omega,rfl,⟨by simp,λ j x hj=>by omega,λ x hx _=>by grind⟩,G⟩,?_⟩;rintro k f g4 ⟨i,A,hq,hi,hk,hA,H⟩;simp only[ah,and_true]at hq;simp only[hq,nD];by_cases c4:i<O.length
 ·rw[fY (by omega),af];obtain⟨x,hx⟩:∃x,O[i]?=some x:=⟨O[i],aq c4⟩;have a7:=c3 x (ak hx);rw[H.ia 0 rfl (by omega) (by omega),aE,H.yQ 0 rfl (fC hx) rfl,H.Im 5 rfl rfl,H.fa 2 rfl,H.fa 2 rfl,H.bI 2 (j:=2) rfl rfl,nD,H.ia 6 rfl (by omega) (by omega),aE];refine H.wA 6 rfl (by rw[gO,hA.len];exact a7) rfl Mv λ g3 b1=>?_
  simp only[LA,List.set_cons_succ,List.set_cons_zero,Mu]at b1;rw[bB (by omega) (by omega)];simp only[aa,true_and];exact⟨_,by omega,i+1,A.set x (i:Int),rfl,by omega,rfl,hA.next c2 hx a7,b1⟩
 grind [fU,ae,aa]
end
end Go.Am
namespace Go.Am
open Go Go.Proofs
def gI (c:Code):List (List Nat):=(List.range c.b.length).map (edg c)
def Od (c:Code) (i:Nat):List D:=(List.range c.b.length).map λ b=>if b<i then .sl (aR (edg c b)) else .nil
theorem cM {c:Code}:(gI c).length=c.b.length:=by simp[gI]
theorem MI {c:Code}{b:Nat}(h:b<c.b.length):(gI c)[b]?=some (edg c b):=by simp[gI,h]
theorem nj {c:Code}{b:Nat}:gL (gI c) b=edg c b:=by
 grind [gL,MI,cM,edg]
theorem kZ {c:Code}(hc:bp c):∀l,l∈gI c->(∀x∈l,x<c.b.length)/\l.length<=1000:=λ l hl=>by
 grind [gI,cE,qm]
theorem MH {c:Code}{i:Nat}:(Od c i).length=c.b.length:=by simp[Od]
theorem Xf {c:Code}{i:Nat}:∀x,x∈Od c i->x.one=true:=λ x hx=>by
 simp only[Od,List.mem_map]at hx;obtain⟨b,-,rfl⟩:=hx;split<;>rfl
theorem Xe {c:Code}{i:Nat}(hi:i<c.b.length):(Od c i).set i (.sl (aR (edg c i)))=Od c (i+1):=by
 apply List.ext_getElem?;grind [Od]
theorem XW {c:Code}(hc:bp c){h:Heap}{L:LSq}{KH:HKq}(V:Vs h L) (hK:∀nE h',Vs h' ((nE,.arr 1 (Od c c.b.length))::L)->LR [(nE,.arr 1 (Od c c.b.length))] (.ms nE 0 c.b.length) (gI c)->KH (.ms nE 0 c.b.length) h') :
  ag PP wW [c.e] h KH:=by
 have a2:=hc.nb;refine aY Kn (aG _ _ _) rfl (J6 _ _) ?_;dsimp only[GI,xB,xF,xL];refine V.box c.b9.one λ n2 h3 V1=>?_
 simp only[↓V1.fa 0 rfl,Nat.zero_add,↓V1.bI 0 (j:=7) rfl rfl,bD,aH];refine V1.SQ (by omega) (by omega) λ nE b2 H=>?_
 have e0:List.replicate c.b.length D.nil=Od c 0:=by
  apply List.ext_getElem?;grind [Od]
 rw[e0]at H;refine⟨λ _ h'=>Vs h' ((nE,.arr 1 (Od c c.b.length))::(n2,.box c.e)::L),λ _ h' V'=>hK nE h' V'.swap.pop (Or.inr ⟨nE,Od c c.b.length,by rw[cM],by simp,by rw[MH,cM],λ b e l he hl=>?_⟩),?_⟩
 ·have hb:b<c.b.length:=by grind [MH]
  rw[MI hb]at hl;cases hl
  have:e=.sl (aR (edg c b)):=by
   grind [Od]
  subst this;exact⟨rfl,Or.inr (Or.inl rfl)⟩
 simp only[↓H.fa 1 rfl,Nat.zero_add,↓H.bI 1 (j:=7) rfl rfl,bD,aH];dsimp only[x3,xF,xI,xL,xS];refine⟨λ m q h'=>∃(i:Nat),q=[nD i]/\i<=c.b.length/\m=c.b.length-i/\Vs h' ((nE,.arr 1 (Od c i))::(n2,.box c.e)::L),_,⟨0,rfl,by omega,rfl,H⟩,?_⟩;rintro m f b1 ⟨i,hq,hi,hm,a1⟩;simp only[ah,and_true]at hq;simp only[hq,nD];by_cases I:i<c.b.length
 ·rw[fY (by omega),af];obtain⟨B,hB⟩:∃B,c.b[i]?=some B:=⟨c.b[i],aq I⟩;rw[rE hB,show B.e=.agg (.sl (B.i.map bj.e)::B.t.cs) from rfl,NM (s:=14) rfl];refine a1.alloc λ n28 a8 Z=>?_
  refine Z.mY 0 rfl rfl rfl (λ x hx=>?_) λ a7 G=>?_
  ·have:=B.b9.one x (by exact hx);exact this
  simp only[List.set_cons_zero]at G;rw[G.fa 0 rfl,RK (G.get 0 _ _ rfl) (by show 0+1+13<=14;omega)];have eT:((D.sl (B.i.map bj.e)::B.t.cs).drop (0+1)).take 13=B.t.cs:=rfl;rw[eT];refine aW (JP (hc.t B (ak hB))) (λ d hd=>by simp at hd;subst hd;exact B.t.b9.pair) ?_;rintro _ rfl;rw[G.ia 1 rfl (by omega) (by omega),aE];refine G.wA 1 rfl (by rw[MH];exact I) rfl Xf λ a6 Q=>?_
  simp only[List.set_cons_succ,List.set_cons_zero]at Q;rw[<- jr hB,Xe I]at Q;rw[bB (by omega) (by omega)];simp only[aa,true_and];exact⟨_,by omega,i+1,rfl,by omega,rfl,Q.pop⟩
 grind [fU,ae,aa]
end Go.Am
namespace Go.Am
open Go Go.Proofs
theorem K9 {E:Nat->List Nat}{a b c:Nat}(h:Path E a b) (k:Path E b c):Path E a c:=by
 induction k with
 | refl=>exact h
 | step _ e G=>exact .step G e
theorem NA {E:Nat->List Nat}{a b c:Nat}(h:b∈E a) (k:Path E b c):Path E a c:=K9 (.step .refl h) k
section
variable {E:List (List Nat)}{r n:Nat}{O:List Nat}{at':List Int}{B:List (List Nat)}
theorem Ri.path (G:Ri E r O at' B){b:Nat}:b∈O↔Path (gL E) r b:=by
 constructor
 ·have:∀(i:Nat) (b:Nat),O[i]?=some b->Path (gL E) r b:=by
   intro i
   induction i using Nat.strongRecOn with
   | _ i H =>
    intro b hb;by_cases h0:i=0
    ·subst h0;rw[G.hd]at hb;cases hb;exact .refl
    ·obtain⟨j,p,Q,hp,I⟩:=G.par i b hb h0;exact .step (H j Q p hp) I
  grind [List.getElem?_of_mem]
 ·intro h
  induction h with
  | refl=>exact ak G.hd
  | step _ e H=>exact G.cl _ _ H e
def rO (E:List (List Nat)) (O:List Nat) (n:Nat) (l:List Nat):List (List Nat):=EH E O n++[l]
theorem tG {l:List Nat}:(rO E O n l).length=n+1:=by simp[rO,uh]
theorem Qe {l:List Nat}:(rO E O n l)[n]?=some l:=by
 grind [rO,uh]
theorem Bt {l:List Nat}{b:Nat}:gL (rO E O n l) b=if b<n then gL (EH E O n) b else if b=n then l else []:=by
 grind [gL,rO,uh]
def E0 (E:List (List Nat)) (l:List Nat) (b:Nat):Prop:=∃x,x∈l/\Path (gL E) b x
theorem We (hE:∀l∈E,(∀x∈l,x<n)/\l.length<=1000){l O':List Nat}{at2:List Int}{B':List (List Nat)}(G:Ri E r O at' B) (hn:E.length=n) (G':Ri (rO E O n l) n O' at2 B') (hl:∀x∈l,x∈O){b:Nat}(hb:b∈O):b∈O'↔E0 E l b:=by
 have lt:∀{x},x∈O->x<n:=λ hx=>hn ▸ G.lt _ hx
 have mem:∀{a b:Nat},a<n->(b∈gL (rO E O n l) a↔b∈O/\a∈gL E b):=λ ha=>by grind [Bt,lg]
 constructor
 ·intro h
  have:∀{b:Nat},Path (gL (rO E O n l)) n b->b=n\/(b∈O/\E0 E l b):=by
   intro b h
   induction h with
   | refl=>exact Or.inl rfl
   | @step a b _ e I =>
    rcases I with rfl|⟨ha,x,hx,hp⟩
    ·rw[Bt,if_neg (by omega),if_pos rfl]at e;exact Or.inr ⟨hl b e,b,e,.refl⟩
    ·have:=(mem (lt ha)).1 e;exact Or.inr ⟨this.1,x,hx,NA this.2 hp⟩
  rcases this (G'.path.1 h) with e|h
  ·have:=lt hb;omega
  ·exact h.2
 ·rintro⟨x,hx,hp⟩
  have Q:x∈O':=by
   refine G'.cl n x (ak G'.hd) ?_;have:x∈gL (rO E O n l) n:=by grind [Bt]
   exact this
  have H:∀{y},Path (gL E) b y->y∈O:=λ h=>by
   induction h with
   | refl=>exact hb
   | step _ e I=>exact G.cl _ _ I e
  have:∀{y},Path (gL E) b y->y∈O'->b∈O':=by
   intro y h
   induction h with
   | refl=>exact id
   | @step a y h e I =>
    intro hy;refine I (G'.cl y a hy ?_);exact(mem (lt (H (.step h e)))).2 ⟨H h,e⟩
  exact this hp Q
noncomputable def endF (E:List (List Nat)):List Nat->List Nat->List Nat
 | [],l=>l
 | b::T,l=>if @decide (E0 E l b) (Classical.propDecidable _) then endF E T l else endF E T (l++[b])
theorem yV:∀{T T' l:List Nat},(∀b∈T,E0 E l b)->endF E (T++T') l=endF E T' l
 | [],_,_,_=>rfl
 | b::T,T',l,h=>by
  rw[List.cons_append,endF,if_pos (by simpa using h b (by simp)),yV λ x hx=>h x (by simp[hx])]
theorem Ob {T l:List Nat}{b:Nat}(h:¬E0 E l b):endF E (b::T) l=endF E T (l++[b]):=by
 grind [endF]
theorem RD {l l':List Nat}(h:∀x∈l,x∈l'){b:Nat}(k:E0 E l b):E0 E l' b:=by
 obtain⟨x,hx,hp⟩:=k;exact⟨x,h x hx,hp⟩
theorem Sa {l X Y:List Nat}{b:Nat}(hO:O=X++b::Y) (hY:∀y∈Y,E0 E l y) (hb:¬E0 E l b):endF E O.reverse l=endF E O.reverse (l++[b]):=by
 rw[hO];simp only[List.reverse_append,List.reverse_cons,List.append_assoc];rw[yV λ y hy=>hY y (List.mem_reverse.1 hy),yV λ y hy=>RD (λ x hx=>by simp[hx]) (hY y (List.mem_reverse.1 hy))];rw[List.singleton_append,Ob hb,endF,if_pos];simp only[decide_eq_true_eq];exact⟨b,by simp,.refl⟩
theorem Lt {l:List Nat}(h:∀y∈O,E0 E l y):endF E O.reverse l=l:=by
 have:=yV (E:=E) (T:=O.reverse) (T':=[]) (l:=l) λ y hy=>h y (List.mem_reverse.1 hy)
 simpa[endF] using this
end
end Go.Am
namespace Go.Am
open Go Go.Proofs
section
variable {h:Heap}{L:LSq}{v:D}{Bs:List (List Nat)}{KH:HKq}
theorem iL.lift (q:iL h L v Bs):∃X,Vs h (X++L)/\LR X v Bs/\∀h',Vs h' (X++L)->iL h' L v Bs:=by
 obtain⟨G,els,W,nm,rfl,V,R⟩:=q;refine⟨(G,.arr 1 els)::W,V,Or.inr ⟨G,els,rfl,by simp,R.len,λ b e l he hl=>?_⟩,λ h' H=>⟨G,els,W,nm,rfl,H,R⟩⟩;refine⟨R.one e (ak he),?_⟩;rcases R.el b l hl with⟨h1,h2⟩|⟨-,h2,h3⟩
 ·rw[he]at h2;cases h2;exact Or.inl ⟨rfl,h1⟩
 ·rw[he]at h2;cases h2;exact Or.inr (Or.inr ⟨_,rfl,by simp[h3]⟩)
theorem iL.abk (q:iL h L v Bs) (hl:Bs.length<=1000000){z z':D}(hK:∀v' h',iL h' L v' (Bs++[[]])->KH v' h') :
  ab PP (.bldS true 1 1 z [(0,.c .nil)]) h λ y h3=>ab PP (.app (.c v) (.c y) 1 24 z') h3 KH:=by
 obtain⟨I,els,W,nm,rfl,V,R⟩:=q;have Q:QD h (W++L) (.ms I 0 Bs.length) els:=Or.inr ⟨I,by rw[R.len],V⟩;refine Q.push Xn rfl (by have:=R.len;omega) (by have:=R.len;omega) λ v' h' Q'=>?_
 rcases Q' with⟨-,h0,-⟩|⟨m,rfl,Z⟩
 ·simp at h0
 refine hK _ h' ⟨m,els++[.nil],W,nm,by simp[R.len],Z,by simp[R.len],λ b l hb=>?_,λ b b' l l' hb H h1 h2=>?_⟩
 ·rw[List.getElem?_append]at hb ⊢;rw[R.len];split at hb
  ·rename_i G;rw[if_pos G];exact R.el b l hb
  grind
 ·have key:∀{b:Nat}{l:List Nat},(Bs++[[]])[b]?=some l->l≠[]->Bs[b]?=some l:=λ {b l} hb h1=>by
   grind
  exact R.inj b b' l l' (key hb h1) (key H h2) h1 h2
end
def zM (c:Code) (b:Nat):Bool:=match c.b[b]? with
 | some B=>decide (B.t.kind=5)
 | none=>false
theorem MG {c:Code}{b:Nat}{B:Block}(hB:c.b[b]?=some B):zM c b=decide (B.t.kind=5):=by unfold zM;rw[hB]
noncomputable def ec (c:Code) (O:List Nat):List Nat:=endF (gI c) O.reverse (O.filter (zM c))
theorem Qc {E:List (List Nat)}{O:List Nat}{n:Nat}{l l':List Nat}:(rO E O n l).set n l'=rO E O n l':=by
 unfold rO;rw[List.set_append_right _ _ (by rw[uh];omega),uh,Nat.sub_self];rfl
section
variable {c:Code}{h:Heap}{L:LSq}{KH:HKq}
theorem OC {E:List (List Nat)}{K b:Nat}(hK:∀p,(gL E p).length<=K){n:Nat}(hE:∀p x,x∈gL E p->x<n):∀{O:List Nat}{Bs:List (List Nat)},Bs.length=n->(gL (O.foldl (BA E) Bs) b).length<=(gL Bs b).length+O.length*K
 | [],_,_=>by simp
 | a::O,Bs,h=>by
  rw[List.foldl_cons];have h1:=OC hK hE (b:=b) (O:=O) (Bs:=BA E Bs a) (by rw[Dc];exact h);grind [Dj,BA,Nat.add_mul]
theorem XI (hc:bp c){O:List Nat}(hOl:O.length<=20){b:Nat}:(gL (EH (gI c) O c.b.length) b).length<=40:=by
 have h2:=OC (E:=gI c) (K:=2) (b:=b) (n:=c.b.length) (λ p=>by rw[nj];exact qm) (λ p x hx=>by rw[nj]at hx;exact cE hc hx) (O:=O) (Bs:=List.replicate c.b.length []) (by simp);grind [gL,EH]
theorem O5 (hc:bp c){O l:List Nat}(hO:∀x∈O,x<c.b.length) (hl:∀x∈l,x∈O) (hll:l.length<=1000) (hOl:O.length<=20):∀k,k∈rO (gI c) O c.b.length l->(∀x∈k,x<c.b.length+1)/\k.length<=1000:=by
 intro k G;rcases List.mem_append.1 G with G|G
 ·obtain⟨b,hb⟩:=ba G;have hg:gL (EH (gI c) O c.b.length) b=k:=by unfold gL;rw[hb];rfl
  grind [lg,kZ,XI,List.getElem?_of_mem]
 grind
end
end Go.Am
namespace Go.Am
open Go Go.Proofs
theorem Vw {c:Code}{h:Heap}{L:LSq}{v:D}{O:List Nat}{ng nO nA n2 ig iO i2:Nat}{w:D}{J:HJq}{a8:D}(hOlt:∀x∈O,x<c.b.length) (hOl:O.length<=20) (R:iL h L v (rO (gI c) O c.b.length []))
  (hO:L[iO]?=some (nO,.arr 1 (aR O))) (h2:L[i2]?=some (n2,.box c.e)) (hJ:∀h',iL h' L v (rO (gI c) O c.b.length (O.filter (zM c)))->J [] h') :
  rJ h (.int .i64 (O.length:Int)) (.ptr n2 0 0) a8 (nD c.b.length) v (.ms nO 0 O.length) J:=by
 dsimp only[rJ,xF,xI,xL,xS];refine⟨λ m q h'=>∃i:Nat,q=[nD i]/\i<=O.length/\m=O.length-i/\iL h' L v (rO (gI c) O c.b.length ((O.take i).filter (zM c))),_,⟨0,rfl,by omega,rfl,R⟩,?_⟩;rintro m f h1 ⟨i,Q,hi,hm,V⟩;simp only[ah,and_true]at Q;simp only[Q,nD];by_cases H:i<O.length
 ·rw[fY (by omega),af];obtain⟨b,hb⟩:∃b,O[i]?=some b:=⟨O[i],aq H⟩;have I:=hOlt b (ak hb);obtain⟨B,hB⟩:∃B,c.b[b]?=some B:=⟨c.b[b],aq I⟩;have G:=V.vs;have Z:O.take (i+1)=O.take i++[b]:=by rw[List.take_add_one,hb];rfl
  refine⟨λ _ h'=>iL h' L v (rO (gI c) O c.b.length ((O.take (i+1)).filter (zM c))),λ f' h' R'=>?_,?_⟩
  ·rw[bB (by omega) (by omega)];simp only[aa,true_and];exact⟨_,by omega,i+1,rfl,by omega,rfl,R'⟩
  rw[G.ia iO hO (by omega) (by omega),aE,G.yQ iO hO (fC hb) rfl,G.fa i2 h2,G.bI i2 (j:=7) h2 rfl,nD,rE hB,KM,My,show B.e=.agg (.sl (B.i.map bj.e)::B.t.cs) from rfl,Fo (e:=.int .i64 B.t.kind) (by rfl),bq];by_cases hk:B.t.kind=5
  ·rw[decide_eq_true hk,af];refine V.app (b:=c.b.length) (x:=b) Qe ?_ λ h3 R3=>?_
   ·grind
   grind [aa,Qc,MG]
  grind [ae,aa,MG]
 grind [fU,ae,aa]
def X7 (O O':List Nat) (i:Nat) (d:D):Prop:=(d=.int .i64 (-1)/\∀x,x∈O.take i->x∈O')\/∃(j b:Nat),d=nD b/\j<i/\O[j]?=some b/\b∉O'/\∀(k x:Nat),j<k->k<i->O[k]?=some x->x∈O'
theorem XH {h:Heap}{L:LSq}{O O':List Nat}{at':List Int}{ng nO nO' nA' n ig iO iA:Nat}{w:D}{J:HJq}{a8 a14 a19:D}(V:Vs h L) (hOlt:∀x∈O,x<n) (hOl:O.length<=1000)
  (hO:L[iO]?=some (nO,.arr 1 (aR O))) (hg:L[ig]?=some (ng,QK w nO' O'.length nA' n)) (hA:L[iA]?=some (nA',.arr 1 (aQ at'))) (al:at'.length=n) (hin:∀x,x∈O'->∃k:Nat,at'[x]?=some (k:Int)) (hno:∀x,x<n->x∉O'->at'[x]?=some (-1))
  (hJ:∀d,X7 O O' O.length d->J [d] h):rK h (.int .i64 (O.length:Int)) a8 a14 a19 (.ptr ng 0 0) (.ms nO 0 O.length) J:=by
 dsimp only[rK,xF,xI,xL];refine⟨λ m q h'=>h'=h/\∃(i:Nat) (d:D),q=[d,nD i]/\i<=O.length/\m=O.length-i/\X7 O O' i d,_,⟨rfl,0,_,rfl,by omega,rfl,Or.inl ⟨rfl,by simp⟩⟩,?_⟩;rintro m f h1 ⟨e1,i,d,hq,hi,hm,hs⟩;subst e1;simp only[ah,and_true]at hq;obtain⟨q1,q2⟩:=hq;simp only[q1,q2,nD];by_cases Q:i<O.length
 ·rw[fY (by omega),af];obtain⟨b,hb⟩:∃b,O[i]?=some b:=⟨O[i],aq Q⟩;have Z:=hOlt b (ak hb);refine⟨λ q h'=>h'=h1/\∃d,q=[d]/\X7 O O' (i+1) d,?_,?_⟩
  ·rintro f' h' ⟨e2,d',H,I⟩;subst e2;simp only[ah,and_true]at H;simp only[H];rw[bB (by omega) (by omega)];simp only[aa,true_and];exact⟨_,by omega,i+1,d',rfl,by omega,rfl,I⟩
  rw[V.ia iO hO (by omega) (by omega),aE,V.yQ iO hO (fC hb) rfl,V.fa ig hg,V.fa ig hg,V.bI ig (j:=2) hg rfl,nD,V.ia iA hA (by omega) (by omega),aE];by_cases G:b∈O'
  ·obtain⟨k,hk⟩:=hin b G;rw[V.yQ iA hA (mD hk) rfl,fU (by omega),ae];simp only[aa,true_and];refine⟨d,rfl,?_⟩;rcases hs with⟨h1,h2⟩|⟨j,b',h1,h2,h3,h4,h5⟩
   ·refine Or.inl ⟨h1,λ x hx=>?_⟩;grind [List.take_add_one]
   ·refine Or.inr ⟨j,b',h1,by omega,h3,h4,λ k' x a2 a1 hx=>?_⟩;grind
  ·rw[V.yQ iA hA (mD (hno b Z G)) rfl,fY (by omega),af];simp only[aa,true_and];exact⟨_,rfl,Or.inr ⟨i,b,rfl,by omega,hb,G,λ k' x h1 h2 _=>by omega⟩⟩
 grind [fU,ae,aa]
end Go.Am
namespace Go.Am
open Go Go.Proofs
structure YR (c:Code) (O O':List Nat) (at':List Int):Prop where
 ord:zt (gI c) c.b.length 0 O
 g:Ri (rO (gI c) O c.b.length (ec c O)) c.b.length O' at' (EH (rO (gI c) O c.b.length (ec c O)) O' (c.b.length+1))
 all:∀x∈O,x∈O'
 sub:∀x,x∈ec c O->x∈O
 lt:∀x∈O,x<c.b.length
 len:O.length<=20/\(ec c O).length<=20
theorem si {l:List Nat}{n:Nat}(nd:l.Nodup) (h:∀x∈l,x<n):l.length<=n:=by
 have:l.length<=(List.range n).length:=nd.length_le_of_subset (λ x hx=>List.mem_range.2 (h x hx));simpa using this
theorem aap {c:Code}(hc:bp c){h:Heap}{L:LSq}{KH:HKq}(V:Vs h L) (hK:∀ng nO nA O O' at' X v h',YR c O O' at'->Vs h' ((nO,.arr 1 (aR O'))::(ng,QK v nO O'.length nA (c.b.length+1))::(nA,.arr 1 (aQ at'))::(X++L))->LR X v (rO (gI c) O c.b.length (ec c O))->KH (.ptr ng 0 0) h') :
  ag PP Ba [c.e] h KH:=by
 have e0:=hc.nb;have hE:=kZ hc;refine aY KV (aG _ _ _) rfl (KS _ _) ?_;dsimp only[J7,xB,xF,xL];refine V.box c.b9.one λ n2 h3 V1=>?_
 rw[show ab PP (.ld (.c (.ptr n2 0 0)) 8 true) h3=λ KH=>KH c.e h3 from funext λ KH=>V1.fV 0 rfl rfl];refine XW hc V1 λ nE h7 V7 wE=>?_
 rw[show(D.int .i64 0)=nD 0 from rfl];refine J0 (E:=gI c) (n:=c.b.length) (r:=0) hE cM (by omega) (by omega) V7 (wE.mono λ x hx=>by simp at hx;simp[hx]) λ ng nO nA O c5 h9 c0 G V9=>?_
 have H:∀x∈O,x<c.b.length:=λ x hx=>by have:=G.lt x hx;rwa [cM]at this
 have b2:O.length<=20:=Nat.le_trans (si G.nd H) e0.2;rw[V9.fa 4 rfl,V9.bI 4 (j:=7) rfl rfl,bD,aH];refine OP (E:=gI c) (O:=O) hE V9 (ig:=1) (iO:=0) rfl rfl (wE.mono λ x hx=>by simp at hx;simp[hx]) cM (by omega) (by omega) H λ v0 g7 e9=>?_
 refine e9.abk (by rw[uh];omega) λ v e4 a1=>?_
 let L3:LSq:=(nO,.arr 1 (aR O))::(ng,QK (.ms nE 0 c.b.length) nO O.length nA c.b.length)::(nA,.arr 1 (aQ c5))::(nE,.arr 1 (Od c c.b.length))::(n2,.box c.e)::L
 have a1:iL e4 L3 v (rO (gI c) O c.b.length []):=a1;have Z:=a1.vs;refine⟨λ _ h'=>iL h' L3 v (rO (gI c) O c.b.length (O.filter (zM c))),?_,?_⟩
 ·intro f g6 e8;dsimp only[Ac,xF,xI,xL,xS];refine⟨λ m q h'=>∃l:List Nat,q=[]/\iL h' L3 v (rO (gI c) O c.b.length l)/\l.Nodup/\(∀x∈l,x∈O)/\endF (gI c) O.reverse l=ec c O/\m=c.b.length-l.length,_,⟨_,rfl,e8,G.nd.filter _,λ x hx=>(List.mem_filter.1 hx).1,rfl,rfl⟩,?_⟩;rintro m f' g5 ⟨l,-,e7,c1,Q,c2,hm⟩;have g1:=si c1 λ x hx=>H x (Q x hx)
  obtain⟨X,e5,wX,lift⟩:=e7.lift;have b7:=O5 hc H Q (by omega) b2;refine J0 (E:=rO (gI c) O c.b.length l) (n:=c.b.length+1) (r:=c.b.length) b7 tG (by omega) (by omega) e5 (wX.mono λ x hx=>List.mem_append_left _ hx) λ b4 a8 b1 O' at' e3 c8 G' I=>?_
  have a6:=λ {b:Nat}(hb:b∈O)=>We hE G cM G' Q hb
  have ix:∀{i:Nat}{x:Nat×Slot},L3[i]?=some x->((a8,Slot.arr 1 (aR O'))::(b4,QK v a8 O'.length b1 (c.b.length+1))::(b1,.arr 1 (aQ at'))::(X++L3))[X.length+i+3]?=some x:=λ hi=>by
   simp only[List.getElem?_cons_succ];rw[List.getElem?_append_right (by omega),Nat.add_sub_cancel_left];exact hi
  refine⟨λ q h'=>h'=e3/\∃d,q=[d]/\X7 O O' O.length d,?_,?_⟩
  ·rintro f2 b3 ⟨e,d,hq,hs⟩;subst e;simp only[ah,and_true]at hq;rw[hq];rcases hs with⟨rfl,hs⟩|⟨j,b,rfl,hj,hb,c3,hs⟩
   ·rw[fY (by omega),af];have c4:∀x∈O,x∈O':=λ x hx=>hs x (by rwa [List.take_length])
    have e1:ec c O=l:=by grind [Lt]
    refine hK b4 a8 b1 O O' at' (X++[(nO,.arr 1 (aR O)),(ng,QK (.ms nE 0 c.b.length) nO O.length nA c.b.length),(nA,.arr 1 (aQ c5)),(nE,.arr 1 (Od c c.b.length)),(n2,.box c.e)]) v b3 ⟨c0,by rw[e1];exact G',c4,by rw[e1];exact Q,H,b2,by rw[e1];omega⟩ ?_ ?_
    ·grind
    ·rw[e1];exact wX.mono λ x hx=>List.mem_append_left _ hx
   ·have a7:b∈O:=ak hb;rw[nD,fU (by omega),ae];have e6:iL b3 L3 v (rO (gI c) O c.b.length l):=lift b3 I.pop.pop.pop;have g0:b∉l:=λ e2=>c3 ((a6 a7).2 ⟨b,e2,.refl⟩)
    refine e6.app (b:=c.b.length) (x:=b) Qe (by omega) λ g4 c6=>?_
    rw[Qc]at c6;simp only[aa,true_and];have g2:(l++[b]).length=l.length+1:=by simp
    have b5:(l++[b]).Nodup:=List.nodup_append.2 ⟨c1,by simp,λ a ha x hx=>by grind⟩
    have a2:∀x,x∈l++[b]->x∈O:=λ x hx=>by
     grind
    have hle:=si b5 λ x hx=>H x (a2 x hx)
    refine⟨_,?_,l++[b],c6,b5,a2,?_,rfl⟩
    ·omega
    ·rw[<- c2];have g3:=(ar.1 hb).1
     have c7:O=O.take j++b::O.drop (j+1):=by
      grind [List.take_append_drop,List.drop_eq_getElem_cons]
     refine(Sa c7 (λ y hy=>?_) λ hr=>c3 ((a6 a7).2 hr)).symm;obtain⟨k,hk⟩:=ba hy;grind
  ·rw[I.fa _ (ix (i:=1) rfl),I.fa _ (ix (i:=1) rfl),I.bI _ (j:=1) (ix (i:=1) rfl) rfl,bH,I.get _ _ _ (ix (i:=0) rfl)];refine⟨rfl,?_⟩;refine XH (w:=v) I (λ x hx=>by have:=H x hx;omega) (by omega) (ix (i:=0) rfl) (ig:=1) rfl (iA:=2) rfl (by rw[G'.xy,tG]) (λ x hx=>?_) (λ x hx hn=>G'.ano x (by rw[tG];exact hx) hn) λ d hd=>⟨rfl,d,rfl,hd⟩
   obtain⟨i,hi⟩:=ba hx;exact⟨i,G'.aat i x hi⟩
 ·rw[Z.fa 1 rfl,Z.fa 1 rfl,Z.bI 1 (j:=1) rfl rfl,bH,Z.get 0 _ _ rfl];refine⟨rfl,?_⟩;exact Vw (ng:=ng) (nA:=nA) (ig:=1) (w:=.nil) H b2 a1 (iO:=0) rfl (i2:=4) rfl λ h' R'=>R'
end Go.Am
namespace Go.Am
open Go Go.Proofs Go.Shelf Go.RowKit
def Rw:Go.Shelf.Ren:=⟨λ|5=>65|8=>88|7=>87|19=>108|20=>109|10=>100|11=>101|12=>102|13=>103|14=>104|15=>105|16=>79|17=>106|18=>107|30=>117|31=>118|32=>119|33=>120|34=>121|35=>90|40=>128|n=>n,λ|23=>41|25=>3|3=>3|32=>79|22=>41|0=>0|44=>38|46=>160|4=>4|36=>153|35=>152|41=>104|5=>5|9=>9|53=>174|57=>178|63=>183|64=>184|n=>n,λ|n=>n⟩
theorem aaU:Go.Proofs.SlLaysM.n5 Tryz.prog Rw where
 mixed:=by kernel_rfl
 f5:=⟨Tryz.f65.name,by decide,Tryz.func65.trans (congrArg some (by kernel_rfl))⟩
 f7:=⟨Tryz.f87.name,by decide,Tryz.func87.trans (congrArg some (by kernel_rfl))⟩
 f8:=Tryz.func88.trans (congrArg some (by kernel_rfl))
 f10:=⟨Tryz.f100.name,by decide,Tryz.func100.trans (congrArg some (by kernel_rfl))⟩
 f11:=⟨Tryz.f101.name,by decide,Tryz.func101.trans (congrArg some (by kernel_rfl))⟩
 f12:=⟨Tryz.f102.name,by decide,Tryz.func102.trans (congrArg some (by kernel_rfl))⟩
 f13:=⟨Tryz.f103.name,by decide,Tryz.func103.trans (congrArg some (by kernel_rfl))⟩
 f14:=⟨Tryz.f104.name,by decide,Tryz.func104.trans (congrArg some (by kernel_rfl))⟩
 f15:=⟨Tryz.f105.name,by decide,Tryz.func105.trans (congrArg some (by kernel_rfl))⟩
 f16:=⟨Tryz.f79.name,by decide,Tryz.func79.trans (congrArg some (by kernel_rfl))⟩
 f17:=⟨Tryz.f106.name,by decide,Tryz.func106.trans (congrArg some (by kernel_rfl))⟩
 f18:=⟨Tryz.f107.name,by decide,Tryz.func107.trans (congrArg some (by kernel_rfl))⟩
 f19:=Tryz.func108.trans (congrArg some (by kernel_rfl))
 f20:=Tryz.func109.trans (congrArg some (by kernel_rfl))
 f30:=⟨Tryz.f117.name,by decide,Tryz.func117.trans (congrArg some (by kernel_rfl))⟩
 f31:=Tryz.func118.trans (congrArg some (by kernel_rfl))
 f32:=Tryz.func119.trans (congrArg some (by kernel_rfl))
 f33:=⟨Tryz.f120.name,by decide,Tryz.func120.trans (congrArg some (by kernel_rfl))⟩
 f34:=⟨Tryz.f121.name,by decide,Tryz.func121.trans (congrArg some (by kernel_rfl))⟩
 f35:=⟨Tryz.f90.name,by decide,Tryz.func90.trans (congrArg some (by kernel_rfl))⟩
 f40:=⟨Tryz.f128.name,by decide,Tryz.func128.trans (congrArg some (by kernel_rfl))⟩
 t0:=Tryz.underlying0
 a0:=Tryz.isAgg0
 z0:=Tryz.sizeOf0
 v0:=Tryz.zeroValue0
 t3:=Tryz.underlying3
 a3:=Tryz.isAgg3
 z3:=Tryz.sizeOf3
 v3:=Tryz.zeroValue3
 t4:=Tryz.underlying4
 a4:=Tryz.isAgg4
 z4:=Tryz.sizeOf4
 v4:=Tryz.zeroValue4
 t5:=Tryz.underlying5
 a5:=Tryz.isAgg5
 z5:=Tryz.sizeOf5
 v5:=Tryz.zeroValue5
 t9:=Tryz.underlying9
 a9:=Tryz.isAgg9
 z9:=Tryz.sizeOf9
 v9:=Tryz.zeroValue9
 t22:=Tryz.underlying41
 a22:=Tryz.isAgg41
 z22:=Tryz.sizeOf41
 v22:=Tryz.zeroValue41
 t23:=Tryz.underlying41
 a23:=Tryz.isAgg41
 z23:=Tryz.sizeOf41
 v23:=Tryz.zeroValue41
 t25:=Tryz.underlying3
 a25:=Tryz.isAgg3
 z25:=Tryz.sizeOf3
 v25:=Tryz.zeroValue3
 t32:=Tryz.underlying79
 a32:=Tryz.isAgg79
 z32:=Tryz.sizeOf79
 v32:=Tryz.zeroValue79
 t35:=Tryz.underlying152
 a35:=Tryz.isAgg152
 z35:=Tryz.sizeOf152
 v35:=Tryz.zeroValue152
 t36:=Tryz.underlying153
 a36:=Tryz.isAgg153
 z36:=Tryz.sizeOf153
 v36:=Tryz.zeroValue153
 t41:=Tryz.underlying104
 a41:=Tryz.isAgg104
 z41:=Tryz.sizeOf104
 v41:=Tryz.zeroValue104
 t44:=Tryz.underlying38
 a44:=Tryz.isAgg38
 z44:=Tryz.sizeOf38
 v44:=Tryz.zeroValue38
 t46:=Tryz.underlying160
 a46:=Tryz.isAgg160
 z46:=Tryz.sizeOf160
 v46:=Tryz.zeroValue160
 t53:=Tryz.underlying174
 a53:=Tryz.isAgg174
 z53:=Tryz.sizeOf174
 v53:=Tryz.zeroValue174
 t57:=Tryz.underlying178
 a57:=Tryz.isAgg178
 z57:=Tryz.sizeOf178
 v57:=Tryz.zeroValue178
 t63:=Tryz.underlying183
 a63:=Tryz.isAgg183
 z63:=Tryz.sizeOf183
 v63:=Tryz.zeroValue183
 t64:=Tryz.underlying184
 a64:=Tryz.isAgg184
 z64:=Tryz.sizeOf184
 v64:=Tryz.zeroValue184
def Si:Go.Shelf.Ren:=⟨λ|20=>114|n=>n,λ|22=>41|3=>3|4=>4|0=>0|n=>n,λ|n=>n⟩
theorem ab6:Go.Proofs.Lays2.n20 Tryz.prog Si where
 mixed:=by kernel_rfl
 f20:=Tryz.func114.trans (congrArg some (by kernel_rfl))
 t0:=Tryz.underlying0
 a0:=Tryz.isAgg0
 z0:=Tryz.sizeOf0
 v0:=Tryz.zeroValue0
 t3:=Tryz.underlying3
 a3:=Tryz.isAgg3
 z3:=Tryz.sizeOf3
 v3:=Tryz.zeroValue3
 t4:=Tryz.underlying4
 a4:=Tryz.isAgg4
 z4:=Tryz.sizeOf4
 v4:=Tryz.zeroValue4
 t22:=Tryz.underlying41
 a22:=Tryz.isAgg41
 z22:=Tryz.sizeOf41
 v22:=Tryz.zeroValue41
 i3:=by kernel_rfl
end Go.Am
namespace Go.Am
open Go Go.Proofs Go.RowKit Go.Sort
theorem Md {ks:List Int}{cur:Array Value}{i:Nat}(hi:i<ks.length) (hs:ks.length<=cur.size):(putCells encI 0 ks.toArray cur).getD i Go.undef=.int .i64 (ks[i]'hi):=by
 have h1:(putCells encI 0 ks.toArray cur)[i]?=some (encI (ks[i]'hi)):=by
  grind [putCells]
 simp[Array.getD_eq_getD_getElem?,h1]
theorem qW {ks:List Int}{cur:Array Value}:(putCells encI 0 ks.toArray cur).size=cur.size:=by simp[putCells]
theorem Qm {c:Ctx}{w w':World}(hp:c.hp=w.heap) (hr:aA c){m g:Nat}{ks ks':List Int}{cur:Array Value}{ty:TypeId}(hm:c.h m=.arr 1 (aQ ks)) (hρ:c.ρ m=some g) (hg:c.hp[g]?=some (Obj.cells cur ty (0,0))) (hsz:ks.length<=cur.size) (hl:ks'.length=ks.length){n:Nat}{os:Array Obj}
  (hw:w'=grow (putRow encI (Sort.ahead w n) g 0 ks'.toArray) os):c.le ⟨c.ρ,c.X,aF c.h m (.arr 1 (aQ ks')),w'.heap⟩/\aA ⟨c.ρ,c.X,aF c.h m (.arr 1 (aQ ks')),w'.heap⟩/\WS w w'/\w'.heap[g]?=some (Obj.cells (putCells encI 0 ks'.toArray cur) ty (0,0)):=by
 have a1:g<c.hp.size:=(Array.getElem?_eq_some_iff.1 hg).1;have G:w'.heap=(w.heap.modify g (onCells (putCells encI 0 ks'.toArray)))++os:=by rw[hw];rfl
 have I:c.hp.size<=w'.heap.size:=by rw[G,hp];simp
 have Q:∀k,k<c.hp.size->k≠g->w'.heap[k]?=c.hp[k]?:=λ k H hne=>by
  grind
 have V:w'.heap[g]?=some (Obj.cells (putCells encI 0 ks'.toArray cur) ty (0,0)):=by
  rw[G,Array.getElem?_append_left (by grind),Array.getElem?_modify,if_pos rfl, <- hp,hg];rfl
 have st:kg c ⟨c.ρ,c.X,aF c.h m (.arr 1 (aQ ks')),w'.heap⟩ m m g:={
  X:=rfl
  hother:=λ k H _=>an _ _ H
  ρother:=λ _ _=>rfl
  hn:=Or.inl rfl
  hm:=λ h=>absurd rfl h
  mine:=by show(aF c.h m _ m).mine;rw[av];trivial
  ρn:=hρ
  tn:=by show Trans (c.h m) (aF c.h m _ m);rw[av,hm];exact .arrArr _ _ _ (by rw[gO,gO];omega)
  T4:=λ _=>hρ
  size:=I
  hp:=Q
  shape:=λ cur' Z fr h=>by grind [qW]
  loop:=λ r h=>by rw[hg]at h;cases h
  from':=Or.inr ⟨by rw[hm];trivial,hρ⟩ }
 refine⟨st.le,st.heap hr ?_,?_,V⟩
 ·show dk _ m (aF c.h m _ m)
  rw[av]
  have hcell:∀i j d,aT (aQ ks') i j=some d->j=0/\∃(k:Int) (hi:i<ks'.length),ks'[i]=k/\d=.int .i64 k:=by
   intro i j d hd;simp only[aT,Option.bind_eq_some_iff,aQ,List.getElem?_map,Option.map_eq_some_iff]at hd;obtain⟨x,⟨k,H,rfl⟩,hx⟩:=hd;obtain⟨hi,H⟩:=ar.1 H
   cases j with
   | zero=>simp[D.cells]at hx;exact⟨rfl,k,hi,H,hx.symm⟩
   | succ j=>simp[D.cells]at hx
  refine⟨Nat.one_pos,λ e he=>?_,λ i j d hd=>?_,Or.inr ⟨g,_,ty,hρ,V,by rw[gO,qW];omega,λ i j d hd=>?_⟩⟩
  ·simp only[aQ,List.mem_map]at he;obtain⟨k,-,rfl⟩:=he;rfl
  ·obtain⟨-,k,-,-,rfl⟩:=hcell i j d hd;rfl
  ·obtain⟨rfl,k,hi,H,rfl⟩:=hcell i j d hd;rw[Nat.mul_one,Nat.add_zero,Md hi (by omega),H];exact .int _ _
 ·rw[hw];exact⟨rfl,rfl,rfl⟩
theorem Qo {c:Ctx}{w:World}(hp:c.hp=w.heap) (hr:aA c){m:Nat}{ks:List Int}(hm:c.h m=.arr 1 (aQ ks)) (h0:1<=ks.length){va:Value}(hv:aB c (.ms m 0 ks.length) va) :
  ∃(g cap:Nat) (cur:Array Value) (ty:TypeId),va=.slice (some ⟨g,0,none⟩) ks.length cap/\c.ρ m=some g/\c.hp[g]?=some (Obj.cells cur ty (0,0))/\ks.length<=cur.size/\ks.length<=cap/\cap<=maxLen/\cap<=cur.size/\Holds encI w g 0 ks.toArray:=by
 have I:=hr.slot m;rw[hm]at I;obtain⟨-,-,-,H⟩:=I;rcases H with⟨-,he⟩|⟨g,cur,ty,q1,Z,q3,q4⟩
 ·have:(aQ ks).length=0:=by rw[he];rfl
  rw[gO]at this;omega
 generalize hn:ks.length=len at hv
 cases hv with
 | msDead _ _ _ _ _ _ hd=>rw[hm]at hd;cases hd
 | msNil _ _ els H hρ=>omega
 | msE _ _ _ _ els H=>omega
 | ms _ _ _ g' a6 cap a7 cur' a8 fr G hρ hl hg a2 hc Q =>
  rw[hm]at G;simp[Slot.row]at G;obtain⟨rfl,rfl⟩:=G;rw[hρ]at q1;cases q1;rw[Z]at hg;cases hg;rw[gO]at q3;refine⟨g,cap,cur,ty,by simp,hρ,Z,by omega,hc,Q,by omega,λ j hj=>?_⟩;have V:j<ks.length:=by simpa using hj
  have a1:j<cur.size:=by omega
  refine⟨?_,?_⟩
  ·rw[pD, <- hp,Nat.zero_add,dC Z a1];have:=q4 j 0 (.int .i64 ks[j]) (by simp[aT,aQ,V,D.cells]);rw[Nat.mul_one,Nat.add_zero]at this;generalize cur.getD j Go.undef=x at this;cases this;simp[V]
  ·simp[World.frozen?, <- hp,Z]
theorem Qz {vals:Array Value}{d:D}{c:Ctx}(hs:vals.size=[d].length) (hrel:∀(i:Nat) (d':D),[d][i]?=some d'->aB c d' (vals.getD i Go.undef)):∃va,vals = #[va]/\aB c d va:=by
 obtain⟨l⟩:=vals
 match l,hs with
 | [x],_=>exact⟨x,rfl,hrel 0 _ rfl⟩
def o7 (ks:List Int):List Int:=ks.mergeSort λ x y=>decide (x<=y)
theorem EX {ks:List Int}:(o7 ks).length=ks.length:=by simp[o7]
theorem aaq {h:Heap}{KH:HKq}{m:Nat}{ks:List Int}(hm:h m=.arr 1 (aQ ks)) (h0:1<=ks.length) (hl:ks.length<=1000000) (hK:KH (.tup []) (aF h m (.arr 1 (aQ (o7 ks))))):ag PP du [.ms m 0 ks.length] h KH:=by
 intro c w vals H hp hr hs hrel;subst H;obtain⟨va,rfl,G⟩:=Qz hs hrel;obtain⟨g,cap,cur,ty,rfl,hρ,hg,h1,h2,h3,h4,I⟩:=Qo hp hr hm h0 G;refine(AnyM.slices_Sort_int aaU g 0 cap ks w I (by rw[<- hp];exact(Array.getElem?_eq_some_iff.1 hg).1) (by omega)).mono ?_;rintro e w' ⟨rfl,n,os,hw⟩;obtain⟨Z,V,Q,-⟩:=Qm (ks':=o7 ks) hp hr hm hρ hg h1 EX hw;exact⟨_,.tup [],c.ρ,_,rfl,Z,V,Q,.tup _ _ rfl (λ i d hd=>by simp at hd),hK⟩
def C7 (ks:List Int):List Int:=Lib.compact ks++List.replicate (ks.length-(Lib.compact ks).length) 0
theorem SJ {h:Heap}{KH:HKq}{m:Nat}{ks:List Int}(hm:h m=.arr 1 (aQ ks)) (h0:1<=ks.length) (hl:ks.length<=1000000) (hc:(Lib.compact ks).length<=ks.length) (hK:KH (.ms m 0 (Lib.compact ks).length) (aF h m (.arr 1 (aQ (C7 ks))))):ag PP cL [.ms m 0 ks.length] h KH:=by
 intro c w vals H hp hr hs hrel;subst H;obtain⟨va,rfl,G⟩:=Qz hs hrel;obtain⟨g,cap,cur,ty,rfl,hρ,hg,h1,h2,h3,h4,I⟩:=Qo hp hr hm h0 G;refine(Any.slices_Compact_int ab6 g 0 cap ks w I (by omega) h2).mono ?_;rintro e w' ⟨rfl,q,hw⟩;have hlen:(C7 ks).length=ks.length:=by simp[C7];omega
 obtain⟨g1,Z,V,Q⟩:=Qm (w':=w') (ks':=C7 ks) (n:=q) (os:= #[]) hp hr hm hρ hg h1 hlen (by rw[grow_empty,hw];rfl);refine⟨_,.ms m 0 (Lib.compact ks).length,c.ρ,_,rfl,g1,Z,V,?_,hK⟩;have:=aB.ms (c:=⟨c.ρ,c.X,aF c.h m (.arr 1 (aQ (C7 ks))),w'.heap⟩) m 0 (Lib.compact ks).length g 1 cap (aQ (C7 ks)) _ ty (0,0) (by show(aF c.h m _ m).row=_;rw[av];rfl) hρ (by rw[gO];omega) Q (by rw[qW];omega) (by omega) h3;simpa using this
end Go.Am
namespace Go.Am
open Go Go.Proofs Go.RowKit
theorem GA {zs:List Int}:(Lib.compact zs).length<=zs.length:=by
 grind [Lib.compact,Lib.compactUpTo]
theorem Lo {zs:List Int}{j:Nat}(h:j<zs.length):(zs.toArray[j]!)=zs[j]:=by simp[h]
theorem Oi {zs:List Int}{x:Int}:x∈Lib.compact zs↔x∈zs:=by
 unfold Lib.compact Lib.compactUpTo;simp only[List.mem_map,List.mem_filter,List.mem_range];constructor
 ·grind
 ·intro hx
  have:∀(j:Nat) (G:j<zs.length),zs[j]=x->∃a,(a<zs.length/\Lib.keeps zs.toArray a=true)/\(zs.toArray[a]!)=x:=by
   intro j
   induction j with
   | zero=>intro G e;exact⟨0,⟨G,by simp[Lib.keeps]⟩,by rw[Lo G,e]⟩
   | succ j H =>
    intro G e;by_cases h:zs[j]=x
    ·exact H (by omega) h
    ·refine⟨j+1,⟨G,?_⟩,by rw[Lo G,e]⟩;grind [Lib.keeps]
  grind [List.mem_iff_getElem]
theorem Oj {zs:List Int}(h:zs.Pairwise (· <= ·)):(Lib.compact zs).Pairwise (· < ·):=by
 unfold Lib.compact Lib.compactUpTo;rw[List.pairwise_map];have h1:((List.range zs.length).filter (Lib.keeps zs.toArray)).Pairwise (· < ·):=List.Pairwise.filter _ List.pairwise_lt_range;refine List.Pairwise.imp_of_mem ?_ h1;intro a b ha hb H;simp only[List.mem_filter,List.mem_range]at ha hb;rw[Lo ha.1,Lo hb.1];have G:=hb.2;unfold Lib.keeps at G;rw[decide_eq_true_eq,Lo hb.1,Lo (by omega)]at G;have hne:=G.resolve_left (by omega);have hp:=List.pairwise_iff_getElem.1 h;have h2:zs[b-1]'(by omega)<=zs[b]:=hp (b-1) b (by omega) hb.1 (by omega)
 have h3:zs[a]<=zs[b-1]'(by omega):=by
  by_cases e:a=b-1
  ·subst e;exact Int.le_refl _
  ·exact hp a (b-1) ha.1 (by omega) (by omega)
 grind
theorem O7 {ks:List Int}:(o7 ks).Perm ks:=List.mergeSort_perm _ _
theorem Tl {ks:List Int}:(o7 ks).Pairwise (· <= ·):=by
 grind [List.pairwise_mergeSort,o7]
def O9 (ks:List Int):List Int:=Lib.compact (o7 ks)
theorem Tv {ks:List Int}{x:Int}:x∈O9 ks↔x∈ks:=by rw[O9,Oi,O7.mem_iff]
theorem Tx {ks:List Int}:(O9 ks).Pairwise (· < ·):=Oj Tl
theorem Tw {ks:List Int}:(O9 ks).length<=ks.length:=Nat.le_trans GA (by grind [EX])
end Go.Am
namespace Go.Am
open Go Go.Proofs
def WL (nk pb pu pl nU n:Nat) (s:LSt) (B:dT) (cur:Nat) (lv:D) (M:LSq):LSq:=(nk,.lp s B)::(pb,.box (nD cur))::(pu,.box (.ms nU 0 n))::(pl,.box lv)::M
section
variable {h:Heap}{M:LSq}{nk pb pu pl nU n pUv pA iv iU iA cur a w:Nat}{B:dT}{lv:D}{T:List Nat}{U:List Int}{K:HKq}
theorem TP (hv:M[iv]?=some (pUv,.box (.ms nU 0 n))) (hU:M[iU]?=some (nU,.arr 1 (aQ U))) (hA:M[iA]?=some (pA,.box (nD a))) (hUn:U.length=n) (hw:U[a]?=some (w:Int)) (hT:T.length<=1000000) (q:QD h (WL nk pb pu pl nU n .ready B cur lv M) lv (aR T))
  {z1 z3 z4 z24 z25 z26 z47 z48 z49:D}(h1:cur=w->∀h',QD h' (WL nk pb pu pl nU n (.done (.exit 4)) B cur lv M) lv (aR T)->K (.bool false) h') (h2:cur≠w->∀h' lv',QD h' (WL nk pb pu pl nU n .ready B cur lv' M) lv' (aR (T++[cur]))->K (.bool true) h') :
  mm nk B (nD cur) z1 z3 z4 (.ptr pUv 0 0) (.ptr pA 0 0) (.ptr pl 0 0) z24 z25 z26 z47 z48 z49 h K:=by
 dsimp only[mm,xI,xL,xS];have V:=q.vs;refine⟨rfl,V.get 0 _ _ rfl,?_⟩;have I:QD (aF h nk (.lp .busy B)) (WL nk pb pu pl nU n .busy B cur lv M) lv (aR T):=q.bK 0 rfl (by simp);have G:=I.vs;have Q:∀{s:LSt}{lv:D}{i:Nat}{x:Nat×Slot},M[i]?=some x->(WL nk pb pu pl nU n s B cur lv M)[i+4]?=some x:=λ hi=>by simpa[WL] using hi
 have ha:=(ar.1 hw).1;rw[G.Im _ (Q hv) rfl,G.Im _ (Q hA) rfl,nD,G.ia _ (Q hU) (by omega) (by omega),aE,G.yQ _ (Q hU) (mD hw) rfl,nD,bq];by_cases hc:cur=w
 ·rw[decide_eq_true (by omega),af];refine⟨G.get 0 _ _ rfl,h1 hc _ ?_⟩;exact I.bK 0 rfl (by simp)
 ·rw[decide_eq_false (by omega),ae]
  have H:lv.one=true:=by
   rcases I with⟨rfl,-,-⟩|⟨m,rfl,-⟩<;>rfl
  rw[G.Im 3 rfl H];refine I.push aI rfl (by rw[bk];omega) (by rw[bk];omega) λ lv' a1 q2=>?_
  have e2:aR T++[nD cur]=aR (T++[cur]):=by simp[aR]
  have e3:aR T++[D.int .i64 (cur:Int)]=aR (T++[cur]):=by simp[aR,nD]
  rw[e3]at q2;rcases q2 with⟨-,h0,-⟩|⟨m,rfl,V2⟩
  ·simp[aR]at h0
  refine V2.M9 4 rfl H rfl λ h3 Z=>?_
  simp only[WL,List.set_cons_succ,List.set_cons_zero]at Z;refine⟨Z.get 1 _ _ rfl,h2 hc _ (.ms m 0 (aR (T++[cur])).length) ?_⟩;have q3:QD h3 (WL nk pb pu pl nU n .busy B cur (.ms m 0 (aR (T++[cur])).length) M) (.ms m 0 (aR (T++[cur])).length) (aR (T++[cur])):=Or.inr ⟨m,rfl,Z⟩;exact q3.bK 0 rfl (by simp)
end
inductive VI (r:Nat) (up:Nat->Option Nat) (w:Nat):Nat->List Nat->Prop
 | stop:VI r up w w []
 | top {b:Nat}(h:b≠w) (hu:up b=some b):VI r up w b [b]
 | step {b y:Nat}{l:List Nat}(h:b≠w) (hy:up b=some y) (hb:y≠b) (k:VI r up w y l):VI r up w b (b::l)
section
variable {h:Heap}{M:LSq}{nk pb pu pl nU n pUv pA iv iU iA a w r:Nat}{U:List Int}{O:List Nat}{B:dT}
theorem VV {P:Program}{A:(D->Prop)->Prop}{K:D->Prop}:ai (.bool false) true A K=K gU:=by
 rw[fI];simp
theorem YS {P:Program}{A:(D->Prop)->Prop}{K:D->Prop}:ai (.bool true) true A K=A K:=by
 rw[fI];simp
theorem Z5:fF PP kS=true:=by kernel_rfl
theorem aak (hv:M[iv]?=some (pUv,.box (.ms nU 0 n))) (hU:M[iU]?=some (nU,.arr 1 (aQ U))) (hA:M[iA]?=some (pA,.box (nD a))) (hUn:U.length=n) (hn:n<=1000) (hw:U[a]?=some (w:Int)) (T:Tr r (yM O) (· ∈ O) (upF U)) (hr0:yM O r=0)
  {to:Nat}(hto:upF U to≠none) {T0:List Nat}(hT:T0.length<=1000) (hOn:yM O to<=1000) {lv:D}(q:QD h (WL nk pb pu pl nU n .ready B to lv M) lv (aR T0)) {z1 z3 z4 z24 z25 z26 z47 z48 z49:D}{KH:HKq}
  (hps:B.ps=[56]) (hAs:OW PP mv B.nt B.assign) (hBs:OW PP mu B.nt B.body) (hlt:∀p,p∈[56]->p<B.nt) (he:B.env=LEnv.get [(1,z1),(3,z3),(4,z4),(5,.ptr pUv 0 0),(6,.ptr pA 0 0),(9,.ptr pl 0 0),(24,z24),(25,z25),(26,z26),(47,z47),(48,z48),(49,z49)])
  (hK:∀(s:LSt) (cur:Nat) (lv':D) (l:List Nat) (h':Heap),VI r (upF U) w to l->(s=.ready\/s=.done (.exit 4))->QD h' (WL nk pb pu pl nU n s B cur lv' M) lv' (aR (T0++l))->KH (.tup []) h') :
  ag PP kS [.yld nk,.ptr pb 0 0,.ptr pu 0 0] h KH:=by
 refine aY EE (aG _ _ _) rfl (DP _ _ _ _) ?_;dsimp only[x5,qD,xI,xL,xS,yI,yL,yP]
 refine⟨λ m Q h'=>∃(cur:Nat) (lv:D) (l:List Nat),Q=[]/\m=yM O cur/\upF U cur≠none/\l.length+yM O cur<=yM O to/\(∀l',VI r (upF U) w cur l'->VI r (upF U) w to (l++l'))/\QD h' (WL nk pb pu pl nU n .ready B cur lv M) lv (aR (T0++l)),_,
  ⟨to,lv,[],rfl,rfl,hto,by simp,λ l' k=>k,by rw[List.append_nil];exact q⟩,?_⟩
 rintro m f h7 ⟨cur,lv,l,-,hm,a7,hl,G,q7⟩;have V7:=q7.vs;have ix:∀{s:LSt}{cur:Nat}{lv:D}{i:Nat}{x:Nat×Slot},M[i]?=some x->(WL nk pb pu pl nU n s B cur lv M)[i+4]?=some x:=λ hi=>by simpa[WL] using hi
 rw[V7.JE 1 rfl rfl,Up];refine⟨⟨_,_,V7.get 0 _ _ rfl⟩,?_⟩;refine Df (e:=[(1,z1),(3,z3),(4,z4),(5,.ptr pUv 0 0),(6,.ptr pA 0 0),(9,.ptr pl 0 0),(24,z24),(25,z25),(26,z26),(47,z47),(48,z48),(49,z49)]) (V7.get 0 _ _ rfl) hps hAs hBs (by simp) hlt rfl he ?_;rw[show([Arg.c (nD cur)].map λ x=>x.get [])=[nD cur] from rfl, <- zq];refine TP hv hU hA hUn hw (by simp;omega) q7 (λ hc h' Q=>?_) λ hc h' lv' Q=>?_
 ·
  subst hc;have hs:=G [] .stop;rw[List.append_nil]at hs;have Z:=hK _ _ _ l h' hs (Or.inr rfl) Q;simp only[VV (P:=PP),jL,cq,aC,if_false];rw[ae];exact Z
 ·obtain⟨y,hy⟩:∃y,upF U cur=some y:=by
   grind [upF]
  have I:=rV hy;have a8:=(ar.1 I).1;have H:=Q.vs;simp only[YS (P:=PP),↓H.JE 2 rfl rfl,↓H.JE 1 rfl rfl,nD,↓H.Bw _ (ix hU) (show(0:Int)<=(cur:Int) by omega) (show(cur:Int)<(n:Int) by omega),aE,↓H.Fy _ (ix hU) (mD I) rfl,kA,jL,cq,if_true];by_cases V:y=cur
  ·subst V;rw[decide_eq_true rfl];simp only[Bool.not_true];rw[ae];have hs:=G [y] (.top hc hy);grind
  ·rw[decide_eq_false (by omega)];simp only[Bool.not_false];rw[af,H.Im 2 rfl rfl,H.Im 1 rfl rfl,nD,H.ia _ (ix hU) (by omega) (by omega),aE,H.yQ _ (ix hU) (mD I) rfl]
   have a2:cur≠r:=by
    rintro rfl;have:=T.rt;grind
   have a6:=T.lt cur y hy a2;rcases Q with⟨-,h0,-⟩|⟨m',rfl,V2⟩
   ·simp[aR]at h0
   refine V2.M9 2 rfl rfl rfl λ b1 a1=>?_
   simp only[WL,List.set_cons_succ,List.set_cons_zero]at a1;simp only[aa,true_and];refine⟨yM O y,by omega,y,.ms m' 0 (aR ((T0++l)++[cur])).length,l++[cur],rfl,(T.nd cur y hy).2,by simp;omega,λ l' k=>?_,Or.inr ⟨m',by rw[List.append_assoc],?_⟩⟩
   ·rw[List.append_assoc];exact G _ (.step hc hy V k)
   ·rw[<- List.append_assoc];exact a1
end
end Go.Am
namespace Go.Am
open Go Go.Proofs
section
variable {r:Nat}{A:Nat->Nat}{node:Nat->Prop}{up:Nat->Option Nat}{w:Nat}
theorem VI.mem (T:Tr r A node up){b:Nat}{l:List Nat}(s:VI r up w b l) (hw:Ch r up b w){x:Nat}:x∈l↔Ch r up b x/\¬Ch r up w x:=by
 induction s with
 | stop=>simp
 | @top b h hu =>
  exfalso
  cases hw with
  | refl _=>exact h rfl
  | step hr hy k =>
   have:=T.lt b b hu hr;omega
 | @step b y l h hy hb k Q =>
  have I:b≠r:=by
   rintro rfl;have:=T.rt;grind
  have G:Ch r up y w:=by
   cases hw with
   | refl _=>exact absurd rfl h
   | step hr H k'=>grind
  rw[List.mem_cons,Q G];constructor
  ·rintro (rfl|⟨h1,h2⟩)
   ·exact⟨.refl _,λ k'=>h (hw.PU T k').symm⟩
   ·exact⟨.step I hy h1,h2⟩
  ·rintro⟨h1,h2⟩
   cases h1 with
   | refl _=>exact Or.inl rfl
   | step hr H k'=>grind
theorem VI.len (T:Tr r A node up){b:Nat}{l:List Nat}(s:VI r up w b l):l.length<=A b+1:=by
 induction s with
 | stop=>simp
 | top h hu=>simp
 | @step b y l h hy hb k H =>
  have G:b≠r:=by
   rintro rfl;have:=T.rt;grind
  have:=T.lt b y hy G;grind
end
section
variable {h:Heap}{L:LSq}{v:D}{Bs:List (List Nat)}{KH:HKq}
theorem iL.split (q:iL h L v Bs):∃X,Vs h (X++L)/\LR X v Bs/\∀h' L',Vs h' (X++L')->iL h' L' v Bs:=by
 obtain⟨G,els,W,nm,rfl,V,R⟩:=q;refine⟨(G,.arr 1 els)::W,V,Or.inr ⟨G,els,rfl,by simp,R.len,λ b e l he hl=>?_⟩,λ h' L' H=>⟨G,els,W,nm,rfl,H,R⟩⟩;refine⟨R.one e (ak he),?_⟩;rcases R.el b l hl with⟨h1,h2⟩|⟨-,h2,h3⟩
 ·rw[he]at h2;cases h2;exact Or.inl ⟨rfl,h1⟩
 ·rw[he]at h2;cases h2;exact Or.inr (Or.inr ⟨_,rfl,by simp[h3]⟩)
theorem iL.take (q:iL h L v Bs){b x:Nat}{l:List Nat}(hb:Bs[b]?=some l):∃(nB:Nat) (els:List D) (W0:LSq) (e:D),v=.ms nB 0 Bs.length/\els.length=Bs.length/\(∀y∈els,y.one=true)/\els[b]?=some e/\QD h ((nB,.arr 1 els)::(W0++L)) e (aR l) /\
  ∀h' m,Vs h' ((m,.arr 1 (aR (l++[x])))::(nB,.arr 1 (els.set b (.ms m 0 (l.length+1))))::(W0++L))->iL h' L v (Bs.set b (l++[x])):=by
 obtain⟨nB,els,W,nm,rfl,V,R⟩:=q;have a1:=(ar.1 hb).1;obtain⟨e,he⟩:∃e,els[b]?=some e:=⟨els[b]'(by rw[R.len];exact a1),aq _⟩
 have hx:∃W0,QD h ((nB,.arr 1 els)::(W0++L)) e (aR l)/\∀(b':Nat) (l':List Nat),b'≠b->Bs[b']?=some l'->l'≠[]->(nm b',.arr 1 (aR l'))∈W0:=by
  rcases R.el b l hb with⟨h1,h2⟩|⟨h0,h2,h3⟩
  ·rw[he]at h2;cases h2;subst h1;refine⟨W,Or.inl ⟨rfl,rfl,V⟩,λ b' l' hne G H=>?_⟩;rcases R.el b' l' G with⟨I,-⟩|⟨-,-,g3⟩
   ·exact absurd I H
   ·exact g3
  ·rw[he]at h2;cases h2;obtain⟨S,T,rfl⟩:=List.append_of_mem h3;refine⟨S++T,Or.inr ⟨nm b,by rw[bk],V.perm ?_⟩,λ b' l' hne G H=>?_⟩
   ·grind [List.perm_middle]
   ·rcases R.el b' l' G with⟨I,-⟩|⟨-,-,g3⟩
    ·exact absurd I H
    ·have a7:nm b'≠nm b:=λ e=>hne (R.inj b' b l' l G hb H h0 e)
     grind
 obtain⟨W0,Q,a6⟩:=hx;have b3:b<els.length:=by rw[R.len];exact a1
 refine⟨nB,els,W0,e,rfl,R.len,R.one,he,Q,λ h' m V'=>⟨nB,els.set b (.ms m 0 (l.length+1)),(m,.arr 1 (aR (l++[x])))::W0,λ y=>if y=b then m else nm y,by simp,V'.swap,?_⟩⟩
 have a8:∀s,(m,s)∉W0:=by
  grind [Vs.iff]
 refine⟨by simp[R.len],λ b' l' G=>?_,λ b1 b2 l1 l2 h1 h2 n1 n2 Z=>?_⟩
 ·rw[List.getElem?_set]at G ⊢;by_cases a2:b=b'
  ·grind
  ·rw[if_neg a2]at G ⊢;rw[if_neg (λ e=>a2 e.symm)];rcases R.el b' l' G with⟨I,g2⟩|⟨I,g2,g3⟩
   ·exact Or.inl ⟨I,g2⟩
   grind
 ·have key:∀(b':Nat) (l':List Nat),b'≠b->(Bs.set b (l++[x]))[b']?=some l'->l'≠[]->nm b'≠m:=λ b' l' hne G hn e=>by
   grind
  by_cases e1:b1=b
  ·grind
  ·by_cases e2:b2=b
   ·grind
   ·simp only[if_neg e1,if_neg e2]at Z;rw[List.getElem?_set,if_neg (λ e=>e1 e.symm)]at h1;rw[List.getElem?_set,if_neg (λ e=>e2 e.symm)]at h2;exact R.inj b1 b2 l1 l2 h1 h2 n1 n2 Z
end
end Go.Am
namespace Go.Am
open Go Go.Proofs
theorem ZR {c:Code}{h:Heap}{L:LSq}{v:D}{Bs:List (List Nat)}{m n2 pA a im i2 iA:Nat}{row:List D}{S:List Nat}{a13 a17 a26 a28:D}{f:Nat->D}{J:HJq}(R:iL h L v Bs) (hBs:Bs.length=c.b.length) (hm:L[im]?=some (m,.arr 1 row)) (hrow:∀(i b:Nat),S[i]?=some b->row[i]?=some (nD b))
  (h2:L[i2]?=some (n2,.box c.e)) (hA:L[iA]?=some (pA,.box (nD a))) (hS:S.length<=10000) (hlen:∀b,(gL Bs b).length<=10000) (hN:c.b.length<=1000) (hJ:∀h',iL h' L v (S.foldl (lM a) Bs)->J [] h') :
  iK h (.int .i64 (S.length:Int)) (.ptr n2 0 0) v a13 a17 (.ptr pA 0 0) a26 a28 f (.ms m 0 S.length) J:=by
 dsimp only[iK,xF,xI,xL,xS,yI,yL];refine⟨λ k q h'=>∃i:Nat,q=[nD i]/\i<=S.length/\k=S.length-i/\(∀b,(gL ((S.take i).foldl (lM a) Bs) b).length<=10000+i)/\iL h' L v ((S.take i).foldl (lM a) Bs),_,⟨0,rfl,by omega,rfl,by simpa using hlen,R⟩,?_⟩;rintro k g h1 ⟨i,hq,hi,hk,a8,R1⟩;simp only[ah,and_true]at hq;simp only[hq,nD];by_cases a1:i<S.length
 ·rw[fY (by omega),af];obtain⟨b,hb⟩:∃b,S[i]?=some b:=⟨S[i],aq a1⟩;have V1:=R1.vs
  let G:=(S.take i).foldl (lM a) Bs
  have a7:G.length=c.b.length:=by grind [sD]
  have I:(S.take (i+1)).foldl (lM a) Bs=lM a G b:=by
   grind [List.take_add_one]
  have H:∀y,(gL (lM a G b) y).length<=10000+(i+1):=λ y=>by
   grind [Ir,lM,List.set_eq_of_length_le]
  refine⟨λ _ h'=>iL h' L v (lM a G b),λ f' h' R'=>?_,?_⟩
  ·rw[bB (by omega) (by omega)];simp only[aa,true_and];exact⟨_,by omega,i+1,rfl,by omega,rfl,by rw[I];exact H,by rw[I];exact R'⟩
  rw[V1.ia im hm (by omega) (by omega),aE,V1.yQ im hm (hrow i b hb) rfl,V1.fa i2 h2,V1.bI i2 (j:=7) h2 rfl,bD,aH,nD];by_cases a6:b<c.b.length
  ·rw[fY (by omega),af];have V:G[b]?=some (gL G b):=by grind [gL]
   obtain⟨nB,els,W0,e,rfl,a2,hone,he,Q,fin⟩:=iL.take (x:=a) R1 V;have V2:=Q.vs
   have ix:∀{els:List D}{i:Nat}{x:Nat×Slot},L[i]?=some x->((nB,Slot.arr 1 els)::(W0++L))[W0.length+i+1]?=some x:=λ hi=>by
    grind
   have Z:((S.take i).foldl (lM a) Bs).length=c.b.length:=a7;simp only[↓V2.Bw 0 rfl (show(0:Int)<=(b:Int) by omega) (show(b:Int)<(((S.take i).foldl (lM a) Bs).length:Int) by omega),aE,↓V2.Fy 0 rfl he (hone e (ak he)),↓V2.JE _ (ix hA) rfl];refine Px ?_;refine Q.XR aI rfl (by grind [bk]) (by grind [bk]) λ v' h' Q'=>?_
   have e2:aR (gL G b)++[nD a]=aR (gL G b++[a]):=by simp[aR]
   rw[e2]at Q';rcases Q' with⟨-,h0,-⟩|⟨m',rfl,V'⟩
   ·simp[aR]at h0
   simp only[↓V'.Bw 1 rfl (show(0:Int)<=(b:Int) by omega) (show(b:Int)<(((S.take i).foldl (lM a) Bs).length:Int) by omega),aE,aa,true_and];refine V'.wA 1 rfl (by rw[a2,Z];exact a6) rfl hone λ h3 V3=>?_
   simp only[List.set_cons_succ,List.set_cons_zero]at V3;simp only[↓V3.Bw 1 rfl (show(0:Int)<=(b:Int) by omega) (show(b:Int)<(((S.take i).foldl (lM a) Bs).length:Int) by omega),aE,aa,true_and];have:=fin h3 m' (by rw[bk,List.length_append]at V3;exact V3);exact this
  grind [fU,ae,aa,lM,List.set_eq_of_length_le]
 grind [fU,ae,aa]
end Go.Am
namespace Go.Am
open Go Go.Proofs
section
variable {h:Heap}{L:LSq}{v:D}{T:List D}{KH:HKq}
theorem QD.more (q:QD h L v T){n:Nat}(hn:h n=.free){s:Slot}(hs:s≠.free):QD (aF h n s) ((n,s)::L) v T:=by
 rcases q with⟨rfl,rfl,V⟩|⟨m,rfl,V⟩
 ·exact Or.inl ⟨rfl,rfl,V.push hn hs⟩
 ·exact Or.inr ⟨m,rfl,(V.push hn hs).swap⟩
theorem QD.less {x:Nat×Slot}(q:QD h (x::L) v T):QD h L v T:=by
 rcases q with⟨rfl,rfl,V⟩|⟨m,rfl,V⟩
 ·exact Or.inl ⟨rfl,rfl,V.pop⟩
 ·exact Or.inr ⟨m,rfl,V.swap.pop⟩
theorem QD.box (q:QD h L v T){d:D}(hd:d.one=true) (hK:∀n h',QD h' ((n,.box d)::L) v T->KH (.ptr n 0 0) h'):ab PP (.box (.c d)) h KH:=by
 rw[Jy];exact⟨λ x hx=>by grind [jW],λ n t=>hK n _ (q.more t.free (by simp))⟩
end
section
variable {h:Heap}{M:LSq}{pl nU n pUv pA iv iU iA a w r:Nat}{U:List Int}{O ts:List Nat}{lv:D}
theorem UP (hv:M[iv]?=some (pUv,.box (.ms nU 0 n))) (hU:M[iU]?=some (nU,.arr 1 (aQ U))) (hA:M[iA]?=some (pA,.box (nD a))) (hUn:U.length=n) (hn:n<=1000) (hw:U[a]?=some (w:Int)) (T:Tr r (yM O) (· ∈ O) (upF U)) (hr0:yM O r=0) (hOl:O.length<=400)
  (hts:∀t∈ts,upF U t≠none/\Ch r (upF U) t w) (htl:ts.length<=2) (q:QD h ((pl,.box lv)::M) lv []) {a2 a9 a13 a26 a28:D}{f:Nat->D}{J:HJq}{K:HKq}
  (hJ:∀(lv':D) (l:List Nat) (h':Heap),l.length<=802->(∀x,x∈l ↔ ∃t,t∈ts/\Ch r (upF U) t x/\¬Ch r (upF U) w x)->QD h' ((pl,.box lv')::M) lv' (aR l)->J [] h') :
  mq h (.int .i64 (ts.length:Int)) a2 a9 a13 (.ptr pUv 0 0) (.ptr pA 0 0) (.ptr pl 0 0) a26 a28 f (.sl (aR ts)) J K:=by
 have V:∀x,yM O x<=400:=λ x=>Nat.le_trans List.idxOf_le_length hOl
 dsimp only[mq,xI,xL];refine⟨λ k q' h'=>∃(j:Nat) (lv:D) (l:List Nat),q'=[nD j]/\j<=ts.length/\k=ts.length-j/\l.length<=401*j/\(∀x,x∈l ↔ ∃t,t∈ts.take j/\Ch r (upF U) t x/\¬Ch r (upF U) w x)/\QD h' ((pl,.box lv)::M) lv (aR l),_,⟨0,lv,[],rfl,by omega,rfl,by simp,by simp,q⟩,?_⟩;rintro k g h1 ⟨j,Q,l,hq,hj,hk,hl,Z,q1⟩;simp only[ah,and_true]at hq;simp only[hq,nD];by_cases b4:j<ts.length
 ·rw[fY (by omega),af];obtain⟨to,I⟩:∃to,ts[j]?=some to:=⟨ts[j],aq b4⟩;have G:=ak I;have a7:ts.take (j+1)=ts.take j++[to]:=by rw[List.take_add_one,I];rfl
  refine⟨λ _ h'=>∃(lv:D) (l:List Nat),l.length<=401*(j+1)/\(∀x,x∈l ↔ ∃t,t∈ts.take (j+1)/\Ch r (upF U) t x/\¬Ch r (upF U) w x)/\QD h' ((pl,.box lv)::M) lv (aR l),?_,?_⟩
  ·rintro f' h' ⟨a6,l2,b1,b2,b3⟩;rw[bB (by omega) (by omega)];simp only[aa,true_and];exact⟨_,by omega,j+1,a6,l2,rfl,by omega,rfl,b1,b2,b3⟩
  have V1:=q1.vs;refine T8 I ?_;rw[V1.Im (iv+1) (by simpa using hv) rfl];refine aY Kp (aG _ _ _) rfl (J8 _ _ _) ?_;dsimp only[GJ,xB];refine q1.box rfl λ pu h4 q4=>?_
  refine q4.box rfl λ pb h6 q6=>?_
  rw[NT];refine⟨rfl,Z5,λ nk B ht he a8 _ a1 b7 b5=>?_⟩;have q7:QD (aF h6 nk (.lp .ready B)) (WL nk pb pu pl nU n .ready B to Q M) Q (aR l):=q6.more ht.free (by simp);refine aak hv hU hA hUn hn hw T hr0 (hts to G).1 (by omega) (by have:=V to;omega) q7 a8 b7 b5 a1 he λ s cur lv' l' h' H hs q8=>?_
  have V8:=q8.vs;have c0:h' nk=.lp s B:=V8.get 0 _ _ rfl;have q9:QD (aF h' nk .dead) ((pl,.box lv')::M) lv' (aR (l++l')):=(q8.bK 0 rfl (by simp)).less.less.less
  have c1:∃(lv:D) (l:List Nat),l.length<=401*(j+1)/\(∀x,x∈l ↔ ∃t,t∈ts.take (j+1)/\Ch r (upF U) t x/\¬Ch r (upF U) w x)/\QD (aF h' nk .dead) ((pl,.box lv)::M) lv (aR l):=by
   refine⟨lv',l++l',?_,λ x=>?_,q9⟩
   ·have h1:=H.len T;grind
   ·rw[List.mem_append,Z,H.mem T (hts to G).2,a7];grind
  grind [lW,aa]
 grind [fU,ae,aa]
end
end Go.Am
namespace Go.Am
open Go Go.Proofs
theorem Rt {t:Term}{x y:Nat}(h:bf t=[x,y]) (h0:0<=t.to0) (h1:0<=t.to1):x≠y:=by
 grind [bf]
noncomputable def pB (c:Code) (O O':List Nat):Nat->List Nat:=preB (EH (rO (gI c) O c.b.length (ec c O)) O' (c.b.length+1))
structure AN (c:Code) (O O':List Nat) (at' U:List Int):Prop where
 b:YR c O O' at'
 u:acx c.b.length O' (EH (rO (gI c) O c.b.length (ec c O)) O' (c.b.length+1)) (c.b.length+1) U
def Sd (c:Code) (O O':List Nat) (a b:Nat):Prop:=a∈O/\(edg c a).length=2/\(∃t,t∈edg c a/\Dm c.b.length (pB c O O') b t)/\(b=a\/¬Dm c.b.length (pB c O O') b a)
section
variable {c:Code}{O O':List Nat}{at' U:List Int}
theorem AN.rO (hc:bp c) (D:AN c O O' at' U):∀l,l∈Go.Am.rO (gI c) O c.b.length (ec c O)->(∀x∈l,x<c.b.length+1)/\l.length<=1000 :=
 O5 hc D.b.lt D.b.sub (by have:=D.b.len.2;omega) D.b.len.1
theorem AN.mem (hc:bp c) (D:AN c O O' at' U){a:Nat}(ha:a<c.b.length):a∈O'↔a∈O:=by
 refine⟨λ h=>?_,D.b.all a⟩
 have:Path (gL (Go.Am.rO (gI c) O c.b.length (ec c O))) c.b.length a->a=c.b.length\/a∈O:=λ h=>by
  cases h with
  | refl=>exact Or.inl rfl
  | @step x _ _ e =>
   rw[Bt]at e;split at e
   ·rw[lg (kZ hc)]at e;exact Or.inr e.1
   ·split at e
    ·exact Or.inr (D.b.sub _ e)
    ·cases e
 rcases this (D.b.g.path.1 h) with e|h
 ·omega
 ·exact h
theorem AN.pre (hc:bp c) (D:AN c O O' at' U){a t:Nat}(ha:a∈O) (ht:t∈edg c a):t∈pB c O O' a/\t∈O':=by
 have a2:=D.b.lt a ha
 have I:t∈O:=by
  obtain⟨S,Z⟩:=D.b.ord;have G:=zt.gr (at':=(List.range c.b.length).map λ x=>if x∈O then((yM O x:Nat):Int) else -1) (kZ hc) cM (by omega) ⟨S,Z⟩ (by simp) (λ i x hx=>?_) (λ x hx hn=>?_)
  ·refine G.cl a t ha ?_;grind [gI]
  ·have Q:=ak hx;have a1:=D.b.lt x Q
   have nd:O.Nodup:=by
    obtain⟨m,h1,e⟩:=Z;obtain⟨N,e2,F⟩:=h1.spec (n:=c.b.length) (λ p b=>qk (kZ hc)) (λ x=>qk (kZ hc)) (by simp)
    have e3:O=0::N:=by
     grind
    rw[e3];refine List.nodup_cons.2 ⟨λ h=>?_,F.nd⟩;have h2:=(F.new 0 h).1;grind [bJ]
   grind [A7]
  grind
 have H:=D.b.all t I;have V:=D.b.lt t I;refine⟨?_,H⟩
 have:t∈gL (EH (Go.Am.rO (gI c) O c.b.length (ec c O)) O' (c.b.length+1)) a:=by
  rw[lg (D.rO hc)];refine⟨H,?_⟩;rw[Bt,if_pos V,lg (kZ hc),nj];exact⟨ha,ht⟩
 exact this
theorem AN.up (hc:bp c) (D:AN c O O' at' U){a:Nat}(ha:a∈O):∃w,upF U a=some w/\(∀t,t∈edg c a->upF U t≠none/\Ch c.b.length (upF U) t w)/\∀x,Ch c.b.length (upF U) w x↔Ch c.b.length (upF U) a x/\x≠a:=by
 have V:=D.b.lt a ha;have H:a≠c.b.length:=by omega
 have G:=D.b.all a ha
 obtain⟨w,hw⟩:∃w,upF U a=some w:=by
  cases hy:upF U a with
  | none=>exact absurd hy (D.u.al a G)
  | some y=>exact⟨y,rfl⟩
 have Q:=D.u.tr.lt a w hw H;have hne:w≠a:=by rintro rfl;omega
 have I:Ch c.b.length (upF U) a w:=.step H hw (.refl _);refine⟨w,hw,λ t ht=>?_,λ x=>?_⟩
 ·obtain⟨h1,h2⟩:=D.pre hc ha ht;refine⟨D.u.al t h2,(D.u.ch t w h2).2 ?_⟩;exact Pt ((D.u.ch a w G).1 I) h1 hne.symm
 ·constructor
  ·intro h;refine⟨.step H hw h,?_⟩;rintro rfl;rcases h.le D.u.tr with e|h
   ·exact hne e.symm
   ·omega
  ·rintro⟨h1,h2⟩
   cases h1 with
   | refl _=>exact absurd rfl h2
   | step _ hy k=>grind
theorem AN.dep (hc:bp c) (D:AN c O O' at' U){a w b:Nat}(ha:a∈O) (h2:(edg c a).length=2) (hw:upF U a=some w):(∃t,t∈edg c a/\Ch c.b.length (upF U) t b/\¬Ch c.b.length (upF U) w b)↔Sd c O O' a b:=by
 obtain⟨w',G,-,hx⟩:=D.up hc ha;rw[hw]at G;cases G;have Q:=D.b.all a ha;have I:∀{t:Nat},t∈edg c a->(Ch c.b.length (upF U) t b↔Dm c.b.length (pB c O O') b t):=λ ht=>D.u.ch _ _ (D.pre hc ha ht).2
 have H:¬Ch c.b.length (upF U) w b↔(b=a\/¬Dm c.b.length (pB c O O') b a):=by
  rw[hx,D.u.ch a b Q];constructor
  ·intro h;by_cases e:b=a
   ·exact Or.inl e
   ·exact Or.inr λ k=>h ⟨k,e⟩
  ·rintro (e|h) ⟨Z,V⟩
   ·exact V e
   ·exact h Z
 constructor
 ·rintro⟨t,ht,h3,h4⟩;exact⟨ha,h2,⟨t,ht,(I ht).1 h3⟩,H.1 h4⟩
 ·rintro⟨-,-,⟨t,ht,h3⟩,h4⟩;exact⟨t,ht,(I ht).2 h3,H.2 h4⟩
end
end Go.Am
namespace Go.Am
open Go Go.Proofs
noncomputable def rj (c:Code) (O O':List Nat) (k:Nat):List (List Nat):=(List.range c.b.length).map λ b=>Mp k λ a=>Sd c O O' a b
theorem sx {c:Code}{O O':List Nat}{k:Nat}:(rj c O O' k).length=c.b.length:=by simp[rj]
theorem Ip {c:Code}{O O':List Nat}{k b:Nat}(hb:b<c.b.length):gL (rj c O O' k) b=Mp k λ a=>Sd c O O' a b:=by
 grind [gL,rj]
theorem NK {k:Nat}{p:Nat->Prop}:(p k->Mp (k+1) p=Mp k p++[k])/\(¬p k->Mp (k+1) p=Mp k p):=by
 grind [Mp,List.range_succ]
theorem NX {p b:Nat}:∀{S:List Nat}{Bs:List (List Nat)},S.Nodup->b<Bs.length->gL (S.foldl (lM p) Bs) b=if b∈S then gL Bs b++[p] else gL Bs b
 | [],_,_,_=>by simp
 | s::S,Bs,hn,hb=>by
  rw[List.nodup_cons]at hn;rw[List.foldl_cons,NX hn.2 (by rw[Dl];exact hb)];grind [lM,Ir,List.set_eq_of_length_le]
theorem pz {A B:List (List Nat)}(hl:A.length=B.length) (h:∀b,b<A.length->gL A b=gL B b):A=B:=by
 grind [List.ext_getElem,gL]
theorem ZS {c:Code}{O O':List Nat}:rj c O O' 0=List.replicate c.b.length []:=by
 refine pz (by simp[sx]) λ b hb=>?_
 rw[sx]at hb;rw[Ip hb];unfold gL;rw[List.getElem?_replicate,if_pos hb];rfl
theorem Lw {c:Code}{O O':List Nat}{k:Nat}(h:∀b,¬Sd c O O' k b):rj c O O' (k+1)=rj c O O' k:=by
 grind [pz,sx,Ip,NK]
theorem UQ {c:Code}{O O' S:List Nat}{k:Nat}(hS:S.Nodup) (h:∀b,b∈S↔Sd c O O' k b):S.foldl (lM k) (rj c O O' k)=rj c O O' (k+1):=by
 grind [pz,sD,sx,NX,Ip,NK]
theorem Wj {l:List Nat}:∃S:List Nat,O9 (l.map λ n:Nat=>(n:Int))=S.map (λ n:Nat=>(n:Int))/\S.Pairwise (· < ·)/\∀x,x∈S↔x∈l:=by
 have hm:=λ x=>Tv (ks:=l.map λ n:Nat=>(n:Int)) (x:=x)
 have hi:=Tx (ks:=l.map λ n:Nat=>(n:Int));generalize O9 (l.map λ n:Nat=>(n:Int))=Z at hm hi
 have G:∀x∈Z,0<=x:=λ x hx=>by
  grind
 refine⟨Z.map Int.toNat,?_,?_,λ x=>?_⟩
 ·rw[List.map_map]
  have:Z.map ((λ n:Nat=>(n:Int)) ∘ Int.toNat)=Z.map id:=List.map_congr_left λ x hx=>by
   grind
  rw[this,List.map_id]
 ·rw[List.pairwise_map];refine hi.imp_of_mem λ ha hb H=>?_
  grind
 ·rw[List.mem_map];constructor
  ·grind
  ·intro hx;exact⟨(x:Int),(hm _).2 (List.mem_map.2 ⟨x,hx,rfl⟩),by simp⟩
end Go.Am
namespace Go.Am
open Go Go.Proofs
theorem S6 {P:Program}{A:(D->Prop)->Prop}{K:D->Prop}:ai (.bool true) false A K=K gU:=by
 rw[fI];simp
theorem VU {P:Program}{A:(D->Prop)->Prop}{K:D->Prop}:ai (.bool false) false A K=A K:=by
 rw[fI];simp
section
variable {h:Heap}{L:LSq}{v:D}{Bs:List (List Nat)}{KH:HKq}
theorem iL.sub {L':LSq}(s:L'.Sublist L) (q:iL h L v Bs):iL h L' v Bs:=by
 obtain⟨X,V,-,lift⟩:=q.split;exact lift h L' (V.sub (List.Sublist.append (.refl X) s))
theorem XX {m n:Nat}{l:List Nat}(V:Vs h ((m,.arr 1 (aR l))::L)) (hn:n=l.length) (h0:1<=l.length) (hl:l.length<=100000) (hK:∀h',Vs h' ((m,.arr 1 (aQ (o7 (l.map λ n:Nat=>(n:Int)))))::L)->KH (.tup []) h'):ag PP du [.ms m 0 n] h KH:=by
 have hm:=V.get 0 _ _ rfl;rw[Yq]at hm;have:=aaq (KH:=KH) hm (by grind) (by rw[aH];omega) (hK _ (V.bK 0 rfl (by simp)));grind
theorem X5 {m n:Nat}{ks:List Int}(V:Vs h ((m,.arr 1 (aQ ks))::L)) (hn:n=ks.length) (h0:1<=ks.length) (hl:ks.length<=100000) (hK:∀h',Vs h' ((m,.arr 1 (aQ (C7 ks)))::L)->KH (.ms m 0 (Lib.compact ks).length) h'):ag PP cL [.ms m 0 n] h KH:=by
 rw[hn];exact SJ (V.get 0 _ _ rfl) h0 (by omega) GA (hK _ (V.bK 0 rfl (by simp)))
end
section
variable {c:Code}{O O':List Nat}{at' U:List Int}{h:Heap}{L:LSq}{v:D}{K:HKq}
theorem Xi (hc:bp c){a pl pbk pA n2 i2:Nat}{X:LSq}{tb:D}{lv:D}{l:List Nat}(hl:l.length<=802) (hl0:1<=l.length) (hmem:∀x,x∈l↔Sd c O O' a x) (h2:L[i2]?=some (n2,.box c.e)) (ha:a<=20)
  (q:QD h ((pl,.box lv)::(pbk,.box tb)::(pA,.box (nD a))::(X++L)) lv (aR l)) (lift:∀h' L',Vs h' (X++L')->iL h' L' v (rj c O O' a)) {a13 a17 a26 a28:D}{f:Nat->D}{J:HJq}(hJ:∀h',iL h' L v (rj c O O' (a+1))->J [] h') :
  ab PP (.ld (.c (.ptr pl 0 0)) 1 false) h λ a80 h81 =>
  ag PP du [a80] h81 λ a82 h83 =>
  ab PP (.ld (.c (.ptr pl 0 0)) 1 false) h83 λ a84 h85 =>
  ag PP cL [a84] h85 λ a86 h87 =>
  aM a86 h87 λ a88 =>
  iK h87 a88 (.ptr n2 0 0) v a13 a17 (.ptr pA 0 0) a26 a28 f a86 J:=by
 have a6:=hc.nb;rcases q with⟨-,h0,-⟩|⟨m,rfl,V⟩
 ·grind [bk]
 rw[V.Im 1 rfl rfl];refine XX V bk hl0 (by omega) λ h83 I=>?_
 rw[I.Im 1 rfl rfl];have Q:(o7 (l.map λ n:Nat=>(n:Int))).length=l.length:=by rw[EX,aH]
 refine X5 I (by rw[bk,Q]) (by omega) (by omega) λ h87 H=>?_
 obtain⟨S,hS,G,Z⟩:=Wj (l:=l)
 have a1:(Lib.compact (o7 (l.map λ n:Nat=>(n:Int)))).length=S.length:=by
  grind [O9]
 have a2:S.length<=l.length:=by
  grind [Tw]
 rw[bH,H.get 0 _ _ rfl];refine⟨rfl,?_⟩;rw[a1];have R:=lift h87 ((m,.arr 1 (aQ (C7 (o7 (l.map λ n:Nat=>(n:Int))))))::(pl,.box (.ms m 0 (aR l).length))::(pbk,.box tb)::(pA,.box (nD a))::L) (H.perm (List.perm_append_comm_assoc [_,_,_,_] X L));refine ZR (im:=0) (i2:=i2+4) (iA:=3) R sx rfl (λ i b hb=>?_) (by simpa using h2) rfl (by omega) (λ b=>?_) (by omega) λ h' R'=>?_
 ·have e:C7 (o7 (l.map λ n:Nat=>(n:Int)))=(S.map λ n:Nat=>(n:Int))++List.replicate ((o7 (l.map λ n:Nat=>(n:Int))).length-(Lib.compact (o7 (l.map λ n:Nat=>(n:Int)))).length) 0:=by
   rw[<- hS];rfl
  rw[e];have hi:=(ar.1 hb).1;simp only[aQ,List.getElem?_map];rw[List.getElem?_append_left (by simpa using hi),List.getElem?_map,hb];rfl
 ·grind [Ip,oM,gL,sx]
 ·rw[UQ (G.imp λ h=>by omega) λ b=>by rw[Z,hmem]]at R';refine hJ h' (R'.sub ?_);grind
end
end Go.Am
namespace Go.Am
open Go Go.Proofs
theorem Th {N:Nat}{R:Int}{t:Term}(h:zr N R t){x y:Nat}(he:bf t=[x,y]):x≠y:=by
 cases h with
 | branch o a b ho h1 h2=>grind [Rt]
 | _=>simp[bf]at he
section
variable {c:Code}{O O':List Nat}{at' U:List Int}{h:Heap}{L:LSq}{v:D}{K:HKq}
theorem Xj (hc:bp c) (G:AN c O O' at' U){n2 nU nA nO ng pUv i2 iU ig iA iv:Nat}{w0:D}(h2:L[i2]?=some (n2,.box c.e)) (hv:L[iv]?=some (pUv,.box (.ms nU 0 (c.b.length+1)))) (hU:L[iU]?=some (nU,.arr 1 (aQ U))) (hg:L[ig]?=some (ng,QK w0 nO O'.length nA (c.b.length+1))) (hA:L[iA]?=some (nA,.arr 1 (aQ at')))
  (R:iL h L v (rj c O O' 0)) {J:HJq}(hJ:∀h',iL h' L v (rj c O O' c.b.length)->J [] h') :
  mo h (.int .i64 (c.b.length:Int)) (.ptr n2 0 0) v (.ptr ng 0 0) (.ptr pUv 0 0) (.sl (c.b.map Block.e)) J K:=by
 have e0:=hc.nb;dsimp only[mo,xF,xI,xL,xS,yF,yI,yL,yP];refine⟨λ m q h'=>∃a:Nat,q=[nD a]/\a<=c.b.length/\m=c.b.length-a/\iL h' L v (rj c O O' a),_,⟨0,rfl,by omega,rfl,R⟩,?_⟩;rintro m f e9 ⟨a,hq,ha,hm,R1⟩;simp only[ah,and_true]at hq;simp only[hq,nD];by_cases a2:a<c.b.length
 ·rw[fY (by omega),af];obtain⟨B,hB⟩:∃B,c.b[a]?=some B:=⟨c.b[a],aq a2⟩;have c0:=hc.t B (ak hB);refine⟨λ _ h'=>iL h' L v (rj c O O' (a+1)),λ f' h' R'=>?_,?_⟩
  ·rw[bB (by omega) (by omega)];simp only[aa,true_and];exact⟨_,by omega,a+1,rfl,by omega,rfl,R'⟩
  obtain⟨X,V,-,lift⟩:=R1.split;rw[rE hB,show B.e=.agg (.sl (B.i.map bj.e)::B.t.cs) from rfl,NM (s:=14) rfl];refine V.alloc λ pA e8 c8=>?_
  refine c8.alloc λ c2 e7 c7=>?_
  refine c7.M9 1 rfl rfl rfl λ e6 c1=>?_
  simp only[List.set_cons_succ,List.set_cons_zero]at c1;refine c1.mY 0 rfl rfl rfl (λ x hx=>B.b9.one x hx) λ a6 I=>?_
  simp only[List.set_cons_zero]at I;rw[I.fa 0 rfl,RK (I.get 0 _ _ rfl) (by show 0+1+13<=14;omega)];have eT:((D.sl (B.i.map bj.e)::B.t.cs).drop (0+1)).take 13=B.t.cs:=rfl;rw[eT];refine aW (JP c0) (λ d hd=>by simp at hd;subst hd;exact B.t.b9.pair) ?_;rintro _ rfl;rw[<- jr hB]
  let M:LSq:=(c2,.box (.agg (.sl (B.i.map bj.e)::B.t.cs)))::(pA,.box (.int .i64 (a:Int)))::(X++L)
  have ix:∀{i:Nat}{x:Nat×Slot},L[i]?=some x->M[X.length+i+2]?=some x:=λ hi=>by
   grind
  have Z:Vs a6 M:=I;have back:∀h',Vs h' M->iL h' L v (rj c O O' a):=λ h' V'=>lift h' L V'.pop.pop
  obtain⟨k,hk,b7⟩:∃k:Int,at'[a]?=some k/\(a∈O'->0<=k)/\(a∉O'->k<0):=by
   by_cases H:a∈O'
   ·obtain⟨i,hi⟩:=ba H;exact⟨_,G.b.g.aat i a hi,λ _=>by omega,λ h=>absurd H h⟩
   ·exact⟨_,G.b.g.ano a (by rw[tG];omega) H,λ h=>absurd h H,λ _=>by omega⟩
  have e3:at'.length=c.b.length+1:=by rw[G.b.g.xy,tG]
  simp only[Z.lH _ (ix hg),Z.gw _ (j:=2) (ix hg) rfl,Z.JE 1 rfl rfl,Z.Bw _ (ix hA) (show(0:Int)<=(a:Int) by omega) (show(a:Int)<((c.b.length+1:Nat):Int) by omega),aE,Z.Fy _ (ix hA) (mD hk) rfl];by_cases H:a∈O'
  ·rw[fU (b7.1 H)];simp only[VU (P:=PP),po,jL,cq,aC,if_false,kA];have Q:a∈O:=(G.mem hc a2).1 H;by_cases hlen:(edg c a).length=2
   ·rw[decide_eq_true (by omega)];simp only[Bool.not_true];rw[ae];obtain⟨w,hw,a1,hx⟩:=G.up hc Q;refine Z.alloc λ pl e5 c6=>?_
    have b4:∀x,(∃t,t∈edg c a/\Ch c.b.length (upF U) t x/\¬Ch c.b.length (upF U) w x)↔Sd c O O' a x:=λ x=>G.dep hc Q hlen hw
    have hne:∀l:List Nat,(∀x,x∈l ↔ ∃t,t∈edg c a/\Ch c.b.length (upF U) t x/\¬Ch c.b.length (upF U) w x)->1<=l.length:=λ l hl=>by
     have he:=jr hB
     match hs:edg c a,hlen with
     | [x,y],_ =>
      rw[hs]at he;have c4:=Th c0 he.symm;have a8:x∈edg c a:=by rw[hs];simp
      have a7:y∈edg c a:=by rw[hs];simp
      have:∃t,t∈edg c a/\¬Ch c.b.length (upF U) w t:=by
       by_cases h1:Ch c.b.length (upF U) w x
       ·refine⟨y,a7,λ h2=>c4 ?_⟩;have e1:=h1.PU G.u.tr (a1 x a8).2;have e2:=h2.PU G.u.tr (a1 y a7).2;rw[e1,e2]
       ·exact⟨x,a8,h1⟩
      obtain⟨t,ht,hn⟩:=this;have:t∈l:=(hl t).2 ⟨t,ht,.refl _,hn⟩;grind
    refine⟨λ _ h'=>∃(lv:D) (l:List Nat),l.length<=802/\(∀x,x∈l ↔ ∃t,t∈edg c a/\Ch c.b.length (upF U) t x/\¬Ch c.b.length (upF U) w x)/\QD h' ((pl,.box lv)::M) lv (aR l),?_,?_⟩
    ·rintro f2 e4 ⟨lv,l,c5,b5,q⟩;exact Xi hc c5 (hne l b5) (λ x=>(b5 x).trans (b4 x)) h2 (by omega) q lift λ h' R'=>R'
    ·refine UP (iv:=X.length+iv+2) (iU:=X.length+iU+2) (iA:=1) (r:=c.b.length) (O:=O') (ix hv) (ix hU) rfl G.u.len (by omega) (rV hw) G.u.tr G.b.g.dg.zero ?_ a1 (by omega) (Or.inl ⟨rfl,rfl,c6⟩) λ c3 l h' b1 b2 b3=>⟨c3,l,b1,b2,b3⟩
     have:O'.length<=c.b.length+1:=si G.b.g.nd λ x hx=>by have:=G.b.g.lt x hx;rwa [tG]at this
     omega
   ·rw[decide_eq_false (by omega)];simp only[Bool.not_false];rw[af];simp only[aa,true_and];rw[Lw λ b hb=>hlen hb.2.1];exact back a6 Z
  ·rw[fY (b7.2 H)];simp only[S6 (P:=PP),jL,cq,if_true];rw[af];simp only[aa,true_and];rw[Lw λ b hb=>H ((G.mem hc a2).2 hb.1)];exact back a6 Z
 ·have:a=c.b.length:=by omega
  subst this;rw[fU (by omega),ae];grind [aa]
end
end Go.Am
namespace Go.Am
open Go Go.Proofs
theorem LQ {c:Code}(hc:bp c){h:Heap}{L:LSq}{KH:HKq}(V:Vs h L) (hK:∀v h' O O' at' U,AN c O O' at' U->iL h' L v (rj c O O' c.b.length)->KH v h'):ag PP re [c.e] h KH:=by
 have b2:=hc.nb;refine aY Ge (aG _ _ _) rfl (FU _ _) ?_;dsimp only[Ad,xB,xF,xL,xS];refine V.box c.b9.one λ n2 h3 V1=>?_
 simp only[↓V1.fa 0 rfl,Nat.zero_add,↓V1.bI 0 (j:=7) rfl rfl,bD,aH];refine V1.SQ (by omega) (by omega) λ nB I a8=>?_
 have b1:=iL.mk0 a8;obtain⟨X,Z,-,lift⟩:=b1.split
 have ix:((X++(n2,Slot.box c.e)::L))[X.length+0]?=some (n2,.box c.e):=by
  grind
 rw[show ab PP (.ld (.c (.ptr n2 0 0)) 8 true) I=λ KH=>KH c.e I from funext λ KH=>Z.fV _ ix rfl];refine aap hc Z λ ng nO nA O O' at' X' w0 b5 H a7 wE=>?_
 refine acu (ig:=1) (iO:=0) (iA:=2) (O5 hc H.lt H.sub (by have:=H.len.2;omega) H.len.1) a7 rfl rfl rfl (wE.mono λ x hx=>by simp[hx]) tG (by omega) H.g λ nU U b4 a6 UR=>?_
 refine a6.alloc λ pUv b3 a2=>?_
 refine a2.M9 0 rfl rfl rfl λ G Q=>?_
 simp only[List.set_cons_zero]at Q;have D0:AN c O O' at' U:=⟨H,UR⟩
 let L5:LSq:=(pUv,.box (.ms nU 0 (c.b.length+1)))::(nU,.arr 1 (aQ U))::(ng,QK w0 nO O'.length nA (c.b.length+1))::(nA,.arr 1 (aQ at'))::(n2,.box c.e)::L
 have a1:Vs G ([(pUv,Slot.box (.ms nU 0 (c.b.length+1))),(nU,.arr 1 (aQ U)),(ng,QK w0 nO O'.length nA (c.b.length+1)),(nA,.arr 1 (aQ at'))]++(X++(n2,.box c.e)::L)):=by
  refine Q.sub ?_;exact .cons_cons _ (.cons_cons _ (.cons _ (.cons_cons _ (.cons_cons _ (List.sublist_append_right X' _)))))
 have R:iL G L5 (.ms nB 0 c.b.length) (rj c O O' 0):=by
  rw[ZS];exact lift G L5 (a1.perm (List.perm_append_comm_assoc _ X _))
 refine⟨λ _ h'=>iL h' L5 (.ms nB 0 c.b.length) (rj c O O' c.b.length),λ f h' R'=>hK _ h' O O' at' U D0 (R'.sub ?_),?_⟩
 ·exact .cons _ (.cons _ (.cons _ (.cons _ (.cons _ (.refl _)))))
 have VL:=R.vs;rw[VL.fa 4 rfl,VL.bI 4 (j:=7) rfl rfl,bD,aH];exact Xj hc D0 (i2:=4) (iv:=0) (iU:=1) (ig:=2) (iA:=3) rfl rfl rfl rfl rfl R λ h' R'=>R'
end Go.Am
namespace Go.Am
open Go Go.Proofs
theorem Xv {h:Heap}{L:LSq}{KH:HKq}{m:Nat}{els:List D}{f:FuncId}{d1 r:D}(V:Vs h ((m,.arr 1 els)::L)) (hv:aK PP f [.sl els,d1] (· = r)) (hd:kx d1) (he:∀x∈els,∀y∈x.cells,y.vone=true) (hfl:r.flat=true) (hK:KH r h):ag PP f [.ms m 0 els.length,d1] h KH:=by
 have hn:=V.get 0 _ _ rfl;have G:(h m).row=some (1,els):=by rw[hn];rfl
 have I:(D.ms m 0 els.length).fz h=.sl els:=by simp[D.fz,D.fzc,G]
 have Q:[D.ms m 0 els.length,d1].map (D.fz h)=[.sl els,d1]:=by rw[List.map_cons,I,List.map_cons,(jj hd.vd).1];rfl
 refine ag.mono ?_ (dQ (K:=(· = r)) (by rw[Q];exact hv) (λ d H=>?_))
 ·grind
 ·simp only[List.mem_cons,List.not_mem_nil,or_false]at H;rcases H with rfl|rfl
  ·refine⟨by simp,?_,by rw[I];rfl⟩;intro x hx;simp only[D.cells,List.mem_singleton]at hx;subst hx;exact⟨1,els,G,by simp,λ x hx y hy=>he x (by simpa using hx) y hy⟩
  ·exact⟨hd.one,(jj hd.vd).2.2,by rw[(jj hd.vd).1];exact hd.vd⟩
theorem QV.three {h:Heap}{L:LSq}(V:Vs h L){z:D}{i j k:Int}{KH:HKq}(hK:∀m h',Vs h' ((m,.arr 1 (aQ [i,j,k]))::L)->KH (.ms m 0 3) h'):ab PP (.bldS true 1 3 z [(0,.c (.int .i64 i)),(1,.c (.int .i64 j)),(2,.c (.int .i64 k))]) h KH:=by
 refine⟨λ p hp=>?_,λ G p hp=>?_,λ n t=>?_⟩
 ·simp[Arg.get]at hp;rcases hp with rfl|rfl|rfl
  ·exact⟨by show 0<3;omega,rfl,aI.one⟩
  ·exact⟨by show 1<3;omega,rfl,aI.one⟩
  ·exact⟨by show 2<3;omega,rfl,aI.one⟩
 ·simp[Arg.get]at hp;rcases hp with rfl|rfl|rfl<;>(intro x hx;simp[D.cells]at hx;subst hx;trivial)
 ·have:KH (.ms n 0 3) (aF h n (.arr 1 (aQ [i,j,k]))):=hK _ _ (V.push t.free (by simp));simpa[Arg.get,setEls,D.fz,D.fzc,D.nm,D.lG,aQ,Heap.freezeAll,List.replicate] using this
def fy (x:bj):Bool:= !(decide (x.op=1)||decide (x.op=2)||decide (x.op=3)||decide (x.op=4)||decide (x.op=6)||(decide (x.op=5)&&(decide (x.sub=3)||decide (x.sub=4)||decide (x.sub=5))))
theorem U9 {x:bj}:aK PP lZ [x.e] (· = .bool (fy x)):=by
 refine aZ zu (aG _ _ _) rfl (zi _ _) ?_;dsimp only[sE,xB,xF,xL];refine Vs.nil.box x.b9.one λ n2 h3 V=>?_
 rw[V.fa 0 rfl,V.bI 0 (j:=0) rfl rfl];refine⟨λ q h'=>h'=h3/\∃t:Bool,q=[.bool t]/\t=(decide (x.op=1)||decide (x.op=2)||decide (x.op=3)||decide (x.op=4)||decide (x.op=6)),?_,?_⟩
 ·rintro f h' ⟨e,t,I,ht⟩;subst e;simp only[ah,and_true]at I;rw[I]
  cases t with
  | true =>
   grind [af,bb,fy]
  | false =>
   rw[ae,bq];by_cases Q:x.op=5
   ·rw[decide_eq_true Q,af];refine QV.three V λ m Z G=>?_
    rw[G.fa 1 rfl,G.bI 1 (j:=1) rfl rfl];refine Xv G (mI (l:=[3,4,5]) (k:=x.sub) (by simp)) aI (λ y hy w hw=>by simp only[aQ,List.mem_map]at hy;obtain⟨k,-,rfl⟩:=hy;simp[D.cells]at hw;subst hw;rfl) rfl ?_;grind [cw,bb,fy]
   grind [ae,bb,fy]
 ·simp only[bq,aa,true_and];by_cases h1:x.op=1
  ·grind [af]
  rw[decide_eq_false h1,ae];by_cases h2:x.op=2
  ·grind [af]
  rw[decide_eq_false h2,ae];by_cases H:x.op=3
  ·grind [af]
  rw[decide_eq_false H,ae];by_cases h4:x.op=4
  ·grind [af]
  grind [ae]
end Go.Am
namespace Go.Am
open Go Go.Proofs
def QE (esz:Nat) (h:Heap) (L:LSq) (v:D) (T:List D):Prop :=
 (v=.nil/\T=[]/\Vs h L)\/∃m,v=.ms m 0 T.length/\Vs h ((m,.arr esz T)::L)
section
variable {esz:Nat}{h:Heap}{L:LSq}{v:D}{T:List D}{KH:HKq}
theorem QE.vs (q:QE esz h L v T):Vs h L:=by
 rcases q with⟨-,-,V⟩|⟨m,-,V⟩
 ·exact V
 ·exact V.pop
theorem QE.bK (q:QE esz h L v T) (i:Nat){n:Nat}{s s':Slot}(hi:L[i]?=some (n,s)) (hs:s'≠.free):QE esz (aF h n s') (L.set i (n,s')) v T:=by
 rcases q with⟨rfl,rfl,V⟩|⟨m,rfl,V⟩
 ·exact Or.inl ⟨rfl,rfl,V.bK i hi hs⟩
 ·exact Or.inr ⟨m,rfl,by have:=V.bK (i+1) (n:=n) (s:=s) (by simpa using hi) hs;simpa using this⟩
theorem QE.more (q:QE esz h L v T){n:Nat}(hn:h n=.free){s:Slot}(hs:s≠.free):QE esz (aF h n s) ((n,s)::L) v T:=by
 rcases q with⟨rfl,rfl,V⟩|⟨m,rfl,V⟩
 ·exact Or.inl ⟨rfl,rfl,V.push hn hs⟩
 ·exact Or.inr ⟨m,rfl,(V.push hn hs).swap⟩
theorem QE.less {x:Nat×Slot}(q:QE esz h (x::L) v T):QE esz h L v T:=by
 rcases q with⟨rfl,rfl,V⟩|⟨m,rfl,V⟩
 ·exact Or.inl ⟨rfl,rfl,V.pop⟩
 ·exact Or.inr ⟨m,rfl,V.swap.pop⟩
theorem QE.push (q:QE esz h L v T){d z z':D}{bytes:Nat}(hd:kx d) (hc:d.cells.length=esz) (hb:(T.length+1)*bytes<=140737488355328) (hl:T.length+1<=9223372036854775807)
  (hK:∀v h',QE esz h' L v (T++[d])->KH v h'):ab PP (.bldS true esz 1 z [(0,.c d)]) h λ x h1=>ab PP (.app (.c v) (.c x) esz bytes z') h1 KH:=by
 have hlen:T.length+1=(T++[d]).length:=by simp
 rcases q with⟨rfl,rfl,V⟩|⟨m,rfl,V⟩
 ·refine Fs (els:=[]) (Or.inl ⟨rfl,rfl⟩) hd hc hb hl λ m h' hm G I=>hK _ _ (Or.inr ⟨m,rfl,?_⟩)
  grind [D.lG,Vs.iff]
 ·refine Fs (els:=T) (Or.inr ⟨m,rfl,V.get 0 _ _ rfl⟩) hd hc hb hl λ H h' hm G I=>hK _ _ (Or.inr ⟨H,by rw[hlen],?_⟩)
  grind [D.lG,Vs.iff]
end
section
variable {esz:Nat}{h:Heap}{L:LSq}{v:D}{T:List D}{KH:HKq}
theorem QE.alloc (q:QE esz h L v T){d:D}(hK:∀n h',QE esz h' ((n,.box d)::L) v T->KH (.ptr n 0 0) h'):ab PP (.alloc d) h KH:=by
 rw[gP];exact λ n t=>hK n _ (q.more t.free (by simp))
theorem QE.mY {n s:Nat}{cs cs':List D}(q:QE esz h ((n,.box (.agg cs))::L) v T) (hl:cs.length=s) (hl':cs'.length=s) (ho:∀x,x∈cs'->x.one=true) (hK:∀h',QE esz h' ((n,.box (.agg cs'))::L) v T->KH .undef h'):ab PP (.st (.c (.ptr n 0 0)) (.c (.agg cs')) s) h KH:=by
 rcases q with⟨rfl,rfl,V⟩|⟨m,rfl,V⟩
 ·exact V.mY 0 rfl hl hl' ho λ h' G=>hK h' (Or.inl ⟨rfl,rfl,G⟩)
 ·exact V.mY 1 rfl hl hl' ho λ h' G=>hK h' (Or.inr ⟨m,rfl,G⟩)
theorem Vs.abt (V:Vs h L) (i:Nat){n j s:Nat}{els cs:List D}(hi:L[i]?=some (n,.arr s els)) (hd:els[j]?=some (.agg cs)) (hl:cs.length=s):ab PP (.ld (.c (.ptr n j 0)) s true) h KH=KH (.agg cs) h:=by
 rw[zh,V.get i _ _ hi];grind [mw,D.cells]
end
structure Fa where
 rG:Bool
 n:Int
def Fa.e (f:Fa):D:=.agg [.bool f.rG,.int .i64 f.n]
theorem Fa.b9 (f:Fa):kx f.e:=bw (by simp)
def de (l:List dn):List Fa:=(l.filter λ o=>decide (o.kind=2)).map λ o=>⟨false,o.n⟩
theorem Vv {n:Int}{h:Heap}{KH:HKq}:ab PP (.bld [(.bool false),(.int .i64 0)] [(1,1,(.c (.int .i64 n)))]) h KH=KH (Fa.e ⟨false,n⟩) h:=by
 rw[nX];apply propext;constructor
 ·exact λ H=>H.2
 ·refine λ G=>⟨λ p hp=>?_,G⟩
  simp[Arg.get]at hp;subst hp;exact⟨rfl,by show 1+1<=2;omega,λ d hd=>by simp[D.cells]at hd;subst hd;rfl⟩
theorem OO {l:List dn}{h:Heap}{L:LSq}{KH:HKq}{m:Nat}(V:Vs h ((m,.arr 3 (l.map dn.e))::L)) (hl:l.length<=100) (hK:∀v h',QE 2 h' ((m,.arr 3 (l.map dn.e))::L) v ((de l).map Fa.e)->KH v h'):ag PP dq [.ms m 0 l.length] h KH:=by
 refine aY lE (aG _ _ _) rfl (ll _ _) ?_;unfold jd;refine⟨λ q h'=>∃v,q=[v]/\QE 2 h' ((m,.arr 3 (l.map dn.e))::L) v ((de l).map Fa.e),?_,?_⟩
 ·grind
 rw[bH,V.get 0 _ _ rfl];refine⟨rfl,?_⟩;dsimp only[gj,xF,xI,xL,xS];refine⟨λ k q h'=>∃(i:Nat) (v:D),q=[v,nD i]/\i<=l.length/\k=l.length-i/\QE 2 h' ((m,.arr 3 (l.map dn.e))::L) v ((de (l.take i)).map Fa.e),_,⟨0,.nil,rfl,by omega,rfl,Or.inl ⟨rfl,rfl,V⟩⟩,?_⟩;rintro k f h1 ⟨i,v,hq,hi,hk,q⟩;simp only[ah,and_true]at hq;obtain⟨q1,q2⟩:=hq;simp only[q1,q2,nD];by_cases a2:i<l.length
 ·rw[fY (by omega),af];obtain⟨o,ho⟩:∃o,l[i]?=some o:=⟨l[i],aq a2⟩;have a6:l.take (i+1)=l.take i++[o]:=by rw[List.take_add_one,ho];rfl
  refine⟨λ Z h'=>∃v,Z=[v]/\QE 2 h' ((m,.arr 3 (l.map dn.e))::L) v ((de (l.take (i+1))).map Fa.e),?_,?_⟩
  ·rintro f' h' ⟨v',I,Z⟩;simp only[ah,and_true]at I;rw[I,bB (by omega) (by omega)];simp only[aa,true_and];exact⟨_,by omega,i+1,v',rfl,by omega,rfl,Z⟩
  have V1:=q.vs;rw[V1.ia 0 rfl (by omega) (by omega),aE,V1.abt 0 rfl (j:=i) (cs:=o.cs) (by simp[ho,dn.e]) rfl];refine q.alloc λ n19 a8 a1=>?_
  refine a1.mY rfl rfl (λ x hx=>o.b9.one x hx) λ a7 H=>?_
  have G:=H.vs;rw[G.fa 0 rfl,G.bI 0 (j:=0) rfl rfl,bq];by_cases Q:o.kind=2
  ·rw[decide_eq_true Q,af,G.fa 0 rfl,G.bI 0 (j:=1) rfl rfl,Vv];refine H.less.push (Fa.b9 _) rfl ?_ ?_ λ v' h' Z=>?_
   ·grind [de]
   ·grind [de]
   grind [aa,de]
  ·rw[decide_eq_false Q,ae];simp only[aa,true_and];refine⟨v,rfl,?_⟩
   have:(de (l.take (i+1))).map Fa.e=(de (l.take i)).map Fa.e:=by
    grind [de]
   rw[this];exact H.less
 grind [fU,ae,aa]
end Go.Am
namespace Go.Am
open Go Go.Proofs
def eh (o:dn):Int:=if o.kind=2 then o.n else -1
theorem Ve {o:dn}:aK PP tS [o.e] (· = .int .i64 (eh o)):=by
 refine aZ KW (aG _ _ _) rfl (KT _ _) ?_;dsimp only[J9,xB,xF,xL];refine Vs.nil.box o.b9.one λ n2 h3 V=>?_
 rw[V.fa 0 rfl,V.bI 0 (j:=0) rfl rfl,kA];unfold eh;by_cases G:o.kind=2
 ·rw[decide_eq_true G,Bool.not_true,ae,V.fa 0 rfl,V.bI 0 (j:=1) rfl rfl,bC,if_pos G]
 grind [af,bC]
theorem adl {P:Program}{h:Heap}{KH:HKq}{n:Nat}{x:Term}(a:h n=.box x.e):ab P (.ld (.c (.ptr n 0 2)) 3 true) h KH=KH x.d.e h:=RK a (by simp[Term.cs])
theorem abu {P:Program}{h:Heap}{KH:HKq}{n:Nat}{x:bj}(a:h n=.box x.e):ab P (.ld (.c (.ptr n 0 3)) 3 true) h KH=KH x.d.e h:=RK a (by simp[bj.cs])
theorem Z9 {x:bj}:aK PP Bb [x.e] (· = .int .i64 (eh x.d)):=by
 refine aZ KX (aG _ _ _) rfl (KU _ _) ?_;dsimp only[Kc,xB,xF,xL];refine Vs.nil.box x.b9.one λ n2 h3 V=>?_
 rw[V.fa 0 rfl,abu (V.get 0 _ _ rfl)];refine aW Ve (λ d hd=>by simp at hd;subst hd;exact x.d.b9.pair) ?_;rintro _ rfl;rw[bC]
theorem XC {x:Term}:aK PP wY [x.e] (· = .int .i64 (eh x.d)):=by
 refine aZ Ks (aG _ _ _) rfl (Kb _ _) ?_;dsimp only[GL,xB,xF,xL];refine Vs.nil.box x.b9.one λ n2 h3 V=>?_
 rw[V.fa 0 rfl,adl (V.get 0 _ _ rfl)];refine aW Ve (λ d hd=>by simp at hd;subst hd;exact x.d.b9.pair) ?_;rintro _ rfl;rw[bC]
theorem M1 {l:List dn}{h:Heap}{L:LSq}{KH:HKq}(V:Vs h L) (hl:l.length<=100) (hK:∀v h',QE 2 h' L v ((de l).map Fa.e)->KH v h'):ag PP dq [.sl (l.map dn.e)] h KH:=by
 refine aY lE (aG _ _ _) rfl (ll _ _) ?_;unfold jd;refine⟨λ q h'=>∃v,q=[v]/\QE 2 h' L v ((de l).map Fa.e),?_,?_⟩
 ·grind
 rw[bD,aH];dsimp only[gj,xF,xI,xL,xS];refine⟨λ k q h'=>∃(i:Nat) (v:D),q=[v,nD i]/\i<=l.length/\k=l.length-i/\QE 2 h' L v ((de (l.take i)).map Fa.e),_,⟨0,.nil,rfl,by omega,rfl,Or.inl ⟨rfl,rfl,V⟩⟩,?_⟩;rintro k f h1 ⟨i,v,hq,hi,hk,q⟩;simp only[ah,and_true]at hq;obtain⟨q1,q2⟩:=hq;simp only[q1,q2,nD];by_cases a2:i<l.length
 ·rw[fY (by omega),af];obtain⟨o,ho⟩:∃o,l[i]?=some o:=⟨l[i],aq a2⟩;have a6:l.take (i+1)=l.take i++[o]:=by rw[List.take_add_one,ho];rfl
  refine⟨λ Z h'=>∃v,Z=[v]/\QE 2 h' L v ((de (l.take (i+1))).map Fa.e),?_,?_⟩
  ·rintro f' h' ⟨v',I,Z⟩;simp only[ah,and_true]at I;rw[I,bB (by omega) (by omega)];simp only[aa,true_and];exact⟨_,by omega,i+1,v',rfl,by omega,rfl,Z⟩
  rw[iN (esz:=3) (d:=o.e) (by omega) (by grind) rfl,show o.e=.agg o.cs from rfl,NM (s:=3) rfl];refine q.alloc λ n19 b1 a1=>?_
  refine a1.mY rfl rfl (λ x hx=>o.b9.one x hx) λ a8 H=>?_
  have G:=H.vs;rw[G.fa 0 rfl,G.bI 0 (j:=0) rfl rfl,bq];by_cases Q:o.kind=2
  ·rw[decide_eq_true Q,af,G.fa 0 rfl,G.bI 0 (j:=1) rfl rfl,Vv]
   have a7:(de (l.take i)).length<=100:=by
    grind [de]
   refine H.less.push (Fa.b9 _) rfl (by rw[aH];omega) (by rw[aH];omega) λ v' h' Z=>?_
   grind [aa,de]
  ·rw[decide_eq_false Q,ae];simp only[aa,true_and];refine⟨v,rfl,?_⟩
   have:(de (l.take (i+1))).map Fa.e=(de (l.take i)).map Fa.e:=by
    grind [de]
   rw[this];exact H.less
 grind [fU,ae,aa]
structure Ru where
 of:Fa
 needs:List Fa
 never:Bool
def Ru.e (r:Ru) (v:D):D:=.agg [.bool r.of.rG,.int .i64 r.of.n,v,.bool r.never]
def wC (b:Nat):Fa:=⟨true,b⟩
def zE (n:Int):Fa:=⟨false,n⟩
def C3 (b a:Nat) (t:Term):Ru:=⟨wC b,de [t.a]++[wC a],false⟩
def mH (b:Nat) (x:bj):Ru:=⟨zE (eh x.d),de [x.a,x.b,x.c]++[wC b],fy x⟩
def ja (b:Nat) (xs:List bj):List Ru:=(xs.filter λ x=>decide (0<=eh x.d)).map (mH b)
def KO (t:Term):List Ru:=if 0<=eh t.d then [⟨zE (eh t.d),[],true⟩] else []
def VO (b:Nat):Ru:=⟨wC b,[],true⟩
def rG (c:Code) (b:Nat):Block:=(c.b[b]?).getD default
theorem gK {c:Code}{b:Nat}{B:Block}(h:c.b[b]?=some B):rG c b=B:=by unfold rG;rw[h];rfl
def js (c:Code) (b:Nat) (dep:List Nat):List Ru:=dep.map λ a=>C3 b a (rG c a).t
def xv (c:Code) (R:List Bool) (Dp:List (List Nat)) (b:Nat):List Ru :=
 if hasB R b then js c b (gL Dp b)++ja b (rG c b).i++KO (rG c b).t else [VO b]
def iV (c:Code) (R:List Bool) (Dp:List (List Nat)) (n:Nat):List Ru:=(List.range n).flatMap (xv c R Dp)
def EZ (c:Code) (R:List Bool) (Dp:List (List Nat)):List Ru:=iV c R Dp c.b.length
theorem Gn {c:Code}{R:List Bool}{Dp:List (List Nat)}{n:Nat}:iV c R Dp (n+1)=iV c R Dp n++xv c R Dp n:=by
 grind [iV,List.range_succ]
def Kk (N:Nat) (R:Int) (f:Fa):Prop:=0<=f.n/\(f.rG=true->f.n<(N:Int))/\(f.rG=false->f.n<R)
structure HS (N:Nat) (R:Int) (r:Ru):Prop where
 of:Kk N R r.of
 needs:∀f∈r.needs,Kk N R f
 len:r.needs.length<=10
structure cR (c:Code):Prop where
 g:bp c
 i:∀B∈c.b,∀x∈B.i,Kh c.regs x
 len:∀B∈c.b,B.i.length<=100
 rg:1<=c.regs/\c.regs<=100
theorem nQ.u {c:Code}(h:nQ c):cR c:=by
 refine⟨h.g,λ B hB x hx=>?_,λ B hB=>Nat.le_trans (h.b B hB).len (by omega),?_⟩
 ·obtain⟨k,G⟩:=ba hx;exact((h.b B hB).xs k x G).1
 ·have:=h.regs;have:=h.nl;omega
theorem lX {R:Int}{o:dn}(h:oS R o):o.kind=2/\0<=o.n/\o.n<R:=by obtain⟨r,h1,h2,rfl⟩:=h;exact⟨rfl,h1,h2⟩
theorem o5 {R:Int}{o:dn}(h:uo R o):o.kind=2->0<=o.n/\o.n<R:=by
 rcases h with h|⟨v,-,-,rfl⟩
 ·exact λ _=>(lX h).2
 ·intro h;cases h
def yj (R:Int) (o:dn):Prop:=o.kind=2->0<=o.n/\o.n<R
theorem gX {R:Int}:yj R aj:=λ h=>by cases h
theorem Kh.Wy {R:Int}{x:bj}(h:Kh R x):yj R x.d/\yj R x.a/\yj R x.b/\yj R x.c:=by
 cases h with
 | mov d a h1 h2=>exact⟨λ _=>(lX h1).2,o5 h2,gX,gX⟩
 | un s d a h0 h1 h2=>exact⟨λ _=>(lX h1).2,o5 h2,gX,gX⟩
 | bin s d a b h0 h1 h2 h3=>exact⟨λ _=>(lX h1).2,o5 h2,o5 h3,gX⟩
 | sel d a b c h1 h2 h3 h4=>exact⟨λ _=>(lX h1).2,o5 h2,o5 h3,o5 h4⟩
 | id s d h0 h1=>exact⟨λ _=>(lX h1).2,gX,gX,gX⟩
 | param n d h0 h1=>exact⟨λ _=>(lX h1).2,gX,gX,gX⟩
 | load n d a h0 h1 h2=>exact⟨λ _=>(lX h1).2,λ _=>(lX h2).2,gX,gX⟩
 | store n a b h0 h1 h2=>exact⟨gX,λ _=>(lX h1).2,o5 h2,gX⟩
 | atom s n a b hs h0 h1 h2=>exact⟨gX,λ _=>(lX h1).2,o5 h2,gX⟩
 | fence s h0=>grind [gX]
theorem zr.Wy {N:Nat}{R:Int}{t:Term}(h:zr N R t):yj R t.d/\yj R t.a/\yj R t.b:=by
 cases h with
 | jump a h=>grind [gX]
 | branch o a b ho h1 h2=>exact⟨gX,λ _=>(lX ho).2,gX⟩
 | barrier a h=>grind [gX]
 | collect s d a b t hs hd ha hb h=>exact⟨λ _=>(lX hd).2,o5 ha,o5 hb⟩
 | exit=>grind [gX]
theorem Ny {N:Nat}{R:Int}{l:List dn}(h:∀o∈l,yj R o):∀f,f∈de l->Kk N R f:=by
 grind [de,yj,Kk]
theorem rY {l:List dn}:(de l).length<=l.length:=by
 grind [de]
theorem OE {N:Nat}{R:Int}{b:Nat}(h:b<N):Kk N R (wC b):=⟨by simp[wC],λ _=>by simp only[wC];omega,λ h=>by cases h⟩
theorem T6 {N:Nat}{R:Int}{b:Nat}(h:b<N):HS N R (VO b):=⟨OE h,λ f G=>by simp[VO]at G,by simp[VO]⟩
theorem QW {N:Nat}{R:Int}{b a:Nat}{t:Term}(hb:b<N) (ha:a<N) (ht:zr N R t):HS N R (C3 b a t):=by
 refine⟨OE hb,λ f G=>?_,?_⟩
 ·rcases List.mem_append.1 G with G|G
  ·exact Ny (λ o ho=>by simp at ho;subst ho;exact ht.Wy.2.1) f G
  grind [OE]
 grind [rY,C3]
theorem NP {N:Nat}{R:Int}{b:Nat}{x:bj}(hb:b<N) (hx:Kh R x) (h0:0<=eh x.d):HS N R (mH b x):=by
 refine⟨⟨h0,λ h=>(by cases h),λ _=>?_⟩,λ f G=>?_,?_⟩
 ·unfold mH zE eh at *;split at h0
  ·rename_i H;simp only[if_pos H];exact(hx.Wy.1 H).2
  ·omega
 ·rcases List.mem_append.1 G with G|G
  ·exact Ny (λ o ho=>by simp at ho;rcases ho with rfl|rfl|rfl;exact hx.Wy.2.1;exact hx.Wy.2.2.1;exact hx.Wy.2.2.2) f G
  grind [OE]
 grind [de,mH]
theorem QT {N:Nat}{R:Int}{t:Term}(ht:zr N R t) (h0:0<=eh t.d):HS N R ⟨zE (eh t.d),[],true⟩:=by
 refine⟨⟨h0,λ h=>(by cases h),λ _=>?_⟩,λ f H=>(by simp at H),by simp⟩;unfold zE eh at *;split at h0
 ·rename_i G;simp only[if_pos G];exact(ht.Wy.1 G).2
 ·omega
end Go.Am
namespace Go.Am
open Go Go.Proofs
section
variable {h:Heap}{L:LSq}{KH:HKq}{K:D->Prop}
theorem Vs.UE (V:Vs h L){n o:Nat}{s:Slot}(hm:(n,s)∈L):ab PP (.fadd (.c (.ptr n 0 0)) o) h KH=KH (.ptr n 0 o) h:=by
 obtain⟨i,hi⟩:=ba hm;exact V.fa i hi
theorem Vs.Hw (V:Vs h L){n j:Nat}{cs:List D}{e:D}(hm:(n,Slot.box (.agg cs))∈L) (he:cs[j]?=some e):ab PP (.ld (.c (.ptr n 0 j)) 1 false) h KH=KH e h:=RM (V.mem hm) he
theorem Vs.Jr (V:Vs h L){n s:Nat}{cs:List D}(hm:(n,Slot.box (.agg cs))∈L) (hl:cs.length=s):ab PP (.ld (.c (.ptr n 0 0)) s true) h KH=KH (.agg cs) h:=by
 obtain⟨i,hi⟩:=ba hm;exact V.fV i hi hl
theorem Vs.abv (V:Vs h L){n:Nat}{d:D}(hm:(n,Slot.box d)∈L) (h1:d.one=true):ab PP (.ld (.c (.ptr n 0 0)) 1 false) h KH=KH d h:=by
 obtain⟨i,hi⟩:=ba hm;exact V.Im i hi h1
def BW (L:LSq) (v:D) (T:List Bool):Prop:=v=.sl (bL T)\/∃m,v=.ms m 0 T.length/\(m,.arr 1 (bL T))∈L
def FW (L:LSq) (v:D) (T:List Fa):Prop:=(v=.nil/\T=[])\/v=.sl (T.map Fa.e)\/∃m,v=.ms m 0 T.length/\(m,.arr 2 (T.map Fa.e))∈L
theorem BW.mono {L':LSq}{v:D}{T:List Bool}(hs:∀x∈L,x∈L') (w:BW L v T):BW L' v T:=by
 rcases w with h|⟨m,h1,h2⟩
 ·exact Or.inl h
 ·exact Or.inr ⟨m,h1,hs _ h2⟩
theorem FW.mono {L':LSq}{v:D}{T:List Fa}(hs:∀x∈L,x∈L') (w:FW L v T):FW L' v T:=by
 rcases w with h|h|⟨m,h1,h2⟩
 ·exact Or.inl h
 ·exact Or.inr (Or.inl h)
 ·exact Or.inr (Or.inr ⟨m,h1,hs _ h2⟩)
theorem BW.one {v:D}{T:List Bool}(w:BW L v T):v.one=true:=by rcases w with rfl|⟨m,rfl,-⟩<;>rfl
theorem FW.one {v:D}{T:List Fa}(w:FW L v T):v.one=true:=by rcases w with⟨rfl,-⟩|rfl|⟨m,rfl,-⟩<;>rfl
theorem FW.len (V:Vs h L){v:D}{T:List Fa}(w:FW L v T):aM v h K=K (.int .i64 (T.length:Int)):=by
 rcases w with⟨rfl,rfl⟩|rfl|⟨m,rfl,hm⟩
 ·rw[B6];rfl
 ·rw[bD,aH]
 ·rw[bH,V.mem hm];apply propext;exact⟨λ H=>H.2,λ G=>⟨rfl,G⟩⟩
theorem FW.get (V:Vs h L){v:D}{T:List Fa}(w:FW L v T){i:Nat}{f:Fa}(hf:T[i]?=some f) (hK:KH f.e h):ab PP (.iadd (.c v) (.c (.int .i64 (i:Int))) 2) h λ a h1=>ab PP (.ld (.c a) 2 true) h1 KH:=by
 have hi:=(ar.1 hf).1;rcases w with⟨-,rfl⟩|rfl|⟨m,rfl,hm⟩
 ·simp at hf
 ·rw[iN (esz:=2) (d:=f.e) (by omega) (by grind) rfl,show f.e=.agg [.bool f.rG,.int .i64 f.n] from rfl,NM (s:=2) rfl];exact hK
 ·obtain⟨k,G⟩:=ba hm;rw[V.ia k G (by omega) (by omega),aE,V.abt k G (j:=i) (cs:=[.bool f.rG,.int .i64 f.n]) (by rw[List.getElem?_map,hf];rfl) rfl];exact hK
theorem BW.len (V:Vs h L){v:D}{T:List Bool}(w:BW L v T):aM v h K=K (.int .i64 (T.length:Int)):=by
 rcases w with rfl|⟨m,rfl,hm⟩
 ·rw[bD];simp[bL]
 ·rw[bH,V.mem hm];apply propext;exact⟨λ H=>H.2,λ G=>⟨rfl,G⟩⟩
def AtP (L:LSq) (v:D) (T:List Bool) (i:Nat) (p:D):Prop:=(v=.sl (bL T)/\p=.vp (.bool (hasB T i)) 0)\/∃m,v=.ms m 0 T.length/\(m,.arr 1 (bL T))∈L/\p=.ptr m i 0
theorem BW.at (V:Vs h L){v:D}{T:List Bool}(w:BW L v T){a:Int}(h0:0<=a) (hi:a<T.length) (hK:∀p,AtP L v T a.toNat p->KH p h):ab PP (.iadd (.c v) (.c (.int .i64 a)) 1) h KH:=by
 rcases w with rfl|⟨m,rfl,hm⟩
 ·rw[iN (esz:=1) (d:=.bool (hasB T a.toNat)) h0 (cr (bo (by omega))) rfl];exact hK _ (Or.inl ⟨rfl,rfl⟩)
 ·obtain⟨k,G⟩:=ba hm;rw[V.ia k G h0 hi];exact hK _ (Or.inr ⟨m,rfl,hm,rfl⟩)
theorem AtP.read (V:Vs h L){v p:D}{T:List Bool}{i:Nat}(w:AtP L v T i p) (hi:i<T.length) (hK:KH (.bool (hasB T i)) h):ab PP (.fadd (.c p) 0) h λ a h1=>ab PP (.ld (.c a) 1 false) h1 KH:=by
 rcases w with⟨-,rfl⟩|⟨m,-,hm,rfl⟩
 ·rw[KM,ni rfl];exact hK
 ·obtain⟨k,G⟩:=ba hm;rw[kX,V.mem hm];refine⟨rfl,?_⟩;rw[Nat.zero_add,V.yQ k G (cr (bo hi)) rfl];exact hK
end
def Pa (U R:List Bool) (f:Fa):List Bool:=if f.rG then U else R
def km (U R:List Bool) (f:Fa):Bool:=hasB (Pa U R f) f.n.toNat
def fe (U R:List Bool) (r:Ru):Bool:= !km U R r.of||(!r.never&&r.needs.all (km U R))
section
variable {h:Heap}{L:LSq}{KH:HKq}{vU vR:D}{U R:List Bool}
theorem acv (V:Vs h L) (wU:BW L vU U) (wR:BW L vR R){f:Fa}(hf:Kk U.length R.length f) (hK:∀p h',Vs h' L->AtP L (if f.rG then vU else vR) (Pa U R f) f.n.toNat p->KH p h'):ag PP oJ [.agg [vU,vR],f.e] h KH:=by
 refine aY HU (aG _ _ _) rfl (HA _ _ _) ?_;dsimp only[Dq,xB,xF,xI,xL];refine V.box (λ x hx=>?_) λ Z h4 Q=>?_
 ·simp at hx;rcases hx with rfl|rfl
  ·exact wU.one
  ·exact wR.one
 refine Q.box f.b9.one λ n5 h6 G=>?_
 rw[G.fa 0 rfl,G.bI 0 (j:=0) rfl rfl];obtain⟨b,n⟩:=f;cases b
 ·rw[ae,G.fa 1 rfl,G.bI 1 (j:=1) rfl rfl,G.fa 0 rfl,G.bI 0 (j:=1) rfl rfl];refine(wR.mono (L':=_::_::L) (λ x hx=>by simp[hx])).at G hf.1 (hf.2.2 rfl) λ p hp=>hK p _ G.pop.pop ?_
  rcases hp with hp|⟨m,h1,h2,h3⟩
  ·exact Or.inl hp
  ·rcases wR with rfl|⟨I,rfl,H⟩
   ·cases h1
   ·cases h1;exact Or.inr ⟨_,rfl,H,h3⟩
 ·rw[af,G.fa 1 rfl,G.bI 1 (j:=0) rfl rfl,G.fa 0 rfl,G.bI 0 (j:=1) rfl rfl];refine(wU.mono (L':=_::_::L) (λ x hx=>by simp[hx])).at G hf.1 (hf.2.1 rfl) λ p hp=>hK p _ G.pop.pop ?_
  rcases hp with hp|⟨m,h1,h2,h3⟩
  ·exact Or.inl hp
  ·rcases wU with rfl|⟨I,rfl,H⟩
   ·cases h1
   ·cases h1;exact Or.inr ⟨_,rfl,H,h3⟩
theorem OR {v cl:D}{T:List Fa}{p:Fa->Bool}(V:Vs h L) (w:FW L v T) (hl:T.length<=1000000)
  (hp:∀y∈T,∀h' (KH:HKq),Vs h' L->(∀h'',Vs h'' L->KH (.bool (p y)) h'')->ab PP (.callv (.c cl) [.c y.e]) h' KH) (hK:∀h',Vs h' L->KH (.bool (T.any p)) h'):ag PP bA [v,cl] h KH:=by
 refine aY dJ (aG _ _ _) rfl (dI _ _ _) ?_;unfold bT
 have key:∀KH:HKq,(∀(i:Int) h',Vs h' L->(0<=i↔T.any p=true)->KH (.int .i64 i) h')->ag PP bG [v,cl] h KH:=by
  intro KH hk;refine aY eQ (aG _ _ _) rfl (eP _ _ _) ?_;unfold cc;refine⟨λ _ h'=>Vs h' L/\T.any p=false,?_,?_⟩
  ·grind
  rw[w.len V];dsimp only[bS,xI,xL];refine⟨λ m q h'=>Vs h' L/\∃i:Nat,i<=T.length/\m=T.length-i/\q=[.int .i64 (i:Int)]/\(T.take i).any p=false,_,⟨V,0,by omega,rfl,rfl,by simp⟩,?_⟩;rintro m f h1 ⟨Q,i,hi,hm,I,hn⟩;simp only[ah,and_true]at I;rw[I];by_cases H:i<T.length
  ·obtain⟨y,hy⟩:∃y,T[i]?=some y:=⟨T[i],aq H⟩;have G:=ak hy;rw[fY (by omega),af];refine w.get Q hy ?_;refine hp y G _ _ Q λ h2 V2=>?_
   cases Z:p y
   ·rw[ae,bB (by omega) (by omega)];simp only[aa,true_and];refine⟨_,by omega,V2,i+1,by omega,rfl,by simp,?_⟩;grind [List.take_add_one]
   grind [af]
  grind [fU,ae,aa]
 grind [Gi]
theorem U7:fF PP kG=true:=by kernel_rfl
theorem abr {n off len:Nat}{cs:List D}{h:Heap}{KH:HKq}{d:D}(a:h n=.box (.agg cs)) (hl:off+len<=cs.length) (hd:.agg ((cs.drop off).take len)=d):ab PP (.ld (.c (.ptr n 0 off)) len true) h KH=KH d h:=by rw[RK a hl,hd]
theorem aam (V:Vs h L) (wU:BW L vU U) (wR:BW L vR R){r:Ru}(hr:HS U.length R.length r){nd:D}(wn:FW L nd r.needs) (hK:∀h',Vs h' L->KH (.bool (fe U R r)) h'):ag PP kH [.agg [vU,vR],r.e nd] h KH:=by
 refine aY Ed (aG _ _ _) rfl (Dn _ _ _) ?_;dsimp only[xD,xB,xF,xL,xP]
 have I:∀f:Fa,Kk U.length R.length f->f.n.toNat<(Pa U R f).length:=λ f hf=>by
  obtain⟨b,n⟩:=f;obtain⟨h1,h2,h3⟩:=hf;cases b
  ·have g1:n<(R.length:Int):=h3 rfl;have g2:0<=n:=h1;show n.toNat<R.length;omega
  ·have g1:n<(U.length:Int):=h2 rfl;have g2:0<=n:=h1;show n.toNat<U.length;omega
 refine V.box (λ x hx=>?_) λ n3 h4 V4=>?_
 ·simp at hx;rcases hx with rfl|rfl
  ·exact wU.one
  ·exact wR.one
 refine V4.box (λ x hx=>?_) λ n5 h6 V6=>?_
 ·simp[Ru.e]at hx;rcases hx with rfl|rfl|rfl|rfl
  ·rfl
  ·rfl
  ·exact wn.one
  ·rfl
 have sub:∀x∈L,x∈(n5,Slot.box (r.e nd))::(n3,.box (.agg [vU,vR]))::L:=λ x hx=>by simp[hx]
 rw[V6.fV 1 (s:=2) rfl rfl,V6.fa 0 rfl,abr (d:=r.of.e) (V6.get 0 _ _ rfl) (by simp) rfl];refine acv V6 (wU.mono sub) (wR.mono sub) hr.of λ p b3 G hp=>?_
 refine hp.read G (I _ hr.of) ?_;rw[show hasB (Pa U R r.of) r.of.n.toNat=km U R r.of from rfl];have Q:fe U R r=(!km U R r.of||(!r.never&&r.needs.all (km U R))):=rfl;cases ho:km U R r.of
 ·simp only[↓gS];rw[ho]at Q;have:=hK _ G.pop.pop;rw[Q]at this;exact this
 ·simp only[↓gS];rw[ho]at Q;rw[G.fa 0 rfl,G.bI 0 (j:=3) rfl rfl];cases hn:r.never
  ·simp only[↓gS];rw[hn]at Q;rw[G.fa 0 rfl,G.bI 0 (j:=2) rfl rfl,NT];refine OR (p:=λ f=> !km U R f) G (wn.mono sub) (by have:=hr.len;omega) (λ y hy h' b4 V' a7=>?_) λ b2 b1=>?_
   ·refine⟨U7,?_⟩;refine aY yk (aG _ _ _) rfl (xA _ _ _) ?_;dsimp only[qo,xB,xF,xL];refine V'.box y.b9.one λ a2 a8 Z=>?_
    show ab PP (.ld (.c (.ptr n3 0 0)) 2 true) a8 _
    rw[Z.fV 2 (s:=2) rfl rfl,Z.fV 0 (s:=2) rfl rfl];have H:∀x∈L,x∈(a2,Slot.box y.e)::(n5,Slot.box (r.e nd))::(n3,.box (.agg [vU,vR]))::L:=λ x hx=>by simp[hx]
    refine acv Z (wU.mono H) (wR.mono H) (hr.needs y hy) λ p h8 V8 a6=>?_
    refine a6.read V8 (I _ (hr.needs y hy)) ?_;rw[cw];exact a7 _ V8.pop
   ·have:=hK _ b1.pop.pop;rw[Q]at this
    have e:r.needs.all (km U R) = !r.needs.any λ f=> !km U R f:=by
     rw[List.not_any_eq_all_not];simp
    rw[e]at this;cases a1:r.needs.any λ f=> !km U R f<;>(rw[a1]at this;simp only[↓gS];exact this)
  ·simp only[↓gS];rw[hn]at Q;have:=hK _ G.pop.pop;rw[Q]at this;exact this
end
end Go.Am
namespace Go.Am
open Go Go.Proofs
section
variable {esz:Nat}{h:Heap}{L L':LSq}{v:D}{T:List D}{KH:HKq}
theorem QE.perm (p:L.Perm L') (q:QE esz h L v T):QE esz h L' v T:=by
 rcases q with⟨rfl,rfl,V⟩|⟨m,rfl,V⟩
 ·exact Or.inl ⟨rfl,rfl,V.perm p⟩
 ·exact Or.inr ⟨m,rfl,V.perm (p.cons _)⟩
theorem QE.acZ (s:L'.Sublist L) (q:QE esz h L v T):QE esz h L' v T:=by
 rcases q with⟨rfl,rfl,V⟩|⟨m,rfl,V⟩
 ·exact Or.inl ⟨rfl,rfl,V.sub s⟩
 ·exact Or.inr ⟨m,rfl,V.sub (s.cons_cons _)⟩
theorem QE.one (q:QE esz h L v T):v.one=true:=by rcases q with⟨rfl,-⟩|⟨m,rfl,-⟩<;>rfl
theorem QE.XR (q:QE esz h L v T){d z':D}{bytes:Nat}(hd:kx d) (hc:d.cells.length=esz) (hb:(T.length+1)*bytes<=140737488355328) (hl:T.length+1<=9223372036854775807)
  (hK:∀v h',QE esz h' L v (T++[d])->KH v h'):ab PP (.app (.c v) (.c (.sl [d])) esz bytes z') h KH:=by
 rcases q with⟨rfl,rfl,V⟩|⟨m,rfl,V⟩
 ·rw[Ln];refine⟨λ e he=>by grind,λ y hy=>by simp at hy;subst hy;exact hd.one,⟨by simpa using hb,by simp⟩,λ n t=>?_⟩;exact hK _ _ (Or.inr ⟨n,by simp,V.push t.free (by simp)⟩)
 ·refine V.rH (ys:=[d]) (λ {K} G=>⟨λ e he=>by grind,G⟩) (λ y hy=>by simp at hy;subst hy;exact hd.one) (by simpa using hb) (by simpa using hl) λ n h' H=>?_
  exact hK _ _ (Or.inr ⟨n,by simp,H⟩)
theorem Vs.aaf (V:Vs h L){d z:D}(hd:kx d) (hc:d.cells.length=esz) (hK:∀m h',Vs h' ((m,.arr esz [d])::L)->KH (.ms m 0 1) h'):ab PP (.bldS true esz 1 z [(0,.c d)]) h KH :=
 Mz hd.vd hd.one hc λ n t=>hK n _ (V.push t.free (by simp))
theorem dn.vone (o:dn):∀y∈o.e.cells,y.vone=true:=λ y hy=>by
 simp[dn.e,dn.cs,D.cells]at hy;rcases hy with rfl|rfl|rfl<;>rfl
theorem Fa.vone (f:Fa):∀y∈f.e.cells,y.vone=true:=λ y hy=>by
 simp[Fa.e,D.cells]at hy;rcases hy with rfl|rfl<;>rfl
theorem Xo {K:D->Prop}{a b c:dn}{h:Heap}(hk:K (.sl ([a,b,c].map dn.e))):au PP (.bldS false 3 3 (.agg [(.int .i64 0),(.int .i64 0),(.int .i32 0)]) [(0,.c a.e),(1,.c b.e),(2,.c c.e)]) h K:=by
 refine⟨λ p hp=>?_,λ p hp=>?_,λ y hy=>by simp[D.cells]at hy;rcases hy with rfl|rfl<;>rfl,?_⟩
 ·simp[Arg.get]at hp;rcases hp with rfl|rfl|rfl
  ·exact⟨by show 0<3;omega,rfl,a.b9.one⟩
  ·exact⟨by show 1<3;omega,rfl,b.b9.one⟩
  ·exact⟨by show 2<3;omega,rfl,c.b9.one⟩
 ·simp[Arg.get]at hp;rcases hp with rfl|rfl|rfl
  ·exact a.vone
  ·exact b.vone
  ·exact c.vone
 ·simpa[Arg.get,setEls,List.replicate] using hk
end
def Yl (nk:Nat) (G:Ru->Prop) (S:List Ru->LSq->Prop) (St:LSq->Prop):Prop :=
 ∀(done:List Ru) (ru:Ru) (Lc:LSq) (h:Heap) (N:LSq) (nd:D) (KH:HKq),S done Lc->done.length<=100000->G ru->QE 2 h (Lc++N) nd (ru.needs.map Fa.e) ->
  (∀Lc' h',S (done++[ru]) Lc'->Vs h' (Lc'++N)->KH (.bool true) h')->(∀Lc' h',St Lc'->Vs h' (Lc'++N)->KH (.bool false) h')->ab PP (.callv (.c (.yld nk)) [.c (ru.e nd)]) h KH
section
variable {c:Code}{nk:Nat}{S:List Ru->LSq->Prop}{St:LSq->Prop}{h:Heap}{W M Lc:LSq}{done:List Ru}{KH:HKq}
theorem aci {P:Program}{B:Block}:ab P (.ld (.c (.vp B.e 6)) 3 true) h KH=KH B.t.a.e h:=by
 rw[zG,mw];apply propext;exact⟨λ H=>H.2,λ G=>⟨by show 6+3<=14;omega,G⟩⟩
theorem faT {P:Program}{d:D}{o o':Nat}:ab P (.fadd (.c (.vp d o)) o') h KH=KH (.vp d (o+o')) h:=My
theorem YJ {n:Int}{KH:HKq}:ab PP (.bld [(.bool false),(.int .i64 0)] [(0,1,(.c (.bool true))),(1,1,(.c (.int .i64 n)))]) h KH=KH (Fa.e ⟨true,n⟩) h:=cx rfl
theorem acm {f:Fa}{v:D}(hv:v.one=true){KH:HKq}:ab PP (.bld [(.bool false),(.int .i64 0),.nil,(.bool false)] [(0,2,(.c f.e)),(2,1,(.c v))]) h KH=KH (.agg [.bool f.rG,.int .i64 f.n,v,.bool false]) h:=by
 cases v<;>first|exact cx rfl|cases hv
theorem Wq {all:List Ru}(Y:Yl nk (λ r=>HS c.b.length c.regs r/\r∈all) S St) (hc:cR c){n2 n29 b:Nat}{dv:D}{dep:List Nat}(hS:S done Lc) (V:Vs h (W++(Lc++M))) (h2:(n2,.box c.e)∈M) (h29:(n29,.box (wC b).e)∈W) (hb:b<c.b.length) (wd:HT M dv dep) (hd:∀a∈dep,a<c.b.length) (hdl:dep.length<=1000) (hdn:done.length<=90000) (hall:∀r,r∈js c b dep->r∈all)
  {a2 a3 a23 a7 a9:D}{f:Nat->D}{J:HJq}(hJ:∀Lc' h',S (done++js c b dep) Lc'->Vs h' (W++(Lc'++M))->J [] h') (hK:∀Lc' h',St Lc'->Vs h' (Lc'++M)->KH (.tup []) h') :
  dY h (.int .i64 (dep.length:Int)) dv (.ptr n2 0 0) (.ptr n29 0 0) (.yld nk) a2 a3 a23 a7 a9 f J KH:=by
 dsimp only[dY,xF,xI,xL];refine⟨λ m q h'=>∃(j:Nat) (Lc:LSq),q=[nD j]/\j<=dep.length/\m=dep.length-j/\S (done++js c b (dep.take j)) Lc/\Vs h' (W++(Lc++M)),_,⟨0,Lc,rfl,by omega,rfl,by simpa[js] using hS,V⟩,?_⟩;rintro m f' h1 ⟨j,G,hq,hj,hm,a8,Q⟩;simp only[ah,and_true]at hq;simp only[hq,nD];have hM:∀x∈M,x∈W++(G++M):=λ x hx=>by simp[hx]
 have hW:∀x∈W,x∈W++(G++M):=λ x hx=>by simp[hx]
 by_cases a1:j<dep.length
 ·rw[fY (by omega),af];obtain⟨a,ha⟩:∃a,dep[j]?=some a:=⟨dep[j],aq a1⟩;have H:=hd a (ak ha);obtain⟨B,hB⟩:∃B,c.b[a]?=some B:=⟨c.b[a],aq H⟩;have a6:=hc.g.t B (ak hB)
  have b1:js c b (dep.take (j+1))=js c b (dep.take j)++[C3 b a B.t]:=by
   grind [List.take_add_one,js,gK]
  rw[HT.get Q (wd.mono hM) ha,nD,Q.UE (hM _ h2),Q.Hw (hM _ h2) (j:=7) rfl,rE hB,KM,faT,aci];refine Q.aaf B.t.a.b9 rfl λ m1 b2 V2=>?_
  refine OO (l:=[B.t.a]) V2 (by simp) λ v h3 q3=>?_
  rw[YJ];refine q3.push (Fa.b9 _) rfl ?_ ?_ λ v' h4 Z=>?_
  ·grind [rY]
  ·grind [rY]
  rw[Z.vs.Jr (s:=2) (cs:=[.bool true,.int .i64 (b:Int)]) (by simp only[List.mem_cons];exact Or.inr (hW _ h29)) rfl,show D.agg [.bool true,.int .i64 (b:Int)]=(wC b).e from rfl,acm Z.one]
  have q5:QE 2 h4 (G++(W++M)) v' ((C3 b a B.t).needs.map Fa.e):=by
   have q5:=(Z.acZ (List.sublist_cons_self _ _)).perm (List.perm_append_comm_assoc W G M);grind [C3,wC]
  refine Y _ (C3 b a B.t) G h4 (W++M) v' _ a8 (by simp[js];omega) ⟨QW hb H a6,hall _ (by grind [List.take_append_drop,js])⟩ q5 (λ Lc' h5 I V5=>?_) λ Lc' h5 I V5=>?_
  ·rw[cw,Bool.not_true,ae,bB (by omega) (by omega)];simp only[aa,true_and];refine⟨_,by omega,j+1,Lc',rfl,by omega,rfl,?_,V5.perm (List.perm_append_comm_assoc Lc' W M)⟩;grind
  ·rw[cw,Bool.not_false,af];exact hK Lc' h5 I (V5.sub (List.Sublist.append (.refl _) (List.sublist_append_right W M)))
 grind [fU,ae,aa]
end
section
variable {c:Code}{nk:Nat}{S:List Ru->LSq->Prop}{St:LSq->Prop}{h:Heap}{W M Lc:LSq}{done:List Ru}{KH:HKq}{K:D->Prop}
structure SM (h:Heap) (n m:Nat) (x:bj) (f:Fa):Prop where
 x:h n=.box x.e
 f:h m=.box f.e
section
variable {n m:Nat}{x:bj}{f:Fa}
theorem SM.ld (I:SM h n m x f):au PP (.ld (.c (.ptr n 0 0)) 15 true) h K=K x.e:=by
 rw[mc,show(15:Nat)=x.cs.length from rfl,fV I.x];rfl
theorem SM.fa (I:SM h n m x f){o:Nat}:au PP (.fadd (.c (.ptr n 0 0)) o) h K=K (.ptr n 0 o):=by
 rw[show au PP (.fadd (.c (.ptr n 0 0)) o) h K=ab PP (.fadd (.c (.ptr n 0 0)) o) h (λ d _=>K d) from rfl,kX,I.x];apply propext;exact⟨λ H=>by simpa using H.2,λ G=>⟨rfl,by simpa using G⟩⟩
theorem SM.oa (I:SM h n m x f):au PP (.ld (.c (.ptr n 0 6)) 3 true) h K=K x.a.e:=by rw[mc];exact RK I.x (by simp[bj.cs])
theorem SM.ob (I:SM h n m x f):au PP (.ld (.c (.ptr n 0 9)) 3 true) h K=K x.b.e:=by rw[mc];exact RK I.x (by simp[bj.cs])
theorem SM.oc (I:SM h n m x f):au PP (.ld (.c (.ptr n 0 12)) 3 true) h K=K x.c.e:=by rw[mc];exact RK I.x (by simp[bj.cs])
theorem SM.at (I:SM h n m x f):au PP (.ld (.c (.ptr m 0 0)) 2 true) h K=K f.e:=by
 rw[mc,show(2:Nat)=[D.bool f.rG,.int .i64 f.n].length from rfl,fV I.f];rfl
end
theorem ZW {n:Int}{K:D->Prop}:au PP (.bld [(.bool false),(.int .i64 0)] [(1,1,(.c (.int .i64 n)))]) h K=K (Fa.e ⟨false,n⟩):=nY rfl
theorem ZV {f:Fa}{v:D}{t:Bool}(hv:v.one=true){K:D->Prop}:au PP (.bld [(.bool false),(.int .i64 0),.nil,(.bool false)] [(0,2,(.c f.e)),(2,1,(.c v)),(3,1,(.c (.bool t)))]) h K=K (.agg [.bool f.rG,.int .i64 f.n,v,.bool t]):=by
 cases v<;>first|exact nY rfl|cases hv
theorem Gu {b k:Nat}{xs:List bj}{x:bj}(hx:xs[k]?=some x):ja b (xs.take (k+1))=ja b (xs.take k)++if 0<=eh x.d then [mH b x] else []:=by
 grind [List.take_add_one,ja]
theorem Bq {b:Nat}{xs:List bj}:(ja b xs).length<=xs.length:=by
 grind [ja]
theorem TF {all:List Ru}(Y:Yl nk (λ r=>HS c.b.length c.regs r/\r∈all) S St){n29 b:Nat}{xs:List bj}(hx:∀x∈xs,Kh c.regs x) (hxl:xs.length<=100) (hdn:done.length<=99000) (hall:∀r,r∈ja b xs->r∈all) (hS:S done Lc) (V:Vs h (W++(Lc++M))) (h29:(n29,.box (wC b).e)∈W) (hb:b<c.b.length)
  {a1 a2 a3 a23 a7 a9:D}{f:Nat->D}{J:HJq}(hJ:∀Lc' h',S (done++ja b xs) Lc'->Vs h' (W++(Lc'++M))->J [] h') (hK:∀Lc' h',St Lc'->Vs h' (Lc'++M)->KH (.tup []) h') :
  gM h (.int .i64 (xs.length:Int)) (.sl (xs.map bj.e)) (.ptr n29 0 0) (.yld nk) a1 a2 a3 a23 a7 a9 f J KH:=by
 dsimp only[gM,xF,xI,xL,xP,xS,yF,yL];refine⟨λ m q h'=>∃(j:Nat) (Lc:LSq),q=[nD j]/\j<=xs.length/\m=xs.length-j/\S (done++ja b (xs.take j)) Lc/\Vs h' (W++(Lc++M)),_,⟨0,Lc,rfl,by omega,rfl,by simpa[ja] using hS,V⟩,?_⟩;rintro m f' h1 ⟨j,a6,hq,hj,hm,b7,V1⟩;simp only[ah,and_true]at hq;simp only[hq,nD];by_cases c1:j<xs.length
 ·rw[fY (by omega),af];obtain⟨x,b4⟩:∃x,xs[j]?=some x:=⟨xs[j],aq c1⟩;have c2:=hx x (ak b4);rw[iN (esz:=15) (d:=x.e) (by omega) (by grind) rfl,show x.e=.agg x.cs from rfl,NM (s:=15) rfl];refine V1.alloc λ Q c7 c0=>?_
  refine c0.mY 0 rfl rfl rfl (λ y hy=>x.b9.one y hy) λ c6 Z=>?_
  simp only[List.set_cons_zero]at Z;rw[show D.agg x.cs=x.e from rfl]at Z;have inb:∀{h':Heap}{X:LSq},Vs h' X->(∀y,y∈(Q,Slot.box x.e)::(W++(a6++M))->y∈X)->SM h' Q n29 x (wC b):=λ V' hs=>⟨V'.mem (hs _ (by simp)),V'.mem (hs _ (by simp[h29]))⟩
  have I:=inb Z λ _ h=>h
  simp only[↓I.ld,↓I.fa,↓I.oa,↓I.ob,↓I.oc,↓I.at];refine Xo ?_;refine Py (d:=(wC b).e) (Fa.b9 _).one rfl (Fa.vone _) (λ y hy=>by simp[D.cells]at hy;rcases hy with rfl|rfl<;>rfl) ?_;refine aW Z9 (λ d hd=>by simp at hd;subst hd;exact x.b9.pair) ?_;rintro _ rfl;refine⟨by simp only[↓I.ld,↓I.fa,↓I.oa,↓I.ob,↓I.oc,↓I.at,aa,and_self],?_⟩;rw[ZW];refine M1 (l:=[x.a,x.b,x.c]) Z (by simp) λ v c5 q=>?_
  have I2:=inb q.vs λ _ h=>h
  refine⟨by simp only[↓I2.ld,↓I2.at,aa,and_self],?_⟩;refine q.XR (Fa.b9 _) rfl ?_ ?_ λ v' c4 H=>?_
  ·grind [rY]
  ·grind [rY]
  have I3:=inb H.vs λ _ h=>h
  refine⟨by simp only[↓I3.ld,aa,and_self],?_⟩;refine aW U9 (λ d hd=>by simp at hd;subst hd;exact x.b9.pair) ?_;rintro _ rfl;rw[show(⟨false,eh x.d⟩:Fa)=zE (eh x.d) from rfl,ZV H.one];refine H.alloc λ b2 c3 b1=>?_
  have I4:=inb b1.vs λ y h=>List.mem_cons_of_mem _ h
  refine⟨by simp only[↓I4.ld,↓I4.fa,↓I4.oa,↓I4.ob,↓I4.oc,↓I4.at,aa,and_self],?_⟩;refine b1.mY rfl rfl (λ y hy=>?_) λ b3 a8=>?_
  ·simp only[List.mem_cons,List.not_mem_nil,or_false]at hy;rcases hy with rfl|rfl|rfl|rfl
   ·rfl
   ·rfl
   ·exact H.one
   ·rfl
  have G:=a8.vs;rw[G.fa 0 rfl,G.fa 0 rfl,G.bI 0 (j:=1) rfl rfl,Gi];by_cases h0:0<=eh x.d
  ·rw[show(zE (eh x.d)).n=eh x.d from rfl,decide_eq_true h0];simp only[↓gS];rw[G.fV 0 (s:=4) rfl rfl]
   have q5:QE 2 b3 (a6++(((b2,Slot.box (.agg [.bool (zE (eh x.d)).rG,.int .i64 (zE (eh x.d)).n,v',.bool (fy x)]))::(Q,.box x.e)::W)++M)) v' ((mH b x).needs.map Fa.e):=by
    have q5:=a8.perm (List.perm_append_comm_assoc ((b2,Slot.box (.agg [.bool (zE (eh x.d)).rG,.int .i64 (zE (eh x.d)).n,v',.bool (fy x)]))::(Q,.box x.e)::W) a6 M);grind [mH]
   refine Y _ (mH b x) a6 b3 _ v' _ b7 (by grind [Bq]) ⟨NP hb c2 h0,hall _ (List.mem_map.2 ⟨x,List.mem_filter.2 ⟨ak b4,by simpa using h0⟩,rfl⟩)⟩ q5 (λ Lc' h5 b5 V5=>?_) λ Lc' h5 b5 V5=>?_
   ·simp only[↓gS];rw[bB (by omega) (by omega)];simp only[aa,true_and];refine⟨_,by omega,j+1,Lc',rfl,by omega,rfl,?_,?_⟩
    ·grind [Gu]
    ·exact(V5.sub (List.Sublist.append (.refl _) (List.Sublist.append (.cons _ (.cons _ (.refl _))) (.refl _)))).perm (List.perm_append_comm_assoc Lc' W M)
   ·simp only[↓gS];exact hK Lc' h5 b5 (V5.sub (List.Sublist.append (.refl _) (List.sublist_append_right _ M)))
  ·rw[show(zE (eh x.d)).n=eh x.d from rfl,decide_eq_false h0];simp only[↓gS];rw[bB (by omega) (by omega)];simp only[aa,true_and];refine⟨_,by omega,j+1,a6,rfl,by omega,rfl,?_,G.pop.pop⟩;rw[Gu b4,if_neg h0,List.append_nil];exact b7
 ·have:j=xs.length:=by omega
  subst this;rw[fU (by omega),ae];grind [aa]
end
section
variable {c:Code}{nk:Nat}{S:List Ru->LSq->Prop}{St:LSq->Prop}{h:Heap}{M Lc:LSq}{KH:HKq}
theorem YF {f:Fa}{KH:HKq}:ab PP (.bld [(.bool false),(.int .i64 0),.nil,(.bool false)] [(0,2,(.c f.e)),(3,1,(.c (.bool true)))]) h KH=KH (.agg [.bool f.rG,.int .i64 f.n,.nil,.bool true]) h:=cx rfl
theorem Vr {R:List Bool}{Dp:List (List Nat)}{b:Nat}(hc:cR c) (hD:∀l∈Dp,(∀a∈l,a<c.b.length)/\l.length<=1000):(xv c R Dp b).length<=1200:=by
 unfold xv;split
 ·have h1:(js c b (gL Dp b)).length<=1000:=by
   grind [js,gL]
  have h2:(ja b (rG c b).i).length<=100:=by
   refine Nat.le_trans Bq ?_;unfold rG
   cases hB:c.b[b]? with
   | none=>exact Nat.zero_le _
   | some B=>exact hc.len B (ak hB)
  grind [KO]
 ·simp
theorem I9 {R:List Bool}{Dp:List (List Nat)}(hc:cR c) (hD:∀l∈Dp,(∀a∈l,a<c.b.length)/\l.length<=1000):∀n,(iV c R Dp n).length<=1200*n
 | 0=>by simp[iV]
 | n+1=>by
  rw[Gn,List.length_append];have:=I9 (R:=R) hc hD n;grind [Vr]
theorem SH {R:List Bool}{Dp:List (List Nat)}(Y:Yl nk (λ r=>HS c.b.length c.regs r/\r∈EZ c R Dp) S St) (hc:cR c){n2 pr pd:Nat}{dv:D}(hS:S [] Lc) (V:Vs h (Lc++M)) (h2:(n2,.box c.e)∈M) (hr:(pr,.box (.sl (bL R)))∈M) (hR:R.length=c.b.length)
  (hd:(pd,.box dv)∈M) (wd:LR M dv Dp) (hDl:Dp.length=c.b.length) (hD:∀l∈Dp,(∀a∈l,a<c.b.length)/\l.length<=1000)
  (hJ:∀Lc' h',S (EZ c R Dp) Lc'->Vs h' (Lc'++M)->KH (.tup []) h') (hK:∀Lc' h',St Lc'->Vs h' (Lc'++M)->KH (.tup []) h') :
  ag PP dL [.yld nk,.ptr n2 0 0,.ptr pr 0 0,.ptr pd 0 0] h KH:=by
 have e3:=hc.g.nb;refine aY wq (aG _ _ _) rfl (vX _ _ _ _ _) ?_;dsimp only[pG,xF,xL];have b3:∀{Lc:LSq} x,x∈M->x∈Lc++M:=λ x hx=>by simp[hx]
 rw[V.UE (b3 _ h2),V.Hw (b3 _ h2) (j:=7) rfl,bD,aH];dsimp only[lP,xF,xI,xL,xP,xS];refine⟨λ m q h'=>∃(b:Nat) (Lc:LSq),q=[nD b]/\b<=c.b.length/\m=c.b.length-b/\S (iV c R Dp b) Lc/\Vs h' (Lc++M),_,⟨0,Lc,rfl,by omega,rfl,by simpa[iV] using hS,V⟩,?_⟩;rintro m f h1 ⟨b,a7,hq,hb,hm,a8,V1⟩;simp only[ah,and_true]at hq;simp only[hq,nD];by_cases G:b<c.b.length
 ·rw[fY (by omega),af];obtain⟨B,hB⟩:∃B,c.b[b]?=some B:=⟨c.b[b],aq G⟩;have a2:=ak hB;have c4:=hc.g.t B a2;refine⟨λ _ h'=>∃Lc,S (iV c R Dp (b+1)) Lc/\Vs h' (Lc++M),?_,?_⟩
  ·grind [bB,aa]
  rw[rE hB,show B.e=.agg (.sl (B.i.map bj.e)::B.t.cs) from rfl,NM (s:=14) rfl];refine V1.alloc λ n23 g0 e2=>?_
  refine e2.mY 0 rfl rfl rfl (λ x hx=>B.b9.one x hx) λ e9 b7=>?_
  simp only[List.set_cons_zero]at b7;rw[YJ,show Fa.e ⟨true,(b:Int)⟩=.agg [.bool true,.int .i64 (b:Int)] from rfl];refine b7.alloc λ n29 e8 e1=>?_
  refine e1.mY 0 rfl rfl rfl (λ x hx=>(wC b).b9.one x hx) λ a6 I=>?_
  simp only[List.set_cons_zero]at I
  let W:LSq:=[(n29,.box (wC b).e),(n23,.box B.e)]
  have VW:Vs a6 (W++(a7++M)):=I;have Q:∀{Lc:LSq} x,x∈M->x∈W++(Lc++M):=λ x hx=>by simp[hx]
  have c8:R[b]?=some (hasB R b):=bo (by omega);have e4:=I9 (R:=R) hc hD b;have Z:∀r,r∈xv c R Dp b->r∈EZ c R Dp:=λ r hr=>List.mem_flatMap.2 ⟨b,List.mem_range.2 G,hr⟩
  rw[I.abv (Q _ hr) rfl,iN (esz:=1) (d:=.bool (hasB R b)) (by omega) (by rw[aE];exact cr c8) rfl,ni rfl];have c0:iV c R Dp (b+1)=iV c R Dp b++xv c R Dp b:=Gn;have drop:∀{h':Heap}{Lc':LSq},Vs h' (Lc'++(W++M))->Vs h' (Lc'++M):=λ V5=>V5.sub (List.Sublist.append (.refl _) (List.sublist_append_right W M))
  cases c7:hasB R b
  ·have H:xv c R Dp b=[VO b]:=by unfold xv;rw[c7];rfl
   simp only[↓gS];rw[I.fV 0 (s:=2) rfl rfl,show D.agg [.bool true,.int .i64 (b:Int)]=(wC b).e from rfl,YF];refine Y _ (VO b) a7 a6 (W++M) .nil _ a8 (by omega) ⟨T6 G,Z _ (by rw[H];simp)⟩ (Or.inl ⟨rfl,rfl,VW.perm (List.perm_append_comm_assoc W a7 M)⟩) (λ Lc' h5 a1 V5=>?_) λ Lc' h5 a1 V5=>?_
   ·grind [cw,ae,aa]
   grind [cw,af]
  ·have e6:(js c b (gL Dp b)).length<=1000:=by
    unfold js gL;grind
   have e5:(ja b B.i).length<=100:=Nat.le_trans Bq (hc.len B a2);have H:xv c R Dp b=js c b (gL Dp b)++ja b B.i++KO B.t:=by grind [xv,gK]
   simp only[↓gS];refine⟨λ _ h'=>∃Lc,S (iV c R Dp b++js c b (gL Dp b)) Lc/\Vs h' (W++(Lc++M)),?_,?_⟩
   ·rintro f2 e7 ⟨g1,c6,V2⟩;refine⟨λ _ h'=>∃Lc,S (iV c R Dp b++js c b (gL Dp b)++ja b B.i) Lc/\Vs h' (W++(Lc++M)),?_,?_⟩
    ·rintro f3 e0 ⟨b2,c5,V3⟩;rw[V3.fa 1 rfl,abr (d:=B.t.e) (V3.get 1 _ _ rfl) (by show 0+1+13<=14;omega) rfl];refine aW XC (λ d hd=>by simp at hd;subst hd;exact B.t.b9.pair) ?_;rintro _ rfl;rw[Gi];by_cases h0:0<=eh B.t.d
     ·have he:KO B.t=[⟨zE (eh B.t.d),[],true⟩]:=by unfold KO;rw[if_pos h0]
      rw[decide_eq_true h0];simp only[↓gS];rw[Vv,show(⟨false,eh B.t.d⟩:Fa)=zE (eh B.t.d) from rfl,YF];refine Y _ ⟨zE (eh B.t.d),[],true⟩ b2 e0 (W++M) .nil _ c5 (by grind) ⟨QT c4 h0,Z _ (by rw[H,he];simp)⟩ (Or.inl ⟨rfl,rfl,V3.perm (List.perm_append_comm_assoc W b2 M)⟩) (λ Lc' h5 a1 V5=>?_) λ Lc' h5 a1 V5=>?_
      ·simp only[↓gS];grind [aa]
      ·simp only[↓gS];exact hK Lc' h5 a1 (drop V5)
     ·have he:KO B.t=[]:=by unfold KO;rw[if_neg h0]
      rw[decide_eq_false h0];simp only[↓gS];simp only[aa,true_and];refine⟨b2,?_,V3.pop.pop⟩;grind
    ·rw[V2.fa 1 rfl,V2.bI 1 (j:=0) rfl rfl,bD,aH];exact TF Y (hc.i B a2) (hc.len B a2) (by grind) (λ r hr=>Z r (by rw[H];simp[hr])) c6 V2 (by simp[W]) G (λ Lc' h' b1 V'=>⟨Lc',b1,V'⟩) hK
   ·rw[I.abv (Q _ hd) wd.one];obtain⟨l,hl⟩:∃l,Dp[b]?=some l:=⟨Dp[b]'(by omega),aq _⟩;have b4:gL Dp b=l:=by unfold gL;rw[hl];rfl
    obtain⟨c3,c2⟩:=hD l (ak hl)
    have c1:∀e,HT M e l->aM e a6 (λ b5=>dY a6 b5 e (.ptr n2 0 0) (.ptr n29 0 0) (.yld nk) (.ptr pr 0 0) (.ptr pd 0 0) (.ptr n23 0 0) (.sl (c.b.map Block.e)) (.int .i64 (c.b.length:Int)) f (λ _ h'=>∃Lc,S (iV c R Dp b++js c b (gL Dp b)) Lc/\Vs h' (W++(Lc++M))) KH):=λ e we=>by
     rw[HT.len VW (we.mono Q)];refine Wq Y hc a8 VW h2 (by simp[W]) G we c3 c2 (by omega) (λ r hr=>Z r (by rw[H,b4];simp[hr])) (λ Lc' h' b1 V'=>⟨Lc',by rw[b4];exact b1,V'⟩) hK
    exact LR.W3 VW Q wd hl c1
 ·have:b=c.b.length:=by omega
  subst this;rw[fU (by omega),ae];exact hJ a7 h1 a8 V1
end
end Go.Am
namespace Go.Am
open Go Go.Proofs
theorem Pv.cg {pre pre':Nat->List Nat}{bad:Nat->Prop}{s x:Nat}(h:∀a b,a∈pre b↔a∈pre' b) (k:Pv pre bad s x):Pv pre' bad s x:=by
 induction k with
 | refl h=>exact .refl h
 | step _ e hb G=>exact .step G ((h _ _).1 e) hb
theorem Dm.cg {pre pre':Nat->List Nat}{r d x:Nat}(h:∀a b,a∈pre b↔a∈pre' b):Dm r pre d x↔Dm r pre' d x :=
 not_congr ⟨Pv.cg h,Pv.cg λ a b=>(h a b).symm⟩
structure OU (c d:Code):Prop where
 len:c.b.length=d.b.length
 e:∀b,edg c b=edg d b
 x:∀b,zM c b=zM d b
theorem OU.refl (c:Code):OU c c:=⟨rfl,λ _=>rfl,λ _=>rfl⟩
section
variable {c d:Code}{O O' P P':List Nat}{at1 at2 U1 U2:List Int}
theorem OU.dp (s:OU c d) (hc:bp c) (hd:bp d) (D1:AN c O O' at1 U1) (D2:AN d P P' at2 U2) (a b:Nat):Sd c O O' a b↔Sd d P P' a b:=by
 have G:gI c=gI d:=by
  unfold gI;rw[s.len];exact List.map_congr_left λ b _=>s.e b
 have h1:=D1.b.ord;have h2:=D2.b.ord;rw[G,s.len]at h1;have Q:O=P:=h1.det h2;subst Q;have I:zM c=zM d:=funext s.x;have V:ec c O=ec d O:=by unfold ec;rw[G,I]
 have H:rO (gI c) O c.b.length (ec c O)=rO (gI d) O d.b.length (ec d O):=by rw[G,V,s.len]
 have mem:∀x,x∈O'↔x∈P':=λ x=>by rw[D1.b.g.path,D2.b.g.path,H,s.len]
 have pre:∀q x,q∈pB c O O' x↔q∈pB d O P' x:=λ q x=>by
  show q∈gL (EH (rO (gI c) O c.b.length (ec c O)) O' (c.b.length+1)) x↔q∈gL (EH (rO (gI d) O d.b.length (ec d O)) P' (d.b.length+1)) x
  rw[lg (D1.rO hc),lg (D2.rO hd),mem,H]
 have Z:∀y x,Dm c.b.length (pB c O O') y x↔Dm d.b.length (pB d O P') y x:=λ y x=>by rw[s.len];exact Dm.cg pre
 unfold Sd;rw[s.e a,Z b a];grind
end
def ZQ (c:Code) (a b:Nat):Prop:=∃O O' at' U,AN c O O' at' U/\Sd c O O' a b
theorem QU {c:Code}(hc:bp c){O O':List Nat}{at' U:List Int}(D:AN c O O' at' U){a b:Nat}:ZQ c a b↔Sd c O O' a b :=
 ⟨λ ⟨_,_,_,_,G,h⟩=>((OU.refl c).dp hc hc G D a b).1 h,λ h=>⟨_,_,_,_,D,h⟩⟩
noncomputable def jc (c:Code):List (List Nat):=(List.range c.b.length).map λ b=>Mp c.b.length λ a=>ZQ c a b
theorem Xl {c:Code}(hc:bp c){O O':List Nat}{at' U:List Int}(D:AN c O O' at' U):rj c O O' c.b.length=jc c:=by
 unfold rj jc;grind [QU]
theorem xn {c:Code}:(jc c).length=c.b.length:=by simp[jc]
theorem CY {c:Code}{b:Nat}(hb:b<c.b.length):gL (jc c) b=Mp c.b.length λ a=>ZQ c a b:=by
 grind [gL,jc]
theorem Iu {c:Code}(hc:bp c):∀l,l∈jc c->(∀a∈l,a<c.b.length)/\l.length<=1000:=λ l hl=>by
 simp only[jc,List.mem_map]at hl;obtain⟨b,-,rfl⟩:=hl;have:=hc.nb;grind [dj,oM]
noncomputable def b8 (c:Code):List Bool:=(List.range c.b.length).map λ k=>@decide (Path (edg c) 0 k) (Classical.propDecidable _)
theorem gV {c:Code}:(b8 c).length=c.b.length:=by simp[b8]
theorem cV {c:Code}{k:Nat}(hk:k<c.b.length):hasB (b8 c) k=true↔Path (edg c) 0 k:=by
 grind [hasB,b8]
theorem tI {c:Code}{S:List Bool}(hl:S.length=c.b.length) (h:∀k,hasB S k=true↔Path (edg c) 0 k):S=b8 c:=by
 grind [List.ext_getElem,gV,hasB,b8]
noncomputable def iB (c:Code):List Ru:=EZ c (b8 c) (jc c)
theorem L9 {c:Code}(hc:cR c):∀r,r∈iB c->HS c.b.length c.regs r:=by
 intro r hr;simp only[iB,EZ,iV,List.mem_flatMap,List.mem_range]at hr;obtain⟨b,hb,hr⟩:=hr;obtain⟨B,hB⟩:∃B,c.b[b]?=some B:=⟨c.b[b],aq hb⟩;have H:=ak hB;unfold xv at hr;split at hr
 ·rw[gK hB]at hr;rcases List.mem_append.1 hr with hr|hr
  ·rcases List.mem_append.1 hr with hr|hr
   ·simp only[js,List.mem_map]at hr;obtain⟨a,ha,rfl⟩:=hr;rw[CY hb]at ha;have G:=(dj.1 ha).1;refine QW hb G ?_;obtain⟨A,hA⟩:∃A,c.b[a]?=some A:=⟨c.b[a],aq G⟩;rw[gK hA];exact hc.g.t A (ak hA)
   ·simp only[ja,List.mem_map,List.mem_filter,decide_eq_true_eq]at hr;obtain⟨x,⟨hx,h0⟩,rfl⟩:=hr;exact NP hb (hc.i B H x hx) h0
  ·unfold KO at hr;split at hr
   ·rename_i h0;simp at hr;subst hr;exact QT (hc.g.t B H) h0
   ·cases hr
 grind [T6]
section
variable {c:Code}{h:Heap}{L:LSq}{KH:HKq}
structure RuM (c:Code) (W:LSq) (n2 pr pd:Nat) (dv:D):Prop where
 h2:(n2,.box c.e)∈W
 hr:(pr,.box (.sl (bL (b8 c))))∈W
 hd:(pd,.box dv)∈W
 wd:LR W dv (jc c)
theorem Sr:fF PP dL=true:=by kernel_rfl
theorem XV (hc:cR c) (V:Vs h L) (hK:∀W n2 pr pd dv h',RuM c W n2 pr pd dv->(∃O O' at' U,AN c O O' at' U)->Vs h' (W++L)->KH (.fn dL [] [.ptr n2 0 0,.ptr pr 0 0,.ptr pd 0 0]) h'):ag PP m8 [c.e] h KH:=by
 refine aY BP (aG _ _ _) rfl (BE _ _) ?_;dsimp only[uF,xB,xS,yL];refine V.box c.b9.one λ n2 h3 V3=>?_
 have ld:∀{h':Heap}{K:D->Prop},h' n2=.box c.e->au PP (.ld (.c (.ptr n2 0 0)) 8 true) h' K=K c.e:=λ hn=>by
  rw[mc,show c.e=.agg [.int .i64 c.group,.int .i64 c.sub,.int .i64 c.regs,.int .i64 c.slots,.int .i64 c.params,.sl (c.arrays.map qV.e),.sl (c.loops.map Loop.e),.sl (c.b.map Block.e)] from rfl]at *;rw[show(8:Nat)=[D.int .i64 c.group,.int .i64 c.sub,.int .i64 c.regs,.int .i64 c.slots,.int .i64 c.params,.sl (c.arrays.map qV.e),.sl (c.loops.map Loop.e),.sl (c.b.map Block.e)].length from rfl,fV hn]
 have g3:=V3.get 0 _ _ rfl;simp only[↓ld g3];refine aW (Q7 hc.g) (λ d hd=>by simp at hd;subst hd;exact c.b9.pair) ?_;rintro _ ⟨R,rfl,Z,a1⟩;have eR:=tI Z a1;subst eR;refine⟨by grind [aa],?_⟩;refine LQ hc.g V3 λ v b4 O O' at' U G b2=>?_
 obtain⟨X,b1,wd⟩:=b2.lr;rw[Xl hc.g G]at wd;refine b1.alloc λ n11 a7 Q=>?_
 have b7:a7 n2=.box c.e:=Q.mem (by simp);refine⟨by grind [aa],?_⟩;refine Q.alloc λ n15 a6 I=>?_
 have b5:a6 n2=.box c.e:=I.mem (by simp);refine⟨by grind [aa],?_⟩;refine I.M9 1 rfl rfl rfl λ b3 H=>?_
 simp only[List.set_cons_succ,List.set_cons_zero]at H;refine H.M9 0 rfl rfl wd.one λ a2 a8=>?_
 simp only[List.set_cons_zero]at a8;rw[NT];refine hK ((n15,.box v)::(n11,.box (.sl (bL (b8 c))))::(X++[(n2,.box c.e)])) n2 n11 n15 v a2 ⟨by simp,by simp,by simp,wd.mono λ x hx=>by simp[hx]⟩ ⟨O,O',at',U,G⟩ ?_;grind
end
end Go.Am
namespace Go.Am
open Go Go.Proofs
theorem PK {N:Nat}{R:Int}{t:Term}(h:zr N R t):aK PP kJ [t.e] (· = .sl (aR (bf t))):=by
 refine aZ H2 (aG _ _ _) rfl (HH _ _) ?_;dsimp only[DC,xB,xF,xJ,xL,xP];refine Vs.nil.box t.b9.one λ n2 h3 V=>?_
 have i0:∀{KH:HKq},ab PP (.iadda (.c (.ptr n2 0 11)) (.c (.int .i64 0)) 2 1) h3 KH=KH (.ptr n2 0 11) h3:=λ {KH}=>V.ZE 0 (a:=0) rfl (by omega)
 have i1:∀{KH:HKq},ab PP (.iadda (.c (.ptr n2 0 11)) (.c (.int .i64 1)) 2 1) h3 KH=KH (.ptr n2 0 12) h3:=λ {KH}=>V.ZE 0 (a:=1) rfl (by omega)
 have one:∀(a:Nat),ab PP (.bldS true 1 1 (.int .i64 0) [(0,.c (.int .i64 (a:Int)))]) h3 λ I H=>ky (λ r=>r=.sl (aR [a])) I H:=λ a=>by
  exact QV.one (k:=a) V λ v h' q=>q.ret rfl (by simp)
 cases h with
 | jump a ha =>
  simp (disch:=omega) only[↓V.fa 0 rfl,Nat.zero_add,↓V.bI 0 (j:=0) rfl rfl,↓cS,↓gS,↓i0,↓V.bI 0 (j:=11) rfl rfl];exact one a
 | barrier a ha =>
  simp (disch:=omega) only[↓V.fa 0 rfl,Nat.zero_add,↓V.bI 0 (j:=0) rfl rfl,↓cS,↓gS,↓i0,↓V.bI 0 (j:=11) rfl rfl];exact one a
 | collect s d a b t hs hd ha hb ht =>
  simp (disch:=omega) only[↓V.fa 0 rfl,Nat.zero_add,↓V.bI 0 (j:=0) rfl rfl,↓cS,↓gS,↓i0,↓V.bI 0 (j:=11) rfl rfl];exact one t
 | exit =>
  simp (disch:=omega) only[↓V.fa 0 rfl,Nat.zero_add,↓V.bI 0 (j:=0) rfl rfl,↓cS,↓gS];refine V.Db λ n11 Q Z=>?_
  exact oD (esz:=1) (els:=[]) (by rw[Z.get 0 _ _ rfl];rfl) (by simp) rfl
 | branch o a b ho ha hb =>
  simp (disch:=omega) only[↓V.fa 0 rfl,Nat.zero_add,↓V.bI 0 (j:=0) rfl rfl,↓cS,↓gS,↓i0,↓i1,↓V.bI 0 (j:=11) rfl rfl,↓V.bI 0 (j:=12) rfl rfl];by_cases G:a=b
  ·subst G;simp (disch:=omega) only[↓cS,↓gS,↓V.fa 0 rfl,Nat.zero_add,↓i0,↓V.bI 0 (j:=11) rfl rfl];have e:bf ⟨2,0,aj,o,aj,(a:Int),(a:Int)⟩=[a]:=by simp[bf]
   rw[e];exact one a
  ·simp (disch:=omega) only[↓cS,↓gS,↓V.fa 0 rfl,Nat.zero_add,↓i0,↓i1,↓V.bI 0 (j:=11) rfl rfl,↓V.bI 0 (j:=12) rfl rfl];have e:bf ⟨2,0,aj,o,aj,(a:Int),(b:Int)⟩=[a,b]:=by simp[bf];omega
   rw[e];exact QV.two (j:=a) (k:=b) V λ v h' q=>q.ret rfl (by simp)
end Go.Am
namespace Go.Am
open Go Go.Proofs
section
variable {h:Heap}{L:LSq}{v:D}{T:List D}{KH:HKq}
theorem QD.alloc (q:QD h L v T){d:D}(hK:∀n h',QD h' ((n,.box d)::L) v T->KH (.ptr n 0 0) h'):ab PP (.alloc d) h KH:=by
 rw[gP];exact λ n t=>hK n _ (q.more t.free (by simp))
theorem QD.ach (q:QD h L v T){d:D}(hd:aL d) (hK:∀n h',QD h' ((n,.box d)::L) v T->KH (.ptr n 0 0) h'):ab PP (.box (.c d)) h KH:=by
 rw[Jy];exact⟨hd,λ n t=>hK n _ (q.more t.free (by simp))⟩
theorem QD.mY (q:QD h L v T) (i:Nat){n s:Nat}{cs cs':List D}(hi:L[i]?=some (n,.box (.agg cs))) (hl:cs.length=s) (hl':cs'.length=s) (ho:∀x,x∈cs'->x.one=true) (hK:∀h',QD h' (L.set i (n,.box (.agg cs'))) v T->KH .undef h'):ab PP (.st (.c (.ptr n 0 0)) (.c (.agg cs')) s) h KH:=by
 rcases q with⟨rfl,rfl,V⟩|⟨m,rfl,V⟩
 ·exact V.mY i hi hl hl' ho λ h' G=>hK h' (Or.inl ⟨rfl,rfl,G⟩)
 ·exact V.mY (i+1) (by simpa using hi) hl hl' ho λ h' G=>hK h' (Or.inr ⟨m,rfl,by simpa using G⟩)
theorem QD.wA (q:QD h L v T) (i:Nat){n j:Nat}{els:List D}{d:D}(hi:L[i]?=some (n,.arr 1 els)) (hj:j<els.length) (ho:d.one=true) (h1:∀x∈els,x.one=true) (hK:∀h',QD h' (L.set i (n,.arr 1 (els.set j d))) v T->KH .undef h'):ab PP (.st (.c (.ptr n j 0)) (.c d) 1) h KH:=by
 rcases q with⟨rfl,rfl,V⟩|⟨m,rfl,V⟩
 ·exact V.wA i hi hj ho h1 λ h' G=>hK h' (Or.inl ⟨rfl,rfl,G⟩)
 ·exact V.wA (i+1) (by simpa using hi) hj ho h1 λ h' G=>hK h' (Or.inr ⟨m,rfl,by simpa using G⟩)
theorem QD.one (q:QD h L v T):v.one=true:=by rcases q with⟨rfl,-⟩|⟨m,rfl,-⟩<;>rfl
end
theorem VG {c:Code}(hc:bp c){nR n:Nat}(hn:n=c.b.length):∀(k cap:Nat) (S:List Bool) (T:List Nat) (b:Nat) (h:Heap) (L:LSq) (iR:Nat) (lv:D) (KH:HKq),S.length=n->jS (hasB S) n<=k->T.length+jS (hasB S) n<=cap->cap<=1000->b<n->hasB S b=false->L[iR]?=some (nR,.arr 1 (bL S))->QD h L lv (aR T) ->
  (∀S' T' lv' h',YO (gI c) (S,T) b (S',T')->S'.length=n->T'.length+jS (hasB S') n<=cap->(∀x,hasB S x=true->hasB S' x=true)->QD h' (L.set iR (nR,.arr 1 (bL S'))) lv' (aR T')->KH (.agg [.ms nR 0 n,lv']) h') ->
  ag PP mz [c.e,.agg [.ms nR 0 n,lv],nD b] h KH:=by
 have j0:=hc.nb;intro k
 induction k with
 | zero =>
  intro cap S T b h L iR lv KH hS hk hT c4 hb hs hR q hK;exfalso;have:jS (hasB (S.set b true)) n+1<=jS (hasB S) n:=kB (x:=b) (λ x hx=>by grind [bJ]) hb hs (by grind [bJ]);omega
 | succ k ih =>
  intro cap S T b h L iR lv KH hS hk hT c4 hb hs hR q hK;have h6:jS (hasB (S.set b true)) n+1<=jS (hasB S) n:=kB (x:=b) (λ x hx=>by grind [bJ]) hb hs (by grind [bJ]);have e8:∀{S:List Bool},S.length=n->(bL S).length=n:=λ e=>by simp[bL,e]
  have j2:=(ar.1 hR).1;refine aY F6 (aG _ _ _) rfl (FK _ _ _ _) ?_;dsimp only[zV,xB,xF,xI,xL,xS];refine q.ach c.b9.one λ n4 h5 q5=>?_
  refine q5.ach (λ x hx=>by
   simp[D.cells]at hx;rcases hx with rfl|rfl
   ·rfl
   ·exact q.one) λ n6 h7 q7=>?_
  refine q7.alloc λ n8 h9 q9=>?_
  have V9:=q9.vs;obtain⟨B,hB⟩:∃B,c.b[b]?=some B:=⟨c.b[b]'(by omega),aq _⟩;have hl:edg c b=bf B.t:=jr hB;rw[V9.fa 1 rfl,V9.bI 1 (j:=0) rfl rfl,nD,V9.ia (iR+3) (by simpa using hR) (by omega) (by omega),aE];refine q9.wA (iR+3) (by simpa using hR) (by rw[e8 hS];exact hb) rfl (ic _) λ j3 a6=>?_
  rw[hZ]at a6;simp only[List.set_cons_succ]at a6;have c8:=a6.vs;rw[c8.fa 2 rfl,c8.bI 2 (j:=7) rfl rfl,rE hB,KM,MX];refine aW (PK (hc.t B (ak hB))) (λ d hd=>by simp at hd;subst hd;exact B.t.b9.pair) ?_;rintro _ rfl;rw[<- hl]
  let Q:List Bool->D->LSq:=λ S lv=>(n8,.box (.agg [.nil,.nil]))::(n6,.box (.agg [.ms nR 0 n,lv]))::(n4,.box c.e)::L.set iR (nR,.arr 1 (bL S))
  have b5:∀{S:List Bool}{lv:D},(Q S lv)[iR+3]?=some (nR,.arr 1 (bL S)):=λ {S lv}=>by
   grind
  refine⟨λ _ h'=>∃H I G,lN (gI c) (edg c b) (S.set b true,T) (H,I)/\H.length=n/\I.length+jS (hasB H) n+1<=cap/\(∀x,hasB (S.set b true) x=true->hasB H x=true)/\QD h' (Q H G) G (aR I),?_,?_⟩
  ·rintro f c7 ⟨H,I,G,hv,a7,c5,V,q1⟩;have j1:=q1.one
   have key:∀X:LSq,Vs c7 (X++Q H G)->(∀(h':Heap) (y:Nat×Slot),Vs h' (y::(X++Q H G))->∀{K:List D->Prop},K (aR I)->velems 1 G h' K) ->
     ab PP (.bldS true 1 1 (.int .i64 0) [(0,(.c (.int .i64 (b:Int))))]) c7 λ a33 g3 =>
     ab PP (.fadd (.c (.ptr n6 0 0)) 1) g3 λ a35 g2 =>
     ab PP (.ld (.c a35) 1 false) g2 λ g7 g1 =>
     ab PP (.app (.c a33) (.c g7) 1 8 (.int .i64 0)) g1 λ g6 c6 =>
     ab PP (.fadd (.c (.ptr n6 0 0)) 1) c6 λ a41 g0 =>
     ab PP (.st (.c a41) (.c g6) 1) g0 λ j5 b1 =>
     ab PP (.ld (.c (.ptr n6 0 0)) 2 true) b1 λ g5 e9 =>
     ab PP (.st (.c (.ptr n8 0 0)) (.c g5) 2) e9 λ j4 a8 =>
     ab PP (.ld (.c (.ptr n8 0 0)) 2 true) a8 λ g4 _ =>
     KH g4 a8:=by
    intro X VX hx;refine Mz rfl (aI (k:=.i64) (n:=(b:Int))).one rfl λ n33 t33=>?_
    have b2:=VX.push (s:=.arr 1 [.int .i64 (b:Int)]) t33.free (by simp)
    have ix:∀{S:List Bool}{lv:D}{y:Nat×Slot}{i:Nat}{x:Nat×Slot},(Q S lv)[i]?=some x->(y::(X++Q S lv))[X.length+i+1]?=some x:=λ hi=>by
     rw[List.getElem?_cons_succ,List.getElem?_append_right (by omega),Nat.add_sub_cancel_left];exact hi
    rw[b2.fa _ (ix (i:=1) rfl),b2.bI _ (j:=1) (ix (i:=1) rfl) rfl];refine b2.rH (ys:=aR I) (λ {K} hk=>hx _ _ b2 hk) tT (by grind [bk]) (by grind [bk]) λ n39 c6 c1=>?_
    have e1:[D.int .i64 (b:Int)]++aR I=aR (b::I):=rfl;rw[e1]at c1;rw[c1.fa _ (ix (i:=1) rfl)];have el:[D.int .i64 (b:Int)].length+(aR I).length=(aR (b::I)).length:=by simp[aR];omega
    rw[el];refine c1.Yg _ (ix (i:=1) rfl) (j:=1) (by simp) rfl λ b1 j6=>?_
    have b3:Vs b1 ((n39,.arr 1 (aR (b::I)))::(X++Q H (.ms n39 0 (aR (b::I)).length))):=by
     grind [Nat.add_sub_cancel_left]
    rw[b3.fV (s:=2) _ (ix (i:=1) rfl) rfl];have e0:QD b1 (Q H (.ms n39 0 (aR (b::I)).length)) (.ms n39 0 (aR (b::I)).length) (aR (b::I)):=Or.inr ⟨n39,rfl,b3.sub (.cons_cons _ (List.sublist_append_right X _))⟩;refine e0.mY 0 rfl rfl rfl (λ x hx=>by simp at hx;rcases hx with rfl|rfl<;>rfl) λ a8 c2=>?_
    have g8:=c2.vs;rw[g8.fV (s:=2) 0 rfl rfl];refine hK H (b::I) _ a8 ⟨(H,I),by rw[nj];exact hv,rfl⟩ a7 (by grind) (λ x hx=>V x ?_) ?_
    ·grind [bJ]
    ·exact c2.less.less.less
   rcases q1 with⟨e1,e2,V1⟩|⟨m,e1,V1⟩
   ·refine key [] V1 λ h' y V' {K} hk=>?_
    rw[e1];rw[e2]at hk;exact hk
   ·refine key [(m,.arr 1 (aR I))] V1 λ h' y V' {K} hk=>?_
    rw[e1];exact EI (V'.get 1 _ _ rfl) (by simp) (by simpa using hk)
  ·dsimp only[sL,xS,yF,yI,yL]
   refine⟨λ m q h'=>∃(j:Nat) (H:List Bool) (I:List Nat) (G:D),q=[nD j]/\j<=(edg c b).length/\m=(edg c b).length-j/\lN (gI c) ((edg c b).take j) (S.set b true,T) (H,I)/\H.length=n/\I.length+jS (hasB H) n+1<=cap/\(∀x,hasB (S.set b true) x=true->hasB H x=true)/\QD h' (Q H G) G (aR I),_,
    ⟨0,S.set b true,T,lv,rfl,by omega,rfl,.nil _,by grind,by omega,λ x hx=>hx,a6⟩,?_⟩
   rintro m f Z ⟨j,H,I,G,hq,hj,hm,hv,a7,c5,V,q1⟩;simp only[ah,and_true]at hq;simp only[hq,nD,po];by_cases e5:j<(edg c b).length
   ·rw[fY (by omega),af];obtain⟨to,b7⟩:∃to,(edg c b)[j]?=some to:=⟨(edg c b)[j],aq e5⟩;have e3:to<n:=by rw[hn];exact cE hc (ak b7)
    have c3:(edg c b).take (j+1)=(edg c b).take j++[to]:=by rw[List.take_add_one,b7];rfl
    refine⟨λ _ h'=>∃H I G,lN (gI c) ((edg c b).take (j+1)) (S.set b true,T) (H,I)/\H.length=n/\I.length+jS (hasB H) n+1<=cap/\(∀x,hasB (S.set b true) x=true->hasB H x=true)/\QD h' (Q H G) G (aR I),?_,?_⟩
    ·rintro f' h' ⟨S2,T2,b4,a1,a2,a3,a4,a5⟩;rw[bB (by omega) (by grind [qm])];simp only[aa,true_and];exact⟨_,by omega,j+1,S2,T2,b4,rfl,by omega,rfl,a1,a2,a3,a4,a5⟩
    have V1:=q1.vs;have e4:∀K:D->Prop,au PP (.ld (.c (.ptr n4 0 0)) 8 true) Z K=K c.e:=λ K=>V1.Bv 2 rfl rfl
    have e6:∀K:D->Prop,au PP (.ld (.c (.ptr n6 0 0)) 2 true) Z K=K (.agg [.ms nR 0 n,G]):=λ K=>V1.Bv 1 rfl rfl
    have es:∀K:D->Prop,au PP (.iadd (.c (.sl (aR (edg c b)))) (.c (.int .i64 (j:Int))) 1) Z K=K (.vp (nD to) 0):=λ K=>Ps (by omega) (by rw[aE];exact fC b7) rfl
    have ev:∀K:D->Prop,au PP (.ld (.c (.vp (nD to) 0)) 1 false) Z K=K (.int .i64 (to:Int)):=λ K=>sw rfl
    simp only[↓V1.lH 1 rfl,Nat.zero_add,↓V1.gw 1 (j:=0) rfl rfl,es,ev,↓V1.Bw (iR+3) b5 (show(0:Int)<=(to:Int) by omega) (show(to:Int)<(n:Int) by omega),aE,↓V1.Fy (iR+3) b5 (cr (bo (S:=H) (k:=to) (by omega))) rfl,cw,e4,e6]
    cases c0:hasB H to with
    | true =>
     simp only[Bool.not_true];rw[ae];simp only[aa,true_and];exact⟨H,I,G,by rw[c3];exact hv.K4 c0,a7,c5,V,q1⟩
    | false =>
     simp only[Bool.not_false];rw[af];have h8:jS (hasB H) n<=jS (hasB (S.set b true)) n:=Qb V;refine ih (cap-1) H I to Z (Q H G) (iR+3) G _ a7 (by omega) (by omega) (by omega) e3 c0 b5 q1 λ S2 T2 b4 h2 w1 w2 w3 w4 w5=>?_
     have e7:(Q H G).set (iR+3) (nR,.arr 1 (bL S2))=Q S2 G:=by
      simp only[Q,List.set_cons_succ,List.set_set]
     rw[e7]at w5;have ho:=w5.one
     refine w5.mY 1 rfl rfl rfl (λ x hx=>by
      simp at hx;rcases hx with rfl|rfl
      ·rfl
      ·exact ho) λ h3 q3=>?_
     simp only[aa,true_and];exact⟨S2,T2,b4,by rw[c3];exact hv.Qk c0 w1,w2,by omega,λ x hx=>w4 x (V x hx),q3⟩
   grind [fU,ae,aa]
end Go.Am
namespace Go.Am
open Go Go.Proofs
theorem ab2 {v:D}{h:Heap}{K:D->Prop}(hv:v.one=true/\v.cells=[v]) (hK:K (.agg [v,.nil])):au PP (.bld [.nil,.nil] [(0,1,(.c v))]) h K:=by
 rw[Lz,nX];refine⟨λ p hp=>?_,?_⟩
 ·grind [Arg.get]
 grind [fillD,Arg.get]
theorem TJ {h:Heap}{L:LSq}{v:D}{T:List Nat}{K:D->Prop}(q:QD h L v (aR T)) (hT:T≠[]) (hK:K (.sl (aR T))):ky K v h:=by
 rcases q with⟨-,h0,-⟩|⟨m,rfl,V⟩
 ·exact absurd (by simpa[aR] using h0) hT
 ·exact oD (esz:=1) (by rw[V.get 0 _ _ rfl];rfl) (λ x hx y hy=>by simp only[aR,List.mem_map]at hx;obtain⟨k,-,rfl⟩:=hx;simp[nD,D.cells]at hy;subst hy;rfl) hK
theorem Xz {c:Code}(hc:bp c):aK PP qZ [c.e] (λ r=>∃O,zt (gI c) c.b.length 0 O/\r=.sl (aR O)):=by
 have a1:=hc.nb;refine aZ F7 (aG _ _ _) rfl (FM _ _) ?_;dsimp only[zW,xB,yF,yL];refine Vs.nil.box c.b9.one λ n2 h3 V=>?_
 have e4:∀K:D->Prop,au PP (.ld (.c (.ptr n2 0 0)) 8 true) h3 K=K c.e:=λ K=>V.Bv 0 rfl rfl
 simp only[e4,↓V.lH 0 rfl,Nat.zero_add,↓V.gw 0 (j:=7) rfl rfl,bD,aH];refine V.SQ (by omega) (by omega) λ nR H I=>?_
 rw[show List.replicate c.b.length (D.bool false)=bL (List.replicate c.b.length false) by simp[bL]]at I;have e9:∀K:D->Prop,au PP (.ld (.c (.ptr n2 0 0)) 8 true) H K=K c.e:=λ K=>I.Bv 1 rfl rfl
 simp only[e9,aa,true_and];refine ab2 ⟨rfl,rfl⟩ ?_;have Q:=wI (hasB (List.replicate c.b.length false)) c.b.length;have q0:QD H [(nR,.arr 1 (bL (List.replicate c.b.length false))),(n2,.box c.e)] .nil (aR []):=Or.inl ⟨rfl,rfl,I⟩;refine VG hc (n:=c.b.length) rfl c.b.length c.b.length (List.replicate c.b.length false) [] 0 H _ 0 .nil _ (by simp) Q (by simpa using Q) (by omega) (by omega) yS rfl q0 λ S' T' G h' Z _ _ _ q'=>?_
 rw[show au PP (.fld (.c (.agg [.ms nR 0 c.b.length,G])) 1 1 false) h'=λ K=>K G from rfl];exact TJ q' (S5 Z) ⟨T',⟨S',Z⟩,rfl⟩
end Go.Am
namespace Go.Am
open Go Go.Proofs
def Nb (E:List (List Nat)) (w:Int) (a:Nat):List Nat:=(gL E a).filter λ b:Nat=>decide ((b:Int)≠w)
theorem Is {w:Int}{N:Nat}:∀{l:List Nat}{S:List Bool}{T:List Nat},(∀b∈l,b<N)->S.length=N ->
  (l.foldl (c9 w) (S,T)).1.length=N/\(∀k,hasB (l.foldl (c9 w) (S,T)).1 k=true↔hasB S k=true\/(k∈l/\(k:Int)≠w)) /\
  (∀k∈T,k∈(l.foldl (c9 w) (S,T)).2)/\(∀k,k∈(l.foldl (c9 w) (S,T)).2->k∈T\/(k∈l/\(k:Int)≠w))/\(∀k,hasB (l.foldl (c9 w) (S,T)).1 k=true->hasB S k=true\/k∈(l.foldl (c9 w) (S,T)).2) /\
  2*jS (hasB (l.foldl (c9 w) (S,T)).1) N+(l.foldl (c9 w) (S,T)).2.length<=2*jS (hasB S) N+T.length
 | [],S,T,_,hS=>⟨hS,λ k=>by simp,λ k h=>h,λ k h=>Or.inl h,λ k h=>Or.inl h,Nat.le_refl _⟩
 | b::l,S,T,hl,hS=>by
  rw[List.foldl_cons];by_cases hc:(!hasB S b&&decide ((b:Int)≠w))=true
  ·have H:c9 w (S,T) b=(S.set b true,T++[b]):=by unfold c9;rw[if_pos hc]
   rw[H];simp only[Bool.and_eq_true,Bool.not_eq_true',decide_eq_true_eq]at hc;have Q:=hl b (by simp);obtain⟨Z,g2,V,g4,g5,g6⟩:=Is (w:=w) (l:=l) (S:=S.set b true) (T:=T++[b]) (λ x hx=>hl x (by simp[hx])) (by grind);have G:∀k,hasB (S.set b true) k=true↔k=b\/hasB S k=true:=λ k=>by grind [bJ]
   refine⟨Z,λ k=>?_,λ k I=>V k (by simp[I]),λ k I=>?_,λ k I=>?_,?_⟩
   ·grind
   ·grind
   ·grind
   ·have:=kB (p:=hasB S) (p':=hasB (S.set b true)) (N:=N) (x:=b) (λ x hx=>(G x).2 (Or.inr hx)) Q hc.1 ((G b).2 (Or.inl rfl));grind
  ·have H:c9 w (S,T) b=(S,T):=by unfold c9;rw[if_neg hc]
   rw[H];obtain⟨Z,g2,V,g4,g5,g6⟩:=Is (w:=w) (l:=l) (S:=S) (T:=T) (λ x hx=>hl x (by simp[hx])) hS;grind
theorem Uw {E:List (List Nat)}{w:Int}{s N:Nat}(hE:∀a b,b∈gL E a->b<N):∀{n:Nat}{S:List Bool}{T:List Nat},S.length=N->2*jS (hasB S) N+T.length<=n->hasB S s=true->(∀k,hasB S k=true->Path (Nb E w) s k)->(∀k∈T,hasB S k=true) ->
  (∀a,hasB S a=true->a∈T\/∀b,b∈Nb E w a->hasB S b=true)->∀k,hasB (frRun E w n S T) k=true↔Path (Nb E w) s k
 | n,S,[],hS,hn,hs,hp,Z,I=>λ k=>by
  rw[Lp];refine⟨hp k,λ h=>?_⟩
  induction h with
  | refl=>exact hs
  | step _ e ih =>
   grind
 | 0,S,a::T,hS,hn,_,_,_,_=>by simp at hn
 | n+1,S,a::T,hS,hn,hs,hp,Z,I=>by
  have G:=Is (w:=w) (N:=N) (l:=gL E a) (S:=S) (T:=T) (λ b hb=>hE a b hb) hS;obtain⟨g1,g2,g3,g4,g5,g6⟩:=G;have H:frRun E w (n+1) S (a::T)=frRun E w n ((gL E a).foldl (c9 w) (S,T)).1 ((gL E a).foldl (c9 w) (S,T)).2:=rfl;rw[H];have Q:=Z a (by simp);have hex:∀b,b∈Nb E w a↔b∈gL E a/\(b:Int)≠w:=λ b=>by simp[Nb]
  refine Uw hE g1 ?_ ((g2 s).2 (Or.inl hs)) (λ k V=>?_) (λ k V=>?_) (λ x hx=>?_)
  ·grind
  ·rcases (g2 k).1 V with h|h
   ·exact hp k h
   ·exact .step (hp a Q) ((hex k).2 h)
  ·grind
  grind
theorem Fv {E:List (List Nat)}{w:Int}{s:Nat}(hE:∀a b,b∈gL E a->b<E.length) (hs:s<E.length) (hw:(s:Int)≠w) (k:Nat):hasB (lO E s w) k=true↔Path (Nb E w) s k:=by
 unfold lO;rw[if_neg hw];have G:∀k,hasB ((List.replicate E.length false).set s true) k=true↔k=s:=λ k=>by grind [bJ,yS]
 refine Uw (N:=E.length) hE (by simp) ?_ ((G s).2 rfl) (λ k H=>by rw[(G k).1 H];exact .refl) (λ k H=>by grind) (λ a ha=>Or.inl (by rw[(G a).1 ha];simp)) k;grind [wI]
end Go.Am
namespace Go.Am
open Go Go.Proofs
structure acG (c:Code) (O:List Nat) (l:List Nat) (F:List (List Nat)):Prop where
 len:F.length=c.b.length+1
 lt:∀a b,b∈gL F a->b<c.b.length+1
 mem:∀a x,a∈O->(x∈gL F a↔x∈edg c a\/(x=c.b.length/\a∈l))
 last:gL F c.b.length=[]
section
variable {c:Code}{O O':List Nat}{at' U:List Int}{F:List (List Nat)}
theorem Pd (hc:bp c) (D:AN c O O' at' U){a p:Nat}(ha:a∈O):p∈pB c O O' a↔(p=c.b.length/\a∈ec c O)\/(p∈edg c a):=by
 have e:p∈pB c O O' a↔p∈gL (EH (rO (gI c) O c.b.length (ec c O)) O' (c.b.length+1)) a:=Iff.rfl;rw[e,lg (D.rO hc)];constructor
 ·rintro⟨h1,h2⟩;rw[Bt]at h2;split at h2
  ·rw[lg (kZ hc),nj]at h2;exact Or.inr h2.2
  grind
 ·rintro (⟨rfl,h⟩|h)
  ·refine⟨ak D.b.g.hd,?_⟩;grind [Bt]
  ·obtain⟨h1,h2⟩:=D.pre hc ha h;rw[e,lg (D.rO hc)]at h1;exact h1
theorem SE (hc:bp c) (D:AN c O O' at' U) (G:acG c O (ec c O) F){a b:Nat}(ha:a∈O) (hb:b<c.b.length):(a=b\/¬Path (Nb F (b:Int)) a c.b.length)↔Dm c.b.length (pB c O O') b a:=by
 have hex:∀x y,y∈Nb F (b:Int) x↔y∈gL F x/\y≠b:=λ x y=>by grind [Nb]
 have I:∀{x y},x∈O->y∈edg c x->y∈O:=λ hx hy=>(D.mem hc (cE hc hy)).1 (D.pre hc hx hy).2
 have key:∀x∈O,(Pv (pB c O O') (· = b) c.b.length x↔x≠b/\Path (Nb F (b:Int)) x c.b.length):=by
  intro x hx;constructor
  ·have:∀{x:Nat},Pv (pB c O O') (· = b) c.b.length x->(x=c.b.length\/x∈O)->x≠b/\Path (Nb F (b:Int)) x c.b.length:=by
    intro x h
    induction h with
    | refl h=>exact λ _=>⟨by omega,.refl⟩
    | @step y x h e H Q =>
     rintro (rfl|hx)
     ·exact⟨H,.refl⟩
     ·rcases (Pd hc D hx).1 e with⟨rfl,h1⟩|h1
      ·exact⟨H,.step .refl ((hex _ _).2 ⟨(G.mem x _ hx).2 (Or.inr ⟨rfl,h1⟩),by omega⟩)⟩
      ·have hy:=I hx h1;have h2:=Q (Or.inr hy);exact⟨H,NA ((hex _ _).2 ⟨(G.mem x _ hx).2 (Or.inl h1),h2.1⟩) h2.2⟩
   grind
  ·rintro⟨a1,hp⟩
   have:∀{z:Nat},Path (Nb F (b:Int)) x z->(z=c.b.length\/(z∈O/\z≠b))/\(Pv (pB c O O') (· = b) c.b.length z->Pv (pB c O O') (· = b) c.b.length x):=by
    intro z h
    induction h with
    | refl=>grind
    | @step y z h e Q =>
     have h1:=(hex _ _).1 e;rcases Q.1 with rfl|⟨hy,V⟩
     ·rw[G.last]at h1;cases h1.1
     ·rcases (G.mem y z hy).1 h1.1 with h2|⟨rfl,h2⟩
      ·exact⟨Or.inr ⟨I hy h2,h1.2⟩,λ Z=>Q.2 (.step Z ((Pd hc D hy).2 (Or.inr h2)) V)⟩
      ·exact⟨Or.inl rfl,λ Z=>Q.2 (.step Z ((Pd hc D hy).2 (Or.inl ⟨rfl,h2⟩)) V)⟩
   exact(this hp).2 (.refl (by omega))
 grind [Dm]
end
end Go.Am
namespace Go.Am
open Go Go.Proofs
theorem tE {P:Program}{h:Heap}{A:(HKq)->Prop}{KH:HKq}:vguard (.bool true) false A h KH=KH gU h:=by
 rw[my];simp
theorem B4 {P:Program}{h:Heap}{A:(HKq)->Prop}{KH:HKq}:vguard (.bool false) false A h KH=A KH:=by
 rw[my];simp
def BC (F:List (List Nat)) (a b:Nat):Bool:=decide (a=b) || !hasB (lO F a (b:Int)) (F.length-1)
theorem Fu {E:List (List Nat)}{w:Int}{s:Nat}(hE:∀a b,b∈gL E a->b<E.length):(lO E s w).length=E.length:=by
 unfold lO;split
 ·simp
 ·have:∀(n:Nat) (S:List Bool) (T:List Nat),S.length=E.length->(frRun E w n S T).length=E.length:=by
   intro n
   induction n with
   | zero=>intro S T h;exact h
   | succ n G =>
    intro S T h
    cases T with
    | nil=>exact h
    | cons a T=>exact G _ _ (Is (w:=w) (N:=E.length) (l:=gL E a) (S:=S) (T:=T) (λ b hb=>hE a b hb) h).1
  exact this _ _ _ (by simp)
end Go.Am
namespace Go.Am
open Go Go.Proofs
theorem JB {E:List (List Nat)}{x:Nat}:∀{T l:List Nat},x∈l->x∈endF E T l
 | [],_,h=>h
 | b::T,l,h=>by
  unfold endF;split
  ·exact JB h
  ·exact JB (by simp[h])
open Classical in
noncomputable def eg (c:Code) (l:List Nat):List (List Nat):=((List.range c.b.length).map λ b=>if zM c b then [c.b.length] else if b∈l then edg c b++[c.b.length] else edg c b)++[[]]
theorem bQ {c:Code}{l:List Nat}:(eg c l).length=c.b.length+1:=by simp[eg]
open Classical in
theorem jF {c:Code}{l:List Nat}{b:Nat}:gL (eg c l) b=if b<c.b.length then(if zM c b then [c.b.length] else if b∈l then edg c b++[c.b.length] else edg c b) else []:=by
 grind [gL,eg]
theorem QS {c:Code}{b:Nat}(h:zM c b=true):edg c b=[]:=by
 grind [zM,edg,bf]
theorem ZM {c:Code}(hc:bp c){O:List Nat}(hO:∀x∈O,x<c.b.length):acG c O (ec c O) (eg c (ec c O)):=by
 refine⟨bQ,λ a b h=>?_,λ a x ha=>?_,by grind [jF]⟩
 ·rw[jF]at h;split at h
  ·split at h
   ·simp at h;omega
   ·split at h
    ·rcases List.mem_append.1 h with h|h
     ·have:=cE hc h;omega
     ·simp at h;omega
    ·have:=cE hc h;omega
  ·cases h
 grind [jF,QS,ec,JB]
theorem MK {c:Code}(hc:bp c){O O':List Nat}{at' U:List Int}(D:AN c O O' at' U){a b:Nat}(ha:a∈O) (hb:b<c.b.length):BC (eg c (ec c O)) a b=true↔Dm c.b.length (pB c O O') b a:=by
 have I:=D.b.lt a ha;have G:=ZM hc D.b.lt;rw[<- SE hc D G ha hb];unfold BC;rw[Bool.or_eq_true,decide_eq_true_eq,Bool.not_eq_true',bQ,Nat.add_sub_cancel];by_cases H:a=b
 ·simp[H]
 ·have:=Fv (E:=eg c (ec c O)) (w:=(b:Int)) (s:=a) (λ x y h=>by rw[bQ];exact G.lt x y h) (by rw[bQ];omega) (by omega) c.b.length;grind
end Go.Am
namespace Go.Am
open Go Go.Proofs
end Go.Am
namespace Go.Am
open Go Go.Proofs
theorem Rh {c:Code}(hc:bp c){h:Heap}{L:LSq}{KH:HKq}(V0:Vs h L) (hK:∀m h',Vs h' ((m,.arr 1 ((gI c).map λ l=>.sl (aR l)))::L)->KH (.ms m 0 c.b.length) h'):ag PP mC [c.e] h KH:=by
 have Z:=hc.nb;refine aY F8 (aG _ _ _) rfl (FN _ _) ?_;dsimp only[zX,xB];refine V0.box c.b9.one λ n2 h3 V1=>?_
 refine V1.Db λ n4 h5 V5=>?_
 refine⟨λ q h'=>∃v,q=[v]/\QD h' ((n2,.box c.e)::L) v ((gI c).map λ l=>.sl (aR l)),?_,?_⟩
 ·rintro f h' ⟨v,G,q⟩;simp only[ah,and_true]at G;rw[G];rcases q with⟨-,h0,-⟩|⟨m,rfl,V⟩
  ·grind [cM,List.length_nil]
  ·rw[aH,cM];exact hK m h' V.swap.pop
 dsimp only[sM,xF,xI,xL];refine⟨λ k q h'=>∃(i:Nat) (v:D),q=[v,nD i]/\i<=c.b.length/\k=c.b.length-i/\QD h' ((n2,.box c.e)::L) v (((gI c).take i).map λ l=>.sl (aR l)),_,⟨0,_,rfl,by omega,rfl,Or.inr ⟨n4,rfl,V5⟩⟩,?_⟩;rintro k f h1 ⟨i,v,G,hi,hk,q⟩;simp only[ah,and_true]at G;obtain⟨Q,I⟩:=G;have V:=q.vs;simp only[Q,I,nD,↓V.fa 0 rfl,Nat.zero_add,↓V.bI 0 (j:=7) rfl rfl,bD,aH];by_cases H:i<c.b.length
 ·rw[fY (by omega),af];obtain⟨B,hB⟩:∃B,c.b[i]?=some B:=⟨c.b[i],aq H⟩;rw[rE hB,KM,MX];refine aW (PK (hc.t B (ak hB))) (λ d hd=>by simp at hd;subst hd;exact B.t.b9.pair) ?_;rintro _ rfl;refine q.push FA rfl (by grind) (by grind) λ v' h' q'=>?_
  rw[bB (by omega) (by omega)];simp only[aa,true_and];refine⟨_,?_,i+1,v',rfl,by omega,rfl,?_⟩
  ·omega
  grind [List.take_add_one,MI,jr]
 grind [fU,ae,aa,cM]
end Go.Am
namespace Go.Am
open Go Go.Proofs
theorem PY {E:List (List Nat)}{s:Nat}{w:Int}{h:Heap}{L:LSq}{vE:D}{KH:HKq}(V0:Vs h L) (wE:LR L vE E) (hN:E.length<=1000) (hE:∀l∈E,∀b∈l,b<E.length) (hs:s<E.length) (hEl:∀l∈E,l.length<=1000)
  (hK:∀n h',Vs h' ((n,.arr 1 (bL (lO E s w)))::L)->KH (.ms n 0 E.length) h'):ag PP kK [vE,nD s,.int .i64 w] h KH:=by
 refine aY H3 (aG _ _ _) rfl (HI _ _ _ _) ?_;dsimp only[DD,xI,xS];rw[LR.len V0 wE];refine V0.SQ (by omega) (by omega) λ n5 h6 V1=>?_
 rw[show List.replicate E.length (D.bool false)=bL (List.replicate E.length false) by simp[bL]]at V1
 have ret:∀(h:Heap) (S:List Bool),Vs h ((n5,.arr 1 (bL S))::L)->S=lO E s w->KH (.ms n5 0 E.length) h:=λ h S V he=>by
  subst he;exact hK n5 h V
 have G:∀{S:List Bool} x,x∈L->x∈(n5,Slot.arr 1 (bL S))::L:=λ x hx=>List.mem_cons_of_mem _ hx
 simp only[nD,bq];by_cases hw:(s:Int)=w
 ·grind [af,lO]
 simp only[hw,decide_false,↓ae];rw[V1.ia 0 rfl (by omega) (by omega),aE];refine V1.wA 0 rfl (by simp[bL];exact hs) rfl (ic _) λ b5 V2=>?_
 rw[hZ]at V2;replace V2:Vs b5 ((n5,.arr 1 (bL ((List.replicate E.length false).set s true)))::L):=V2;refine QV.one (k:=s) V2 λ v c3 q0=>?_
 refine⟨λ _ h=>∃S:List Bool,S.length=E.length/\Vs h ((n5,.arr 1 (bL S))::L)/\S=lO E s w,λ f h ⟨S,hS,V,he⟩=>ret h S V he,?_⟩;dsimp only[uO,xI,xL]
 refine⟨λ m l h=>∃(S:List Bool) (T:List Nat) (v:D),l=[v]/\S.length=E.length/\(∀k∈T,k<E.length)/\QV h ((n5,.arr 1 (bL S))::L) v T/\frRun E w m S T=lO E s w/\2*jS (hasB S) E.length+T.length<=m/\m<=3*E.length+3,3*E.length+3,
  ⟨_,[s],v,rfl,by simp,λ k hk=>by simp at hk;omega,q0,by unfold lO;rw[if_neg hw],by grind [wI],by omega⟩,?_⟩
 rintro m f h1 ⟨S,T,v,hl,hS,hT,q,H,hm,c1⟩;simp only[ah,and_true]at hl;simp only[hl,q.len,rU]
 cases T with
 | nil =>
  simp only[List.length_nil,show((0:Nat):Int)=0 from rfl,Int.lt_irrefl,decide_false,↓ae,aa,true_and];exact⟨S,hS,q.vs,by rw[<- H,Lp]⟩
 | cons a T' =>
  cases m with
  | zero=>simp at hm
  | succ m =>
  have b4:=hT a (by simp);have Q:E[a]?=some E[a]:=aq b4;have a1:=ak Q;rw[frRun,Q]at H;simp only[Option.getD_some]at H;generalize E[a]=es at Q a1 H;simp only[show((0:Int)<((a::T').length:Int))=True from eq_true (by grind),decide_true,↓af];refine q.get (i:=0) (k:=a) rfl ?_;refine q.mZ (lo:=some 1) (hi:=none) (a:=1) (b:=(a::T').length) rfl rfl (by simp) (Nat.le_refl _) (by simp) λ v' q'=>?_
  have e1:((a::T').drop 1).take ((a::T').length-1)=T':=by simp
  rw[e1]at q';dsimp only[uP,xI,xL,xP,xS]
  refine⟨λ k l h=>∃(i:Nat) (S:List Bool) (T:List Nat) (v:D),l=[v,.int .i64 (i:Int)]/\i<=es.length/\k=es.length-i/\S.length=E.length/\(∀k∈T,k<E.length)/\QV h ((n5,.arr 1 (bL S))::L) v T /\
   frRun E w m ((es.drop i).foldl (c9 w) (S,T)).1 ((es.drop i).foldl (c9 w) (S,T)).2=lO E s w/\2*jS (hasB S) E.length+T.length<=m,_,
   ⟨0,S,T',v',rfl,by omega,rfl,hS,λ k hk=>hT k (by simp[hk]),q',H,by grind⟩,?_⟩
  clear H hm q' q hS hT hl;rintro k f2 h2 ⟨i,S,T,v,a7,hi,hk,hS,hT,q,H,hm⟩;simp only[ah,and_true]at a7;obtain⟨e8,b7⟩:=a7;have c2:=hEl es a1;simp only[e8,b7];refine LR.W3 q.vs G wE Q λ e we=>?_
  rw[HT.len q.vs (we.mono G),nV];by_cases a2:i<es.length
  ·have hb:es[i]?=some es[i]:=aq a2;have Z:es.drop i=es[i]::es.drop (i+1):=List.drop_eq_getElem_cons a2;rw[Z,List.foldl_cons]at H;generalize es[i]=b at hb H;have b3:b<E.length:=hE es a1 b (ak hb);simp only[show((i:Int)<(es.length:Int))=True from eq_true (by omega),decide_true,↓af]
   refine⟨λ l h=>∃(S:List Bool) (T:List Nat) (v:D),l=[v]/\S.length=E.length/\(∀k∈T,k<E.length)/\QV h ((n5,.arr 1 (bL S))::L) v T /\
    frRun E w m ((es.drop (i+1)).foldl (c9 w) (S,T)).1 ((es.drop (i+1)).foldl (c9 w) (S,T)).2=lO E s w/\2*jS (hasB S) E.length+T.length<=m,?_,?_⟩
   ·rintro f3 h3 ⟨S,T,v,a6,g1,g2,g3,g4,g5⟩;simp only[ah,and_true]at a6;rw[a6,bB (by omega) (by omega)];simp only[aa,true_and];exact⟨_,by omega,i+1,S,T,v,by simp,by omega,rfl,g1,g2,g3,g4,g5⟩
   have V:=q.vs;refine LR.W3 q.vs G wE Q λ e' b1=>?_
   rw[HT.get q.vs (b1.mono G) hb];simp only[nD,↓V.ia 0 rfl (show(0:Int)<=(b:Int) by omega) (show(b:Int)<(E.length:Nat) by omega),aE,↓V.yQ 0 rfl (cr (bo (S:=S) (k:=b) (by omega))) rfl];cases b2:hasB S b
   ·by_cases a8:(b:Int)=w
    ·have I:c9 w (S,T) b=(S,T):=by grind [c9]
     rw[I]at H;rw[T5];simp only[↓gS,kA,a8,decide_true,Bool.not_true,aa,true_and];grind
    ·have I:c9 w (S,T) b=(S.set b true,T++[b]):=by grind [c9]
     rw[I]at H;rw[T5];simp only[↓gS,kA,a8,decide_false,Bool.not_false];simp only[↓gS,↓V.ia 0 rfl (show(0:Int)<=(b:Int) by omega) (show(b:Int)<(E.length:Nat) by omega),aE];have c0:jS (hasB (S.set b true)) E.length+1<=jS (hasB S) E.length:=kB (x:=b) (λ k hk=>by grind [bJ]) b3 b2 (by grind [bJ]);refine q.wA 0 rfl (by simp[bL];omega) rfl (ic _) λ h4 q4=>?_
     rw[hZ]at q4;replace q4:QV h4 ((n5,.arr 1 (bL (S.set b true)))::L) v T:=q4;refine q4.push (k:=b) (by omega) (by omega) λ v5 h5 q5=>?_
     grind [aa]
   ·have I:c9 w (S,T) b=(S,T):=by grind [c9]
    rw[I]at H;rw[WI];simp only[↓gS,aa,true_and];grind
  grind [ae,aa]
end Go.Am
namespace Go.Am
open Go Go.Proofs
theorem Ru.one {r:Ru}{v:D}(h:v.one=true):aL (r.e v):=λ x hx=>by
 simp[Ru.e]at hx;rcases hx with rfl|rfl|rfl|rfl
 ·rfl
 ·rfl
 ·exact h
 ·rfl
section
def P3 (rs:List Ru) (s:Fa->Prop):Prop:=∀r∈rs,s r.of->r.never=false/\∀f∈r.needs,s f
def Gf (rs:List Ru) (f:Fa):Prop:=∃s,P3 rs s/\s f
theorem Gf.closed (rs:List Ru):P3 rs (Gf rs):=by
 rintro r hr ⟨s,hs,h⟩;obtain⟨h1,h2⟩:=hs r hr h;exact⟨h1,λ f G=>⟨s,hs,h2 f G⟩⟩
def vJ (U R:List Bool) (f:Fa):List Bool×List Bool:=if f.rG then(U.set f.n.toNat false,R) else(U,R.set f.n.toNat false)
def JL (U R:List Bool):Nat:=U.count true+R.count true
theorem count_set {L:List Bool}:∀{i:Nat},hasB L i=true->(L.set i false).count true+1=L.count true:=by
 grind [hasB]
theorem RT {L:List Bool}{i k:Nat}:hasB (L.set i false) k=(hasB L k && !decide (k=i)):=by
 grind [hasB]
theorem UX {U R:List Bool}{f:Fa}(h:km U R f=true):JL (vJ U R f).1 (vJ U R f).2+1=JL U R:=by
 obtain⟨b,n⟩:=f;cases b
 ·have:=count_set (L:=R) (i:=n.toNat) h;grind [vJ,JL]
 ·have:=count_set (L:=U) (i:=n.toNat) h;grind [vJ,JL]
theorem RW {U R:List Bool}{f g:Fa}(hf:0<=f.n) (hg:0<=g.n):km (vJ U R f).1 (vJ U R f).2 g=true↔km U R g=true/\g≠f:=by
 obtain⟨b,n⟩:=f;obtain⟨b',G⟩:=g;grind [km,Pa,vJ,RT]
structure UV (c:Code) (rs:List Ru) (U R:List Bool):Prop where
 ul:U.length=c.b.length
 rl:R.length=c.regs.toNat
 up:∀f,Kk c.b.length c.regs f->Gf rs f->km U R f=true
theorem iI {U R:List Bool}{r:Ru}:fe U R r=true↔(km U R r.of=true->r.never=false/\∀f∈r.needs,km U R f=true):=by
 grind [fe]
theorem UV.drop {c:Code}{rs:List Ru}{U R:List Bool}(u:UV c rs U R){r:Ru}(hr:r∈rs) (ok:HS c.b.length c.regs r) (hk:fe U R r=false):km U R r.of=true/\UV c rs (vJ U R r.of).1 (vJ U R r.of).2:=by
 have hg:km U R r.of=true:=by
  grind [iI]
 have I:¬Gf rs r.of:=by
  intro H;obtain⟨h1,h2⟩:=Gf.closed rs r hr H;have:fe U R r=true:=iI.2 λ _=>⟨h1,λ f G=>u.up f (ok.needs f G) (h2 f G)⟩
  rw[hk]at this;cases this
 refine⟨hg,⟨?_,?_,λ f G H=>?_⟩⟩
 ·unfold vJ;split
  ·rw[List.length_set];exact u.ul
  ·exact u.ul
 ·unfold vJ;split
  ·exact u.rl
  ·rw[List.length_set];exact u.rl
 ·rw[RW ok.of.1 G.1];refine⟨u.up f G H,?_⟩;rintro rfl;exact I H
noncomputable def Hy (c:Code) (rs:List Ru):List Bool:=(List.range c.b.length).map λ b=>@decide (Gf rs (wC b)) (Classical.propDecidable _)
noncomputable def Gx (c:Code) (rs:List Ru):List Bool:=(List.range c.regs.toNat).map λ k:Nat=>@decide (Gf rs (zE (k:Int))) (Classical.propDecidable _)
theorem CW {c:Code}{rs:List Ru}:(Hy c rs).length=c.b.length:=by simp[Hy]
theorem CX {c:Code}{rs:List Ru}:(Gx c rs).length=c.regs.toNat:=by simp[Gx]
theorem Mw {c:Code}{rs:List Ru}{b:Nat}(h:b<c.b.length):hasB (Hy c rs) b=true↔Gf rs (wC b):=by
 grind [hasB,Hy]
theorem QJ {c:Code}{rs:List Ru}{k:Nat}(h:k<c.regs.toNat):hasB (Gx c rs) k=true↔Gf rs (zE (k:Int)):=by
 grind [hasB,Gx]
theorem Ur {c:Code}{rs:List Ru}{f:Fa}(hf:Kk c.b.length c.regs f):km (Hy c rs) (Gx c rs) f=true↔Gf rs f:=by
 obtain⟨b,n⟩:=f;obtain⟨h0,h1,h2⟩:=hf;have hn:((n.toNat:Nat):Int)=n:=by simp only at h0;omega
 cases b
 ·have h2:n<c.regs:=h2 rfl;have:=QJ (c:=c) (rs:=rs) (k:=n.toNat) (by simp only at h0;omega);unfold zE at this;rw[hn]at this;exact this
 ·have h1:n<c.b.length:=h1 rfl;have:=Mw (c:=c) (rs:=rs) (b:=n.toNat) (by simp only at h0;omega);unfold wC at this;rw[hn]at this;exact this
theorem NS {A B:List Bool}(hl:A.length=B.length) (h:∀k,k<A.length->(hasB A k=true↔hasB B k=true)):A=B:=by
 grind [List.ext_getElem,hasB]
theorem UV.fin {c:Code}{rs:List Ru}{U R:List Bool}(u:UV c rs U R) (ok:∀r∈rs,HS c.b.length c.regs r) (hk:∀r∈rs,fe U R r=true):U=Hy c rs/\R=Gx c rs:=by
 have I:P3 rs λ f=>Kk c.b.length c.regs f/\km U R f=true:=by
  rintro r hr ⟨-,hg⟩;obtain⟨h1,h2⟩:=iI.1 (hk r hr) hg;exact⟨h1,λ f H=>⟨(ok r hr).needs f H,h2 f H⟩⟩
 have key:∀f,Kk c.b.length c.regs f->(km U R f=true↔Gf rs f):=λ f H=>⟨λ h=>⟨_,I,H,h⟩,u.up f H⟩
 constructor
 ·refine NS (by rw[u.ul,CW]) λ k G=>?_
  have G:k<c.b.length:=by rw[<- u.ul];exact G
  rw[Mw G, <- key (wC k) (OE G)];rfl
 ·refine NS (by rw[u.rl,CX]) λ k G=>?_
  have G:k<c.regs.toNat:=by rw[<- u.rl];exact G
  have:=key (zE (k:Int)) ⟨by simp[zE],λ h=>(by cases h),λ _=>by simp only[zE];omega⟩;rw[QJ G, <- this];rfl
theorem UV.start {c:Code}{rs:List Ru}(hr:0<=c.regs):UV c rs (List.replicate c.b.length true) (List.replicate c.regs.toNat true):=by
 refine⟨by simp,by simp,λ f G _=>?_⟩;obtain⟨b,n⟩:=f;obtain⟨h0,h1,h2⟩:=G;grind [km,Pa,hasB]
def uE (U R:List Bool):D:=.agg [.sl (bL U),.sl (bL R)]
end
section
variable {c:Code}{h:Heap}{KH:HKq}
theorem Yu {P:Program}{bytes l:Nat}{h:Heap}{KH:HKq}(hb:l*bytes<=140737488355328) (hl:l<=9223372036854775807) (hK:KH .undef h):ab P (.mkc bytes (.c (.int .i64 (l:Int))) (.c (.int .i64 (l:Int)))) h KH :=
 ⟨by omega,by omega,by grind,by omega,hK⟩
def b6 (c:Code) (nU nR nu n4 n2 nr:Nat) (U R:List Bool) (X:LSq):LSq :=
 (nu,.box (.agg [.ms nU 0 c.b.length,.ms nR 0 nr]))::(nR,.arr 1 (bL R))::(nU,.arr 1 (bL U))::(n4,.box (.agg [.nil,.nil]))::(n2,.box c.e)::X
section
variable {nU nR nu n4 n2 nr:Nat}{U R:List Bool}{X A:LSq}
end
end
theorem UU {d:D}{h:Heap}{K:D->Prop}:au PP (.len (.c d)) h K=aM d h K:=rfl
theorem RuM.mono {c:Code}{W W':LSq}{n2 pr pd:Nat}{dv:D}(hs:∀x∈W,x∈W') (r:RuM c W n2 pr pd dv):RuM c W' n2 pr pd dv:=⟨hs _ r.h2,hs _ r.hr,hs _ r.hd,r.wd.mono hs⟩
def Kj (c:Code):Prop:=∃O O' at' U,AN c O O' at' U
theorem aah {n:Nat}{b:Bool}:bL (List.replicate n b)=List.replicate n (.bool b):=by simp[bL]
end Go.Am
namespace Go.Am
open Go Go.Proofs
def CD (v:D) (T:List Bool):Prop:=v=.sl (bL T)\/(v=.nil/\T=[])
theorem CD.one {v:D}{T:List Bool}(w:CD v T):v.one=true:=by rcases w with rfl|⟨rfl,-⟩<;>rfl
theorem CD.len {v:D}{T:List Bool}(w:CD v T){h:Heap}{K:D->Prop}:aM v h K=K (.int .i64 (T.length:Int)):=by
 rcases w with rfl|⟨rfl,rfl⟩
 ·rw[bD];simp[bL]
 ·rw[B6];rfl
theorem CD.sl {v:D}{T:List Bool}(w:CD v T) (h:1<=T.length):v=.sl (bL T):=by
 rcases w with h|⟨-,rfl⟩
 ·exact h
 ·simp at h
noncomputable def rC (c:Code) (U R:List Bool):Bool:=decide (U.length=c.b.length)&&decide ((R.length:Int)=c.regs)&&(iB c).all (fe U R)
section
variable {h:Heap}{L:LSq}{KH:HKq}
theorem QE.fw {v:D}{T:List Fa}(q:QE 2 h L v (T.map Fa.e)):∃X,Vs h (X++L)/\FW (X++L) v T:=by
 rcases q with⟨rfl,h0,V⟩|⟨m,rfl,V⟩
 ·exact⟨[],V,Or.inl ⟨rfl,by simpa using h0⟩⟩
 ·exact⟨[(m,.arr 2 (T.map Fa.e))],V,Or.inr (Or.inr ⟨m,by simp,by simp⟩)⟩
def ChL (nk n7 n5:Nat) (s:LSt) (B:dT) (e:Int) (vU vR:D):LSq:=[(nk,.lp s B),(n7,.box (.int .i64 e)),(n5,.box (.agg [vU,vR]))]
theorem SS {c:Code}{U R:List Bool}{rs:List Ru}{nk n7 n5:Nat}{B:dT}(hul:U.length=c.b.length) (hrl:(R.length:Int)=c.regs) (hps:B.ps=[23]) (hlt:∀p,p∈[23]->p<B.nt) (he:B.env=LEnv.get [(3,.ptr n5 0 0),(4,.ptr n7 0 0)]) (hAs:OW PP jQ B.nt B.assign) (hBs:OW PP jP B.nt B.body) :
  Yl nk (λ r=>HS c.b.length c.regs r/\r∈rs) (λ done Lc=>Lc=ChL nk n7 n5 .ready B 0 (.sl (bL U)) (.sl (bL R))/\∀r∈done,fe U R r=true) (λ Lc=>Lc=ChL nk n7 n5 (.done .ret) B 100 (.sl (bL U)) (.sl (bL R))/\∃r,r∈rs/\fe U R r=false):=by
 rintro done G Lc h N nd KH ⟨rfl,Z⟩-⟨V,Q⟩ q hT hF;have V0:=q.vs;rw[Up];refine⟨⟨_,_,V0.get 0 _ _ rfl⟩,?_⟩;refine Df (e:=[(3,.ptr n5 0 0),(4,.ptr n7 0 0)]) (V0.get 0 _ _ rfl) hps hAs hBs (by simp) hlt rfl he ?_;rw[show([Arg.c (G.e nd)].map λ x=>x.get [])=[G.e nd] from rfl, <- vY];dsimp only[pH,xL,xS];refine q.alloc λ n1 h1 q1=>?_
 refine q1.mY (cs':=[.bool G.of.rG,.int .i64 G.of.n,nd,.bool G.never]) rfl rfl (λ x hx=>Ru.one q.one x hx) λ h2 q2=>?_
 refine⟨rfl,q2.vs.get 1 _ _ rfl,?_⟩;have I:=q2.bK 1 rfl (s':=.lp .busy B) (by simp);simp only[ChL,List.set_cons_succ,List.set_cons_zero,List.cons_append,List.nil_append]at I;rw[I.vs.fV 3 (s:=2) rfl rfl,I.vs.fV 0 (s:=4) rfl rfl,show D.agg [.bool G.of.rG,.int .i64 G.of.n,nd,.bool G.never]=G.e nd from rfl];obtain⟨X,V3,wn⟩:=I.fw;refine aam (U:=U) (R:=R) V3 (Or.inl rfl) (Or.inl rfl) (by rw[hul,hrl];exact V) wn λ h4 H=>?_
 have H:=H.JV;rw[cw];cases hk:fe U R G
 ·rw[Bool.not_false,af];refine H.M9 2 rfl rfl rfl λ h5 V5=>?_
  simp only[List.set_cons_succ,List.set_cons_zero]at V5;refine⟨V5.get 1 _ _ rfl,?_⟩;exact hF _ _ ⟨rfl,G,Q,hk⟩ (V5.bK 1 rfl (s':=.lp (.done .ret) B) (by simp)).pop
 ·rw[Bool.not_true,ae];refine⟨H.get 1 _ _ rfl,?_⟩;refine hT _ _ ⟨rfl,λ r hr=>?_⟩ (H.bK 1 rfl (s':=.lp .ready B) (by simp)).pop;grind
theorem Vg {c:Code}(hc:cR c){vU vR:D}{U R:List Bool}(wU:CD vU U) (wR:CD vR R):aK PP m9 [c.e,.agg [vU,vR]] (· = .int .i64 (if rC c U R then 0 else 100)):=by
 have c2:=hc.g.nb;have c1:=hc.rg;refine aZ BQ (aG _ _ _) rfl (BF _ _ _) ?_;dsimp only[uG,xB,xF,xL,xP,xS];refine Vs.nil.box c.b9.one λ n3 h4 V4=>?_
 refine V4.box (λ x hx=>by simp at hx;rcases hx with rfl|rfl;exact wU.one;exact wR.one) λ n5 h6 V6=>?_
 refine V6.alloc λ n7 h8 H=>?_
 rw[H.fa 1 rfl,H.bI 1 (j:=0+0) rfl rfl,wU.len,H.fa 2 rfl,H.bI 2 (j:=0+7) rfl rfl,bD,aH,kA]
 have bad:∀(G:Heap),Vs G [(n7,.box (.int .i64 100)),(n5,.box (.agg [vU,vR])),(n3,.box c.e)]->rC c U R=false->ab PP (.ld (.c (.ptr n7 0 0)) 1 false) G λ b2 _=>ky (· = .int .i64 (if rC c U R then 0 else 100)) b2 G:=λ G V hb=>by
  rw[V.Im 0 rfl rfl,bC,hb];rfl
 by_cases Z:U.length=c.b.length
 ·rw[decide_eq_true (by omega)];simp only[Bool.not_true];simp only[↓gS];rw[H.fa 1 rfl,H.bI 1 (j:=0+1) rfl rfl,wR.len,H.fa 2 rfl,H.bI 2 (j:=0+2) rfl rfl,kA];by_cases Q:(R.length:Int)=c.regs
  ·rw[decide_eq_true Q];simp only[Bool.not_true];simp only[↓gS];have eU:=wU.sl (by omega);have eR:=wR.sl (by omega);subst eU;subst eR;refine⟨λ _ h'=>Vs h' [(n7,.box (.int .i64 0)),(n5,.box (.agg [.sl (bL U),.sl (bL R)])),(n3,.box c.e)]/\rC c U R=true,?_,?_⟩
   ·rintro f c4 ⟨b7,hb⟩;refine b7.M9 0 rfl rfl rfl λ c3 a1=>?_
    simp only[List.set_cons_zero]at a1;rw[a1.Im 0 rfl rfl,bC,hb];rfl
   rw[H.fV 2 (s:=8) rfl rfl];refine XV hc H λ W m2 pr pd dv b1 rm hD b5=>?_
   refine⟨rfl,Sr,λ nk B ht he a2 _ a6 a8 a7=>?_⟩;have b4:=b5.push ht.free (s:=.lp .ready B) (by simp)
   have b3:Vs (aF b1 nk (.lp .ready B)) (ChL nk n7 n5 .ready B 0 (.sl (bL U)) (.sl (bL R))++(W++[(n3,.box c.e)])):=by
    refine b4.perm (.cons _ ?_);exact List.perm_append_comm_assoc W [_,_] [_]
   refine SH (R:=b8 c) (Dp:=jc c) (SS (rs:=iB c) Z Q a2 a6 he a8 a7) hc ⟨rfl,λ r hr=>(by cases hr)⟩ b3 (by simp[rm.h2]) (by simp[rm.hr]) gV (by simp[rm.hd]) (rm.wd.mono λ x hx=>by simp[hx]) xn (Iu hc.g) (λ c0 h' hS V'=>?_) λ c0 h' hS V'=>?_
   ·obtain⟨rfl,hk⟩:=hS;have I:h' nk=.lp .ready B:=V'.get 0 _ _ rfl;show lW _ _ _ _ _
    unfold lW;rw[I];simp only[aa,true_and];have V9:=(V'.bK 0 rfl (s':=.dead) (by simp)).pop;refine⟨V9.sub (.cons_cons _ (.cons_cons _ (List.sublist_append_right W _))),?_⟩;unfold rC;rw[decide_eq_true Z,decide_eq_true Q];simp only[Bool.true_and,List.all_eq_true];exact hk
   ·obtain⟨rfl,r,hr,hk⟩:=hS;have I:h' nk=.lp (.done .ret) B:=V'.get 0 _ _ rfl;show lW _ _ _ _ _
    unfold lW;rw[I];have V9:=(V'.bK 0 rfl (s':=.dead) (by simp)).pop;refine Or.inl ⟨trivial,bad _ (V9.sub (.cons_cons _ (.cons_cons _ (List.sublist_append_right W _)))) ?_⟩;grind [rC]
  ·rw[decide_eq_false Q];simp only[Bool.not_false];simp only[↓gS];refine H.M9 0 rfl rfl rfl λ G V=>?_
   grind [rC]
 ·rw[decide_eq_false (by omega)];simp only[Bool.not_false];simp only[↓gS];refine H.M9 0 rfl rfl rfl λ G V=>?_
  grind [rC]
end
end Go.Am
namespace Go.Am
open Go Go.Proofs
theorem BW.vel {h:Heap}{L:LSq}{v:D}{T:List Bool}(V:Vs h L) (w:BW L v T){K:List D->Prop}(hk:K (bL T)):velems 1 v h K:=by
 rcases w with rfl|⟨m,rfl,hm⟩
 ·exact⟨λ e he=>by simp only[bL,List.mem_map]at he;obtain⟨k,-,rfl⟩:=he;rfl,hk⟩
 ·exact⟨bL T,by rw[V.mem hm];rfl,by simp[bL],by grind [List.take_of_length_le,bL]⟩
theorem xx {T:List Bool}:(bL T).length=T.length:=by simp[bL]
end Go.Am
namespace Go.Am
open Go Go.Proofs
section
theorem eqB {a b:Bool}{h:Heap}{K:D->Prop}:au PP (.eqv true false [.b] (.c (.bool a)) (.c (.bool b))) h K=K (.bool (!decide (a=b))):=by
 rw[YB,Ys];apply propext
 have e:veqv true [.b] (.bool a) (.bool b) (λ d=>K d)=K (.bool (!decide (a=b))):=by
  cases a<;>cases b<;>rfl
 constructor
 ·grind
 ·exact λ G=>⟨rfl,rfl,by rw[<- e]at G;exact G⟩
theorem acr {T:List Bool}{h:Heap}{K:D->Prop}:aM (.sl (bL T)) h K=K (.int .i64 (T.length:Int)):=by rw[bD];simp[bL]
theorem Wi {α:Type}{l:List α}{i:Nat}{a:α}(h:l[i]?=some a):l.set i a=l:=by
 refine List.ext_getElem? λ j=>?_
 grind
end
end Go.Am
namespace Go.Am
open Go Go.Proofs
theorem AN.path {c:Code}{O O':List Nat}{at' U:List Int}(hc:bp c) (D:AN c O O' at' U){x:Nat}:x∈O↔Path (edg c) 0 x:=by
 have V:=hc.nb;obtain⟨S,I⟩:=D.b.ord
 have nd:O.Nodup:=by
  obtain⟨m,h1,e⟩:=I;obtain⟨N,e2,F⟩:=h1.spec (n:=c.b.length) (λ p b=>qk (kZ hc)) (λ x=>qk (kZ hc)) (by simp)
  have Z:O=0::N:=by
   grind
  rw[Z];refine List.nodup_cons.2 ⟨λ h=>?_,F.nd⟩;have h2:=(F.new 0 h).1;grind [bJ]
 have G:=zt.gr (at':=(List.range c.b.length).map λ x=>if x∈O then((yM O x:Nat):Int) else -1) (kZ hc) cM (by omega) ⟨S,I⟩ (by simp) (λ i x hx=>by
  have H:=ak hx;have Q:=D.b.lt x H
  grind [A7]) (λ x hx hn=>by
  grind)
 have e:gL (gI c)=edg c:=funext λ b=>nj
 rw[G.path,e]
theorem UO {c:Code}(hc:bp c){a b:Nat}(h:ZQ c a b):Path (edg c) 0 a:=by
 obtain⟨O,O',at',U,D,h1,-⟩:=h;exact(D.path hc).1 h1
inductive RuI (c:Code):Ru->Prop
 | no {b:Nat}(hb:b<c.b.length) (hp:¬Path (edg c) 0 b):RuI c (VO b)
 | dep {b a:Nat}{A:Block}(hb:b<c.b.length) (hp:Path (edg c) 0 b) (hd:ZQ c a b) (hA:c.b[a]?=some A):RuI c (C3 b a A.t)
 | inst {b:Nat}{B:Block}{x:bj}(hB:c.b[b]?=some B) (hp:Path (edg c) 0 b) (hx:x∈B.i) (h0:0<=eh x.d):RuI c (mH b x)
 | fin {b:Nat}{B:Block}(hB:c.b[b]?=some B) (hp:Path (edg c) 0 b) (h0:0<=eh B.t.d):RuI c ⟨zE (eh B.t.d),[],true⟩
theorem oF {c:Code}{r:Ru}:r∈iB c↔RuI c r:=by
 constructor
 ·intro hr;simp only[iB,EZ,iV,List.mem_flatMap,List.mem_range]at hr;obtain⟨b,hb,hr⟩:=hr;obtain⟨B,hB⟩:∃B,c.b[b]?=some B:=⟨c.b[b],aq hb⟩;unfold xv at hr;cases hp:hasB (b8 c) b
  ·rw[hp]at hr;simp at hr;subst hr;exact .no hb λ k=>by grind [cV]
  ·have G:=(cV hb).1 hp;rw[hp,if_pos rfl,gK hB]at hr;rcases List.mem_append.1 hr with hr|hr
   ·rcases List.mem_append.1 hr with hr|hr
    ·simp only[js,List.mem_map]at hr;obtain⟨a,ha,rfl⟩:=hr;rw[CY hb]at ha;obtain⟨H,hd⟩:=dj.1 ha;obtain⟨A,hA⟩:∃A,c.b[a]?=some A:=⟨c.b[a],aq H⟩;rw[gK hA];exact .dep hb G hd hA
    ·simp only[ja,List.mem_map,List.mem_filter,decide_eq_true_eq]at hr;obtain⟨x,⟨hx,h0⟩,rfl⟩:=hr;exact .inst hB G hx h0
   ·unfold KO at hr;split at hr
    ·rename_i h0;simp at hr;subst hr;exact .fin hB G h0
    ·cases hr
 ·intro h;have key:∀{b:Nat},b<c.b.length->r∈xv c (b8 c) (jc c) b->r∈iB c:=λ hb hr=>List.mem_flatMap.2 ⟨_,List.mem_range.2 hb,hr⟩
  cases h with
  | @no b hb hp =>
   grind [xv,cV]
  | @dep b a A hb hp hd hA =>
   grind [xv,cV,js,gK,CY,dj]
  | @inst b B x hB hp hx h0 =>
   have hb:=(ar.1 hB).1;refine key hb ?_;unfold xv;rw[(cV hb).2 hp,if_pos rfl,gK hB];refine List.mem_append_left _ (List.mem_append_right _ ?_);exact List.mem_map.2 ⟨x,List.mem_filter.2 ⟨hx,by simpa using h0⟩,rfl⟩
  | @fin b B hB hp h0 =>
   grind [List.getElem?_eq_some_iff,xv,cV,gK,KO]
theorem aaz {c:Code}(hc:bp c) (hi:∀(b:Nat) (B:Block) (x:bj),c.b[b]?=some B->x∈B.i->0<=eh x.d->fy x=false) (ht:∀(b:Nat) (B:Block),c.b[b]?=some B->eh B.t.d<0){f:Fa}(hf:f.rG=true->Path (edg c) 0 f.n.toNat):Gf (iB c) f:=by
 refine⟨λ f=>f.rG=true->Path (edg c) 0 f.n.toNat,?_,hf⟩;intro r hr hs
 have G:∀{l:List dn}{f:Fa},f∈de l->f.rG=true->Path (edg c) 0 f.n.toNat:=λ hf h=>by
  grind [de]
 cases oF.1 hr with
 | no hb hp=>grind [VO,wC]
 | dep hb hp hd hA =>
  refine⟨rfl,λ f hf=>?_⟩;rcases List.mem_append.1 hf with hf|hf
  ·exact G hf
  ·simp at hf;subst hf;exact λ _=>by simpa[wC] using UO hc hd
 | inst hB hp hx h0 =>
  refine⟨hi _ _ _ hB hx h0,λ f hf=>?_⟩;rcases List.mem_append.1 hf with hf|hf
  ·exact G hf
  grind [wC]
 | fin hB hp h0=>have:=ht _ _ hB;omega
end Go.Am
namespace Go.Am
open Go Go.Proofs
theorem Vh {c:Code}(hc:bp c):aK PP kT [c.e] (· = .sl (bL (b8 c))) :=
 aK.mono (λ r hr=>by obtain⟨S,rfl,h1,h2⟩:=hr;rw[tI h1 h2]) (Q7 hc)
end Go.Am
namespace Go.Am
open Go Go.Proofs
theorem La {c:Code}{O:List Nat}(hc:bp c) (ho:zt (gI c) c.b.length 0 O):O.Nodup/\∀{x:Nat},x∈O↔Path (edg c) 0 x:=by
 have Q:=hc.nb;obtain⟨S,I⟩:=ho
 have H:O.Nodup/\∀x∈O,x<c.b.length:=by
  obtain⟨m,h1,e⟩:=I;obtain⟨N,e2,F⟩:=h1.spec (n:=c.b.length) (λ p b=>qk (kZ hc)) (λ x=>qk (kZ hc)) (by simp)
  have Z:O=0::N:=by
   grind
  rw[Z];refine⟨List.nodup_cons.2 ⟨λ h=>?_,F.nd⟩,λ x hx=>?_⟩
  ·have h2:=(F.new 0 h).1;grind [bJ]
  ·rcases List.mem_cons.1 hx with rfl|hx
   ·omega
   ·exact(F.new x hx).2
 obtain⟨nd,V⟩:=H
 have G:=zt.gr (at':=(List.range c.b.length).map λ x=>if x∈O then((yM O x:Nat):Int) else -1) (kZ hc) cM (by omega) ⟨S,I⟩ (by simp) (λ i x hx=>by
  grind [A7]) (λ x hx hn=>by
  grind)
 have e:gL (gI c)=edg c:=funext λ b=>nj
 exact⟨nd,λ {x}=>by rw[G.path,e]⟩
theorem MF {E:List (List Nat)}{a b:Nat}:b∈Nb E (-1) a↔b∈gL E a:=by
 simp[Nb]
theorem UI {c:Code}(hc:bp c){l:List Nat}{b:Nat}(hb:b<c.b.length) (hbp:Path (edg c) 0 b) (hl:∀x∈l,x<c.b.length) (hx:∀x,Path (edg c) 0 x->zM c x=true->x∈l):hasB (lO (eg c l) b (-1)) c.b.length=true↔E0 (gI c) l b:=by
 have hE:∀a t,t∈gL (eg c l) a->t<(eg c l).length:=λ a t h=>by
  rw[bQ];rw[jF]at h;split at h
  ·split at h
   ·simp at h;omega
   ·split at h
    ·rcases List.mem_append.1 h with h|h
     ·have:=cE hc h;omega
     ·simp at h;omega
    ·have:=cE hc h;omega
  ·cases h
 have V:gL (gI c)=edg c:=funext λ b=>nj
 rw[Fv hE (by rw[bQ];omega) (by omega)];unfold E0;rw[V];constructor
 ·intro h
  have key:∀k,Path (Nb (eg c l) (-1)) b k->(k<c.b.length/\Path (edg c) b k)\/(k=c.b.length/\∃x,x∈l/\Path (edg c) b x):=by
   intro k H
   induction H with
   | refl=>exact Or.inl ⟨hb,.refl⟩
   | @step a t _ e G =>
    rw[MF,jF]at e;rcases G with⟨h1,h2⟩|⟨rfl,-⟩
    ·rw[if_pos h1]at e;split at e
     ·grind [K9]
     ·split at e
      ·rename_i Q;rcases List.mem_append.1 e with e|e
       ·exact Or.inl ⟨cE hc e,.step h2 e⟩
       grind
      ·exact Or.inl ⟨cE hc e,.step h2 e⟩
    grind
  grind
 ·rintro⟨x,I,hp⟩
  have key:∀k,Path (edg c) b k->Path (Nb (eg c l) (-1)) b k:=by
   intro k H
   induction H with
   | refl=>exact .refl
   | @step a t h e G =>
    refine .step G (MF.2 ?_);grind [edg,jF,QS]
  refine .step (key x hp) (MF.2 ?_);grind [jF]
open Classical in
noncomputable def rh (c:Code) (i:Nat):List (List Nat):=((List.range c.b.length).map λ b=>if zM c b=true/\b<i then [c.b.length] else edg c b)++[[]]
theorem C2 {c:Code}{i:Nat}:(rh c i).length=c.b.length+1:=by simp[rh]
theorem QM {c:Code}{i b:Nat}(h:b<c.b.length):gL (rh c i) b=if zM c b=true/\b<i then [c.b.length] else edg c b:=by
 grind [gL,rh]
theorem NW {c:Code}{i b:Nat}(h:¬b<c.b.length):gL (rh c i) b=[]:=by
 grind [gL,rh,List.getElem?_append_right]
theorem MA {E:List (List Nat)}{i b:Nat}{l:List Nat}(hi:i<E.length):gL (E.set i l) b=if b=i then l else gL E b:=by
 grind [gL]
theorem ZN {c:Code}:rh c 0=gI c++[[]]:=by
 grind [rh,gI]
theorem R8 {c:Code}{i:Nat}(h:zM c i≠true):rh c (i+1)=rh c i:=by
 grind [rh]
theorem UK {c:Code}{i:Nat}(hi:i<c.b.length) (h:zM c i=true):(rh c i).set i [c.b.length]=rh c (i+1):=by
 refine pz (by simp[rh]) λ b hb=>?_
 grind [MA,C2,QM,NW]
theorem R9 {c:Code}{O:List Nat}:rh c c.b.length=eg c (O.filter (zM c)):=by
 grind [pz,C2,bQ,QM,jF,NW]
theorem UJ {c:Code}{l:List Nat}{b:Nat}(hb:b<c.b.length) (h:zM c b≠true):(eg c l).set b (edg c b++[c.b.length])=eg c (l++[b]):=by
 refine pz (by simp[eg]) λ k G=>?_
 grind [MA,bQ,jF]
end Go.Am
namespace Go.Am
open Go Go.Proofs
structure LM (E:List (List Nat)) (els:List D) (W:LSq):Prop where
 len:els.length=E.length
 el:∀(b:Nat) (e:D) (l:List Nat),els[b]?=some e->E[b]?=some l->e.one=true/\HT W e l
section
variable {h:Heap}{L W:LSq}{E:List (List Nat)}{els:List D}{m:Nat}{KH:HKq}
theorem LM.lr (x:LM E els W):LR ((m,.arr 1 els)::W) (.ms m 0 E.length) E :=
 Or.inr ⟨m,els,rfl,by simp,x.len,λ b e l h1 h2=>by
  obtain⟨h3,h4⟩:=x.el b e l h1 h2
  exact⟨h3,h4.mono λ y hy=>by simp[hy]⟩⟩
theorem LM.one (x:LM E els W):∀y∈els,y.one=true:=λ y hy=>by
 obtain⟨b,hb⟩:=ba hy;have hl:=(ar.1 hb).1;exact(x.el b y (E[b]'(by rw[<- x.len];exact hl)) hb (aq _)).1
theorem LM.data:LM E (E.map λ l=>.sl (aR l)) []:=by
 refine⟨by simp,λ b e l h1 h2=>?_⟩;rw[List.getElem?_map,h2]at h1;cases h1;exact⟨rfl,Or.inr (Or.inl rfl)⟩
theorem LM.set (x:LM E els W){b n:Nat}{l:List Nat}(hb:b<E.length):LM (E.set b l) (els.set b (.ms n 0 l.length)) ((n,.arr 1 (aR l))::W):=by
 refine⟨by simp[x.len],λ k e l' h1 h2=>?_⟩;rw[List.getElem?_set]at h1 h2;by_cases G:b=k
 ·subst G;rw[if_pos rfl,if_pos (by rw[x.len];exact hb)]at h1;rw[if_pos rfl,if_pos hb]at h2;cases h1;cases h2;exact⟨rfl,Or.inr (Or.inr ⟨n,rfl,by simp⟩)⟩
 ·rw[if_neg G]at h1 h2;obtain⟨h3,h4⟩:=x.el k e l' h1 h2;exact⟨h3,h4.mono λ y hy=>by simp[hy]⟩
theorem HT.vel {v:D}{l:List Nat}(V:Vs h L) (w:HT L v l){K:List D->Prop}(hk:K (aR l)):velems 1 v h K:=by
 rcases w with⟨rfl,rfl⟩|rfl|⟨n,rfl,hn⟩
 ·exact hk
 ·exact O4 hk
 ·exact⟨aR l,by rw[V.mem hn];rfl,by rw[bk];omega,by grind [bk]⟩
theorem Vs.adE {w:Nat}{z:D}(V:Vs h ((w,.arr 1 [])::L)) (hK:∀n h',Vs h' ((n,.arr 1 [.sl []])::L)->KH (.ms n 0 1) h'):ab PP (.bldS true 1 1 z [(0,.c (.ms w 0 0))]) h KH:=by
 have hw:=V.get 0 _ _ rfl;have G:(h w).row=some (1,[]):=by rw[hw];rfl
 refine⟨λ p hp=>by
  simp[Arg.get]at hp;subst hp
  exact⟨Nat.one_pos,rfl,λ x hx=>by simp[D.cells]at hx;subst hx;rfl⟩,λ _ p hp=>?_,λ n t0=>?_⟩
 ·simp[Arg.get]at hp;subst hp;intro x hx;simp only[D.cells,List.mem_singleton]at hx;subst hx;exact⟨1,[],G,by simp,λ x hx=>by simp at hx⟩
 ·have kU:(aF h w (.frz 1 [])) n=.free:=by
   have:n≠w:=by rintro rfl;rw[t0.free]at hw;cases hw
   rw[an _ _ this];exact t0.free
  have H:=(V.bK 0 (s':=.frz 1 []) rfl (by simp)).pop;have:=hK n _ (H.push kU (s:=.arr 1 [.sl []]) (by simp));grind [Arg.get,Heap.freezeAll,Heap.freeze,setEls,D.fz,D.fzc,D.nm,D.lG]
end
section
variable {c:Code}{O:List Nat}{h:Heap}{L W:LSq}{els:List D}{m n2:Nat}
theorem UM (hc:bp c) (h2:(n2,.box c.e)∈L) (x:LM (rh c 0) els W) (V:Vs h ((m,.arr 1 els)::(W++L))){J:HJq}(hJ:∀h' els' W',LM (rh c c.b.length) els' W'->Vs h' ((m,.arr 1 els')::(W'++L))->J [] h'){a21:D} :
  ly h (.int .i64 (c.b.length:Int)) (.ptr n2 0 0) (.ms m 0 (c.b.length+1)) a21 J:=by
 have a8:=hc.nb;dsimp only[ly,xF,xI,xL,xS];refine⟨λ k q h'=>∃(i:Nat) (els:List D) (W:LSq),q=[nD i]/\i<=c.b.length/\k=c.b.length-i/\LM (rh c i) els W/\Vs h' ((m,.arr 1 els)::(W++L)),_,⟨0,els,W,rfl,by omega,rfl,x,V⟩,?_⟩;rintro k f h1 ⟨i,Q,W1,hq,hi,hk,Z,V1⟩;simp only[ah,and_true]at hq;simp only[hq,nD];by_cases a1:i<c.b.length
 ·rw[fY (by omega),af];obtain⟨B,hB⟩:∃B,c.b[i]?=some B:=⟨c.b[i],aq a1⟩;have hex:zM c i=decide (B.t.kind=5):=MG hB;refine⟨λ _ h'=>∃(els:List D) (W:LSq),LM (rh c (i+1)) els W/\Vs h' ((m,.arr 1 els)::(W++L)),?_,?_⟩
  ·grind [bB,aa]
  rw[V1.UE (s:=.box c.e) (by simp[h2]),V1.Hw (cs:=[.int .i64 c.group,.int .i64 c.sub,.int .i64 c.regs,.int .i64 c.slots,.int .i64 c.params,.sl (c.arrays.map qV.e),.sl (c.loops.map Loop.e),.sl (c.b.map Block.e)]) (j:=0+7) (by simp only[List.mem_cons,List.mem_append];exact Or.inr (Or.inr h2)) rfl,rE hB,KM,faT,show B.e=.agg (.sl (B.i.map bj.e)::B.t.cs) from rfl,Fo (e:=.int .i64 B.t.kind) rfl,bq];by_cases h5:B.t.kind=5
  ·rw[decide_eq_true h5,af];rw[decide_eq_true h5]at hex;refine V1.aaf (d:=nD c.b.length) aI rfl λ I a2 a6=>?_
   have G:Vs a2 ((m,.arr 1 Q)::(I,.arr 1 [nD c.b.length])::(W1++L)):=a6.swap;rw[G.ia 0 rfl (by omega) (by omega),aE];refine G.wA 0 rfl (by rw[Z.len,C2];omega) rfl Z.one λ a7 H=>?_
   simp only[List.set_cons_zero]at H;simp only[aa,true_and];refine⟨_,(I,.arr 1 (aR [c.b.length]))::W1,?_,H⟩;have:=Z.set (b:=i) (n:=I) (l:=[c.b.length]) (by rw[C2];omega);grind [UK]
  grind [ae,aa,R8]
 grind [fU,ae,aa]
theorem Xd (hc:bp c) (ho:zt (gI c) c.b.length 0 O) (x:LM (eg c (O.filter (zM c))) els W) (V:Vs h ((m,.arr 1 els)::(W++L))){J:HJq}(hJ:∀h' els' W',LM (eg c (ec c O)) els' W'->Vs h' ((m,.arr 1 els')::(W'++L))->J [] h') :
  lz (.int .i64 ((O.length:Int)-1)) h (.ms m 0 (c.b.length+1)) (.int .i64 (c.b.length:Int)) (.sl (aR O)) J:=by
 have e1:=hc.nb;obtain⟨e0,H⟩:=La hc ho
 have Z:∀x∈O,x<c.b.length:=λ x hx=>by
  have:=H.1 hx;clear hx
  induction this with
  | refl=>omega
  | step _ e _=>exact cE hc e
 have h5:O.length<=20:=Nat.le_trans (si e0 Z) e1.2;dsimp only[lz,xI,xL,xS,yI,yL]
 refine⟨λ k q h'=>∃(l:List Nat) (els:List D) (W:LSq),q=[.int .i64 ((k:Int)-1)]/\k<=O.length/\(∀x,x∈O.filter (zM c)->x∈l)/\(∀x∈l,x∈O)/\endF (gI c) (O.take k).reverse l=ec c O/\LM (eg c l) els W/\Vs h' ((m,.arr 1 els)::(W++L)),O.length,
  ⟨O.filter (zM c),els,W,rfl,by omega,λ x hx=>hx,λ x hx=>(List.mem_filter.1 hx).1,by rw[List.take_length];rfl,x,V⟩,?_⟩
 rintro k f h1 ⟨l,G,I,hq,hk,a6,e3,Q,x1,V1⟩;simp only[ah,and_true]at hq;simp only[hq]
 cases k with
 | zero =>
  grind [geF,ae,aa,endF]
 | succ k =>
  have ek:((k+1:Nat):Int)-1=(k:Int):=by omega
  rw[ek,geT (by omega),af];obtain⟨b,hb⟩:∃b,O[k]?=some b:=⟨O[k]'(by omega),aq _⟩;have a7:=ak hb;have e8:=Z b a7;have c8:(O.take (k+1)).reverse=b::(O.take k).reverse:=by rw[List.take_add_one,hb];simp
  rw[c8]at Q;refine⟨λ _ h'=>∃(l:List Nat) (els:List D) (W:LSq),(∀x,x∈O.filter (zM c)->x∈l)/\(∀x∈l,x∈O)/\endF (gI c) (O.take k).reverse l=ec c O/\LM (eg c l) els W/\Vs h' ((m,.arr 1 els)::(W++L)),?_,?_⟩
  ·grind [KG,aa]
  refine T8 hb ?_
  have c0:∀e,e∈eg c l->(∀y∈e,y<(eg c l).length)/\e.length<=1000:=λ e he=>by
   obtain⟨a,ha⟩:=ba he;have ea:gL (eg c l) a=e:=by unfold gL;rw[ha];rfl
   rw[jF]at ea;rw[bQ];have e2:(edg c a).length<=2:=qm;split at ea
   ·split at ea
    ·grind
    ·split at ea
     ·grind [cE]
     ·subst ea;exact⟨λ y hy=>by have:=cE hc hy;omega,by omega⟩
   grind
  have g4:Vs h1 ((((m,.arr 1 G)::I))++L):=V1
  have wE:LR (((m,.arr 1 G)::I)++L) (.ms m 0 (c.b.length+1)) (eg c l):=by
   have:=x1.lr (m:=m);rw[bQ]at this;exact this.mono λ y hy=>List.mem_append_left _ hy
  refine PY g4 wE (by rw[bQ];omega) (λ e he=>(c0 e he).1) (by rw[bQ];omega) (λ e he=>(c0 e he).2) λ n5 c1 b3=>?_
  have e4:(lO (eg c l) b (-1)).length=c.b.length+1:=by
   rw[Fu λ x y g7=>?_,bQ];grind [gL]
  rw[bQ,b3.ia 0 rfl (by omega) (by omega),aE,b3.yQ 0 rfl (cr (bo (by rw[e4];omega))) rfl];have c4:Vs c1 ((m,.arr 1 G)::(I++L)):=b3.pop;have b5:=UI hc e8 (H.1 a7) (λ x hx=>Z x (e3 x hx)) (λ x hx he=>a6 x (List.mem_filter.2 ⟨H.2 hx,he⟩));rw[cw];cases hr:hasB (lO (eg c l) b (-1)) c.b.length
  ·rw[Bool.not_false,af];have b4:¬E0 (gI c) l b:=λ k=>by rw[b5.2 k]at hr;cases hr
   have e7:b∉l:=λ h=>b4 ⟨b,h,.refl⟩
   have g8:zM c b≠true:=λ h=>e7 (a6 b (List.mem_filter.2 ⟨a7,h⟩))
   rw[Ob b4]at Q
   have e9:(eg c l)[b]?=some (edg c b):=by
    grind [eg]
   have b7:b<G.length:=by rw[x1.len,bQ];omega
   obtain⟨e,he⟩:∃e,G[b]?=some e:=⟨G[b],aq b7⟩;obtain⟨e6,e5⟩:=x1.el b e _ he e9;have dO:∀{h:Heap}{K:D->Prop},au PP (.iadd (.c (.sl (aR O))) (.c (.int .i64 (k:Int))) 1) h K=K (.vp (nD b) 0):=λ {h K}=>Ps (by omega) (by rw[aE];exact fC hb) rfl
   have dm:∀{h:Heap}{X:LSq}{K:D->Prop},Vs h (X++(m,.arr 1 G)::(I++L))->au PP (.iadd (.c (.ms m 0 (c.b.length+1))) (.c (nD b)) 1) h K=K (.ptr m b 0):=λ {h X K} V=>by
    have ix:(X++(m,Slot.arr 1 G)::(I++L))[X.length]?=some (m,.arr 1 G):=by grind
    rw[nD,V.Bw _ ix (by omega) (by omega),aE]
   have dl:∀{h:Heap}{X:LSq}{K:D->Prop},Vs h (X++(m,.arr 1 G)::(I++L))->au PP (.ld (.c (.ptr m b 0)) 1 false) h K=K e:=λ {h X K} V=>by
    have ix:(X++(m,Slot.arr 1 G)::(I++L))[X.length]?=some (m,.arr 1 G):=by grind
    rw[V.Fy _ ix he e6]
   have a1:Vs c1 ([]++(m,.arr 1 G)::(I++L)):=c4;have c7:∀{h:Heap}{K:D->Prop},au PP (.ld (.c (.vp (nD b) 0)) 1 false) h K=K (nD b):=λ {h K}=>sw rfl
   simp only[↓dO,↓c7,↓dm a1,↓dl a1];refine Px ?_;have e2:(edg c b).length<=2:=qm;refine c4.Db λ c6 g2 b2=>?_
   have g6:Vs g2 ([(c6,.arr 1 [])]++(m,.arr 1 G)::(I++L)):=b2;refine⟨by grind [aa],?_⟩;refine b2.rH (els:=[]) (ys:=aR (edg c b)) (λ {K} hk=>HT.vel b2 (e5.mono λ y hy=>by simp[hy]) hk) (λ y hy=>tT y hy) (by rw[bk];simp;omega) (by rw[bk];simp;omega) λ c5 g1 b1=>?_
   simp only[List.nil_append,List.length_nil,Nat.zero_add]at b1 ⊢;have g5:Vs g1 ([(c5,.arr 1 (aR (edg c b)))]++(m,.arr 1 G)::(I++L)):=b1;refine⟨by grind [aa],?_⟩;refine b1.rH (ys:=aR [c.b.length]) (λ {K} hk=>O4 hk) (λ y hy=>tT y hy) (by grind [bk]) (by grind [bk]) λ a2 g0 c3=>?_
   have c2:Vs g0 ([(a2,.arr 1 (aR (edg c b)++aR [c.b.length]))]++(m,.arr 1 G)::(I++L)):=c3;refine⟨by grind [aa],?_⟩;rw[dm c2];have g3:=c3.swap;refine g3.wA 0 rfl b7 rfl x1.one λ h6 a8=>?_
   simp only[List.set_cons_zero]at a8;simp only[aa,true_and];have eN:aR (edg c b)++aR [c.b.length]=aR (edg c b++[c.b.length]):=by simp[aR]
   have eL:(aR (edg c b)).length+(aR [c.b.length]).length=(edg c b++[c.b.length]).length:=by simp[aR]
   rw[eN,eL]at a8;refine⟨l++[b],_,(a2,.arr 1 (aR (edg c b++[c.b.length])))::I,λ x hx=>by simp[a6 x hx],λ x hx=>?_,Q,?_,a8⟩
   ·grind
   ·have:=x1.set (b:=b) (n:=a2) (l:=edg c b++[c.b.length]) (by rw[bQ];omega);grind [UJ]
  grind [ae,aa,endF]
end
theorem X3 {c:Code}(hc:bp c){h:Heap}{L:LSq}{KH:HKq}(V0:Vs h L) (hK:∀O m X h',zt (gI c) c.b.length 0 O->Vs h' (X++L)->LR X (.ms m 0 (c.b.length+1)) (eg c (ec c O))->KH (.ms m 0 (c.b.length+1)) h'):ag PP ra [c.e] h KH:=by
 have b1:=hc.nb;refine aY Es (aG _ _ _) rfl (DE _ _) ?_;dsimp only[xO,xB,xF,xL];refine V0.box c.b9.one λ n2 h3 V3=>?_
 rw[show ab PP (.ld (.c (.ptr n2 0 0)) 8 true) h3=λ KH=>KH c.e h3 from funext λ KH=>V3.fV 0 rfl rfl];refine Rh hc V3 λ m0 h7 V7=>?_
 refine V7.Db λ n8 h9 V9=>?_
 refine V9.adE λ n10 b4 Q=>?_
 have Z:=Q.get 0 _ _ rfl;have hlen:((gI c).map λ l=>D.sl (aR l)).length=c.b.length:=by rw[aH,cM]
 rw[show D.ms m0 0 c.b.length=.ms m0 0 ((gI c).map λ l=>D.sl (aR l)).length by rw[hlen]];refine Vs.rH (ys:=[.sl []]) Q.swap (λ hk=>⟨[.sl []],by rw[Z];rfl,by simp,hk⟩) (λ y hy=>by simp at hy;subst hy;intro z hz;simp[D.cells]at hz;subst hz;rfl) (by rw[hlen];simp;omega) (by rw[hlen];simp;omega) λ m a6 a8=>?_
 rw[hlen]
 have G:Vs a6 ((m,.arr 1 ((rh c 0).map λ l=>.sl (aR l)))::(([]:LSq)++(n2,.box c.e)::L)):=by
  have:=a8.erase 1;grind [ZN,aR]
 rw[G.UE (s:=.box c.e) (by simp),G.Hw (cs:=[.int .i64 c.group,.int .i64 c.sub,.int .i64 c.regs,.int .i64 c.slots,.int .i64 c.params,.sl (c.arrays.map qV.e),.sl (c.loops.map Loop.e),.sl (c.b.map Block.e)]) (j:=0+7) (by simp only[List.mem_cons,List.mem_append];exact Or.inr (Or.inr (Or.inl rfl))) rfl,bD,aH,G.fV 1 (s:=8) rfl rfl,show D.agg [.int .i64 c.group,.int .i64 c.sub,.int .i64 c.regs,.int .i64 c.slots,.int .i64 c.params,.sl (c.arrays.map qV.e),.sl (c.loops.map Loop.e),.sl (c.b.map Block.e)]=c.e from rfl];refine aW (Xz hc) (λ d hd=>by simp at hd;subst hd;exact c.b9.pair) ?_;rintro _ ⟨O,ho,rfl⟩;refine⟨λ _ h'=>∃els W,LM (rh c c.b.length) els W/\Vs h' ((m,.arr 1 els)::(W++(n2,.box c.e)::L)),?_,UM hc (by simp) LM.data G λ h' els W x V=>⟨els,W,x,V⟩⟩;rintro f b3 ⟨els,W,x,b5⟩;refine⟨λ _ h'=>∃els W,LM (eg c (ec c O)) els W/\Vs h' ((m,.arr 1 els)::(W++(n2,.box c.e)::L)),?_,?_⟩
 ·rintro f2 a2 ⟨I,W2,x2,a7⟩;have wl:=x2.lr (m:=m);rw[bQ]at wl;refine hK O m ((m,.arr 1 I)::W2) a2 ho ?_ wl;exact a7.sub (.cons_cons _ (List.Sublist.append (.refl _) (List.sublist_cons_self _ _)))
 rw[po]
 have b2:O.length<=1000000:=by
  obtain⟨a1,H⟩:=La hc ho
  have:O.length<=c.b.length:=si a1 λ x hx=>by
   have:=H.1 hx;clear hx
   induction this with
   | refl=>omega
   | step _ e _=>exact cE hc e
  omega
 rw[KG (by omega) (by omega)];rw[R9 (O:=O)]at x;grind [Xd]
end Go.Am
namespace Go.Am
open Go Go.Proofs
theorem X6 {F:List (List Nat)}{a b:Nat}{h:Heap}{L:LSq}{vF:D}{KH:HKq}(V:Vs h L) (wF:LR L vF F) (hF:1<=F.length/\F.length<=1000) (hE:∀l∈F,(∀x∈l,x<F.length)/\l.length<=1000) (ha:a<F.length)
  (hK:∀h',Vs h' L->KH (.bool (BC F a b)) h'):ag PP dB [vF,nD a,nD b] h KH:=by
 have I:∀x y,y∈gL F x->y<F.length:=λ x y=>qk hE
 refine aY F9 (aG _ _ _) rfl (FO _ _ _ _) ?_;dsimp only[zY,xI,xL,xP];rw[nD,nD,bq];by_cases Q:a=b
 ·rw[decide_eq_true (by omega)];simp only[tE (P:=PP),cq,if_true];grind [BC]
 ·rw[decide_eq_false (by omega)];simp only[B4 (P:=PP)];refine PY (s:=a) (w:=(b:Int)) V wF hF.2 (λ l hl=>(hE l hl).1) ha (λ l hl=>(hE l hl).2) λ n h' G=>?_
  have H:F.length-1<(lO F a (b:Int)).length:=by rw[Fu I];omega
  rw[LR.len G (wF.mono λ x hx=>List.mem_cons_of_mem _ hx),KG (by omega) (by omega),show((F.length:Int)-1)=((F.length-1:Nat):Int) by omega,G.ia 0 rfl (by omega) (by omega),aE,G.yQ 0 rfl (cr (bo H)) rfl,cw,cq];simp only[aC,if_false];have:=hK h' G.pop;grind [BC]
noncomputable def Bx (c:Code) (O:List Nat) (a b:Nat):Bool:=hasB (b8 c) a&&hasB (b8 c) b&&decide ((edg c a).length=2)&&(decide (a=b) || !BC (eg c (ec c O)) a b)&&(edg c a).any λ t=>BC (eg c (ec c O)) t b
theorem Oe {c:Code}(hc:bp c){O O':List Nat}{at' U:List Int}(D:AN c O O' at' U){a b:Nat}(ha:a<c.b.length) (hb:b<c.b.length):Bx c O a b=true↔ZQ c a b:=by
 rw[QU hc D];unfold Bx Sd;simp only[Bool.and_eq_true,Bool.or_eq_true,decide_eq_true_eq,List.any_eq_true,Bool.not_eq_true'];rw[cV ha,cV hb];have key:∀{t:Nat},t∈edg c a->Path (edg c) 0 a->(BC (eg c (ec c O)) t b=true↔Dm c.b.length (pB c O O') b t):=λ ht hp=>MK hc D ((D.path hc).2 (.step hp ht)) hb
 constructor
 ·rintro⟨⟨⟨⟨h1,h2⟩,h3⟩,h4⟩,t,ht,Q⟩;refine⟨(D.path hc).2 h1,h3,⟨t,ht,(key ht h1).1 Q⟩,?_⟩;rcases h4 with h4|h4
  ·exact Or.inl h4.symm
  ·refine Or.inr λ k=>?_
   rw[(MK hc D ((D.path hc).2 h1) hb).2 k]at h4;cases h4
 ·rintro⟨h1,h3,⟨t,ht,Q⟩,h4⟩;have hp:=(D.path hc).1 h1;have H:t∈O:=(D.path hc).2 (.step hp ht)
  have G:Path (edg c) 0 b:=by
   by_cases G:b∈O
   ·exact(D.path hc).1 G
   ·exfalso;have I:=(D.u.ch t b (D.b.all t H)).2 Q
    have key:∀{x y:Nat},Ch c.b.length (upF U) x y->upF U x≠none->upF U y≠none:=λ h=>by
     induction h with
     | refl _=>exact id
     | step _ hy _ V=>exact λ _=>V (D.u.tr.nd _ _ hy).2
    have a1:=key I (D.u.al t (D.b.all t H))
    obtain⟨z,Z⟩:∃z,upF U b=some z:=by
     grind [upF]
    exact G ((D.mem hc hb).1 (D.u.tr.nd b z Z).1)
  grind [MK]
noncomputable def Fz (c:Code) (O:List Nat) (b k:Nat):List Nat:=(List.range k).filter λ a=>Bx c O a b
theorem Lx {c:Code}{O:List Nat}{b k:Nat}:Fz c O b (k+1)=if Bx c O k b=true then Fz c O b k++[k] else Fz c O b k:=by
 grind [Fz,List.range_succ]
theorem Se {c:Code}(hc:bp c){O O':List Nat}{at' U:List Int}(D:AN c O O' at' U){b:Nat}(hb:b<c.b.length):Fz c O b c.b.length=gL (jc c) b:=by
 grind [CY,Fz,Mp,List.filter_congr,Oe]
noncomputable def lK (c:Code) (O:List Nat) (i k:Nat):List (List Nat):=(List.range c.b.length).map λ b=>if b<i then gL (jc c) b else if b=i then Fz c O b k else []
theorem C4 {c:Code}{O:List Nat}{i k:Nat}:(lK c O i k).length=c.b.length:=by simp[lK]
theorem Iq {c:Code}{O:List Nat}{i k b:Nat}(hb:b<c.b.length):gL (lK c O i k) b=if b<i then gL (jc c) b else if b=i then Fz c O b k else []:=by
 grind [gL,lK]
theorem ZT {c:Code}{O:List Nat}:lK c O 0 0=List.replicate c.b.length []:=by
 refine pz (by simp[lK]) λ b hb=>?_
 grind [C4,Iq,gL,Fz]
theorem Sg {c:Code}(hc:bp c){O O':List Nat}{at' U:List Int}(D:AN c O O' at' U){i:Nat}:lK c O i c.b.length=lK c O (i+1) 0:=by
 grind [pz,C4,Iq,Se,Fz]
theorem Sh {c:Code}{O:List Nat}:lK c O c.b.length 0=jc c:=by
 grind [pz,C4,xn,Iq]
theorem Sf {c:Code}{O:List Nat}{i k:Nat}(h:Bx c O k i=false):lK c O i (k+1)=lK c O i k:=by
 grind [lK,Lx]
theorem UT {c:Code}{O:List Nat}{i k:Nat}(hi:i<c.b.length) (h:Bx c O k i=true):(lK c O i k).set i (Fz c O i k++[k])=lK c O i (k+1):=by
 grind [pz,MA,C4,List.length_set,Iq,Lx]
end Go.Am
namespace Go.Am
open Go Go.Proofs
theorem Yb {P:Program}{h:Heap}{A:(HKq)->Prop}{KH:HKq}:vguard (.bool true) true A h KH=A KH:=by rw[my];simp
theorem Yc {P:Program}{h:Heap}{A:(HKq)->Prop}{KH:HKq}:vguard (.bool false) true A h KH=KH gU h:=by rw[my];simp
theorem Nj {P:Program}{h:Heap}{w:Bool}{A:(HKq)->Prop}{KH:HKq}:vguard gU w A h KH=KH gU h:=B7
theorem Xc {c:Code}(hc:bp c){l:List Nat}:∀e,e∈eg c l->(∀y∈e,y<(eg c l).length)/\e.length<=1000:=λ e he=>by
 obtain⟨a,ha⟩:=ba he;have ea:gL (eg c l) a=e:=by unfold gL;rw[ha];rfl
 rw[jF]at ea;rw[bQ];have G:(edg c a).length<=2:=qm;split at ea
 ·split at ea
  ·grind
  ·split at ea
   ·subst ea;refine⟨λ y hy=>?_,by simp;omega⟩;rcases List.mem_append.1 hy with hy|hy
    ·have:=cE hc hy;omega
    ·simp at hy;omega
   ·subst ea;exact⟨λ y hy=>by have:=cE hc hy;omega,by omega⟩
 grind
theorem Uv {c:Code}(hc:bp c):lO (gI c) 0 (-1)=b8 c:=by
 have G:=hc.nb;have hE:∀a b,b∈gL (gI c) a->b<(gI c).length:=λ a b h=>by rw[nj]at h;rw[cM];exact cE hc h
 refine tI (by rw[Fu hE,cM]) λ k=>?_
 rw[Fv hE (by rw[cM];omega) (by omega)]
 have e:Nb (gI c) (-1)=edg c:=funext λ a=>by
  grind [Nb,nj,List.filter_eq_self]
 rw[e]
section
variable {c:Code}{O O':List Nat}{at' U:List Int}{h:Heap}{L:LSq}{v vF:D}{n2 nr i:Nat}{J:HJq}
theorem US {b k:Nat}:(Fz c O b k).length<=k:=by
 have:=List.length_filter_le (λ a=>Bx c O a b) (List.range k);rw[List.length_range]at this;exact this
theorem Z0 (hc:bp c) (h2:(n2,.box c.e)∈L) (hr:(nr,.arr 1 (bL (b8 c)))∈L) (wF:LR L vF (eg c (ec c O))) (hi:i<c.b.length) (R:iL h L v (lK c O i 0)){f:Nat->D}(hf:f 6=nD i) (hJ:∀h',iL h' L v (lK c O i c.b.length)->J [] h') :
  jM h (.ptr n2 0 0) (.ms nr 0 c.b.length) vF v f J:=by
 have j8:=hc.nb;dsimp only[jM,xF,xI,xL,xP,xS];refine⟨λ m q h'=>∃k:Nat,q=[nD k]/\k<=c.b.length/\m=c.b.length-k/\iL h' L v (lK c O i k),_,⟨0,rfl,by omega,rfl,R⟩,?_⟩;rintro m f1 h1 ⟨k,hq,hk,hm,R1⟩;simp only[ah,and_true]at hq;obtain⟨X,V,w,back⟩:=R1.lift;have hM:∀x∈L,x∈X++L:=λ x hx=>List.mem_append_right _ hx
 have e0:∀{KH:HKq}{h:Heap},Vs h (X++L)->ab PP (.fadd (.c (.ptr n2 0 0)) 7) h (λ a h1=>ab PP (.ld (.c a) 1 false) h1 KH)=KH (.sl (c.b.map Block.e)) h:=λ {KH h} V=>by
  rw[V.UE (s:=.box c.e) (hM _ h2),V.Hw (cs:=[.int .i64 c.group,.int .i64 c.sub,.int .i64 c.regs,.int .i64 c.slots,.int .i64 c.params,.sl (c.arrays.map qV.e),.sl (c.loops.map Loop.e),.sl (c.b.map Block.e)]) (hM _ h2) rfl]
 rw[hf,hq,e0 V,bD,aH];by_cases b3:k<c.b.length
 ·rw[nD,fY (by omega),af];refine⟨λ _ h'=>iL h' L v (lK c O i (k+1)),λ f' h' R'=>?_,?_⟩
  ·rw[bB (by omega) (by omega)];simp only[aa,true_and];exact⟨_,by omega,k+1,rfl,by omega,rfl,R'⟩
  obtain⟨B,hB⟩:∃B,c.b[k]?=some B:=⟨c.b[k],aq b3⟩;have skip:∀h',Vs h' (X++L)->Bx c O k i=false->iL h' L v (lK c O i (k+1)):=λ h' V' hd=>by grind [Sf]
  rw[e0 V,rE hB,KM,MX];refine aW (PK (hc.t B (ak hB))) (λ d hd=>by simp at hd;subst hd;exact B.t.b9.pair) ?_;rintro _ rfl;rw[<- jr hB];obtain⟨ir,c7⟩:=ba (hM _ hr);have c6:∀{x:Nat}{KH:HKq}{h:Heap},x<c.b.length->Vs h (X++L)->ab PP (.iadd (.c (.ms nr 0 c.b.length)) (.c (nD x)) 1) h KH=KH (.ptr nr x 0) h:=λ {x KH h} hx V=>by rw[nD,V.ia ir c7 (by omega) (by omega),aE]
  have c5:∀{x:Nat}{KH:HKq}{h:Heap},x<c.b.length->Vs h (X++L)->ab PP (.ld (.c (.ptr nr x 0)) 1 false) h KH=KH (.bool (hasB (b8 c) x)) h:=λ {x KH h} hx V=>V.yQ ir c7 (cr (bo (by rw[gV];exact hx))) rfl
  rw[show D.int .i64 (k:Int)=nD k from rfl,c6 b3 V,c5 b3 V,cw];cases g1:hasB (b8 c) k
  ·simp only[Bool.not_false,tE (P:=PP),Nj (P:=PP),cq,if_true,af,aa,true_and];grind [Bx]
  simp only[Bool.not_true,B4 (P:=PP)];rw[c6 hi V,c5 hi V,cw,cq];cases g2:hasB (b8 c) i
  ·simp only[Bool.not_false,aC,if_false,tE (P:=PP),Nj (P:=PP),cq,if_true,af,aa,true_and];grind [Bx]
  simp only[Bool.not_true,aC,if_false,B4 (P:=PP)];rw[po,kA,cq];by_cases g3:(edg c k).length≠2
  ·rw[decide_eq_false (by omega)];simp only[Bool.not_false,aC,if_false,tE (P:=PP),Nj (P:=PP),cq,if_true,af,aa,true_and];grind [Bx]
  replace g3:(edg c k).length=2:=Decidable.not_not.1 g3;rw[decide_eq_true (by omega)];simp only[Bool.not_true,aC,if_false,B4 (P:=PP)];rw[show ∀K:D->Prop,vbin .neq (nD k) (nD i) K=K (.bool !decide ((k:Int)=(i:Int))) from λ K=>kA]
  obtain⟨t0,t1,ht⟩:∃t0 t1,edg c k=[t0,t1]:=by
   match e:edg c k,g3 with
   | [a,b],_=>exact⟨a,b,rfl⟩
  have h0:t0<c.b.length:=cE hc (a:=k) (by rw[ht];simp);have j9:t1<c.b.length:=cE hc (a:=k) (by rw[ht];simp)
  have e7:∀{x:Nat}{KH:HKq}{h:Heap},x<c.b.length->Vs h (X++L)->(∀h',Vs h' (X++L)->KH (.bool (BC (eg c (ec c O)) x i)) h')->ag PP dB [vF,nD x,nD i] h KH:=λ {x KH h} hx V hK =>
   X6 V (wF.mono hM) (by rw[bQ];omega) (Xc hc) (by rw[bQ];omega) hK
  have d0:Bx c O k i=((decide (k=i) || !BC (eg c (ec c O)) k i)&&(BC (eg c (ec c O)) t0 i||BC (eg c (ec c O)) t1 i)):=by
   grind [Bx]
  have eN:(aR (edg c k))=[nD t0,nD t1]:=by rw[ht];rfl
  have fin:∀h',Vs h' (X++L)->Bx c O k i=true->ab PP (.iadd (.c v) (.c (nD i)) 1) h' λ b2 a2 =>
    ab PP (.ld (.c b2) 1 false) a2 λ b1 a1 =>
    ab PP (.bldS true 1 1 (.int .i64 0) [(0,(.c (nD k)))]) a1 λ a8 Z =>
    ab PP (.app (.c b1) (.c a8) 1 8 (.int .i64 0)) Z λ a7 Q =>
    ab PP (.iadd (.c v) (.c (nD i)) 1) Q λ a6 I =>
    ab PP (.st (.c a6) (.c a7) 1) I λ e8 H=>iL H L v (lK c O i (k+1)):=λ h' V' hd=>by
   have c8:(lK c O i k)[i]?=some (Fz c O i k):=by
    grind [lK]
   refine(back h' V').app c8 (by grind [US]) λ c4 R2=>?_
   grind [UT]
  have rest:∀h',Vs h' (X++L)->(decide (k=i) || !BC (eg c (ec c O)) k i)=true->ab PP (.iadd (.c (.sl (aR (edg c k)))) (.c (.int .i64 0)) 1) h' λ j1 e6 =>
    ab PP (.ld (.c j1) 1 false) e6 λ j0 e5 =>
    ag PP dB [vF,j0,nD i] e5 λ G c3 =>
    vguard G false (λ j7=>j7 vF c3) c3 λ h9 c2 =>
    vguard G false (λ j6=>j6 (.sl (aR (edg c k))) c2) c2 λ h8 c1 =>
    vguard G false (λ j5=>ab PP (.iadd (.c h8) (.c (.int .i64 1)) 1) c1 λ h6 e4=>j5 h6 e4) c1 λ h7 c0 =>
    vguard G false (λ j4=>ab PP (.ld (.c h7) 1 false) c0 λ g8 e3=>j4 g8 e3) c0 λ h5 b7 =>
    vguard G false (λ j3=>j3 (nD i) b7) b7 λ g7 b5 =>
    vguard G false (λ j2=>ag PP dB [h9,h5,g7] b5 λ g0 e1=>j2 g0 e1) b5 λ g6 e2 =>
    ab PP (.pick (.c G) (.c (.bool true)) (.c g6)) e2 λ e9 b4 =>
    vcond e9 (ab PP (.iadd (.c v) (.c (nD i)) 1) b4 λ b2 a2 =>
     ab PP (.ld (.c b2) 1 false) a2 λ b1 a1 =>
     ab PP (.bldS true 1 1 (.int .i64 0) [(0,(.c (nD k)))]) a1 λ a8 Z =>
     ab PP (.app (.c b1) (.c a8) 1 8 (.int .i64 0)) Z λ a7 Q =>
     ab PP (.iadd (.c v) (.c (nD i)) 1) Q λ a6 I =>
     ab PP (.st (.c a6) (.c a7) 1) I λ e8 H=>iL H L v (lK c O i (k+1))) (iL b4 L v (lK c O i (k+1))):=λ h' V' g4=>by
   rw[g4,Bool.true_and]at d0;rw[eN,iN (d:=nD t0) (esz:=1) (by omega) rfl rfl,ni rfl];refine e7 h0 V' λ c4 V2=>?_
   cases g5:BC (eg c (ec c O)) t0 i
   ·simp only[B4 (P:=PP)];rw[iN (d:=nD t1) (esz:=1) (by omega) rfl rfl,ni rfl];grind [cq,ae,af]
   ·simp only[tE (P:=PP),cq,if_true,af];grind
  by_cases g4:k=i
  ·rw[decide_eq_true (p:=(k:Int)=(i:Int)) (by omega)];simp only[Bool.not_true,aC,if_false,Yc (P:=PP),Nj (P:=PP),cq,ae,aa,true_and];exact rest h1 V (by rw[decide_eq_true g4];rfl)
  ·rw[decide_eq_false (p:=(k:Int)=(i:Int)) (by omega)];simp only[Bool.not_false,aC,if_false,Yb (P:=PP),cq,aa,true_and];refine e7 b3 V λ c4 V2=>?_
   simp only[if_true];cases g5:BC (eg c (ec c O)) k i
   ·rw[ae];exact rest c4 V2 (by grind)
   ·rw[af];grind
 ·have:k=c.b.length:=by omega
  subst this;rw[nD,fU (by omega),ae];grind [aa]
end
theorem xz {c:Code}(hc:bp c){O0 O0':List Nat}{at' U:List Int}(D0:AN c O0 O0' at' U){h:Heap}{L:LSq}{KH:HKq}(V:Vs h L) (hK:∀v X h',Vs h' (X++L)->LR X v (jc c)->KH v h'):ag PP gq [c.e] h KH:=by
 have b3:=hc.nb;refine aY BT (aG _ _ _) rfl (BG _ _) ?_;dsimp only[uQ,xB,xF,xL,yL];refine V.box c.b9.one λ n2 h3 V1=>?_
 rw[V1.Bv 0 (s:=8) rfl rfl,V1.Bv 0 (s:=8) rfl rfl];refine Rh hc V1 λ m0 h7 V7=>?_
 refine⟨⟨by rw[V7.Bv 1 (s:=8) rfl rfl,aa];trivial,trivial⟩,?_⟩
 have wE:LR ((m0,.arr 1 ((gI c).map λ l=>.sl (aR l)))::(n2,.box c.e)::L) (.ms m0 0 c.b.length) (gI c):=by
  have:=(LM.data (E:=gI c)).lr (m:=m0);rw[cM]at this;exact this.mono λ x hx=>by simp at hx;subst hx;simp
 refine PY (s:=0) (w:=-1) V7 wE (by rw[cM];omega) (λ l hl b hb=>?_) (by rw[cM];omega) (λ l hl=>?_) λ nr c0 G=>?_
 ·obtain⟨a,ha⟩:=ba hl;have:gL (gI c) a=l:=by unfold gL;rw[ha];rfl
  rw[nj]at this;subst this;rw[cM];exact cE hc hb
 ·grind [gI,qm]
 rw[cM];rw[Uv hc]at G;refine⟨⟨by rw[G.Bv 2 (s:=8) rfl rfl,aa];trivial,trivial⟩,?_⟩;rw[show D.agg [.int .i64 c.group,.int .i64 c.sub,.int .i64 c.regs,.int .i64 c.slots,.int .i64 c.params,.sl (c.arrays.map qV.e),.sl (c.loops.map Loop.e),.sl (c.b.map Block.e)]=c.e from rfl];refine X3 hc G λ O m X b7 hO I wF=>?_
 obtain⟨O',b5,D1⟩:∃O',O'=O0/\AN c O' O0' at' U:=⟨O0,rfl,D0⟩;have eO:O=O0:=zt.det hO D0.b.ord;subst eO
 have H:∀{KH:HKq}{h:Heap}{M:LSq},Vs h M->(n2,.box c.e)∈M->ab PP (.fadd (.c (.ptr n2 0 0)) 7) h (λ a h1=>ab PP (.ld (.c a) 1 false) h1 KH)=KH (.sl (c.b.map Block.e)) h:=λ {KH h M} V h2=>by
  rw[V.UE (s:=.box c.e) h2,V.Hw (cs:=[.int .i64 c.group,.int .i64 c.sub,.int .i64 c.regs,.int .i64 c.slots,.int .i64 c.params,.sl (c.arrays.map qV.e),.sl (c.loops.map Loop.e),.sl (c.b.map Block.e)]) h2 rfl]
 rw[H I (by simp),bD,aH];refine I.SQ (by omega) (by omega) λ Z a7 a8=>?_
 have R0:=iL.mk0 a8;rw[<- ZT (c:=c) (O:=O)]at R0
 let M:LSq:=X++(nr,.arr 1 (bL (b8 c)))::(m0,.arr 1 ((gI c).map λ l=>.sl (aR l)))::(n2,.box c.e)::L
 have a2:(n2,Slot.box c.e)∈M:=by simp[M]
 have b2:(nr,Slot.arr 1 (bL (b8 c)))∈M:=by simp[M]
 have b1:LR M (.ms m 0 (c.b.length+1)) (eg c (ec c O)):=wF.mono λ x hx=>by simp[M,hx]
 replace R0:iL a7 M (.ms Z 0 c.b.length) (lK c O 0 0):=R0;refine⟨λ _ h'=>iL h' M (.ms Z 0 c.b.length) (lK c O c.b.length 0),?_,?_⟩
 ·rintro f a6 Q;rw[Sh]at Q;obtain⟨Y,V',w',-⟩:=Q.lift;refine hK _ Y a6 (V'.sub (.append (.refl _) ?_)) w';grind
 dsimp only[pN,xF,xL];refine⟨λ k q h'=>∃i:Nat,q=[nD i]/\i<=c.b.length/\k=c.b.length-i/\iL h' M (.ms Z 0 c.b.length) (lK c O i 0),_,⟨0,rfl,by omega,rfl,R0⟩,?_⟩;rintro k f h1 ⟨i,hq,hi,hk,R1⟩;simp only[ah,and_true]at hq;have a1:∀{X:LSq},(n2,Slot.box c.e)∈X++M:=λ {X}=>List.mem_append_right _ a2
 obtain⟨X1,Vx,-,back⟩:=R1.lift;rw[H Vx a1,bD,aH,hq];by_cases b4:i<c.b.length
 ·rw[nD,fY (by omega),af];refine⟨λ _ h'=>iL h' M (.ms Z 0 c.b.length) (lK c O i c.b.length),λ f' h' R'=>?_,?_⟩
  ·rw[bB (by omega) (by omega)];simp only[aa,true_and];rw[Sg hc D0]at R';exact⟨_,by omega,i+1,rfl,by omega,rfl,R'⟩
  grind [Z0]
 grind [nD,fU,ae,aa]
end Go.Am
namespace Go.Am
open Go Go.Proofs
def Kw (R:List Bool) (o:dn):Bool:= !decide (o.kind=2)||hasB R o.n.toNat
theorem ML {U R:List Bool}:kx (uE U R):=bw (by simp[D.vone])
theorem JO {U R:List Bool}{o:dn}(ho:o.kind=2->0<=o.n/\o.n<R.length):aK PP ct [uE U R,o.e] (· = .bool (Kw R o)):=by
 refine aZ zx (aG _ _ _) rfl (zl _ _ _) ?_;dsimp only[sJ,xB,xF,xI,xL,xP];refine Vs.nil.box ML.one λ Q h4 I=>?_
 refine I.box o.b9.one λ n5 V G=>?_
 rw[G.fa 0 rfl,G.bI 0 (j:=0) rfl rfl,kA];unfold Kw;by_cases H:o.kind=2
 ·rw[decide_eq_true H];obtain⟨h1,h2⟩:=ho H;simp only[Bool.not_true,B4 (P:=PP)];rw[G.fa 1 rfl,G.bI 1 (j:=1) rfl rfl,G.fa 0 rfl,G.bI 0 (j:=1) rfl rfl,iN (d:=.bool (hasB R o.n.toNat)) (esz:=1) h1 (cr (bo (by omega))) rfl,ni rfl,cq];grind [bb]
 ·rw[decide_eq_false H];simp only[Bool.not_false,tE (P:=PP),Nj (P:=PP),cq,if_true,Bool.true_or];rw[bb]
theorem Vb {x:bj}:aK PP pg [x.e] (· = .bool (!fy x)):=by
 refine aZ Em (aG _ _ _) rfl (Dz _ _) ?_;dsimp only[xK,xB,xF,xL,xP];refine Vs.nil.box x.b9.one λ n2 h3 V=>?_
 rw[V.fa 0 rfl,V.bI 0 (j:=0) rfl rfl];refine⟨λ q h'=>h'=h3/\∃t:Bool,q=[.bool t]/\t=(decide (x.op=1)||decide (x.op=2)||decide (x.op=3)||decide (x.op=4)||decide (x.op=6)),?_,?_⟩
 ·rintro f h' ⟨e,t,H,ht⟩;subst e;simp only[ah,and_true]at H;rw[H]
  cases t with
  | true =>
   rw[af,bb];grind [fy]
  | false =>
   rw[ae,bq];by_cases G:x.op=5
   ·rw[decide_eq_true G,af];unfold fy;rw[<- ht,decide_eq_true G,V.fa 0 rfl,V.bI 0 (j:=0+1) rfl rfl,bq];by_cases Q:x.sub=3
    ·rw[decide_eq_true Q];simp only[tE (P:=PP),Nj (P:=PP),cq,if_true];rw[bb];simp
    rw[decide_eq_false Q];simp only[B4 (P:=PP)];rw[V.fa 0 rfl,V.bI 0 (j:=0+1) rfl rfl,bq,cq];by_cases I:x.sub=4
    ·rw[decide_eq_true I];simp only[tE (P:=PP),Nj (P:=PP),cq,if_true,aC,if_false];rw[bb];simp
    rw[decide_eq_false I];simp only[B4 (P:=PP),aC,if_false];rw[V.fa 0 rfl,V.bI 0 (j:=0+1) rfl rfl,bq,cq];grind [bb]
   ·rw[decide_eq_false G,ae,bb];grind [fy]
 ·simp only[bq,aa,true_and];by_cases h1:x.op=1
  ·grind [af]
  rw[decide_eq_false h1,ae];by_cases h2:x.op=2
  ·grind [af]
  rw[decide_eq_false h2,ae];by_cases h3:x.op=3
  ·grind [af]
  rw[decide_eq_false h3,ae];by_cases h4:x.op=4
  ·grind [af]
  grind [ae]
theorem Vs.faN {h:Heap}{L:LSq}{KH:HKq}(V:Vs h L) (i:Nat){n j o:Nat}{s:Slot}(hi:L[i]?=some (n,s)):ab PP (.fadd (.c (.ptr n 0 j)) o) h KH=KH (.ptr n 0 (j+o)) h:=by
 have:=V.fa (P:=PP) (o:=o) (KH:=λ _ _=>True) i hi;grind [kX]
theorem aaa {x:bj}:aK PP wV [x.e] (· = .int .i64 (eh x.d)):=by
 refine aZ Km (aG _ _ _) rfl (J5 _ _) ?_;dsimp only[GH,xB,xF,xL];refine Vs.nil.box x.b9.one λ n2 h3 V=>?_
 rw[V.fa 0 rfl,V.faN 0 rfl,V.bI 0 (j:=0+3+0) rfl rfl,bq];unfold eh;by_cases G:x.d.kind=2
 ·rw[decide_eq_true G,af,V.fa 0 rfl,V.faN 0 rfl,V.bI 0 (j:=0+3+1) rfl rfl,bC,if_pos G]
 grind [ae,bC]
theorem XD {x:Term}:aK PP tQ [x.e] (· = .int .i64 (eh x.d)):=by
 refine aZ H7 (aG _ _ _) rfl (HM _ _) ?_;dsimp only[DI,xB,xF,xL];refine Vs.nil.box x.b9.one λ n2 h3 V=>?_
 rw[V.fa 0 rfl,V.faN 0 rfl,V.bI 0 (j:=0+2+0) rfl rfl,bq];unfold eh;by_cases G:x.d.kind=2
 ·rw[decide_eq_true G,af,V.fa 0 rfl,V.faN 0 rfl,V.bI 0 (j:=0+2+1) rfl rfl,bC,if_pos G]
 grind [ae,bC]
theorem fzU {h:Heap}{L:LSq}{vU vR:D}{U R:List Bool}(V:Vs h L) (wU:BW L vU U) (wR:BW L vR R):(D.agg [vU,vR]).fz h=uE U R/\aL (.agg [vU,vR])/\nN h (.agg [vU,vR]):=by
 have one:∀{v:D}{T:List Bool},BW L v T->v.fzc h=.sl (bL T)/\p6 h v:=λ {v T} w=>by
  rcases w with rfl|⟨m,rfl,hm⟩
  ·exact⟨rfl,trivial⟩
  ·have hr:(h m).row=some (1,bL T):=by rw[V.mem hm];rfl
   refine⟨?_,1,_,hr,by simp[bL],λ x hx y hy=>?_⟩
   ·grind [D.fzc,List.take_of_length_le,bL]
   ·have:=List.mem_of_mem_drop (List.mem_of_mem_take hx);simp only[bL,List.mem_map]at this;obtain⟨b,-,rfl⟩:=this;simp[D.cells]at hy;subst hy;rfl
 obtain⟨H,Q⟩:=one wU;obtain⟨G,I⟩:=one wR;refine⟨?_,λ x hx=>?_,λ x hx=>?_⟩
 ·simp only[D.fz,List.map_cons,List.map_nil,H,G];rfl
 ·simp[D.cells]at hx;rcases hx with rfl|rfl
  ·exact wU.one
  ·exact wR.one
 grind [D.cells]
theorem Pw {h:Heap}{L:LSq}{vU vR:D}{U R:List Bool}(V:Vs h L) (wU:BW L vU U) (wR:BW L vR R){o:dn}(ho:o.kind=2->0<=o.n/\o.n<R.length){K:D->Prop}(hK:K (.bool (Kw R o))):au PP (.call ct [.c (.agg [vU,vR]),.c o.e]) h K:=by
 obtain⟨f1,f2,f3⟩:=fzU V wU wR;obtain⟨G,H⟩:=o.b9.pair;obtain⟨Z,Q,I⟩:=jj (h:=h) G;refine⟨.bool (Kw R o),?_,λ d hd=>?_,Or.inl rfl,hK⟩
 ·grind [Arg.get,JO]
 ·simp[Arg.get]at hd;rcases hd with rfl|rfl
  ·exact⟨f2,f3,by rw[f1];exact ML.pair.1⟩
  grind
end Go.Am
namespace Go.Am
open Go Go.Proofs
theorem Nh {A:(D->Prop)->Prop}{K:D->Prop}:ai (.bool false) false A K=A K:=by rw[fI];simp
theorem S3 {A:(D->Prop)->Prop}{K:D->Prop}:ai (.bool true) false A K=K gU:=by rw[fI];simp
theorem VT {w:Bool}{A:(D->Prop)->Prop}{K:D->Prop}:ai gU w A K=K gU:=yK
theorem BW.get {h:Heap}{L:LSq}{KH:HKq}{v:D}{T:List Bool}(V:Vs h L) (w:BW L v T){i:Nat}(hi:i<T.length):ab PP (.iadd (.c v) (.c (nD i)) 1) h (λ a h1=>ab PP (.ld (.c a) 1 false) h1 KH)=KH (.bool (hasB T i)) h:=by
 rcases w with rfl|⟨m,rfl,hm⟩
 ·rw[nD,iN (esz:=1) (d:=.bool (hasB T i)) (by omega) (by rw[aE];exact cr (bo hi)) rfl,ni rfl]
 ·obtain⟨k,G⟩:=ba hm;rw[nD,V.ia k G (by omega) (by omega),aE,V.yQ k G (cr (bo hi)) rfl]
theorem BW.MJ {h:Heap}{L:LSq}{K:D->Prop}{v:D}{T:List Bool}(V:Vs h L) (w:BW L v T){i:Nat}(hi:i<T.length):au PP (.iadd (.c v) (.c (nD i)) 1) h (λ a=>au PP (.ld (.c a) 1 false) h K)=K (.bool (hasB T i)):=by
 rcases w with rfl|⟨m,rfl,hm⟩
 ·rw[nD,Ps (esz:=1) (d:=.bool (hasB T i)) (by omega) (by rw[aE];exact cr (bo hi)) rfl,sw rfl]
 ·obtain⟨k,G⟩:=ba hm;rw[nD,V.Bw k G (by omega) (by omega),aE,V.Fy k G (cr (bo hi)) rfl]
def Q9 (c:Code) (Rc:List Bool) (Dp:List (List Nat)) (U R:List Bool) (b:Nat):Bool:=hasB Rc b&&(gL Dp b).all λ a=>hasB U a&&Kw R (rG c a).t.a
theorem M3 {c:Code}(hc:cR c){h:Heap}{L:LSq}{KH:HKq}{vU vR vD:D}{U R Rc:List Bool}{Dp:List (List Nat)}{b:Nat}(hD:∀l∈Dp,(∀a∈l,a<c.b.length)/\l.length<=1000) (hDl:Dp.length=c.b.length) (V:Vs h L) (wU:BW L vU U) (wR:BW L vR R) (wD:LR L vD Dp) (hU:U.length=c.b.length) (hR:(R.length:Int)=c.regs) (hb:b<c.b.length) (hRc:Rc.length=c.b.length)
  (hK:∀h',Vs h' L->KH (.bool (Q9 c Rc Dp U R b)) h'):ag PP jq [c.e,.sl (bL Rc),vD,.agg [vU,vR],nD b] h KH:=by
 have b1:=hc.g.nb;refine aY F4 (aG _ _ _) rfl (FH _ _ _ _ _ _) ?_;dsimp only[zT,xB,xI,xL];refine V.box c.b9.one λ n6 h7 V7=>?_
 refine V7.box (fzU V wU wR).2.1 λ n8 h9 V9=>?_
 rw[BW.get V9 (Or.inl rfl) (by omega),cw];unfold Q9 at hK;cases hr:hasB Rc b
 ·rw[Bool.not_false,af];rw[hr]at hK;exact hK h9 V9.pop.pop
 rw[Bool.not_true,ae];rw[hr,Bool.true_and]at hK;obtain⟨l,hl,Z⟩:∃l,Dp[b]?=some l/\gL Dp b=l:=⟨Dp[b]'(by omega),aq _,by grind [gL]⟩;rw[Z]at hK;obtain⟨Q,b2⟩:=hD l (ak hl);have hs:∀x∈L,x∈(n8,Slot.box (.agg [vU,vR]))::(n6,.box c.e)::L:=λ x hx=>by simp[hx]
 refine⟨λ _ h'=>Vs h' ((n8,Slot.box (.agg [vU,vR]))::(n6,.box c.e)::L)/\(l.all λ a=>hasB U a&&Kw R (rG c a).t.a)=true,?_,?_⟩
 ·rintro f h' ⟨V',ha⟩;rw[ha]at hK;exact hK h' V'.pop.pop
 dsimp only[sK,xI,xL,yF,yI,yL,yP];refine⟨λ m q h'=>∃k:Nat,q=[nD k]/\k<=l.length/\m=l.length-k/\Vs h' ((n8,Slot.box (.agg [vU,vR]))::(n6,.box c.e)::L)/\((l.take k).all λ a=>hasB U a&&Kw R (rG c a).t.a)=true,_,⟨0,rfl,by omega,rfl,V9,by simp⟩,?_⟩;rintro m f h1 ⟨k,hq,hk,hm,G,a7⟩;simp only[ah,and_true]at hq;rw[hq];refine LR.get G (wD.mono hs) hl λ e we=>?_
 rw[HT.len G we];by_cases H:¬k<l.length
 ·have:k=l.length:=by omega
  subst this;rw[nD,fU (by omega),ae];grind [aa]
 replace H:k<l.length:=Decidable.not_not.1 H;rw[nD,fY (by omega),af];obtain⟨a,ha⟩:∃a,l[k]?=some a:=⟨l[k],aq H⟩;have a6:=Q a (ak ha);obtain⟨A,hA⟩:∃A,c.b[a]?=some A:=⟨c.b[a],aq a6⟩;refine LR.get G (wD.mono hs) hl λ e2 I=>?_
 rw[HT.get G I ha];rw[G.lH 0 rfl,G.gw 0 (j:=0+0) rfl rfl,BW.MJ G (wU.mono hs) (by omega),cw];have a8:l.take (k+1)=l.take k++[a]:=by rw[List.take_add_one,ha];rfl
 have no:(hasB U a&&Kw R (rG c a).t.a)=false->(l.all λ a=>hasB U a&&Kw R (rG c a).t.a)=false:=λ h=>by
  grind
 cases hu:hasB U a
 ·simp only[Bool.not_false,S3,VT];rw[jL,cq,if_pos rfl,af];rw[no (by rw[hu];rfl)]at hK;exact hK h1 G.pop.pop
 simp only[Bool.not_true,Nh];rw[G.Bv 0 (s:=2) rfl rfl,G.lH 1 rfl,G.gw 1 (j:=0+7) rfl rfl,nD,Ly hA,Xk,QX,mc,aci];refine Pw G (wU.mono hs) (wR.mono hs) (λ h2=>?_) ?_
 ·have:=(hc.g.t A (ak hA)).Wy.2.1 h2;omega
 rw[cw,jL,cq];simp only[aC,if_false];have a2:(rG c a).t.a=A.t.a:=by rw[gK hA]
 cases a1:Kw R A.t.a
 ·rw[Bool.not_false,af];rw[no (by rw[a2,a1,Bool.and_false])]at hK;exact hK h1 G.pop.pop
 ·rw[Bool.not_true,ae,bB (by omega) (by omega)];simp only[aa,true_and];refine⟨_,by omega,k+1,rfl,by omega,rfl,G,?_⟩;grind
end Go.Am
namespace Go.Am
open Go Go.Proofs
def VP (U R:List Bool) (b:Nat) (r:Int) (x:bj):Bool:=decide (eh x.d=r)&&(!hasB U b||(fy x||(!Kw R x.a||(!Kw R x.b || !Kw R x.c))))
def Qp (Rc U R:List Bool) (r:Int) (b:Nat) (B:Block):Bool:= !hasB Rc b||(!decide (eh B.t.d=r)&&B.i.all λ x=> !VP U R b r x)
def Na (c:Code) (Rc U R:List Bool) (r:Int):Bool:=(List.range c.b.length).all λ b=>Qp Rc U R r b (rG c b)
def gD:=And.intro (@Yb PP)<|And.intro (@Yc PP)<|And.intro (@B4 PP)<|And.intro (@tE PP)<|And.intro (@Nj PP) (@cq)
section
variable {c:Code}{U R Rc:List Bool}{r:Int}{n5 n7 b:Nat}{B:Block}{h:Heap}{L:LSq}{J:HJq}{KH:HKq}
theorem abh (hc:cR c) (h5:(n5,Slot.box c.e)∈L) (h7:(n7,Slot.box (uE U R))∈L) (V:Vs h L) (hU:U.length=c.b.length) (hR:(R.length:Int)=c.regs) (hB:c.b[b]?=some B){f:Nat->D}(hf:f 9=nD b)
  (hJ:∀h',Vs h' L->(B.i.all λ x=> !VP U R b r x)=true->J [] h') (hK:∀h',Vs h' L->(B.i.all λ x=> !VP U R b r x)=false->KH (.bool false) h') :
  je h (.ptr n5 0 0) f (.int .i64 r) (.ptr n7 0 0) (.sl (bL Rc)) J KH:=by
 have b7:=hc.g.nb;have a7:=ak hB;have c1:=(ar.1 hB).1;have c0:=hc.len B a7;dsimp only[je,xF,xI,xL,xP,xS];refine⟨λ m q h'=>∃k:Nat,q=[nD k]/\k<=B.i.length/\m=B.i.length-k/\Vs h' L/\((B.i.take k).all λ x=> !VP U R b r x)=true,_,⟨0,rfl,by omega,rfl,V,by simp⟩,?_⟩;rintro m f1 h1 ⟨k,hq,hk,hm,V1,b4⟩;simp only[ah,and_true]at hq
 have a6:∀{KH:HKq},ab PP (.fadd (.c (.ptr n5 0 0)) 7) h1 (λ a h2=>ab PP (.ld (.c a) 1 false) h2 KH)=KH (.sl (c.b.map Block.e)) h1:=λ {KH}=>by
  rw[V1.UE (s:=.box c.e) h5,V1.Hw (cs:=[.int .i64 c.group,.int .i64 c.sub,.int .i64 c.regs,.int .i64 c.slots,.int .i64 c.params,.sl (c.arrays.map qV.e),.sl (c.loops.map Loop.e),.sl (c.b.map Block.e)]) h5 rfl]
 have a2:∀{KH:HKq},ab PP (.ld (.c (.vp B.e 0)) 1 false) h1 KH=KH (.sl (B.i.map bj.e)) h1:=λ {KH}=>by
  rw[show B.e=.agg (.sl (B.i.map bj.e)::B.t.cs) from rfl,Fo (e:=.sl (B.i.map bj.e)) rfl]
 rw[hq,a6,hf,nD,rE hB,KM,a2,bD,aH];by_cases Z:¬k<B.i.length
 ·have:k=B.i.length:=by omega
  subst this;rw[nD,fU (by omega),ae];grind [aa]
 replace Z:k<B.i.length:=Decidable.not_not.1 Z;obtain⟨x,hx⟩:∃x,B.i[k]?=some x:=⟨B.i[k],aq Z⟩;have b2:=ak hx;obtain⟨-,oa,ob,oc⟩:=(hc.i B a7 x b2).Wy;rw[nD,fY (by omega),af,a6,rE hB,KM,a2,iN (esz:=15) (d:=x.e) (by omega) (by grind) rfl];rw[show ab PP (.ld (.c (.vp x.e 0)) 15 true) h1=λ KH=>KH x.e h1 from funext λ KH=>NM rfl];refine V1.alloc λ I c2 b3=>?_
 refine b3.mY 0 (cs':=x.cs) rfl rfl rfl (λ y hy=>x.b9.one y hy) λ G H=>?_
 simp only[List.set_cons_zero]at H;rw[H.fV 0 (s:=15) rfl rfl,show D.agg x.cs=x.e from rfl];refine aW aaa (λ d hd=>by simp at hd;subst hd;exact x.b9.pair) ?_;rintro _ rfl;rw[bq];have b5:B.i.take (k+1)=B.i.take k++[x]:=by rw[List.take_add_one,hx];rfl
 have go:VP U R b r x=false->∃m',m'<m/\∃k':Nat,[D.int .i64 ((k:Int)+1)]=[nD k']/\k'<=B.i.length/\m'=B.i.length-k'/\Vs G L/\((B.i.take k').all λ x=> !VP U R b r x)=true:=λ hn =>
  ⟨_,by omega,k+1,rfl,by omega,rfl,H.pop,by grind⟩
 have stop:VP U R b r x=true->KH (.bool false) G:=λ hy=>hK G H.pop (by
  grind)
 unfold VP at go stop;by_cases hd:¬eh x.d=r
 ·rw[decide_eq_false hd]at go ⊢;simp only[gD,Bool.not_false,Bool.not_true,aC,if_true,if_false];rw[ae,bB (by omega) (by omega)];simp only[aa,true_and];exact go rfl
 replace hd:eh x.d=r:=Decidable.not_not.1 hd;rw[decide_eq_true hd]at go stop ⊢;have a1:(n7,Slot.box (uE U R))∈(I,Slot.box x.e)::L:=by simp[h7]
 have b1:∀{KH:HKq},ab PP (.ld (.c (.ptr n7 0 0)) 1 false) G KH=KH (.sl (bL U)) G:=λ {KH}=>H.Hw (cs:=[.sl (bL U),.sl (bL R)]) a1 rfl
 have Q:∀{KH:HKq},ab PP (.ld (.c (.ptr n7 0 0)) 2 true) G KH=KH (uE U R) G:=λ {KH}=>H.Jr (cs:=[.sl (bL U),.sl (bL R)]) a1 rfl
 have g0:=H.get 0 _ _ rfl;have la:∀{KH:HKq},ab PP (.ld (.c (.ptr I 0 6)) 3 true) G KH=KH x.a.e G:=λ {KH}=>RK g0 (by simp[bj.cs])
 have lb:∀{KH:HKq},ab PP (.ld (.c (.ptr I 0 9)) 3 true) G KH=KH x.b.e G:=λ {KH}=>RK g0 (by simp[bj.cs])
 have lc:∀{KH:HKq},ab PP (.ld (.c (.ptr I 0 12)) 3 true) G KH=KH x.c.e G:=λ {KH}=>RK g0 (by simp[bj.cs])
 have cn:∀{o:dn}{KH:HKq},yj c.regs o->KH (.bool (Kw R o)) G->ag PP ct [uE U R,o.e] G KH:=λ {o KH} ho hk=>by
  refine aW (JO λ h2=>by have:=ho h2;omega) (λ d hd=>by simp at hd;rcases hd with rfl|rfl;exact ML.pair;exact o.b9.pair) ?_;rintro _ rfl;exact hk
 simp only[gD,Bool.not_false,Bool.not_true,aC,if_true,if_false];rw[H.UE a1,b1,iN (esz:=1) (d:=.bool (hasB U b)) (by omega) (by grind [cr,bo]) rfl,ni rfl,cw];cases g1:hasB U b
 ·simp only[gD,Bool.not_false,Bool.not_true,aC,if_true,if_false];grind [af]
 simp only[gD,Bool.not_false,Bool.not_true,aC,if_true,if_false];rw[H.fV 0 (s:=15) rfl rfl,show D.agg x.cs=x.e from rfl];refine aW Vb (λ d hd=>by simp at hd;subst hd;exact x.b9.pair) ?_;rintro _ rfl;rw[cw,Bool.not_not];by_cases a8:fy x=true
 ·rw[a8];simp only[gD,Bool.not_false,Bool.not_true,aC,if_true,if_false];grind [af]
 have g2:fy x=false:=by simpa using a8
 rw[g2];simp only[gD,Bool.not_false,Bool.not_true,aC,if_true,if_false];rw[Q,H.fa 0 rfl,la];refine cn oa ?_;rw[cw];cases g3:Kw R x.a
 ·simp only[gD,Bool.not_false,Bool.not_true,aC,if_true,if_false];grind [af]
 simp only[gD,Bool.not_false,Bool.not_true,aC,if_true,if_false];rw[Q,H.fa 0 rfl,lb];refine cn ob ?_;rw[cw];cases g4:Kw R x.b
 ·simp only[gD,Bool.not_false,Bool.not_true,aC,if_true,if_false];grind [af]
 simp only[gD,Bool.not_false,Bool.not_true,aC,if_true,if_false];rw[Q,H.fa 0 rfl,lc];refine cn oc ?_;rw[cw];cases g5:Kw R x.c
 ·grind [af]
 simp only[gD,Bool.not_false,Bool.not_true,aC,if_true,if_false];rw[ae,bB (by omega) (by omega)];simp only[aa,true_and];exact go (by rw[g1,g2,g3,g4,g5];rfl)
end
theorem PH {c:Code}(hc:cR c){U R Rc:List Bool}{r:Int}(hU:U.length=c.b.length) (hR:(R.length:Int)=c.regs) (hRc:Rc.length=c.b.length):aK PP dH [c.e,.sl (bL Rc),uE U R,.int .i64 r] (· = .bool (Na c Rc U R r)):=by
 have a2:=hc.g.nb;refine aZ zw (aG _ _ _) rfl (zk _ _ _ _ _) ?_;dsimp only[sI,xB];refine Vs.nil.box c.b9.one λ n5 h6 V6=>?_
 refine V6.box ML.one λ n7 h8 V8=>?_
 obtain⟨L,V⟩:∃L,L=[(n7,Slot.box (uE U R)),(n5,.box c.e)]:=⟨_,rfl⟩;rw[<- V]at V8;have Z:(n5,Slot.box c.e)∈L:=by simp[V]
 have h7:(n7,Slot.box (uE U R))∈L:=by simp[V]
 refine⟨λ _ h'=>((List.range c.b.length).all λ b=>Qp Rc U R r b (rG c b))=true,?_,?_⟩
 ·grind [bb,Na]
 dsimp only[od,xF,xI,xL];refine⟨λ m q h'=>∃b:Nat,q=[nD b]/\b<=c.b.length/\m=c.b.length-b/\Vs h' L/\((List.range b).all λ b=>Qp Rc U R r b (rG c b))=true,_,⟨0,rfl,by omega,rfl,V8,by simp⟩,?_⟩;rintro m f h1 ⟨b,Q,hb,hm,V1,a1⟩;simp only[ah,and_true]at Q
 have H:∀{KH:HKq},ab PP (.fadd (.c (.ptr n5 0 0)) 7) h1 (λ a h2=>ab PP (.ld (.c a) 1 false) h2 KH)=KH (.sl (c.b.map Block.e)) h1:=λ {KH}=>by
  rw[V1.UE (s:=.box c.e) Z,V1.Hw (cs:=[.int .i64 c.group,.int .i64 c.sub,.int .i64 c.regs,.int .i64 c.slots,.int .i64 c.params,.sl (c.arrays.map qV.e),.sl (c.loops.map Loop.e),.sl (c.b.map Block.e)]) Z rfl]
 rw[H,bD,aH,Q];by_cases G:¬b<c.b.length
 ·grind [nD,fU,ae,aa]
 replace G:b<c.b.length:=Decidable.not_not.1 G;obtain⟨B,hB⟩:∃B,c.b[b]?=some B:=⟨c.b[b],aq G⟩;have eB:=gK hB
 have nx:∀h',Vs h' L->Qp Rc U R r b B=true->∃m',m'<m/\∃b':Nat,[D.int .i64 ((b:Int)+1)]=[nD b']/\b'<=c.b.length/\m'=c.b.length-b'/\Vs h' L/\((List.range b').all λ b=>Qp Rc U R r b (rG c b))=true:=λ h' I hr =>
  ⟨_,by omega,b+1,rfl,by omega,rfl,I,by grind⟩
 have no:Qp Rc U R r b B=false->Na c Rc U R r=false:=λ hr=>by
  grind [Na]
 rw[nD,fY (by omega),af];refine⟨λ _ h'=>Vs h' L/\Qp Rc U R r b B=true,?_,?_⟩
 ·grind [bB,aa]
 rw[iN (esz:=1) (d:=.bool (hasB Rc b)) (by omega) (by grind [cr,bo]) rfl,ni rfl,cw];cases g1:hasB Rc b
 ·grind [af,aa,Qp]
 rw[Bool.not_true,ae,H,rE hB,KM,MX];refine aW XD (λ d hd=>by simp at hd;subst hd;exact B.t.b9.pair) ?_;rintro _ rfl;rw[bq];by_cases g2:eh B.t.d=r
 ·grind [af,bb,Qp]
 ·rw[decide_eq_false g2,ae];refine abh hc Z h7 V1 hU hR hB Q (λ h' I ha=>⟨I,?_⟩) λ h' I ha=>?_
  ·grind [Qp]
  grind [bb,Qp]
theorem BD {c:Code}(hc:cR c){h:Heap}{L:LSq}{KH:HKq}{vU vR:D}{U R Rc:List Bool}{r:Int}(V:Vs h L) (wU:BW L vU U) (wR:BW L vR R) (hU:U.length=c.b.length) (hR:(R.length:Int)=c.regs) (hRc:Rc.length=c.b.length) (hK:KH (.bool (Na c Rc U R r)) h):ag PP dH [c.e,.sl (bL Rc),.agg [vU,vR],.int .i64 r] h KH:=by
 obtain⟨f1,f2,f3⟩:=fzU V wU wR
 have pr:∀{d:D},d.vd=true/\aL d->d.fz h=d/\aL d/\nN h d/\(d.fz h).vd=true:=λ {d} p=>by
  grind [jj]
 obtain⟨a1,Z⟩:=pr c.b9.pair;obtain⟨Q,I⟩:=pr (d:=.sl (bL Rc)) FA.pair;obtain⟨H,G⟩:=pr (d:=.int .i64 r) aI.pair;refine ag.mono ?_ (dQ (K:=(· = .bool (Na c Rc U R r))) ?_ ?_)
 ·rintro d h' ⟨rfl,h2,-⟩;rw[h2 (Or.inl rfl)];exact hK
 ·simp only[List.map_cons,List.map_nil,f1,a1,Q,H];exact PH hc hU hR hRc
 ·intro d hd;simp at hd;rcases hd with rfl|rfl|rfl|rfl
  ·exact Z
  ·exact I
  ·exact⟨f2,f3,by rw[f1];exact ML.pair.1⟩
  ·exact G
end Go.Am
namespace Go.Am
open Go Go.Proofs
section
variable {c:Code}{U R:List Bool}
theorem Co {o:dn}:(∀f,f∈de [o]->km U R f=true)↔Kw R o=true:=by
 unfold de Kw;by_cases h:o.kind=2
 ·simp[h,km,Pa]
 ·simp[h]
theorem Qr {x y z:dn}:(∀f,f∈de [x,y,z]->km U R f=true)↔Kw R x=true/\Kw R y=true/\Kw R z=true:=by
 rw[<- Co (U:=U) (R:=R) (o:=x), <- Co (U:=U) (R:=R) (o:=y), <- Co (U:=U) (R:=R) (o:=z)];grind [de]
def okR (U R:List Bool) (r:Ru):Prop:=r.never=false/\∀f∈r.needs,km U R f=true
theorem W4 {b:Nat}:km U R (wC b)=hasB U b:=rfl
theorem MY {b:Nat}(hb:b<c.b.length):Q9 c (b8 c) (jc c) U R b=true ↔ ∀r,r∈iB c->r.of=wC b->okR U R r:=by
 unfold Q9;rw[Bool.and_eq_true,cV hb,List.all_eq_true,CY hb];constructor
 ·rintro⟨hp,ha⟩ r hr ho;have hi:=oF.1 hr
  cases hi with
  | @no b' I H =>
   grind [VO,wC]
  | @dep b' a A I H hd hA =>
   have:b'=b:=by grind [C3,wC]
   subst this;have:=ha a (dj.2 ⟨(ar.1 hA).1,hd⟩);rw[Bool.and_eq_true,gK hA]at this;refine⟨rfl,λ f G=>?_⟩;simp only[C3,List.mem_append]at G;rcases G with G|G
   ·exact Co.2 this.2 f G
   ·simp at G;subst G;exact this.1
  | inst=>simp[mH,zE,wC]at ho
  | fin=>simp[zE,wC]at ho
 ·intro h
  have hp:Path (edg c) 0 b:=by
   by_cases hp:Path (edg c) 0 b
   ·exact hp
   ·have:=(h _ (oF.2 (.no hb hp)) rfl).1;cases this
  refine⟨hp,λ a ha=>?_⟩;obtain⟨Q,hd⟩:=dj.1 ha;obtain⟨A,hA⟩:∃A,c.b[a]?=some A:=⟨c.b[a],aq Q⟩;have:=(h _ (oF.2 (.dep hb hp hd hA)) rfl).2;rw[Bool.and_eq_true,gK hA];exact⟨this (wC a) (by simp[C3]),(Co (U:=U)).1 λ f G=>this f (by grind [C3])⟩
theorem Ma {r:Int}(h0:0<=r):Na c (b8 c) U R r=true ↔ ∀ru,ru∈iB c->ru.of=zE r->okR U R ru:=by
 unfold Na;rw[List.all_eq_true];constructor
 ·intro h ru hr ho;have hi:=oF.1 hr
  cases hi with
  | no=>simp[VO,zE,wC]at ho
  | dep=>simp[C3,zE,wC]at ho
  | @inst b B x hB hp hx Q =>
   have hb:=(ar.1 hB).1;have:=h b (List.mem_range.2 hb);unfold Qp at this;rw[(cV hb).2 hp,gK hB,Bool.not_true,Bool.false_or,Bool.and_eq_true,List.all_eq_true]at this;have G:=this.2 x hx;simp only[mH,zE,Fa.mk.injEq,true_and]at ho;unfold VP at G;rw[decide_eq_true ho]at G;simp only[Bool.true_and,Bool.not_eq_true',Bool.or_eq_false_iff,Bool.not_eq_false']at G;obtain⟨h1,h2,h3,h4,V⟩:=G;refine⟨h2,λ f H=>?_⟩;simp only[mH,List.mem_append]at H;rcases H with H|H
   ·exact Qr.2 ⟨h3,h4,V⟩ f H
   ·simp at H;subst H;exact h1
  | @fin b B hB hp Q =>
   have hb:=(ar.1 hB).1;have:=h b (List.mem_range.2 hb);grind [Qp,cV,gK,zE]
 ·intro h b hb;have hb:=List.mem_range.1 hb;obtain⟨B,hB⟩:∃B,c.b[b]?=some B:=⟨c.b[b],aq hb⟩;unfold Qp;rw[gK hB];cases hp:hasB (b8 c) b
  ·rfl
  have I:=(cV hb).1 hp;rw[Bool.not_true,Bool.false_or,Bool.and_eq_true,List.all_eq_true];constructor
  ·by_cases hd:eh B.t.d=r
   ·have:=(h _ (oF.2 (.fin hB I (by omega))) (by simp[hd])).1;cases this
   grind
  ·intro x hx;unfold VP;by_cases hd:eh x.d=r
   ·have:=h _ (oF.2 (.inst hB I hx (by omega))) (by simp[mH,hd]);have h3:=(Qr (U:=U) (R:=R) (x:=x.a) (y:=x.b) (z:=x.c)).1 λ f H=>this.2 f (by grind [mH])
    have h4:=this.2 (wC b) (by simp[mH]);have V:fy x=false:=this.1;grind [W4]
   grind
theorem Vy {b:Nat}(hb:b<c.b.length) (h:Q9 c (b8 c) (jc c) U R b=false) (hu:hasB U b=true):∃r,r∈iB c/\r.of=wC b/\fe U R r=false:=by
 apply Classical.byContradiction;intro hn
 have:Q9 c (b8 c) (jc c) U R b=true:=(MY hb).2 λ r hr ho=>by
  cases G:fe U R r
  ·grind
  ·exact iI.1 G (by rw[ho];exact hu)
 rw[h]at this;cases this
theorem TI {n:Nat}(h:Na c (b8 c) U R (n:Int)=false) (hu:hasB R n=true):∃r,r∈iB c/\r.of=zE (n:Int)/\fe U R r=false:=by
 apply Classical.byContradiction;intro hn
 have:Na c (b8 c) U R (n:Int)=true:=(Ma (by omega)).2 λ r hr ho=>by
  cases G:fe U R r
  ·grind
  ·exact iI.1 G (by rw[ho];exact hu)
 rw[h]at this;cases this
theorem pt (hc:cR c):(iB c).all (fe U R)=true↔(∀b,b<c.b.length->hasB U b=true->Q9 c (b8 c) (jc c) U R b=true)/\∀n:Nat,(n:Int)<c.regs->hasB R n=true->Na c (b8 c) U R (n:Int)=true:=by
 rw[List.all_eq_true];constructor
 ·intro h;refine⟨λ b hb hu=>(MY hb).2 λ r hr ho=>?_,λ n hn hu=>(Ma (by omega)).2 λ r hr ho=>?_⟩
  ·exact iI.1 (h r hr) (by rw[ho];exact hu)
  ·exact iI.1 (h r hr) (by rw[ho];exact hu)
 ·rintro⟨h1,h2⟩ r hr;have ok:=(L9 hc r hr).of;obtain⟨I,H,G⟩:=ok;refine iI.2 λ hg=>?_
  obtain⟨⟨V,n⟩,needs,never⟩:=r;simp only at I H G;have Q:((n.toNat:Nat):Int)=n:=by omega
  cases V with
  | true =>
   have:=H rfl;have hb:n.toNat<c.b.length:=by omega
   exact(MY hb).1 (h1 _ hb hg) _ hr (by simp[wC,Q])
  | false =>
   have:=G rfl;have hb:=h2 n.toNat (by omega) hg;rw[Q]at hb;exact(Ma I).1 hb _ hr rfl
end
end Go.Am
namespace Go.Am
open Go Go.Proofs
def Dr (c:Code) (P:List Bool->List Bool->Prop):Prop:=∀U R r,U.length=c.b.length->(R.length:Int)=c.regs->P U R->r∈iB c->km U R r.of=true->fe U R r=false->P (vJ U R r.of).1 (vJ U R r.of).2
structure FY (c:Code) (P:List Bool->List Bool->Prop) (N:Nat) (U R:List Bool) (t:Bool):Prop where
 ul:U.length=c.b.length
 rl:(R.length:Int)=c.regs
 p:P U R
 n:if t then JL U R<N else JL U R=N
theorem FY.le {c:Code}{P:List Bool->List Bool->Prop}{N:Nat}{U R:List Bool}{t:Bool}(s:FY c P N U R t):JL U R<=N:=by
 have:=s.n;split at this<;>omega
theorem FY.drop {c:Code}{P:List Bool->List Bool->Prop}{N:Nat}{U R:List Bool}{t:Bool}(hP:Dr c P) (s:FY c P N U R t){r:Ru}(hr:r∈iB c) (hg:km U R r.of=true) (hk:fe U R r=false):FY c P N (vJ U R r.of).1 (vJ U R r.of).2 true:=by
 refine⟨?_,?_,hP U R r s.ul s.rl s.p hr hg hk,?_⟩
 ·unfold vJ;split<;>simp[s.ul]
 ·unfold vJ;split<;>simp[s.rl]
 ·have:=UX hg;have:=s.le;rw[if_pos rfl];omega
section
variable {c:Code}{nU nR nu n4 n2 nr N:Nat}{U R:List Bool}{X:LSq}{vD:D}{P:List Bool->List Bool->Prop}{h:Heap}{t:Bool}
def me (c:Code) (U R:List Bool) (i:Nat):Prop:=∀b,b<i->hasB U b=true->Q9 c (b8 c) (jc c) U R b=true
def Hz (c:Code) (U R:List Bool) (i:Nat):Prop:=∀n:Nat,n<i->hasB R n=true->Na c (b8 c) U R (n:Int)=true
theorem FY.bU {L:LSq}(s:FY c P N U R t) (hs:∀x,x∈b6 c nU nR nu n4 n2 nr U R X->x∈L):BW L (.ms nU 0 c.b.length) U:=Or.inr ⟨nU,by rw[s.ul],hs _ (by simp[b6])⟩
theorem FY.bR {L:LSq}(s:FY c P N U R t) (hr:c.regs=(nr:Int)) (hs:∀x,x∈b6 c nU nR nu n4 n2 nr U R X->x∈L):BW L (.ms nR 0 nr) R:=Or.inr ⟨nR,by have:=s.rl;grind,hs _ (by simp[b6])⟩
theorem R5 (hc:cR c) (hr:c.regs=(nr:Int)) (hP:Dr c P) (wD:LR X vD (jc c)) (s:FY c P N U R false) (V:Vs h (b6 c nU nR nu n4 n2 nr U R X)){J:HJq}
  (hJ:∀h' U' R' t,FY c P N U' R' t->(t=false->me c U' R' c.b.length)->Vs h' (b6 c nU nR nu n4 n2 nr U' R' X)->J [.bool t] h') :
  nH h (.ptr nu 0 0) (.ptr n2 0 0) (.ptr n4 0 0) (.sl (bL (b8 c))) vD J:=by
 have a8:=hc.g.nb;dsimp only[nH,xF,xI,xL,xP,xS];refine⟨λ m q h'=>∃(i:Nat) (U R:List Bool) (t:Bool),q=[.bool t,nD i]/\i<=c.b.length/\m=c.b.length-i/\FY c P N U R t/\(t=false->me c U R i)/\Vs h' (b6 c nU nR nu n4 n2 nr U R X),_,⟨0,U,R,false,rfl,by omega,rfl,s,λ _ b hb=>by omega,V⟩,?_⟩;rintro m f h1 ⟨i,U1,R1,t1,hq,hi,hm,s1,ck,I⟩;simp only[ah,and_true]at hq;obtain⟨q1,q2⟩:=hq;have H:∀{KH:HKq},ab PP (.fadd (.c (.ptr nu 0 0)) 0) h1 (λ a h2=>ab PP (.ld (.c a) 1 false) h2 KH)=KH (.ms nU 0 c.b.length) h1:=λ {KH}=>by rw[I.fa 0 rfl,I.bI 0 (j:=0+0) rfl rfl]
 have Z:∀{K:D->Prop},aM (.ms nU 0 c.b.length) h1 K=K (.int .i64 (c.b.length:Int)):=λ {K}=>by
  rw[bH,I.get 2 _ _ rfl];exact propext ⟨λ hh=>hh.2,λ hk=>⟨rfl,hk⟩⟩
 rw[H,Z,q1,q2];by_cases G:¬i<c.b.length
 ·have:i=c.b.length:=by omega
  subst this;rw[nD,fU (by omega),ae];grind [aa]
 replace G:i<c.b.length:=Decidable.not_not.1 G;rw[nD,fY (by omega),af];refine⟨λ q h'=>∃(U R:List Bool) (t:Bool),q=[.bool t]/\FY c P N U R t/\(t=false->me c U R (i+1))/\Vs h' (b6 c nU nR nu n4 n2 nr U R X),?_,?_⟩
 ·rintro f' h' ⟨U2,R2,t2,hq,s2,a7,Q⟩;simp only[ah,and_true]at hq;rw[hq,bB (by omega) (by omega)];simp only[aa,true_and];exact⟨_,by omega,i+1,U2,R2,t2,rfl,by omega,rfl,s2,a7,Q⟩
 have more:(hasB U1 i=true->Q9 c (b8 c) (jc c) U1 R1 i=true)->(t1=false->me c U1 R1 (i+1)):=λ hh ht b hb hu=>by
  by_cases e:b=i
  ·subst e;exact hh hu
  ·exact ck ht b (by omega) hu
 rw[H,I.ia 2 rfl (by omega) (by omega),aE,I.yQ 2 rfl (cr (bo (by rw[s1.ul];exact G))) rfl];cases g1:hasB U1 i
 ·simp only[gD,Bool.not_false,Bool.not_true,aC,if_true,if_false];grind [ae,aa]
 simp only[gD,Bool.not_false,Bool.not_true,aC,if_true,if_false];rw[I.fV 4 (s:=8) rfl rfl,I.fV 0 (s:=2) rfl rfl,show D.agg [.int .i64 c.group,.int .i64 c.sub,.int .i64 c.regs,.int .i64 c.slots,.int .i64 c.params,.sl (c.arrays.map qV.e),.sl (c.loops.map Loop.e),.sl (c.b.map Block.e)]=c.e from rfl];refine M3 hc (Iu hc.g) xn I (s1.bU λ x hx=>hx) (s1.bR hr λ x hx=>hx) (wD.mono λ x hx=>by simp[b6,hx]) s1.ul s1.rl G gV λ h2 Q=>?_
 rw[cw];cases g2:Q9 c (b8 c) (jc c) U1 R1 i
 ·rw[Bool.not_false,af,Q.fa 0 rfl,Q.bI 0 (j:=0+0) rfl rfl,Q.ia 2 rfl (by omega) (by omega),aE];refine Q.wA 2 rfl (by simp[bL,s1.ul];exact G) rfl (ic _) λ h3 V3=>?_
  rw[hZ]at V3;simp only[aa,true_and];obtain⟨r,a6,a1,a2⟩:=Vy G g2 g1;have:=s1.drop hP a6 (by rw[a1];exact g1) a2;rw[a1]at this;exact⟨U1.set i false,R1,true,rfl,this,λ h=>(by cases h),V3⟩
 grind [ae,aa]
theorem W6 (hc:cR c) (hr:c.regs=(nr:Int)) (hP:Dr c P) (s:FY c P N U R t) (cb:t=false->me c U R c.b.length) (V:Vs h (b6 c nU nR nu n4 n2 nr U R X)){f:Nat->D}(hf:f 6=.bool t){I:Nat->HJq}{n31:Nat}
  (hJ:∀h' U' R' t,FY c P N U' R' t->(t=false->me c U' R' c.b.length/\Hz c U' R' nr)->Vs h' (b6 c nU nR nu n4 n2 nr U' R' X)->∃m,m<n31/\I m [.bool t] h') :
  nI f h (.ptr nu 0 0) (.ptr n2 0 0) (.ptr n4 0 0) (.sl (bL (b8 c))) vD n31 I:=by
 have b3:=hc.g.nb;have b2:=hc.rg;dsimp only[nI,xF,xI,xL,xP,xS];rw[hf];refine⟨λ m q h'=>∃(i:Nat) (U R:List Bool) (t:Bool),q=[.bool t,nD i]/\i<=nr/\m=nr-i/\FY c P N U R t/\(t=false->me c U R c.b.length/\Hz c U R i)/\Vs h' (b6 c nU nR nu n4 n2 nr U R X),_,⟨0,U,R,t,rfl,by omega,rfl,s,λ h=>⟨cb h,λ b hb=>by omega⟩,V⟩,?_⟩;rintro m f h1 ⟨i,U1,Q,t1,hq,hi,hm,s1,ck,G⟩;simp only[ah,and_true]at hq;obtain⟨q1,q2⟩:=hq;have a6:Q.length=nr:=by have:=s1.rl;omega
 have H:∀{KH:HKq}{h1:Heap}{U1 Q:List Bool},Vs h1 (b6 c nU nR nu n4 n2 nr U1 Q X)->ab PP (.fadd (.c (.ptr nu 0 0)) 1) h1 (λ a h2=>ab PP (.ld (.c a) 1 false) h2 KH)=KH (.ms nR 0 nr) h1:=λ {KH h1 U1 Q} G=>by rw[G.fa 0 rfl,G.bI 0 (j:=0+1) rfl rfl]
 have a1:∀{K:D->Prop},aM (.ms nR 0 nr) h1 K=K (.int .i64 (nr:Int)):=λ {K}=>by
  rw[bH,G.get 1 _ _ rfl];exact propext ⟨λ hh=>hh.2,λ hk=>⟨rfl,hk⟩⟩
 rw[H G,a1,q1,q2];by_cases Z:¬i<nr
 ·have:i=nr:=by omega
  subst this;rw[nD,fU (by omega),ae];grind [aa]
 replace Z:i<nr:=Decidable.not_not.1 Z;rw[nD,fY (by omega),af];refine⟨λ q h'=>∃(U R:List Bool) (t:Bool),q=[.bool t]/\FY c P N U R t/\(t=false->me c U R c.b.length/\Hz c U R (i+1))/\Vs h' (b6 c nU nR nu n4 n2 nr U R X),?_,?_⟩
 ·rintro f' h' ⟨U2,R2,t2,hq,s2,b1,V2⟩;simp only[ah,and_true]at hq;rw[hq,bB (by omega) (by omega)];simp only[aa,true_and];exact⟨_,by omega,i+1,U2,R2,t2,rfl,by omega,rfl,s2,b1,V2⟩
 have more:(hasB Q i=true->Na c (b8 c) U1 Q (i:Int)=true)->(t1=false->me c U1 Q c.b.length/\Hz c U1 Q (i+1)):=λ hh ht=>⟨(ck ht).1,λ b hb hu=>by
  by_cases e:b=i
  ·subst e;exact hh hu
  ·exact(ck ht).2 b (by omega) hu⟩
 rw[H G,G.ia 1 rfl (by omega) (by omega),aE,G.yQ 1 rfl (cr (bo (by rw[a6];exact Z))) rfl];cases g1:hasB Q i
 ·simp only[gD,Bool.not_false,Bool.not_true,aC,if_true,if_false];grind [ae,aa]
 simp only[gD,Bool.not_false,Bool.not_true,aC,if_true,if_false];rw[G.fV 4 (s:=8) rfl rfl,G.fV 0 (s:=2) rfl rfl,show D.agg [.int .i64 c.group,.int .i64 c.sub,.int .i64 c.regs,.int .i64 c.slots,.int .i64 c.params,.sl (c.arrays.map qV.e),.sl (c.loops.map Loop.e),.sl (c.b.map Block.e)]=c.e from rfl];refine BD hc G (s1.bU λ x hx=>hx) (s1.bR hr λ x hx=>hx) s1.ul s1.rl gV ?_;rw[cw];cases g2:Na c (b8 c) U1 Q (i:Int)
 ·rw[Bool.not_false,af,H G,G.ia 1 rfl (by omega) (by omega),aE];refine G.wA 1 rfl (by simp[bL,a6];exact Z) rfl (ic _) λ h3 V3=>?_
  rw[hZ]at V3;simp only[aa,true_and];obtain⟨r,a8,a2,a7⟩:=TI g2 g1;have:=s1.drop hP a8 (by rw[a2];exact g1) a7;rw[a2]at this;exact⟨U1,Q.set i false,true,rfl,this,λ h=>(by cases h),V3⟩
 grind [ae,aa]
theorem W7 (hc:cR c) (hr:c.regs=(nr:Int)) (hP:Dr c P) (wD:LR X vD (jc c)) (hul:U.length=c.b.length) (hrl:(R.length:Int)=c.regs) (hp:P U R) (V:Vs h (b6 c nU nR nu n4 n2 nr U R X)){J:HJq}
  (hJ:∀h' U' R',U'.length=c.b.length->(R'.length:Int)=c.regs->P U' R'->(iB c).all (fe U' R')=true->Vs h' (b6 c nU nR nu n4 n2 nr U' R' X)->J [] h') :
  nG h (.ptr nu 0 0) (.ptr n2 0 0) (.ptr n4 0 0) (.sl (bL (b8 c))) vD J:=by
 unfold nG;refine⟨λ m q h'=>∃(U R:List Bool) (t:Bool),q=[.bool t]/\m=2*JL U R+(if t then 1 else 0)/\U.length=c.b.length/\(R.length:Int)=c.regs/\P U R/\(t=false->me c U R c.b.length/\Hz c U R nr)/\Vs h' (b6 c nU nR nu n4 n2 nr U R X),_,⟨U,R,true,rfl,rfl,hul,hrl,hp,λ h=>(by cases h),V⟩,?_⟩;rintro m f h1 ⟨U1,R1,t1,hq,hm,ul,rl,p1,Z,V1⟩;simp only[ah,and_true]at hq;rw[hq]
 cases t1 with
 | false =>
  rw[ae];simp only[aa,true_and];obtain⟨c1,c2⟩:=Z rfl;exact hJ h1 U1 R1 ul rl p1 ((pt hc).2 ⟨c1,λ n hn hu=>c2 n (by omega) hu⟩) V1
 | true =>
  rw[af];refine⟨λ q h'=>∃(U R:List Bool) (t:Bool),q=[.bool t]/\FY c P (JL U1 R1) U R t/\(t=false->me c U R c.b.length)/\Vs h' (b6 c nU nR nu n4 n2 nr U R X),?_,?_⟩
  ·rintro f' h' ⟨U2,R2,t2,G,s2,Q,V2⟩;simp only[ah,and_true]at G;refine W6 hc hr hP s2 Q V2 G λ h3 U3 R3 t3 H I V3=>?_
   refine⟨_,?_,U3,R3,t3,rfl,rfl,H.ul,H.rl,H.p,I,V3⟩;have:=H.n;grind
  ·exact R5 hc hr hP wD ⟨ul,rl,p1,by simp⟩ V1 λ h' U' R' t s Z V=>⟨U',R',t,rfl,s,Z,V⟩
end
end Go.Am
