/- What the functions of this chapter give, on plain data. No condition. -/
import Derived.Test.YtllpdgfanfffnaaGreatZ1
set_option linter.unnecessarySimpa false
set_option linter.defProp false
set_option linter.unusedSectionVars false
set_option linter.unusedSimpArgs false
set_option linter.unusedVariables false
namespace Go.Am
open Go Go.Proofs
theorem IA {a:List Nat}:wL (nu a):=Br
theorem Ev (bs:List Nat):wL (tf bs):=fF (by simp[nu])
end Go.Am
namespace Go.Am
open Go Go.Proofs
def BJ (l:List Nat):List Int:=l.map fun n:Nat=>(n:Int)
theorem Iy {l:List Nat}{i:Nat}:(BJ l)[i]?=(l[i]?).map fun n:Nat=>(n:Int):=by simp[BJ]
theorem AU {l:List Nat}{k:Nat}:(k:Int)∈BJ l↔k∈l:=by
  simp only[BJ,List.mem_map]
  constructor
  · rintro⟨a,h,e⟩;have:a=k:=by omega
    exact this ▸ h
  · intro h;exact⟨k,h,rfl⟩
theorem KS {N:Nat}{l:List Nat}(hi:l.Pairwise (· < ·)) (hl:∀k∈l,k<N):EA N (BJ l):=by
  refine⟨?_,fun b hb=>?_⟩
  · rw[BJ,List.pairwise_map]
    exact hi.imp fun h=>by omega
  · simp only[BJ,List.mem_map]at hb
    obtain⟨a,ha,rfl⟩:=hb
    have:=hl a ha
    omega
theorem Le (c:Code) (T:List Nat):G2 c T=Me (BJ T) ((T.map (rl c)).map BJ):=by
  have h:(((T.map (rl c)).map BJ).map fun l=>D.sl (uJ l))=(T.map (rl c)).map fun l=>D.sl (aL l):=by
    rw[List.map_map]
    refine List.map_congr_left fun l _=>?_
    show D.sl (uJ (BJ l))=_
    rw[Ki];rfl
  rw[G2,Me,h,Ki];rfl
theorem Jb (c:Code) (hc:gh c):Mg c (cJ c) :=
  ⟨⟨ly,fun k hk=>(bx.1 hk).1⟩,fun k hk=>bx.2 ⟨hk.lt hc,hk⟩,fun s hs a ha t ht=>bx.2 ⟨kH hc (jb ht),.step (bx.1 hs).2 (bx.1 ha).2 ht⟩⟩
theorem Ju {c:Code}(hc:gh c){T:List Nat}(ls:Mg c T):Md c (BJ T) ((T.map (rl c)).map BJ):=by
  have h0:=ls.st 0 .zero
  have isl:∀{l:List Nat}{w:Nat},l.Pairwise (· < ·)->(∀k∈l,k<c.b.length)->w∈l->Dv c.b.length (BJ l) (w:Int)=true:=fun h1 h2 h3=>by
    simp only[Dv,Bool.and_eq_true,decide_eq_true_eq]
    exact⟨KS h1 h2,AU.2 h3⟩
  refine⟨isl (w:=0) ls.bl.inc ls.bl.lt h0,by simp[BJ],fun j l s hl hs=>?_⟩
  rw[List.map_map,List.getElem?_map]at hl
  rw[Iy]at hs
  cases hT:T[j]? with
  | none=>rw[hT]at hl;cases hl
  | some s' =>
    rw[hT]at hl hs
    simp only[Option.map_some,Option.some.injEq,Function.comp_apply]at hl hs
    subst hl hs
    have hs':=List.mem_of_getElem? hT
    have hsN:=ls.bl.lt s' hs'
    refine⟨isl ly (fun k hk=>(bx.1 hk).1) (bx.2 ⟨hsN,.refl⟩),fun b hb B hB t ht=>?_⟩
    simp only[BJ,List.mem_map]at hb
    obtain⟨a,ha,rfl⟩:=hb
    rw[Int.toNat_natCast]at hB
    split
    · rename_i hk
      exact AU.2 (ls.cl s' hs' a ha t (by rw[nF hB,if_pos hk];exact ht))
    · rename_i hk
      have hin:t∈mh c a:=by rw[y5 hB,if_neg hk];exact ht
      exact AU.2 (bx.2 ⟨kH hc (Bh hin),.step (bx.1 ha).2 hin⟩)
theorem IL {c:Code}{T:List Nat}:wL (G2 c T):=fF (by simp)
theorem IJ {c:Code}{T:List Nat}{i s:Nat}(h:T[i]?=some s):(te c T)[i]?=some (.sl (aL (rl c s))):=by simp[te,h]
theorem LR (hex:aN PP eO [] (· = .bool true)){bs more:List Nat}{m0:Int}(hb:∀b∈bs,b<=255) (hbl:bs.length<=9223372036854775807) (hm1:∀b∈more,b<=255) (hml:more.length<=9223372036854775807) :
    aN PP fK [tf bs,.int .u32 m0,nu more] (· = .bool true):=by
  refine bG pE (ar _ _ _) rfl (pt _ _ _ _) ?_
  unfold kP
  refine Vs.nil.box (Ev bs).one fun n4 h5 V=>?_
  refine cn hex (fun d hd=>by cases hd) ?_
  rintro _ rfl
  rw[IZ,au,V.xJ 0 (s:=1) rfl rfl]
  refine cn (LU hb hbl) (fun d hd=>by simp at hd;subst hd;exact(Ev bs).pair) ?_
  rintro _ ⟨c0,hc0,rfl⟩
  refine cn (H4 hc0 (mask:=m0)) (fun d hd=>by simp at hd;rcases hd with rfl|rfl;exact c0.kI.pair;exact aY.pair) ?_
  rintro _ rfl
  have hc:mf (pj c0 m0):=JN hc0
  generalize pj c0 m0=c at hc
  have hnb:=hc.nb
  have cst:∀c:Code,Code.e c=.agg [.int .i64 c.group,.int .i64 c.sub,.int .i64 c.regs,.int .i64 c.slots,.int .i64 c.params,.sl (c.arrays.map wN.e),.sl (c.loops.map Loop.e),.sl (c.b.map Block.e)]:=fun _=>rfl
  refine V.alloc fun n15 h16 V1=>?_
  rw[cst c]
  refine V1.Fv 0 rfl rfl rfl (fun y hy=>by simp at hy;rcases hy with rfl|rfl|rfl|rfl|rfl|rfl|rfl|rfl<;>rfl) fun h18 V2=>?_
  replace V2:Vs h18 [(n15,.box c.e),(n4,.box (tf bs))]:=V2
  have l15:∀{KH:D->Heap->Prop},aa PP (.ld (.c (.ptr n15 0 0)) 8 true) h18 KH=KH c.e h18:=fun {KH}=>V2.xJ 0 (s:=8) rfl rfl
  rw[l15]
  refine cn (DU hc.g) (fun d' hd'=>by simp at hd';subst hd';exact c.kI.pair) ?_
  rintro _ rfl
  refine V2.alloc fun n23 h24 V3=>?_
  have ph:Gi c=G2 c (cJ c):=A7 c
  have ls:=Jb c hc.g
  rw[ph]
  refine V3.Fv (cs':=[.sl (aL (cJ c)),.sl (te c (cJ c))]) 0 rfl rfl rfl (fun y hy=>by simp at hy;rcases hy with rfl|rfl<;>rfl) fun h26 V4=>?_
  replace V4:Vs h26 [(n23,.box (G2 c (cJ c))),(n15,.box c.e),(n4,.box (tf bs))]:=V4
  have l15':∀{KH:D->Heap->Prop},aa PP (.ld (.c (.ptr n15 0 0)) 8 true) h26 KH=KH c.e h26:=fun {KH}=>V4.xJ 1 (s:=8) rfl rfl
  rw[l15']
  refine cn (Jz hc.g hm1 hml) (fun d' hd'=>by simp at hd';rcases hd' with rfl|rfl;exact c.kI.pair;exact IA.pair) ?_
  rintro _ ⟨T,rfl,lT⟩
  refine V4.alloc fun n31 h32 V5=>?_
  refine V5.Fv (cs':=[.sl (aL T),.sl (te c T)]) 0 rfl rfl rfl (fun y hy=>by simp at hy;rcases hy with rfl|rfl<;>rfl) fun h34 V6=>?_
  replace V6:Vs h34 [(n31,.box (G2 c T)),(n23,.box (G2 c (cJ c))),(n15,.box c.e),(n4,.box (tf bs))]:=V6
  have m15:∀{KH:D->Heap->Prop},aa PP (.ld (.c (.ptr n15 0 0)) 8 true) h34 KH=KH c.e h34:=fun {KH}=>V6.xJ 2 (s:=8) rfl rfl
  have m23:∀{KH:D->Heap->Prop},aa PP (.ld (.c (.ptr n23 0 0)) 2 true) h34 KH=KH (G2 c (cJ c)) h34:=fun {KH}=>V6.xJ 1 (s:=2) rfl rfl
  have m31:∀{KH:D->Heap->Prop},aa PP (.ld (.c (.ptr n31 0 0)) 2 true) h34 KH=KH (G2 c T) h34:=fun {KH}=>V6.xJ 0 (s:=2) rfl rfl
  have chk:∀{T:List Nat}{KH:D->Heap->Prop},Mg c T->KH (.int .i64 0) h34->ah PP bT [c.e,G2 c T] h34 KH:=fun {T KH} lT hk=>by
    have hT:=lT.bl.len
    have dp:=(IL (c:=c) (T:=T)).pair
    rw[Le]at dp ⊢
    refine cn (JA hc.g (by simp[BJ];omega) (by simp;omega) (fun l hl=>?_)) (fun d hd=>by simp only[List.mem_cons,List.not_mem_nil,or_false]at hd;rcases hd with rfl|rfl;exact c.kI.pair;exact dp) ?_
    · simp only[List.mem_map]at hl
      obtain⟨_,⟨s,-,rfl⟩,rfl⟩:=hl
      have:(rl c s).length<=c.b.length:=lu
      simp[BJ];omega
    · rintro r ⟨e,rfl,-,he⟩
      rw[he.2 (Ju hc.g lT)]
      exact hk
  simp only[↓m15,↓m23]
  refine chk ls ?_
  rw[Mf rfl]
  simp only[↓gS,↓m15,↓m31]
  refine chk lT ?_
  rw[Mf rfl]
  simp only[↓gS]
  refine⟨fun _ _=>True,fun f h _=>by rw[eJ],?_⟩
  have f230:∀{KH:D->Heap->Prop},aa PP (.ld (.c (.ptr n23 0 0)) 1 false) h34 KH=KH (.sl (aL (cJ c))) h34:=fun {KH}=>V6.ig 1 (j:=0) (cs:=[.sl (aL (cJ c)),.sl (te c (cJ c))]) rfl rfl
  have f231:∀{KH:D->Heap->Prop},aa PP (.ld (.c (.ptr n23 0 1)) 1 false) h34 KH=KH (.sl (te c (cJ c))) h34:=fun {KH}=>V6.ig 1 (j:=1) (cs:=[.sl (aL (cJ c)),.sl (te c (cJ c))]) rfl rfl
  have f310:∀{KH:D->Heap->Prop},aa PP (.ld (.c (.ptr n31 0 0)) 1 false) h34 KH=KH (.sl (aL T)) h34:=fun {KH}=>V6.ig 0 (j:=0) (cs:=[.sl (aL T),.sl (te c T)]) rfl rfl
  have f311:∀{KH:D->Heap->Prop},aa PP (.ld (.c (.ptr n31 0 1)) 1 false) h34 KH=KH (.sl (te c T)) h34:=fun {KH}=>V6.ig 0 (j:=1) (cs:=[.sl (aL T),.sl (te c T)]) rfl rfl
  have dl:∀{op:AOp}{K:D->Prop},Gs op=true->af PP op h34 K=aa PP op h34 fun d _=>K d:=fun h=>LM h
  have g230:∀{K:D->Prop},af PP (.ld (.c (.ptr n23 0 0)) 1 false) h34 K=K (.sl (aL (cJ c))):=fun {K}=>by rw[dl rfl,f230]
  have g231:∀{K:D->Prop},af PP (.ld (.c (.ptr n23 0 1)) 1 false) h34 K=K (.sl (te c (cJ c))):=fun {K}=>by rw[dl rfl,f231]
  have g310:∀{K:D->Prop},af PP (.ld (.c (.ptr n31 0 0)) 1 false) h34 K=K (.sl (aL T)):=fun {K}=>by rw[dl rfl,f310]
  have g311:∀{K:D->Prop},af PP (.ld (.c (.ptr n31 0 1)) 1 false) h34 K=K (.sl (te c T)):=fun {K}=>by rw[dl rfl,f311]
  have idr:∀{T:List Nat}{KH:D->Heap->Prop}{i s:Nat},T[i]?=some s->aa PP (.iadd (.c (.sl (te c T))) (.c (.int .i64 (i:Int))) 1) h34 KH=KH (.vp (.sl (aL (rl c s))) 0) h34:=fun hi=>lf (esz:=1) (by omega) (by rw[Int.toNat_natCast];exact IJ hi) rfl
  have ldr:∀{KH:D->Heap->Prop}{l:List D},aa PP (.ld (.c (.vp (.sl l) 0)) 1 false) h34 KH=KH (.sl l) h34:=fun {KH l}=>yX rfl
  have idn:∀{l:List Nat}{KH:D->Heap->Prop}{i s:Nat},l[i]?=some s->aa PP (.iadd (.c (.sl (aL l))) (.c (.int .i64 (i:Int))) 1) h34 KH=KH (.vp (nD s) 0) h34:=fun hi=>lf (esz:=1) (by omega) (by rw[Int.toNat_natCast];exact uu hi) rfl
  have ldn:∀{KH:D->Heap->Prop}{s:Nat},aa PP (.ld (.c (.vp (nD s) 0)) 1 false) h34 KH=KH (nD s) h34:=fun {KH s}=>yX rfl
  have didr:∀{T:List Nat}{K:D->Prop}{i s:Nat},T[i]?=some s->af PP (.iadd (.c (.sl (te c T))) (.c (.int .i64 (i:Int))) 1) h34 K=K (.vp (.sl (aL (rl c s))) 0):=fun hi=>by rw[dl rfl,idr hi]
  have dldr:∀{K:D->Prop}{l:List D},af PP (.ld (.c (.vp (.sl l) 0)) 1 false) h34 K=K (.sl l):=fun {K l}=>by rw[dl rfl,ldr]
  have didn:∀{l:List Nat}{K:D->Prop}{i s:Nat},l[i]?=some s->af PP (.iadd (.c (.sl (aL l))) (.c (.int .i64 (i:Int))) 1) h34 K=K (.vp (nD s) 0):=fun hi=>by rw[dl rfl,idn hi]
  have dldn:∀{K:D->Prop}{s:Nat},af PP (.ld (.c (.vp (nD s) 0)) 1 false) h34 K=K (nD s):=fun {K s}=>by rw[dl rfl,ldn]
  unfold iu
  have hSl:=ls.bl.len
  have hTl:=lT.bl.len
  refine⟨fun m q h=>h34=h/\∃i:Nat,i<=(cJ c).length/\m=(cJ c).length-i/\q=[.int .i64 (i:Int)],_,⟨rfl,0,by omega,rfl,rfl⟩,?_⟩
  rintro m f h ⟨e34,i,hi,hm,hq⟩
  subst e34
  simp only[List.cons.injEq,and_true]at hq
  simp only[hq,↓V6.fa 1 rfl,Nat.zero_add,↓f230,lq]
  by_cases hlt:i<(cJ c).length
  case neg =>
    rw[w7 (by omega),au]
    simp only[ae,true_and]
  rw[xB (by omega),av]
  obtain⟨s,hs⟩:∃s,(cJ c)[i]?=some s:=⟨(cJ c)[i],List.getElem?_eq_getElem hlt⟩
  have hsT:s∈T:=lT.st s (bx.1 (List.mem_of_getElem? hs)).2
  refine⟨fun _ h=>h34=h,?_,?_⟩
  · rintro f2 h2 e2
    subst e2
    rw[gk (by omega) (by omega)]
    simp only[ae,true_and]
    exact⟨_,by omega,i+1,by omega,rfl,by simp⟩
  refine⟨fun q h=>h34=h/\∃x:Nat,q=[.int .i64 (x:Int)]/\T[x]?=some s,?_,?_⟩
  · rintro f2 h2 ⟨e2,x,hq2,hx⟩
    subst e2
    simp only[List.cons.injEq,and_true]at hq2
    rw[hq2,w7 (by omega),au]
    have hrl:(rl c s).length<=c.b.length:=lu
    unfold ix
    refine⟨fun m q h=>h34=h/\∃k:Nat,k<=(rl c s).length/\m=(rl c s).length-k/\q=[.int .i64 (k:Int)],_,⟨rfl,0,by omega,rfl,rfl⟩,?_⟩
    rintro m3 f3 h3 ⟨e3,k,hk,hm3,hq3⟩
    subst e3
    simp only[List.cons.injEq,and_true]at hq3
    simp only[hq,hq2,hq3,↓V6.fa 1 rfl,Nat.zero_add,↓f231,↓idr hs,↓ldr,lq]
    by_cases hlt3:k<(rl c s).length
    · rw[xB (by omega),av]
      obtain⟨a,ha⟩:∃a,(rl c s)[k]?=some a:=⟨(rl c s)[k],List.getElem?_eq_getElem hlt3⟩
      simp only[↓V6.sy 0 rfl,↓V6.sy 1 rfl,Nat.zero_add,↓g311,↓g231,↓didr hx,↓didr hs,↓dldr,↓didn ha,↓dldn]
      refine tB (H2 (k:=a) (by omega)) (sp (rl c s) a) ?_
      simp only[List.mem_of_getElem? ha,decide_true,↓gS]
      rw[gk (by omega) (by omega)]
      simp only[ae,true_and]
      exact⟨_,by omega,k+1,by omega,rfl,by simp⟩
    · rw[w7 (by omega),au]
      simp only[ae,true_and]
  unfold iw
  refine⟨fun m q h=>h34=h/\∃(k:Nat) (at':Int),k<=T.length/\m=T.length-k/\q=[.int .i64 at',.int .i64 (k:Int)]/\((∀x,x<k->T[x]?≠some s)\/∃x:Nat,at'=(x:Int)/\T[x]?=some s),_,
    ⟨rfl,0,-1,by omega,rfl,rfl,Or.inl fun x hx=>by omega⟩,?_⟩
  rintro m3 f3 h3 ⟨e3,k,at',hk,hm3,hq3,hor⟩
  subst e3
  simp only[List.cons.injEq,and_true]at hq3
  obtain⟨q1,q2⟩:=hq3
  simp only[q1,q2,hq,↓V6.fa 0 rfl,Nat.zero_add,↓f310,lq]
  by_cases hlt3:k<T.length
  case neg =>
    rw[w7 (by omega),au]
    simp only[ae,true_and]
    rcases hor with h|⟨x,rfl,hx⟩
    · obtain⟨x,hx⟩:=List.getElem?_of_mem hsT
      exact absurd hx (h x (by have:=(List.getElem?_eq_some_iff.1 hx).1;omega))
    · exact⟨x,rfl,hx⟩
  rw[xB (by omega),av]
  obtain⟨t,ht⟩:∃t,T[k]?=some t:=⟨T[k],List.getElem?_eq_getElem hlt3⟩
  refine⟨fun q h=>h34=h/\∃at':Int,q=[.int .i64 at']/\((∀x,x<k+1->T[x]?≠some s)\/∃x:Nat,at'=(x:Int)/\T[x]?=some s),?_,?_⟩
  · rintro f4 h4 ⟨e4,at2,hq4,hor4⟩
    subst e4
    simp only[List.cons.injEq,and_true]at hq4
    rw[hq4,gk (by omega) (by omega)]
    simp only[ae,true_and]
    exact⟨_,by omega,k+1,at2,by omega,rfl,by simp,hor4⟩
  simp only[↓V6.sy 0 rfl,↓V6.sy 1 rfl,Nat.zero_add,↓g310,↓g230,↓didn ht,↓didn hs,↓dldn]
  simp only[nD]
  by_cases hts:t=s
  · rw[M7 (by rw[hts]),av]
    simp only[ae,true_and]
    exact⟨k,rfl,Or.inr ⟨k,rfl,by rw[ht,hts]⟩⟩
  · rw[M8 (by omega),au]
    simp only[ae,true_and]
    refine⟨at',rfl,?_⟩
    rcases hor with h|h
    · refine Or.inl fun x hx=>?_
      rcases Nat.lt_or_ge x k with h1|h1
      · exact h x h1
      · have:x=k:=by omega
        subst this;rw[ht];simpa using hts
    · exact Or.inr h
end Go.Am
namespace Go.Am
open Go Go.Proofs
set_option maxRecDepth 100000
theorem Mm:Tryz.prog.underlying 22=some (.slice 5):=by kernel_rfl
theorem Om:Tryz.prog.underlying 5=some (.int .u8):=by kernel_rfl
theorem Ml:Tryz.prog.underlying 38=some (.int .u32):=by kernel_rfl
theorem t24:structL Tryz.prog 24=some [(22,0)]:=by kernel_rfl
theorem z24:Tryz.prog.cellsOf 24=1:=by kernel_rfl
theorem z22:Tryz.prog.cellsOf 22=1:=by kernel_rfl
theorem z5:Tryz.prog.cellsOf 5=1:=by kernel_rfl
theorem J2:IntKind.u8.min=0:=rfl
theorem Mk:IntKind.u8.max=255:=rfl
theorem J9 {m:Nat}{ds:List D}(h:HasTy Tryz.prog (m+2) 22 ds):∃bs:List Nat,ds=[nu bs]/\(∀b∈bs,b<=255)/\bs.length<=9223372036854775807:=by
  obtain⟨xs,h1,h2,h3⟩:=Dz Mm Om h
  refine⟨xs.map Int.toNat,?_,fun b hb=>?_,by unfold maxLen at h2;simp;omega⟩
  · rw[h1,nu,List.map_map]
    congr 2
    refine List.map_congr_left fun x hx=>?_
    have:=h3 x hx
    rw[J2]at this
    show D.int .u8 x=D.int .u8 ((x.toNat:Nat):Int)
    rw[Int.toNat_of_nonneg this.1]
  · simp only[List.mem_map]at hb
    obtain⟨x,hx,rfl⟩:=hb
    have:=h3 x hx
    rw[J2,Mk]at this
    omega
theorem Ld {m:Nat}{ds:List D}(h:HasTy Tryz.prog (m+3) 24 ds):∃bs:List Nat,mkElem Tryz.prog 24 ds=tf bs/\(∀b∈bs,b<=255)/\bs.length<=9223372036854775807:=by
  obtain⟨k1,k2⟩:=Bi t24 h
  rw[z24]at k1
  have q:=k2 (22,0) (by simp)
  simp only[z22,List.drop_zero]at q
  match ds,k1 with
  | [d],_ =>
    obtain⟨bs,e1,hb,hbl⟩:=J9 q
    simp at e1
    subst e1
    exact⟨bs,by rw[FF t24,tf],hb,hbl⟩
theorem KT {m:Nat}{ds:List D}(h:HasTy Tryz.prog (m+1) 38 ds):∃a:Int,mkElem Tryz.prog 38 ds=.int .u32 a:=by
  obtain⟨a,rfl,-,-⟩:=Ax Ml h
  exact⟨a,Hj Ml _⟩
end Go.Am
namespace Go.Am
open Go Go.Proofs
set_option maxRecDepth 100000
theorem Lo (xs:List D) (h:zA Tryz.prog 12 Tryz.f4.params.toList xs):aN Tryz.prog 4 xs (· = .bool true):=by
  have hp:Tryz.f4.params.toList=[24,38,22]:=by kernel_rfl
  rw[hp]at h
  obtain⟨c1,r1,rfl,h1,c2,r2,rfl,h2,c3,r3,rfl,h3,rfl⟩:=h
  obtain⟨bs,e1,b1,b2⟩:=Ld h1
  obtain⟨a,e2⟩:=KT h2
  obtain⟨more,rfl,hm,hml⟩:=J9 h3
  have e3:mkElem Tryz.prog 22 [nu more]=nu more:=by rw[Hi Mm]
  show aN Tryz.prog 4 [mkElem Tryz.prog 24 c1,mkElem Tryz.prog 38 c2,mkElem Tryz.prog 22 [nu more]] _
  rw[e1,e2,e3]
  exact LR DT b1 b2 hm hml
end Go.Am
