/- What the functions of this chapter give, on plain data. No condition. -/
import Derived.Test.YtllpdgfanfffnaaGreatZ1
set_option linter.unnecessarySimpa false
set_option linter.defProp false
set_option linter.unusedSectionVars false
set_option linter.unusedSimpArgs false
set_option linter.unusedVariables false
namespace Go.Am
open Go Go.Proofs
theorem DI (bs:List Nat):wy (tg bs):=eW (by simp[sT])
def Ln (a b:Nat):D:=.agg [.int .u8 (a:Int),.int .u8 (b:Int)]
theorem Lr {x:Nat}(h:x<=255):IntKind.i64.wrap (x:Int)=x:=wrap64 (by omega) (by omega)
end Go.Am
namespace Go.Am
open Go Go.Proofs
def ot (l:List Nat):List Int:=l.map fun n:Nat=>(n:Int)
theorem Dx {l:List Nat}{i:Nat}:(ot l)[i]?=(l[i]?).map fun n:Nat=>(n:Int):=by simp[ot]
theorem qc {l:List Nat}{k:Nat}:(k:Int)∈ot l↔k∈l:=by
  simp only[ot,List.mem_map]
  constructor
  · rintro⟨a,h,e⟩;have:a=k:=by omega
    exact this ▸ h
  · intro h;exact⟨k,h,rfl⟩
end Go.Am
namespace Go.Am
open Go Go.Proofs
theorem Vs.sub {h:Heap}{L L':List (Nat×Slot)}(V:Vs h L){L'':List (Nat×Slot)}(p:L'.Perm L'') (s:L''.Sublist L):Vs h L':=by
  refine Vs.perm p.symm ?_
  rw[Vs.iff]at V ⊢
  exact⟨fun n x hx=>V.1 n x (s.mem hx),V.2.sublist (s.map _)⟩
def bU (A:List (Nat×List Nat)):List D:=A.map fun p=>.ms p.1 0 p.2.length
def fR (A:List (Nat×List Nat)):List (Nat×Slot):=A.map fun p=>(p.1,.arr 1 (aL p.2))
def y8 (n1 n2:Nat) (S:List Nat) (A:List (Nat×List Nat)):List (Nat×Slot):=(n1,.arr 1 (aL S))::(n2,.arr 1 (bU A))::fR A
def HT (S:List Nat) (R:List (List Nat)):D:=.agg [.sl (aL S),.sl (R.map fun l=>.sl (aL l))]
theorem Kl {S:List Nat}{R:List (List Nat)}:HT S R=Km (ot S) (R.map ot):=by
  have h:((R.map ot).map fun l=>D.sl (tQ l))=R.map fun l=>D.sl (aL l):=by
    rw[List.map_map]
    refine List.map_congr_left fun l _=>?_
    show D.sl (tQ (ot l))=_
    rw[Jq];rfl
  rw[HT,Km,h,Jq];rfl
theorem F4 {A:List (Nat×List Nat)}:∀x,x∈bU A->x.one=true:=fun x hx=>by
  simp only[bU,List.mem_map]at hx
  obtain⟨p,-,rfl⟩:=hx;rfl
theorem HQ {A:List (Nat×List Nat)}:(bU A).flatMap D.nm=A.map Prod.fst:=by
  induction A with
  | nil=>rfl
  | cons a r ih=>rw[bU,List.map_cons,List.flatMap_cons, <- bU,ih];rfl
theorem Ep {c:Code}(hc:jG c){h:Heap}{L:List (Nat×Slot)}{n1 n2:Nat}{S:List Nat}{A:List (Nat×List Nat)}{KH:D->Heap->Prop}(V:Vs h (y8 n1 n2 S A++L)) (hS:S.length<=1000) (hA:A.length<=1000) (hl:∀p∈A,p.2.length<=1000)
    (hn:¬Fs c (ot S) ((A.map Prod.snd).map ot)) (hK:∀h',Vs h' L->KH (.int .i64 100) h'):af PP bf [c.e,.agg [.ms n1 0 S.length,.ms n2 0 A.length]] h KH:=by
  have V0:=V
  rw[Vs.iff]at V0
  obtain⟨W,nd⟩:=V0
  have g1:=(W n1 (.arr 1 (aL S)) (by simp[y8])).1
  have g2:=(W n2 (.arr 1 (bU A)) (by simp[y8])).1
  have gA:∀p∈A,h p.1=.arr 1 (aL p.2):=fun p hp=>(W p.1 (.arr 1 (aL p.2)) (by simp only[y8,fR,List.cons_append,List.mem_cons,List.mem_append,List.mem_map];exact Or.inr (Or.inr (Or.inl ⟨p,hp,rfl⟩)))).1
  simp only[y8,fR,List.cons_append,List.map_cons,List.map_append,List.map_map,List.nodup_cons,List.mem_cons,List.mem_append,not_or]at nd
  obtain⟨⟨n12,n1A,n1L⟩,⟨n2A,n2L⟩,ndA⟩:=nd
  have eA:A.map ((fun x:Nat×Slot=>x.fst) ∘ fun p:Nat×List Nat=>(p.1,Slot.arr 1 (aL p.2)))=A.map Prod.fst:=List.map_congr_left fun _ _=>rfl
  have eA':List.map (Prod.fst ∘ fun p:Nat×List Nat=>(p.1,Slot.arr 1 (aL p.2))) A=A.map Prod.fst:=List.map_congr_left fun _ _=>rfl
  rw[eA']at n1A n2A ndA
  have enm:=HQ (A:=A)
  have hfz:∀p∈A,(D.ms p.1 0 p.2.length).fz h=.sl (aL p.2):=fun p hp=>by
    have:(h p.1).row=some (1,aL p.2):=by rw[gA p hp];rfl
    simp only[D.fz,D.fzc,this,List.drop_zero]
    congr 1
    exact List.take_of_length_le (by simp[aL])
  have hd:Ck h n2 1 (bU A):=by
    refine⟨by rw[enm];exact n2A,fun e he=>?_⟩
    simp only[bU,List.mem_map]at he
    obtain⟨p,hp,rfl⟩:=he
    refine⟨by simp,?_,fun y hy=>?_⟩
    · intro x hx
      simp only[D.cells,List.mem_singleton]at hx
      subst hx
      exact⟨1,aL p.2,by rw[gA p hp];rfl,by simp[aL],fun x hx y hy=>pf x (List.mem_of_mem_drop (List.mem_of_mem_take hx)) y hy⟩
    · rw[hfz p hp]at hy
      simp[D.cells]at hy;subst hy;rfl
  have i1:Cm h (tP h n2 1 (bU A)):=.step g2 hd (.refl _)
  have k2:tP h n2 1 (bU A) n2=.arr 1 ((A.map Prod.snd).map fun l=>.sl (aL l)):=by
    rw[zC]
    congr 1
    rw[bU,List.map_map,List.map_map]
    exact List.map_congr_left fun p hp=>hfz p hp
  have kO:∀k,k≠n2->k∉A.map Prod.fst->tP h n2 1 (bU A) k=h k:=fun k h1 h2=>yf h1 (by rw[enm];exact h2)
  have k1:tP h n2 1 (bU A) n1=.arr 1 (aL S):=by rw[kO n1 n12 n1A,g1]
  have VL:Vs (tP h n2 1 (bU A)) L:=by
    have VL0:Vs h L:=V.ck
    refine VL0.Bs fun k s ⟨i,hi⟩=>kO k (fun e=>?_) (fun e=>?_)
    · subst e
      exact n2L (List.mem_map.2 ⟨_,List.mem_of_getElem? hi,rfl⟩)
    · rw[List.nodup_append]at ndA
      exact ndA.2.2 k e k (List.mem_map.2 ⟨_,List.mem_of_getElem? hi,rfl⟩) rfl
  generalize tP h n2 1 (bU A)=h2 at i1 k2 k1 VL kO
  refine Fo i1 ?_
  have r1:(h2 n1).row=some (1,aL S):=by rw[k1];rfl
  have r2:(h2 n2).row=some (1,(A.map Prod.snd).map fun l=>.sl (aL l)):=by rw[k2];rfl
  have t1:(aL S).take S.length=aL S:=List.take_of_length_le (by simp[aL])
  have t2:((A.map Prod.snd).map fun l=>D.sl (aL l)).take A.length=(A.map Prod.snd).map fun l=>D.sl (aL l):=List.take_of_length_le (by simp)
  have ez:(D.agg [.ms n1 0 S.length,.ms n2 0 A.length]).fz h2=Km (ot S) ((A.map Prod.snd).map ot):=by
    rw[<- Kl,HT]
    simp only[D.fz,D.fzc,r1,r2,List.map_cons,List.map_nil,List.drop_zero,t1,t2]
  have hv:aO PP bf ([c.e,.agg [.ms n1 0 S.length,.ms n2 0 A.length]].map (D.fz h2)) (· = .int .i64 100):=by
    rw[List.map_cons,List.map_cons,ez,(xA (h:=h2) c.nT.vd).1]
    refine aO.mono ?_ (IP (S:=ot S) (R:=(A.map Prod.snd).map ot) hc (by simp[ot];omega) (by simp;omega) (fun l hl'=>?_))
    · rintro r ⟨e,rfl,he,hk⟩
      rcases he with rfl|rfl
      · exact absurd (hk.1 rfl) hn
      · rfl
    · simp only[List.mem_map]at hl'
      obtain⟨_,⟨p,hp,rfl⟩,rfl⟩:=hl'
      have:=hl p hp
      simp[ot];omega
  refine af.mono ?_ (dB hv fun d hdm=>?_)
  · rintro r h' ⟨rfl,q2,-⟩
    rw[q2 (Or.inl rfl)]
    exact hK _ VL
  · simp only[List.mem_cons,List.not_mem_nil,or_false]at hdm
    rcases hdm with rfl|rfl
    · exact⟨c.nT.one,(xA (h:=h2) c.nT.vd).2.2,by rw[(xA (h:=h2) c.nT.vd).1];exact c.nT.vd⟩
    · refine⟨fun x hx=>by simp[D.cells]at hx;rcases hx with rfl|rfl<;>rfl,?_,by rw[ez];rfl⟩
      intro x hx
      simp only[D.cells,List.mem_cons,List.not_mem_nil,or_false]at hx
      rcases hx with rfl|rfl
      · exact⟨1,_,r1,by simp[aL],fun x hx y hy=>pf x (List.mem_of_mem_drop (List.mem_of_mem_take hx)) y hy⟩
      · exact⟨1,_,r2,by simp,fun x hx y hy=>by
          have hx':=List.mem_of_mem_drop (List.mem_of_mem_take hx)
          simp only[List.mem_map]at hx'
          obtain⟨l,-,rfl⟩:=hx'
          simp[D.cells]at hy;subst hy;rfl⟩
end Go.Am
namespace Go.Am
open Go Go.Proofs
theorem RX.app {h:Heap}{w x z:D}{R ys:List D}{X Y:List (Nat×Slot)}{bytes:Nat}{KH:D->Heap->Prop}(r:RX w R X) (V:Vs h (X++Y)) (hx:∀{K:List D->Prop},K ys->velems 1 x h K) (hy:∀y∈ys,aH y) (hb:(R.length+ys.length)*bytes<=140737488355328) (hl:R.length+ys.length<=9223372036854775807)
    (hK:∀m h',Vs h' ((m,.arr 1 (R++ys))::Y)->KH (.ms m 0 (R.length+ys.length)) h'):aa PP (.app (.c w) (.c x) 1 bytes z) h KH:=by
  rcases r with⟨rfl,rfl,rfl⟩|⟨m,rfl,rfl⟩
  · rw[DZ]
    refine hx ⟨hy,⟨by simpa using hb,by simpa using hl⟩,fun n t=>?_⟩
    have:=hK n _ (V.push t.free (s:=.arr 1 ys) (by simp))
    simpa using this
  · exact V.Cb hx hy hb hl hK
theorem MB {h:Heap}{L:List (Nat×Slot)}{z:D}{m len:Nat}{KH:D->Heap->Prop}(V:Vs h L) (hK:∀n h',Vs h' ((n,.arr 1 [.ms m 0 len])::L)->KH (.ms n 0 1) h'):aa PP (.bldS false 1 1 z [(0,.c (.ms m 0 len))]) h KH:=by
  refine⟨fun p hp=>by simp[Arg.get]at hp;subst hp;exact⟨Nat.one_pos,rfl,by simp⟩,fun hf=>(by cases hf),fun n t=>?_⟩
  have:=hK n _ (V.push t.free (s:=.arr 1 [.ms m 0 len]) (by simp))
  simpa[Arg.get,setEls] using this
theorem FA {h:Heap}{n len off:Nat}{els ys:List D}{K:List D->Prop}(hn:(h n).row=some (1,els)) (ho:off+len<=els.length) (e:(els.drop off).take len=ys) (hk:K ys):velems 1 (.ms n off len) h K:=⟨els,hn,ho,by rw[e];exact hk⟩
theorem tZ {S:List Nat}{R:List (List Nat)}{h:Heap}{L:List (Nat×Slot)}{KH:D->Heap->Prop}(V0:Vs h L) (hS:S.length<=1000) (hR:R.length<=1000) (hl:∀l∈R,l.length<=1000) (hne:R≠[])
    (hK:∀h' n1 n2 A,A.map Prod.snd=R->Vs h' (y8 n1 n2 S A++L)->KH (.agg [.ms n1 0 S.length,.ms n2 0 A.length]) h'):af PP dL [HT S R] h KH:=by
  have dph:wy (HT S R):=eW (by simp)
  refine cA w6 (aq _ _ _) rfl (wU _ _) ?_
  unfold ua
  refine V0.box dph.one fun n2 h3 V1=>?_
  refine V1.alloc fun n4 h5 V2=>?_
  refine V2.Ff fun n6 h7 V3=>?_
  have l20:∀{KH:D->Heap->Prop},aa PP (.ld (.c (.ptr n2 0 0)) 1 false) h7 KH=KH (.sl (aL S)) h7:=fun {KH}=>V3.q8 2 (j:=0) (cs:=[.sl (aL S),.sl (R.map fun l=>.sl (aL l))]) rfl rfl
  simp only[↓V3.fa 2 rfl,Nat.zero_add,↓l20]
  have lnD:∀l:List Nat,(aL l).length=l.length:=fun l=>by simp[aL]
  refine V3.Cb (els:=[]) (ys:=aL S) (fun hk=>⟨Jn,hk⟩) xr (by simp[aL];omega) (by simp[aL];omega) fun n1 h13 V4=>?_
  rw[List.nil_append]at V4
  rw[show([]:List D).length+(aL S).length=S.length by simp[aL]]
  refine MD ⟨rfl,rfl⟩ ?_
  refine V4.alloc fun n16 h17 V5=>?_
  refine V5.DA (cs':=[.ms n1 0 S.length,.nil]) 0 rfl rfl rfl (fun y hy=>by simp at hy;rcases hy with rfl|rfl<;>rfl) fun h19 V6=>?_
  let B:D->List (Nat×Slot):=fun w=>[(n16,.box (.agg [.ms n1 0 S.length,w])),(n1,.arr 1 (aL S)),(n4,.box (.agg [.nil,.nil])),(n2,.box (HT S R))]
  replace V6:Vs h19 (B .nil++L):=V6
  refine⟨fun _ h=>∃(A:List (Nat×List Nat)) (w:D) (X:List (Nat×Slot)),A.map Prod.snd=R/\RX w (bU A) X/\Vs h (B w++(X++(fR A++L))),?_,?_⟩
  · rintro f h2 ⟨A,w,X,hA,x,V⟩
    have hw:w.one=true:=by rcases x with⟨rfl,-⟩|⟨m,rfl,-⟩<;>rfl
    rw[V.uZ 0 (s:=2) rfl rfl]
    refine V.DA (cs':=[.ms n1 0 S.length,w]) 2 rfl rfl rfl (fun y hy=>by simp at hy;rcases hy with rfl|rfl;rfl;exact hw) fun h26 V'=>?_
    rw[V'.uZ 2 (s:=2) rfl rfl]
    rcases x with⟨rfl,e,-⟩|⟨m,rfl,rfl⟩
    · exfalso
      have:A=[]:=by simpa[bU] using e
      subst this
      exact hne hA.symm
    · rw[show(bU A).length=A.length by simp[bU]]
      refine hK _ n1 m A hA (V'.sub (L'':=(n1,.arr 1 (aL S))::(m,.arr 1 (bU A))::(fR A++L)) (List.Perm.refl _) ?_)
      exact .cons _ (.cons_cons _ (.cons _ (.cons _ (.cons_cons _ (.refl _)))))
  unfold nU
  refine⟨fun m q h=>∃(i:Nat) (A:List (Nat×List Nat)) (w:D) (X:List (Nat×Slot)),q=[.int .i64 (i:Int)]/\i<=R.length/\m=R.length-i/\A.map Prod.snd=R.take i/\RX w (bU A) X/\Vs h (B w++(X++(fR A++L))),_,
    ⟨0,[],.nil,[],rfl,by omega,rfl,by simp,Or.inl ⟨rfl,rfl,rfl⟩,by simpa[fR] using V6⟩,?_⟩
  rintro m f h2 ⟨i,A,w,X,hq,hi,hm,hA,x,V⟩
  simp only[List.cons.injEq,and_true]at hq
  have lR:∀{h:Heap}{KH:D->Heap->Prop}{w:D}{Y:List (Nat×Slot)},Vs h (B w++Y)->aa PP (.ld (.c (.ptr n2 0 1)) 1 false) h KH=KH (.sl (R.map fun l=>.sl (aL l))) h:=fun V=>V.q8 3 (j:=1) (cs:=[.sl (aL S),.sl (R.map fun l=>.sl (aL l))]) rfl rfl
  simp only[hq,↓V.fa 3 rfl,Nat.zero_add,↓lR V,oT,List.length_map]
  by_cases hlt:i<R.length
  case neg =>
    have:i=R.length:=by omega
    subst this
    rw[Im (by omega),aC]
    simp only[al,true_and]
    rw[List.take_length]at hA
    exact⟨A,w,X,hA,x,V⟩
  rw[Il (by omega),aF]
  obtain⟨l,hli⟩:∃l,R[i]?=some l:=⟨R[i],List.getElem?_eq_getElem hlt⟩
  have hll:=hl l (List.mem_of_getElem? hli)
  have hAl:A.length=i:=by have:=congrArg List.length hA;simp at this;omega
  have hrl:(bU A).length=i:=by simp[bU,hAl]
  have dR:∀{h:Heap}{K:D->Prop}{w:D}{Y:List (Nat×Slot)},Vs h (B w++Y)->ae PP (.ld (.c (.ptr n2 0 1)) 1 false) h K=K (.sl (R.map fun l=>.sl (aL l))):=fun V=>by rw[qH,lR V]
  have dw:∀{h:Heap}{K:D->Prop}{w:D}{Y:List (Nat×Slot)},Vs h (B w++Y)->ae PP (.ld (.c (.ptr n16 0 1)) 1 false) h K=K w:=fun V=>V.vc 0 (j:=1) rfl rfl
  have dfA:∀{h:Heap}{K:D->Prop}{w:D}{Y:List (Nat×Slot)},Vs h (B w++Y)->ae PP (.fadd (.c (.ptr n16 0 0)) 1) h K=K (.ptr n16 0 1):=fun V=>V.qm 0 rfl
  have dfB:∀{h:Heap}{K:D->Prop}{w:D}{Y:List (Nat×Slot)},Vs h (B w++Y)->ae PP (.fadd (.c (.ptr n2 0 0)) 1) h K=K (.ptr n2 0 1):=fun V=>V.qm 3 rfl
  have di:∀{h:Heap}{K:D->Prop},ae PP (.iadd (.c (.sl (R.map fun l=>.sl (aL l)))) (.c (.int .i64 (i:Int))) 1) h K=K (.vp (.sl (aL l)) 0):=fun {h K}=>by
    rw[ku,mL (esz:=1) (d:=.sl (aL l)) (by omega) (by rw[Int.toNat_natCast,List.getElem?_map,hli];rfl) rfl]
  have dlv:∀{h:Heap}{K:D->Prop},ae PP (.ld (.c (.vp (.sl (aL l)) 0)) 1 false) h K=K (.sl (aL l)):=fun {h K}=>Jz rfl
  simp only[↓dfA V,↓dfB V,↓dw V,↓dR V,↓di,↓dlv]
  refine V.Ff fun n44 h45 V1=>?_
  replace V1:Vs h45 ((n44,.arr 1 [])::(B w++(X++(fR A++L)))):=V1
  have V1b:=V1.pop
  refine⟨by simp only[↓dfA V1b,↓dfB V1b,↓dw V1b,↓dR V1b,↓di,↓dlv,al,true_and],?_⟩
  refine V1.Cb (els:=[]) (ys:=aL l) (fun hk=>⟨Jn,hk⟩) xr (by simp[aL];omega) (by simp[aL];omega) fun n52 h53 V2=>?_
  rw[List.nil_append]at V2
  rw[show([]:List D).length+(aL l).length=l.length by simp[aL]]
  have V2b:=V2.pop
  refine⟨by simp only[↓dfA V2b,↓dw V2b,al,true_and],?_⟩
  refine MB V2 fun n56 h57 V3=>?_
  have V3b:=V3.pop.pop
  refine⟨by simp only[↓dfA V3b,↓dw V3b,al,true_and],?_⟩
  have hn56:(h57 n56).row=some (1,[.ms n52 0 l.length]):=by rw[V3.get 0 _ _ rfl];rfl
  have V4:Vs h57 (X++((n52,.arr 1 (aL l))::(B w++(fR A++L)))):=V3.pop.perm (by
    refine((List.perm_append_comm_assoc (B w) X _).cons _).trans ?_
    exact List.perm_middle.symm)
  refine x.app V4 (ys:=[.ms n52 0 l.length]) (fun hk=>FA hn56 (by simp) rfl hk) (fun y hy=>by simp at hy;subst hy;simp) (by rw[hrl];simp;omega) (by rw[hrl];simp;omega) fun m' h61 V5=>?_
  have eR:bU A++[.ms n52 0 l.length]=bU (A++[(n52,l)]):=by simp[bU]
  rw[eR]at V5
  have eL:(bU A).length+[D.ms n52 0 l.length].length=(bU (A++[(n52,l)])).length:=by simp[bU]
  rw[eL]
  have V6':Vs h61 (B w++([(m',.arr 1 (bU (A++[(n52,l)])))]++(fR (A++[(n52,l)])++L))):=V5.perm (by
    have e:fR (A++[(n52,l)])=fR A++[(n52,.arr 1 (aL l))]:=by simp[fR]
    rw[e]
    refine .trans ?_ (List.perm_middle (l₁:=B w)).symm
    refine .cons _ ?_
    rw[List.append_assoc]
    refine .trans ?_ (List.Perm.append_left (B w) (List.perm_middle (l₁:=fR A)).symm)
    exact List.perm_middle.symm)
  simp only[↓dfA V6']
  refine V6'.Lm 0 (j:=1) rfl (by simp) rfl fun h64 V7=>?_
  rw[oC (by omega) (by omega)]
  simp only[al,true_and]
  refine⟨_,by omega,i+1,A++[(n52,l)],_,_,by simp,by omega,rfl,?_,Or.inr ⟨m',rfl,rfl⟩,V7⟩
  rw[List.take_add_one,hli,List.map_append,hA]
  rfl
end Go.Am
namespace Go.Am
open Go Go.Proofs
def del {α:Type}(l:List α) (i:Nat):List α:=l.take i++l.drop (i+1)
theorem tT {α:Type}(l:List α) (i:Nat):(del l i).Sublist l:=by
  have e:=List.take_append_drop i l
  conv=>rhs;rw[<- e]
  refine List.Sublist.append (.refl _) ?_
  rw[show l.drop (i+1)=(l.drop i).drop 1 by rw[List.drop_drop]]
  exact List.drop_sublist _ _
theorem AB {α:Type}{l:List α}{i:Nat}(h:i<l.length):(del l i).length=l.length-1:=by simp[del];omega
theorem xw {α β:Type}(f:α->β) (l:List α) (i:Nat):(del l i).map f=del (l.map f) i:=by simp[del,List.map_take,List.map_drop]
theorem GV {α:Type}{l:List α}{i:Nat}{x y:α}(hx:x∈l) (hy:l[i]?=some y) (hne:x≠y):x∈del l i:=by
  obtain⟨k,hk⟩:=List.getElem?_of_mem hx
  have hik:i≠k:=by rintro rfl;rw[hy]at hk;cases hk;exact hne rfl
  rcases Nat.lt_or_gt_of_ne hik with h|h
  · refine List.mem_append_right _ (List.mem_of_getElem? (i:=k-(i+1)) ?_)
    rw[List.getElem?_drop,show i+1+(k-(i+1))=k by omega];exact hk
  · refine List.mem_append_left _ (List.mem_of_getElem? (i:=k) ?_)
    rw[List.getElem?_take,if_pos h];exact hk
theorem Ed {l:List Nat}(hl:l.Pairwise (· < ·)){i x:Nat}(hx:l[i]?=some x):x∉del l i:=by
  intro hm
  obtain⟨hi,ei⟩:=List.getElem?_eq_some_iff.1 hx
  rcases List.mem_append.1 hm with h|h
  · obtain⟨k,hk⟩:=List.getElem?_of_mem h
    have hki:k<i:=by have:=(List.getElem?_eq_some_iff.1 hk).1;simp at this;omega
    rw[List.getElem?_take,if_pos hki]at hk
    obtain⟨h1,e1⟩:=List.getElem?_eq_some_iff.1 hk
    have:=List.pairwise_iff_getElem.1 hl k i h1 hi hki
    omega
  · obtain⟨k,hk⟩:=List.getElem?_of_mem h
    rw[List.getElem?_drop]at hk
    obtain⟨h1,e1⟩:=List.getElem?_eq_some_iff.1 hk
    have:=List.pairwise_iff_getElem.1 hl i (i+1+k) hi h1 (by omega)
    omega
theorem HJ {c:Code}{t:Nat}(h:St c t) (h0:t≠0):∃s a,St c s/\s≠t/\Path (wS c) s a/\t∈kP c a:=by
  induction h with
  | zero=>exact absurd rfl h0
  | @step s a t h ha ht ih =>
    by_cases e:s=t
    · subst e;exact ih h0
    · exact⟨s,a,h,e,ha,ht⟩
theorem EJ {E:Nat->List Nat}{s b:Nat}(h:Path E s b) (h0:b≠s):∃a,Path E s a/\a≠b/\b∈E a:=by
  induction h with
  | refl=>exact absurd rfl h0
  | @step a b h hb ih =>
    by_cases e:a=b
    · subst e;exact ih h0
    · exact⟨a,h,e,hb⟩
theorem xv {N:Nat}{l:List Nat}{w:Nat}(h:CE N (ot l) (w:Int)=true):l.Pairwise (· < ·)/\(∀k∈l,k<N)/\w∈l:=by
  obtain⟨h1,h2,h3⟩:=Ap h
  refine⟨?_,fun k hk=>?_,qc.1 h3⟩
  · rw[ot,List.pairwise_map]at h1
    exact h1.imp fun h=>by omega
  · have:=(h2 (k:Int) (qc.2 hk)).2;omega
theorem Lc {c:Code}{S l:List Nat}{a t:Nat}(h:Ll c (ot S) (ot l)) (ha:a∈l) (ht:t∈kP c a):t∈S:=by
  unfold kP at ht
  cases hB:c.b[a]? with
  | none=>rw[hB]at ht;cases ht
  | some B =>
    simp only[hB]at ht
    split at ht
    · rename_i hk
      have:=h (a:Int) (qc.2 ha) B (by rw[Int.toNat_natCast];exact hB) t ht
      rw[if_pos hk]at this
      exact qc.1 this
    · cases ht
theorem L9 {c:Code}{S l:List Nat}{a t:Nat}(h:Ll c (ot S) (ot l)) (ha:a∈l) (ht:t∈wS c a):t∈l:=by
  unfold wS at ht
  cases hB:c.b[a]? with
  | none=>rw[hB]at ht;cases ht
  | some B =>
    simp only[hB]at ht
    split at ht
    · cases ht
    · rename_i hk
      have:=h (a:Int) (qc.2 ha) B (by rw[Int.toNat_natCast];exact hB) t ht
      rw[if_neg hk]at this
      exact qc.1 this
section
variable {c:Code}{i t:Nat}
theorem H9 (hc:jG c) (ht:(bu c)[i]?=some t):¬Fs c (ot (del (bu c) i)) ((del ((bu c).map (rl c)) i).map ot):=by
  rintro⟨h0,-,hj⟩
  have hinc:(bu c).Pairwise (· < ·):=qf
  have hnt:=Ed hinc ht
  by_cases e:t=0
  · subst e
    exact hnt (xv (w:=0) h0).2.2
  · obtain⟨s,a,hs,hne,ha,hta⟩:=HJ (cT.1 (List.mem_of_getElem? ht)).2 e
    have hsm:s∈bu c:=cT.2 ⟨hs.lt hc,hs⟩
    obtain⟨k,hk⟩:=List.getElem?_of_mem (GV hsm ht hne)
    have h2:=hj k (ot (rl c s)) (s:Int) (by rw[List.getElem?_map, <- xw,List.getElem?_map,hk];rfl) (by rw[Dx,hk];rfl)
    exact hnt (Lc h2.2 (cT.2 ⟨ti hc (hs.lt hc) ha,ha⟩) hta)
theorem Cy (ht:(bu c)[i]?=some t){x:List Nat}(hx:CE c.b.length (ot x) (t:Int)=true->¬Ll c (ot (bu c)) (ot x)):¬Fs c (ot (bu c)) ((((bu c).map (rl c)).set i x).map ot):=by
  rintro⟨-,-,hj⟩
  have hi:=(List.getElem?_eq_some_iff.1 ht).1
  obtain⟨h1,h2⟩:=hj i (ot x) (t:Int) (by rw[List.getElem?_map,List.getElem?_set_self (by simpa using hi)];rfl) (by rw[Dx,ht];rfl)
  exact hx h1 h2
theorem Gq (hc:jG c) (ht:(bu c)[i]?=some t){j b:Nat}(hb:(rl c t)[j]?=some b):¬Fs c (ot (bu c)) ((((bu c).map (rl c)).set i (del (rl c t) j)).map ot):=by
  refine Cy ht fun h1 h2=>?_
  have hinc:(rl c t).Pairwise (· < ·):=qf
  have hnb:=Ed hinc hb
  have htN:=(cT.1 (List.mem_of_getElem? ht)).1
  by_cases e:b=t
  · subst e
    exact hnb (xv h1).2.2
  · obtain⟨a,ha,hne,hab⟩:=EJ (cT.1 (List.mem_of_getElem? hb)).2 e
    have ham:a∈rl c t:=cT.2 ⟨ti hc htN ha,ha⟩
    exact hnb (L9 h2 (GV ham hb hne) hab)
theorem Gp (ht:(bu c)[i]?=some t){b:Nat}(hb:b∈rl c t):¬Fs c (ot (bu c)) ((((bu c).map (rl c)).set i (rl c t++[b])).map ot):=by
  refine Cy ht fun h1 _=>?_
  have:=(xv h1).1
  rw[List.pairwise_append]at this
  have:=this.2.2 b hb b (by simp)
  omega
theorem Ia (ht:(bu c)[i]?=some t):¬Fs c (ot (bu c)) ((((bu c).map (rl c)).set i (rl c t++[c.b.length])).map ot):=by
  refine Cy ht fun h1 _=>?_
  have:=(xv h1).2.1 c.b.length (by simp)
  omega
end
section
variable {h:Heap}{L:List (Nat×Slot)}{K:D->Prop}{KH:D->Heap->Prop}
theorem CR {m len i esz:Nat}{els:List D}(hr:(h m).row=some (esz,els)) (hi:i<=len):ae PP (.kN (.c (.ms m 0 len)) none (some (.c (.int .i64 (i:Int)))) (some (.c (.int .i64 (i:Int)))) esz) h K=K (.ms m 0 i):=by
  rw[GY,Ar]
  simp only[uE,uD]
  apply propext
  constructor
  · rintro⟨-,-,-,-,-,hk⟩;simpa using hk
  · intro hk;exact⟨by omega,by omega,by omega,by omega,⟨_,hr⟩,by simpa using hk⟩
theorem yr {m len i esz:Nat}{els:List D}(hr:(h m).row=some (esz,els)) (hi:i<=len):ae PP (.kN (.c (.ms m 0 len)) (some (.c (.int .i64 (i:Int)))) none none esz) h K=K (.ms m i (len-i)):=by
  rw[GY,Ar]
  simp only[uE,uD]
  have e1:0+((i:Int)).toNat=i:=by omega
  have e2:((len:Int)-(i:Int)).toNat=len-i:=by omega
  rw[e1,e2]
  apply propext
  constructor
  · rintro⟨-,-,-,-,-,hk⟩;exact hk
  · intro hk;exact⟨by omega,by omega,by omega,by omega,⟨_,hr⟩,hk⟩
theorem Vs.KW {m i bytes len len':Nat}{els:List D}{z:D}(V:Vs h ((m,.arr 1 els)::L)) (hlen:els.length=len) (hlen':len'=len-1) (hi:i<len) (h1:∀y∈els,aH y) (hb:len*bytes<=140737488355328) (hl:len<=1000000)
    (hK:∀n h',Vs h' ((n,.arr 1 (del els i))::L)->KH (.ms n 0 len') h'):aa PP (.app (.c (.ms m 0 i)) (.c (.ms m (i+1) (len-(i+1)))) 1 bytes z) h KH:=by
  subst hlen hlen'
  have hm:=V.get 0 _ _ rfl
  have hr:(h m).row=some (1,els):=by rw[hm];rfl
  rw[DZ]
  refine FA (ys:=els.drop (i+1)) hr (by omega) (List.take_of_length_le (by simp)) ⟨fun y hy=>h1 y (List.mem_of_mem_drop hy),els.take i,⟨els.drop i,by rw[List.take_append_drop];exact hm⟩,by simp;omega,⟨?_,by simp;omega⟩,fun n t=>⟨?_,fun h0=>absurd rfl h0⟩⟩
  · refine Nat.le_trans (Nat.mul_le_mul_right _ ?_) hb
    simp;omega
  · have e1:i+(els.drop (i+1)).length=els.length-1:=by simp;omega
    rw[e1,List.drop_zero]
    have V1:=V.cc 0 rfl (s':=.dead) (by simp)
    have V2:=V1.push (n:=n) (by rw[ab _ _ (t.ne (by rw[hm];simp)).symm];exact t.free) (s:=.arr 1 (del els i)) (by simp)
    exact hK n _ (V2.sub (List.Perm.refl _) (.cons_cons _ (.cons _ (.refl _))))
theorem Vs.MF {m bytes len len':Nat}{els:List D}{z d:D}(V:Vs h ((m,.arr 1 els)::L)) (hlen:els.length=len) (hlen':len'=len+1) (hd:aH d) (hc:d.cells.length=1) (hb:(len+1)*bytes<=140737488355328) (hl:len+1<=1000000)
    (hK:∀n h',Vs h' ((n,.arr 1 (els++[d]))::L)->KH (.ms n 0 len') h'):aa PP (.app (.c (.ms m 0 len)) (.c (.sl [d])) 1 bytes z) h KH:=by
  subst hlen hlen'
  exact V.Cb (ys:=[d]) (fun hk=>⟨fun e he=>by simp at he;subst he;exact hc,hk⟩) (fun y hy=>by simp at hy;subst hy;exact hd) (by simpa using hb) (by simp;omega) fun n h' V'=>hK n h' V'
theorem xR {A:List (Nat×List Nat)}{i m:Nat}{l:List Nat}(h:A[i]?=some (m,l)):(bU A)[i]?=some (.ms m 0 l.length):=by simp[bU,h]
theorem F3 {A:List (Nat×List Nat)}{i m:Nat}{l:List Nat}:(bU A).set i (.ms m 0 l.length)=bU (A.set i (m,l)):=by simp[bU,List.map_set]
theorem yy {A:List (Nat×List Nat)}{i m:Nat}{l:List Nat}(h:A[i]?=some (m,l)):fR A=fR (A.take i)++(m,.arr 1 (aL l))::fR (A.drop (i+1)):=by
  obtain⟨hi,e⟩:=List.getElem?_eq_some_iff.1 h
  conv=>lhs;rw[<- List.take_append_drop i A,List.drop_eq_getElem_cons hi,e]
  simp[fR]
theorem CX {nb n1 n2 i m:Nat}{bx:Slot}{S l:List Nat}{A:List (Nat×List Nat)}(V:Vs h ((nb,bx)::(y8 n1 n2 S A++L))) (hA:A[i]?=some (m,l)) :
    Vs h ((m,.arr 1 (aL l))::(nb,bx)::(n1,.arr 1 (aL S))::(n2,.arr 1 (bU A))::(fR (A.take i)++(fR (A.drop (i+1))++L))):=by
  refine V.perm ?_
  rw[y8,yy hA]
  simp only[List.cons_append,List.append_assoc]
  exact(List.Perm.trans (.cons _ (.cons _ (.cons _ List.perm_middle))) (.trans (.cons _ (.cons _ (.swap _ _ _))) (.trans (.cons _ (.swap _ _ _)) (.swap _ _ _))))
theorem IK {nb n1 n2 i m:Nat}{bx:Slot}{S l:List Nat}{A:List (Nat×List Nat)}(hi:i<A.length) (V:Vs h ((m,.arr 1 (aL l))::(nb,bx)::(n1,.arr 1 (aL S))::(n2,.arr 1 ((bU A).set i (.ms m 0 l.length)))::(fR (A.take i)++(fR (A.drop (i+1))++L)))) :
    Vs h ((nb,bx)::(y8 n1 n2 S (A.set i (m,l))++L)):=by
  have hA:(A.set i (m,l))[i]?=some (m,l):=by simp[hi]
  refine V.perm (List.Perm.symm ?_)
  rw[y8,yy hA,F3]
  have e1:(A.set i (m,l)).take i=A.take i:=by rw[List.take_set_of_le (Nat.le_refl _)]
  have e2:(A.set i (m,l)).drop (i+1)=A.drop (i+1):=by rw[List.drop_set_of_lt (by omega)]
  rw[e1,e2]
  simp only[List.cons_append,List.append_assoc]
  exact(List.Perm.trans (.cons _ (.cons _ (.cons _ List.perm_middle))) (.trans (.cons _ (.cons _ (.swap _ _ _))) (.trans (.cons _ (.swap _ _ _)) (.swap _ _ _))))
theorem AA {nb n1 n2 i m:Nat}{S l:List Nat}{A:List (Nat×List Nat)}{w:D}{KK:Heap->Prop}(hi:i<A.length)
    (V:Vs h ((m,.arr 1 (aL l))::(nb,.box (.agg [w,.ms n2 0 A.length]))::(n1,.arr 1 (aL S))::(n2,.arr 1 (bU A))::(fR (A.take i)++(fR (A.drop (i+1))++L))))
    (hK:∀h',Vs h' ((nb,.box (.agg [w,.ms n2 0 A.length]))::(y8 n1 n2 S (A.set i (m,l))++L))->KK h') :
    ((ae PP (.ld (.c (.ptr nb 0 1)) 1 false) h fun a=>aX [a] [.ms n2 0 A.length])/\(ae PP (.iadd (.c (.ms n2 0 A.length)) (.c (.int .i64 (i:Int))) 1) h fun a=>aX [a] [.ptr n2 i 0])/\True) /\
    aa PP (.st (.c (.ptr n2 i 0)) (.c (.ms m 0 l.length)) 1) h fun _ h' =>
      ((ae PP (.ld (.c (.ptr nb 0 1)) 1 false) h' fun a=>aX [a] [.ms n2 0 A.length])/\(ae PP (.iadd (.c (.ms n2 0 A.length)) (.c (.int .i64 (i:Int))) 1) h' fun a=>aX [a] [.ptr n2 i 0])/\True)/\KK h':=by
  have hrl:(bU A).length=A.length:=by simp[bU]
  have chk:∀{h:Heap}{els:List D}{X:List (Nat×Slot)}{x y:Nat×Slot},Vs h (x::(nb,.box (.agg [w,.ms n2 0 A.length]))::y::(n2,.arr 1 els)::X) ->
      ((ae PP (.ld (.c (.ptr nb 0 1)) 1 false) h fun a=>aX [a] [.ms n2 0 A.length])/\(ae PP (.iadd (.c (.ms n2 0 A.length)) (.c (.int .i64 (i:Int))) 1) h fun a=>aX [a] [.ptr n2 i 0])/\True):=fun V=>by
    refine⟨?_,?_,trivial⟩
    · rw[V.vc 1 (j:=1) rfl rfl,al];trivial
    · rw[V.Mq 3 rfl (by omega) (by omega),Int.toNat_natCast,al];trivial
  refine⟨chk V,?_⟩
  refine V.MM 3 (j:=i) rfl (by omega) rfl F4 fun h' V'=>?_
  exact⟨chk V',hK h' (IK hi V')⟩
end
end Go.Am
namespace Go.Am
open Go Go.Proofs
theorem F6 {A:List (Nat×List Nat)}:∀y,y∈bU A->aH y:=fun y hy=>by
  simp only[bU,List.mem_map]at hy
  obtain⟨p,-,rfl⟩:=hy
  simp
theorem DN {l:List Nat}{i:Nat}:del (aL l) i=aL (del l i):=(xw nD l i).symm
theorem F5 {A:List (Nat×List Nat)}{i:Nat}:del (bU A) i=bU (del A i):=(xw _ A i).symm
theorem Hh {A:List (Nat×List Nat)}{i:Nat}:(fR (del A i)).Sublist (fR A):=(tT A i).map _
set_option maxRecDepth 100000 in
theorem K3 (hex:aO PP eT [] (· = .bool true)){bs:List Nat}{m0:Int}{x y:Nat}(hb:∀b∈bs,b<=255) (hbl:bs.length<=9223372036854775807) (hx:x<=255) (hy:y<=255) :
    aO PP eE [tg bs,.int .u32 m0,Ln x y] (· = .bool true):=by
  refine db mJ (aq _ _ _) rfl (mA _ _ _ _) ?_
  unfold je
  refine Vs.nil.box (DI bs).one fun n4 h5 V1=>?_
  refine V1.box (eW (by simp):wy (Ln x y)).one fun n6 h7 V=>?_
  refine fS hex (fun d hd=>by cases hd) ?_
  rintro _ rfl
  rw[H7,aC,V.uZ 1 (s:=1) rfl rfl]
  refine fS (K5 hb hbl) (fun d hd=>by simp at hd;subst hd;exact(DI bs).pair) ?_
  rintro _ ⟨c0,hc0,rfl⟩
  refine fS (He hc0 (mask:=m0)) (fun d hd=>by simp at hd;rcases hd with rfl|rfl;exact c0.nT.pair;exact aV.pair) ?_
  rintro _ rfl
  have hc:lP (oA c0 m0):=IZ hc0
  generalize oA c0 m0=c at hc
  have hnb:=hc.nb
  have cst:∀c:Code,Code.e c=.agg [.int .i64 c.group,.int .i64 c.sub,.int .i64 c.regs,.int .i64 c.slots,.int .i64 c.params,.sl (c.arrays.map vG.e),.sl (c.loops.map Loop.e),.sl (c.b.map Block.e)]:=fun _=>rfl
  refine V.alloc fun n17 h18 V1=>?_
  rw[cst c]
  refine V1.DA 0 rfl rfl rfl (fun y hy=>by simp at hy;rcases hy with rfl|rfl|rfl|rfl|rfl|rfl|rfl|rfl<;>rfl) fun h20 V2=>?_
  replace V2:Vs h20 [(n17,.box c.e),(n6,.box (Ln x y)),(n4,.box (tg bs))]:=V2
  have l17:∀{KH:D->Heap->Prop},aa PP (.ld (.c (.ptr n17 0 0)) 8 true) h20 KH=KH c.e h20:=fun {KH}=>V2.uZ 0 (s:=8) rfl rfl
  rw[l17]
  refine fS (C7 hc.g) (fun d' hd'=>by simp at hd';subst hd';exact c.nT.pair) ?_
  rintro _ rfl
  refine V2.alloc fun n25 h26 V3=>?_
  have hSl:(bu c).length<=c.b.length:=mY
  have h0S:0∈bu c:=cT.2 ⟨hnb.1,.zero⟩
  have hinc:(bu c).Pairwise (· < ·):=qf
  generalize hR:(bu c).map (rl c)=R
  have hRl:R.length=(bu c).length:=by rw[<- hR];simp
  have hRN:∀l∈R,l.length<=18:=fun l hl=>by
    rw[<- hR]at hl
    simp only[List.mem_map]at hl
    obtain⟨s,-,rfl⟩:=hl
    have:(rl c s).length<=c.b.length:=mY
    omega
  have ph:Ge c=HT (bu c) R:=by rw[<- hR];exact HU c
  rw[ph]
  have hSpos:0<(bu c).length:=List.length_pos_of_mem h0S
  have hRne:R≠[]:=by intro e;rw[e]at hRl;simp at hRl;omega
  refine V3.DA (cs':=[.sl (aL (bu c)),.sl (R.map fun l=>.sl (aL l))]) 0 rfl rfl rfl (fun y hy=>by simp at hy;rcases hy with rfl|rfl<;>rfl) fun h28 V4=>?_
  let L0:List (Nat×Slot):=[(n25,.box (HT (bu c) R)),(n17,.box c.e),(n6,.box (Ln x y)),(n4,.box (tg bs))]
  replace V4:Vs h28 L0:=V4
  have m17:∀{h:Heap}{KH:D->Heap->Prop},Vs h L0->aa PP (.ld (.c (.ptr n17 0 0)) 8 true) h KH=KH c.e h:=fun V=>V.uZ 1 (s:=8) rfl rfl
  have m25:∀{h:Heap}{KH:D->Heap->Prop},Vs h L0->aa PP (.ld (.c (.ptr n25 0 0)) 2 true) h KH=KH (HT (bu c) R) h:=fun V=>V.uZ 0 (s:=2) rfl rfl
  have m250:∀{h:Heap}{KH:D->Heap->Prop},Vs h L0->aa PP (.ld (.c (.ptr n25 0 0)) 1 false) h KH=KH (.sl (aL (bu c))) h:=fun V=>V.q8 0 (j:=0) (cs:=[.sl (aL (bu c)),.sl (R.map fun l=>.sl (aL l))]) rfl rfl
  have m251:∀{h:Heap}{KH:D->Heap->Prop},Vs h L0->aa PP (.ld (.c (.ptr n25 0 1)) 1 false) h KH=KH (.sl (R.map fun l=>.sl (aL l))) h:=fun V=>V.q8 0 (j:=1) (cs:=[.sl (aL (bu c)),.sl (R.map fun l=>.sl (aL l))]) rfl rfl
  have f25:∀{h:Heap}{o:Nat}{KH:D->Heap->Prop},Vs h L0->aa PP (.fadd (.c (.ptr n25 0 0)) o) h KH=KH (.ptr n25 0 o) h:=fun V=>V.fa 0 rfl
  have i60:∀{h:Heap}{KH:D->Heap->Prop},Vs h L0->aa PP (.iadda (.c (.ptr n6 0 0)) (.c (.int .i64 0)) 2 1) h KH=KH (.ptr n6 0 0) h:=fun V=>V.MT 2 (a:=0) rfl (by omega)
  have i61:∀{h:Heap}{KH:D->Heap->Prop},Vs h L0->aa PP (.iadda (.c (.ptr n6 0 0)) (.c (.int .i64 1)) 2 1) h KH=KH (.ptr n6 0 1) h:=fun V=>V.MT 2 (a:=1) rfl (by omega)
  have l60:∀{h:Heap}{KH:D->Heap->Prop},Vs h L0->aa PP (.ld (.c (.ptr n6 0 0)) 1 false) h KH=KH (.int .u8 (x:Int)) h:=fun V=>V.q8 2 (j:=0) rfl rfl
  have l61:∀{h:Heap}{KH:D->Heap->Prop},Vs h L0->aa PP (.ld (.c (.ptr n6 0 1)) 1 false) h KH=KH (.int .u8 (y:Int)) h:=fun V=>V.q8 2 (j:=1) rfl rfl
  simp only[↓f25 V4,↓m250 V4,vW]
  rw[MU (by omega)]
  simp only[↓gS,↓f25 V4,↓m250 V4,↓m251 V4,oT,List.length_map,hRl,eo]
  rw[Lo rfl]
  simp only[↓gS,↓i60 V4,↓l60 V4,lK,Lr hx,↓f25 V4,↓m250 V4,vW]
  rw[Kg (by omega)]
  have e1:((x:Int).tmod ((bu c).length:Int))=((x % (bu c).length:Nat):Int):=by rw[Int.tmod_eq_emod_of_nonneg (by omega)];rfl
  rw[e1]
  have hiN:x % (bu c).length<(bu c).length:=Nat.mod_lt _ hSpos
  generalize x % (bu c).length=i at hiN
  obtain⟨t,ht⟩:∃t,(bu c)[i]?=some t:=⟨(bu c)[i],List.getElem?_eq_getElem hiN⟩
  have htN:=(cT.1 (List.mem_of_getElem? ht)).1
  have hRi:R[i]?=some (rl c t):=by rw[<- hR,List.getElem?_map,ht];rfl
  have hlm:(rl c t).length<=c.b.length:=mY
  have htm:t∈rl c t:=cT.2 ⟨htN,.refl⟩
  have hlpos:0<(rl c t).length:=List.length_pos_of_mem htm
  have iR:∀{h:Heap}{KH:D->Heap->Prop},aa PP (.iadd (.c (.sl (R.map fun l=>.sl (aL l)))) (.c (.int .i64 (i:Int))) 1) h KH=KH (.vp (.sl (aL (rl c t))) 0) h:=fun {h KH} =>
    mL (esz:=1) (by omega) (by rw[Int.toNat_natCast,List.getElem?_map,hRi];rfl) rfl
  have lR:∀{h:Heap}{KH:D->Heap->Prop},aa PP (.ld (.c (.vp (.sl (aL (rl c t))) 0)) 1 false) h KH=KH (.sl (aL (rl c t))) h:=fun {h KH}=>Bq rfl
  simp only[↓f25 V4,↓m251 V4,↓iR,↓lR,vW,↓m25 V4]
  refine tZ V4 (by omega) (by omega) (fun l hl=>by have:=hRN l hl;omega) hRne fun h93 n1 n2 A hA V5=>?_
  have hAl:A.length=(bu c).length:=by have:=congrArg List.length hA;simp at this;omega
  refine V5.alloc fun n94 h95 V6=>?_
  refine V6.DA (cs':=[.ms n1 0 (bu c).length,.ms n2 0 A.length]) 0 rfl rfl rfl (fun y hy=>by simp at hy;rcases hy with rfl|rfl<;>rfl) fun h97 V7=>?_
  replace V7:Vs h97 ((n94,.box (.agg [.ms n1 0 (bu c).length,.ms n2 0 A.length]))::(n1,.arr 1 (aL (bu c)))::(n2,.arr 1 (bU A))::(fR A++L0)):=V7
  have lS:(aL (bu c)).length=(bu c).length:=by simp[aL]
  have lA:(bU A).length=A.length:=by simp[bU]
  have r1:(h97 n1).row=some (1,aL (bu c)):=by rw[V7.get 1 _ _ rfl];rfl
  simp only[↓V7.qm 0 rfl,Nat.zero_add,↓V7.vc 0 (j:=0) rfl rfl,↓CR r1 (show i<=(bu c).length by omega)]
  rw[oC (by omega) (by omega),show((i:Int)+1)=((i+1:Nat):Int) by omega,yr r1 (by omega)]
  try simp only[↓V7.qm 0 rfl,Nat.zero_add]
  refine V7.swap.KW lS (AB hiN) hiN xr (by omega) (by omega) fun n1' h107 V8=>?_
  rw[DN]at V8
  have V8':=V8.swap
  refine V8'.Lm 0 (j:=0) rfl (by simp) rfl fun h109 V9=>?_
  replace V9:Vs h109 ((n94,.box (.agg [.ms n1' 0 (del (bu c) i).length,.ms n2 0 A.length]))::(n1',.arr 1 (aL (del (bu c) i)))::(n2,.arr 1 (bU A))::(fR A++L0)):=V9
  have r2:(h109 n2).row=some (1,bU A):=by rw[V9.get 2 _ _ rfl];rfl
  simp only[↓V9.qm 0 rfl,Nat.zero_add,↓V9.vc 0 (j:=1) rfl rfl,↓CR r2 (show i<=A.length by omega)]
  rw[oC (by omega) (by omega),show((i:Int)+1)=((i+1:Nat):Int) by omega,yr r2 (by omega)]
  try simp only[↓V9.qm 0 rfl,Nat.zero_add]
  refine(V9.perm (L':=(n2,.arr 1 (bU A))::(n94,.box (.agg [.ms n1' 0 (del (bu c) i).length,.ms n2 0 A.length]))::(n1',.arr 1 (aL (del (bu c) i)))::(fR A++L0)) (.trans (.cons _ (.swap _ _ _)) (.swap _ _ _))).KW lA (AB (l:=A) (i:=i) (by omega)) (by omega) F6 (by omega) (by omega) fun n2' h119 V10=>?_
  rw[F5]at V10
  refine V10.Lm 1 (j:=1) rfl (by simp) rfl fun h121 V11=>?_
  replace V11:Vs h121 ((n2',.arr 1 (bU (del A i)))::(n94,.box (.agg [.ms n1' 0 (del (bu c) i).length,.ms n2' 0 (del A i).length]))::(n1',.arr 1 (aL (del (bu c) i)))::(fR A++L0)):=V11
  have V11L:Vs h121 L0:=V11.sub (.refl _) (.cons _ (.cons _ (.cons _ (List.sublist_append_right _ _))))
  rw[MU (by omega)]
  simp only[↓gS,↓m17 V11L,↓V11.uZ 1 (s:=2) rfl rfl]
  have V12:Vs h121 (y8 n1' n2' (del (bu c) i) (del A i)++L0):=V11.sub (L'':=(n2',.arr 1 (bU (del A i)))::(n1',.arr 1 (aL (del (bu c) i)))::(fR (del A i)++L0)) (.swap _ _ _) (.cons_cons _ (.cons _ (.cons_cons _ (Hh.append (.refl _)))))
  have dS:=(tT (bu c) i).length_le
  have dA:=(tT A i).length_le
  have hAm:∀p∈A,p.2.length<=18:=fun p hp=>hRN p.2 (by rw[<- hA];exact List.mem_map.2 ⟨p,hp,rfl⟩)
  refine Ep hc.g V12 (by omega) (by omega) (fun p hp=>by have:=hAm p ((tT A i).mem hp);omega) (by rw[xw,hA, <- hR];exact H9 hc.g ht) fun h130 V13=>?_
  rw[Lo rfl]
  simp only[↓gS]
  simp only[↓i61 V13,↓l61 V13,lK,Lr hy]
  rw[Kg (by omega)]
  have e2:((y:Int).tmod ((rl c t).length:Int))=((y % (rl c t).length:Nat):Int):=by rw[Int.tmod_eq_emod_of_nonneg (by omega)];rfl
  rw[e2]
  have hjN:y % (rl c t).length<(rl c t).length:=Nat.mod_lt _ hlpos
  generalize y % (rl c t).length=j at hjN
  obtain⟨b,hbj⟩:∃b,(rl c t)[j]?=some b:=⟨(rl c t)[j],List.getElem?_eq_getElem hjN⟩
  simp only[↓m25 V13]
  clear V5 V6 V7 V8 V8' V9 V10 V11 V11L V12 r1 r2 hA hAl hAm lA dA V4
  refine tZ V13 (by omega) (by omega) (fun l hl=>by have:=hRN l hl;omega) hRne fun h154 n1 n2 A hA V5=>?_
  have hAl:A.length=(bu c).length:=by have:=congrArg List.length hA;simp at this;omega
  have hAi:∀{A:List (Nat×List Nat)},A.map Prod.snd=R->∃m,A[i]?=some (m,rl c t):=fun {A} hA=>by
    have h1:(A.map Prod.snd)[i]?=some (rl c t):=by rw[hA,hRi]
    rw[List.getElem?_map,Option.map_eq_some_iff]at h1
    obtain⟨⟨m,l⟩,h2,h3⟩:=h1
    exact⟨m,by rw[h2, <- h3]⟩
  have hset:∀{A:List (Nat×List Nat)}{m:Nat}{l:List Nat},A.map Prod.snd=R->(A.set i (m,l)).map Prod.snd=((bu c).map (rl c)).set i l:=fun {A m l} hA=>by rw[List.map_set,hA,hR]
  obtain⟨m,hAm⟩:=hAi hA
  refine V5.alloc fun n155 h156 V6=>?_
  refine V6.DA (cs':=[.ms n1 0 (bu c).length,.ms n2 0 A.length]) 0 rfl rfl rfl (fun y hy=>by simp at hy;rcases hy with rfl|rfl<;>rfl) fun h158 V7=>?_
  replace V7:Vs h158 ((n155,.box (.agg [.ms n1 0 (bu c).length,.ms n2 0 A.length]))::(y8 n1 n2 (bu c) A++L0)):=V7
  have V8:=CX V7 hAm
  have lL:(aL (rl c t)).length=(rl c t).length:=by simp[aL]
  have rm:(h158 m).row=some (1,aL (rl c t)):=by rw[V8.get 0 _ _ rfl];rfl
  have ia:∀{K:D->Prop},ae PP (.iadd (.c (.ms n2 0 A.length)) (.c (.int .i64 (i:Int))) 1) h158 K=K (.ptr n2 i 0):=fun {K}=>by rw[V8.Mq 3 rfl (by omega) (by omega),Int.toNat_natCast]
  have le:∀{K:D->Prop},ae PP (.ld (.c (.ptr n2 i 0)) 1 false) h158 K=K (.ms m 0 (rl c t).length):=fun {K}=>V8.IG 3 rfl (xR hAm) rfl
  simp only[↓V7.qm 0 rfl,Nat.zero_add,↓V7.vc 0 (j:=1) rfl rfl,↓ia,↓le,↓CR rm (show j<=(rl c t).length by omega)]
  rw[oC (by omega) (by omega),show((j:Int)+1)=((j+1:Nat):Int) by omega,yr rm (by omega)]
  try simp only[↓ia]
  refine V8.KW lL (AB hjN) hjN xr (by omega) (by omega) fun m' h174 V9=>?_
  rw[DN]at V9
  refine AA (by omega) V9 fun h178 V10=>?_
  have hset1:=hset (m:=m') (l:=del (rl c t) j) hA
  have hAl1:(A.set i (m',del (rl c t) j)).length=(bu c).length:=by simp[hAl]
  have hA1m:∀p,p∈A.set i (m',del (rl c t) j)->p.2.length<=18:=fun p hp=>by
    rcases List.mem_or_eq_of_mem_set hp with h|h
    · exact hRN p.2 (by rw[<- hA];exact List.mem_map.2 ⟨p,h,rfl⟩)
    · rw[h];have:=(tT (rl c t) j).length_le;show(del (rl c t) j).length<=18;omega
  rw[show A.length=(A.set i (m',del (rl c t) j)).length by simp]at V10
  generalize A.set i (m',del (rl c t) j)=A1 at V10 hset1 hAl1 hA1m
  clear V5 V6 V7 V8 V9 rm ia le hA hAl hAm
  let Q1:List (Nat×Slot):=(n155,.box (.agg [.ms n1 0 (bu c).length,.ms n2 0 A1.length]))::y8 n1 n2 (bu c) A1
  replace V10:Vs h178 (Q1++L0):=V10
  have V10L:Vs h178 L0:=V10.ck
  simp only[↓m25 V10L]
  refine tZ V10 (by omega) (by omega) (fun l hl=>by have:=hRN l hl;omega) hRne fun h184 p1 p2 A hA V5=>?_
  have hAl:A.length=(bu c).length:=by have:=congrArg List.length hA;simp at this;omega
  obtain⟨m2,hAm⟩:=hAi hA
  refine V5.alloc fun n185 h186 V6=>?_
  refine V6.DA (cs':=[.ms p1 0 (bu c).length,.ms p2 0 A.length]) 0 rfl rfl rfl (fun y hy=>by simp at hy;rcases hy with rfl|rfl<;>rfl) fun h188 V7=>?_
  replace V7:Vs h188 ((n185,.box (.agg [.ms p1 0 (bu c).length,.ms p2 0 A.length]))::(y8 p1 p2 (bu c) A++(Q1++L0))):=V7
  have V8:=CX V7 hAm
  obtain⟨z,hz⟩:∃z,(rl c t)[(rl c t).length-1]?=some z:=⟨(rl c t)[(rl c t).length-1],List.getElem?_eq_getElem (by omega)⟩
  have ia:∀{K:D->Prop},ae PP (.iadd (.c (.ms p2 0 A.length)) (.c (.int .i64 (i:Int))) 1) h188 K=K (.ptr p2 i 0):=fun {K}=>by rw[V8.Mq 3 rfl (by omega) (by omega),Int.toNat_natCast]
  have le:∀{K:D->Prop},ae PP (.ld (.c (.ptr p2 i 0)) 1 false) h188 K=K (.ms m2 0 (rl c t).length):=fun {K}=>V8.IG 3 rfl (xR hAm) rfl
  have iz:∀{K:D->Prop},ae PP (.iadd (.c (.ms m2 0 (rl c t).length)) (.c (.int .i64 (((rl c t).length-1:Nat):Int))) 1) h188 K=K (.ptr m2 ((rl c t).length-1) 0):=fun {K}=>by rw[V8.Mq 0 rfl (by omega) (by omega),Int.toNat_natCast]
  have lz:∀{K:D->Prop},ae PP (.ld (.c (.ptr m2 ((rl c t).length-1) 0)) 1 false) h188 K=K (nD z):=fun {K}=>V8.IG 0 rfl (Ah hz) rfl
  simp only[↓V7.qm 0 rfl,Nat.zero_add,↓V7.vc 0 (j:=1) rfl rfl,↓ia,↓le]
  rw[JU (by omega) (by omega),show(((rl c t).length:Int)-1)=(((rl c t).length-1:Nat):Int) by omega]
  simp only[↓iz,↓lz]
  refine G0 (fun y hy=>by simp[nD,D.cells]at hy;subst hy;rfl) aV.one rfl (fun y hy=>by simp[D.cells]at hy;subst hy;rfl) ?_
  try simp only[↓ia]
  refine V8.MF (d:=nD z) (len':=(rl c t++[z]).length) lL (by simp) aV.one rfl (by omega) (by omega) fun m2' h205 V9=>?_
  rw[show aL (rl c t)++[nD z]=aL (rl c t++[z]) by simp[aL]]at V9
  refine AA (by omega) V9 fun h209 V10'=>?_
  have hset2:=hset (m:=m2') (l:=rl c t++[z]) hA
  have hAl2:(A.set i (m2',rl c t++[z])).length=(bu c).length:=by simp[hAl]
  have hA2m:∀p,p∈A.set i (m2',rl c t++[z])->p.2.length<=19:=fun p hp=>by
    rcases List.mem_or_eq_of_mem_set hp with h|h
    · have:=hRN p.2 (by rw[<- hA];exact List.mem_map.2 ⟨p,h,rfl⟩);omega
    · rw[h];show(rl c t++[z]).length<=19;simp;omega
  rw[show A.length=(A.set i (m2',rl c t++[z])).length by simp]at V10'
  generalize A.set i (m2',rl c t++[z])=A2 at V10' hset2 hAl2 hA2m
  clear V5 V6 V7 V8 V9 ia le iz lz hA hAl hAm V10 V10L
  let Q2:List (Nat×Slot):=(n185,.box (.agg [.ms p1 0 (bu c).length,.ms p2 0 A2.length]))::y8 p1 p2 (bu c) A2
  replace V10':Vs h209 (Q2++(Q1++L0)):=V10'
  have V10L:Vs h209 L0:=V10'.ck.ck
  simp only[↓m25 V10L]
  refine tZ V10' (by omega) (by omega) (fun l hl=>by have:=hRN l hl;omega) hRne fun h215 q1 q2 A hA V5=>?_
  have hAl:A.length=(bu c).length:=by have:=congrArg List.length hA;simp at this;omega
  obtain⟨m3,hAm⟩:=hAi hA
  refine V5.alloc fun n216 h217 V6=>?_
  refine V6.DA (cs':=[.ms q1 0 (bu c).length,.ms q2 0 A.length]) 0 rfl rfl rfl (fun y hy=>by simp at hy;rcases hy with rfl|rfl<;>rfl) fun h219 V7=>?_
  replace V7:Vs h219 ((n216,.box (.agg [.ms q1 0 (bu c).length,.ms q2 0 A.length]))::(y8 q1 q2 (bu c) A++(Q2++(Q1++L0)))):=V7
  have V7L:Vs h219 L0:=V7.pop.ck.ck.ck
  have V8:=CX V7 hAm
  have ia:∀{K:D->Prop},ae PP (.iadd (.c (.ms q2 0 A.length)) (.c (.int .i64 (i:Int))) 1) h219 K=K (.ptr q2 i 0):=fun {K}=>by rw[V8.Mq 3 rfl (by omega) (by omega),Int.toNat_natCast]
  have le:∀{K:D->Prop},ae PP (.ld (.c (.ptr q2 i 0)) 1 false) h219 K=K (.ms m3 0 (rl c t).length):=fun {K}=>V8.IG 3 rfl (xR hAm) rfl
  simp only[↓V7.qm 0 rfl,↓V7L.qm 1 rfl,Nat.zero_add,↓V7.vc 0 (j:=1) rfl rfl,↓ia,↓le,↓V7L.vc 1 (j:=7) rfl rfl,oT,List.length_map]
  refine G0 (fun y hy=>by simp[D.cells]at hy;subst hy;rfl) aV.one rfl (fun y hy=>by simp[D.cells]at hy;subst hy;rfl) ?_
  try simp only[↓ia]
  refine V8.MF (d:=nD c.b.length) (len':=(rl c t++[c.b.length]).length) lL (by simp) aV.one rfl (by omega) (by omega) fun m3' h232 V9=>?_
  rw[show aL (rl c t)++[nD c.b.length]=aL (rl c t++[c.b.length]) by simp[aL]]at V9
  refine AA (by omega) V9 fun h236 V11=>?_
  have hset3:=hset (m:=m3') (l:=rl c t++[c.b.length]) hA
  have hAl3:(A.set i (m3',rl c t++[c.b.length])).length=(bu c).length:=by simp[hAl]
  have hA3m:∀p,p∈A.set i (m3',rl c t++[c.b.length])->p.2.length<=19:=fun p hp=>by
    rcases List.mem_or_eq_of_mem_set hp with h|h
    · have:=hRN p.2 (by rw[<- hA];exact List.mem_map.2 ⟨p,h,rfl⟩);omega
    · rw[h];show(rl c t++[c.b.length]).length<=19;simp;omega
  rw[show A.length=(A.set i (m3',rl c t++[c.b.length])).length by simp]at V11
  generalize A.set i (m3',rl c t++[c.b.length])=A3 at V11 hset3 hAl3 hA3m
  clear V5 V6 V7 V8 V9 ia le hA hAl hAm V10' V10L V7L
  let Q3:List (Nat×Slot):=(n216,.box (.agg [.ms q1 0 (bu c).length,.ms q2 0 A3.length]))::y8 q1 q2 (bu c) A3
  replace V11:Vs h236 (Q3++(Q2++(Q1++L0))):=V11
  have V11L:Vs h236 L0:=V11.ck.ck.ck
  have V11a:Vs h236 (Q1++L0):=V11.ck.ck
  simp only[↓gS,↓m17 V11L,↓V11a.uZ 0 (s:=2) rfl rfl]
  refine Ep hc.g (L:=Q3++(Q2++L0)) (S:=bu c) (A:=A1) (V11.sub (L'':=Q3++(Q2++(y8 n1 n2 (bu c) A1++L0))) ?_ ?_) (by omega) (by omega) (fun p hp=>by have:=hA1m p hp;omega) (by rw[hset1];exact Gq hc.g ht hbj) fun h251 V12=>?_
  · exact((List.perm_append_comm_assoc _ Q3 _).trans (List.Perm.append_left Q3 (List.perm_append_comm_assoc _ Q2 _)))
  · exact(List.Sublist.refl _).append ((List.Sublist.refl _).append (.cons _ (.refl _)))
  rw[Mo rfl]
  have V12L:Vs h251 L0:=V12.ck.ck
  have V12a:Vs h251 (Q2++L0):=V12.ck
  simp only[↓gS,↓m17 V12L,↓V12a.uZ 0 (s:=2) rfl rfl]
  refine Ep hc.g (L:=Q3++L0) (S:=bu c) (A:=A2) (V12.sub (L'':=Q3++(y8 p1 p2 (bu c) A2++L0)) (List.perm_append_comm_assoc _ Q3 _) ((List.Sublist.refl _).append (.cons _ (.refl _)))) (by omega) (by omega) (fun p hp=>by have:=hA2m p hp;omega)
    (by rw[hset2];exact Gp ht (List.mem_of_getElem? hz)) fun h272 V13'=>?_
  rw[Mo rfl]
  have V13L:Vs h272 L0:=V13'.ck
  simp only[↓gS,↓m17 V13L,↓V13'.uZ 0 (s:=2) rfl rfl]
  refine Ep hc.g (L:=L0) (S:=bu c) (A:=A3) (V13'.sub (L'':=y8 q1 q2 (bu c) A3++L0) (.refl _) (.cons _ (.refl _))) (by omega) (by omega) (fun p hp=>by have:=hA3m p hp;omega) (by rw[hset3];exact Ia ht) fun h293 V14=>?_
  rw[Mo rfl]
  rw[ir]
end Go.Am
namespace Go.Am
open Go Go.Proofs
set_option maxRecDepth 100000
theorem M5:Tryz.prog.underlying 22=some (.slice 5):=by kernel_rfl
theorem NM:Tryz.prog.underlying 5=some (.int .u8):=by kernel_rfl
theorem Lx:Tryz.prog.underlying 38=some (.int .u32):=by kernel_rfl
theorem Lw:Tryz.prog.underlying 62=some (.array 2 5):=by kernel_rfl
theorem t24:structL Tryz.prog 24=some [(22,0)]:=by kernel_rfl
theorem z24:Tryz.prog.cellsOf 24=1:=by kernel_rfl
theorem z22:Tryz.prog.cellsOf 22=1:=by kernel_rfl
theorem z5:Tryz.prog.cellsOf 5=1:=by kernel_rfl
theorem NX:Tryz.prog.cellsOf 62=2:=by kernel_rfl
theorem FH:IntKind.u8.min=0:=rfl
theorem Jg:IntKind.u8.max=255:=rfl
theorem Lv {m:Nat}{ds:List D}(h:HasTy Tryz.prog (m+2) 22 ds):∃bs:List Nat,ds=[sT bs]/\(∀b∈bs,b<=255)/\bs.length<=9223372036854775807:=by
  obtain⟨xs,h1,h2,h3⟩:=CH M5 NM h
  refine⟨xs.map Int.toNat,?_,fun b hb=>?_,by unfold maxLen at h2;simp;omega⟩
  · rw[h1,sT,List.map_map]
    congr 2
    refine List.map_congr_left fun x hx=>?_
    have:=h3 x hx
    rw[FH]at this
    show D.int .u8 x=D.int .u8 ((x.toNat:Nat):Int)
    rw[Int.toNat_of_nonneg this.1]
  · simp only[List.mem_map]at hb
    obtain⟨x,hx,rfl⟩:=hb
    have:=h3 x hx
    rw[FH,Jg]at this
    omega
theorem Kj {m:Nat}{ds:List D}(h:HasTy Tryz.prog (m+3) 24 ds):∃bs:List Nat,mkElem Tryz.prog 24 ds=tg bs/\(∀b∈bs,b<=255)/\bs.length<=9223372036854775807:=by
  obtain⟨k1,k2⟩:=Aq t24 h
  rw[z24]at k1
  have q:=k2 (22,0) (by simp)
  simp only[z22,List.drop_zero]at q
  match ds,k1 with
  | [d],_ =>
    obtain⟨bs,e1,hb,hbl⟩:=Lv q
    simp at e1
    subst e1
    exact⟨bs,by rw[EO t24,tg],hb,hbl⟩
theorem FG {m:Nat}{ds:List D}(h:HasTy Tryz.prog (m+1) 5 ds):∃x:Nat,ds=[.int .u8 (x:Int)]/\x<=255:=by
  obtain⟨g,h1,h2,h3⟩:=u5 NM h
  rw[FH]at h2;rw[Jg]at h3
  exact⟨g.toNat,by rw[h1,Int.toNat_of_nonneg h2],by omega⟩
theorem Kk {m:Nat}{ds:List D}(h:HasTy Tryz.prog (m+2) 62 ds):∃a b:Nat,mkElem Tryz.prog 62 ds=Ln a b/\a<=255/\b<=255:=by
  obtain⟨k1,k2⟩:=By Lw h
  rw[NX]at k1
  simp only[z5,Nat.mul_one]at k2
  obtain⟨a,ha,la⟩:=FG (k2 0 (by omega))
  obtain⟨b,hb,lb⟩:=FG (k2 1 (by omega))
  rw[Gu Lw]
  match ds,k1 with
  | [d0,d1],_ =>
    simp at ha hb
    exact⟨a,b,by rw[ha,hb,Ln],la,lb⟩
theorem JT {m:Nat}{ds:List D}(h:HasTy Tryz.prog (m+1) 38 ds):∃a:Int,mkElem Tryz.prog 38 ds=.int .u32 a:=by
  obtain⟨a,rfl,-,-⟩:=u5 Lx h
  exact⟨a,Gt Lx _⟩
end Go.Am
namespace Go.Am
open Go Go.Proofs
set_option maxRecDepth 100000
theorem Kw (xs:List D) (h:yL Tryz.prog 12 Tryz.f7.params.toList xs):aO Tryz.prog 7 xs (· = .bool true):=by
  have hp:Tryz.f7.params.toList=[24,38,62]:=by kernel_rfl
  rw[hp]at h
  obtain⟨c1,r1,rfl,h1,c2,r2,rfl,h2,c3,r3,rfl,h3,rfl⟩:=h
  obtain⟨bs,e1,b1,b2⟩:=Kj h1
  obtain⟨a,e2⟩:=JT h2
  obtain⟨x,y,e3,hx,hy⟩:=Kk h3
  show aO Tryz.prog 7 [mkElem Tryz.prog 24 c1,mkElem Tryz.prog 38 c2,mkElem Tryz.prog 62 c3] _
  rw[e1,e2,e3]
  exact K3 C6 b1 b2 hx hy
end Go.Am
