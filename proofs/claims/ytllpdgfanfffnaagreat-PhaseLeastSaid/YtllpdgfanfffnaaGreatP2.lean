/- What the functions of this chapter give, on plain data. No condition. -/
import Derived.Test.YtllpdgfanfffnaaGreatP1
set_option linter.unnecessarySimpa false
set_option linter.defProp false
set_option linter.unusedSectionVars false
set_option linter.unusedSimpArgs false
set_option linter.unusedVariables false
namespace Go.Am
open Go Go.Proofs
def LX (v:D) (T:List Nat) (X:List (Nat×Slot)):Prop:=(v=.sl (aL T)/\X=[])\/∃m,v=.ms m 0 T.length/\X=[(m,.arr 1 (aL T))]
section
variable {h:Heap}{L X:List (Nat×Slot)}{v w:D}{T:List Nat}{R:List (List Nat)}
theorem LX.lv (x:LX v T X) (V:Vs h (L++X)):LV h L v T:=by
  rcases x with⟨e,rfl⟩|⟨m,e,rfl⟩
  · exact Or.inl ⟨e,by simp at V;exact V⟩
  · exact Or.inr ⟨m,e,V.perm (by simpa using List.perm_append_comm (l₁:=L) (l₂:=[(m,Slot.arr 1 (aL T))]))⟩
theorem LV.lx (q:LV h L v T):∃X,LX v T X/\Vs h (L++X):=by
  rcases q with⟨e,V⟩|⟨m,e,V⟩
  · exact⟨[],Or.inl ⟨e,rfl⟩,by simp;exact V⟩
  · exact⟨_,Or.inr ⟨m,e,rfl⟩,V.perm (by simpa using (List.perm_append_comm (l₁:=L) (l₂:=[(m,Slot.arr 1 (aL T))])).symm)⟩
theorem LX.one (x:LX v T X):v.one=true/\v.cells=[v]:=by
  rcases x with⟨rfl,-⟩|⟨m,rfl,-⟩<;>exact⟨rfl,rfl⟩
theorem QD.one (q:QD h L w (R.map fun l=>.sl (aL l))):w.one=true/\w.cells=[w]:=by
  rcases q with⟨rfl,-,-⟩|⟨m,rfl,-⟩<;>exact⟨rfl,rfl⟩
theorem La {K:D->Prop}(x:LX v T X) (q:QD h (L++X) w (R.map fun l=>.sl (aL l))) (hR:R≠[]) (hK:K (.agg [.sl (aL T),.sl (R.map fun l=>.sl (aL l))])):lW K (.agg [v,w]) h:=by
  rcases q with⟨rfl,hnil,-⟩|⟨m,rfl,V⟩
  · exact absurd (by simpa using hnil) hR
  have hrow:(h m).row=some (1,R.map fun l=>.sl (aL l)):=by rw[V.get 0 _ _ rfl];rfl
  have tk:(R.map fun l=>D.sl (aL l)).take (R.map fun l=>D.sl (aL l)).length=R.map fun l=>D.sl (aL l):=List.take_length
  have okR:kR h (.ms m 0 (R.map fun l=>D.sl (aL l)).length):=⟨1,_,hrow,by omega,fun x hx y hy=>by
    have hx':x∈R.map fun l=>D.sl (aL l):=List.mem_of_mem_drop (List.mem_of_mem_take hx)
    simp only[List.mem_map]at hx'
    obtain⟨s,-,rfl⟩:=hx'
    simp[D.cells]at hy;subst hy;rfl⟩
  rcases x with⟨rfl,rfl⟩|⟨n,rfl,rfl⟩
  · have ez:(D.agg [.sl (aL T),.ms m 0 (R.map fun l=>D.sl (aL l)).length]).fzt h=.agg [.sl (aL T),.sl (R.map fun l=>.sl (aL l))]:=by
      simp only[D.fzt,D.fz,D.fzc,hrow,List.map_cons,List.map_nil,List.drop_zero,tk]
    refine⟨fun x hx=>by simp[D.cells]at hx;rcases hx with rfl|rfl<;>rfl,?_,by rw[ez];rfl,by rw[ez];exact hK⟩
    intro x hx
    simp only[D.cells,List.mem_cons,List.not_mem_nil,or_false]at hx
    rcases hx with rfl|rfl
    · trivial
    · exact okR
  · have hrn:(h n).row=some (1,aL T):=by
      have:=V.get (L.length+1) n (.arr 1 (aL T)) (by simp)
      rw[this];rfl
    have en:(aL T).length=T.length:=by simp[aL]
    have tkn:(aL T).take T.length=aL T:=by rw[<- en,List.take_length]
    have ez:(D.agg [.ms n 0 T.length,.ms m 0 (R.map fun l=>D.sl (aL l)).length]).fzt h=.agg [.sl (aL T),.sl (R.map fun l=>.sl (aL l))]:=by
      simp only[D.fzt,D.fz,D.fzc,hrow,hrn,List.map_cons,List.map_nil,List.drop_zero,tk,tkn]
    refine⟨fun x hx=>by simp[D.cells]at hx;rcases hx with rfl|rfl<;>rfl,?_,by rw[ez];rfl,by rw[ez];exact hK⟩
    intro x hx
    simp only[D.cells,List.mem_cons,List.not_mem_nil,or_false]at hx
    rcases hx with rfl|rfl
    · exact⟨1,_,hrn,by omega,fun x hx y hy=>ur x (List.mem_of_mem_drop (List.mem_of_mem_take hx)) y hy⟩
    · exact okR
end
theorem KV {c:Code}{k:Nat}:St c k↔k=0\/∃b,Path (edg c) 0 b/\k∈hU c b:=by
  constructor
  · intro h
    cases h with
    | zero=>exact Or.inl rfl
    | step h ha ht=>exact Or.inr ⟨_,Ah.2 ⟨_,h,ha⟩,ht⟩
  · rintro (rfl|⟨b,hb,ht⟩)
    · exact .zero
    · obtain⟨s,hs,ha⟩:=Ah.1 hb
      exact .step hs ha ht
theorem E8 {c:Code}{b:Nat}{B:Block}(hB:c.b[b]?=some B) (hT:BE c.b.length c.regs B.t) (hk:B.t.kind=3):∃a:Nat,B.t.to0=(a:Int)/\a<c.b.length/\hU c b=[a]:=by
  rw[nF hB,if_pos hk]
  generalize B.t=t at hT hk
  cases hT with
  | barrier a h=>exact⟨a,rfl,h,by simp[aZ]⟩
  | jump a h=>cases hk
  | branch o a b ho h1 h2=>cases hk
  | collect s d a b t hs hd ha hb h=>cases hk
  | exit=>cases hk
theorem Ku {v:D}{h:Heap}{KH:D->Heap->Prop}(hv:v.one=true/\v.cells=[v]) (hK:KH (.agg [v,.nil]) h):aa PP (.bld [.nil,.nil] [(0,1,(.c v))]) h KH:=by
  rw[oG]
  refine⟨fun p hp=>?_,?_⟩
  · simp[Arg.get]at hp
    subst hp
    exact⟨by rw[hv.2];rfl,by show 0+1<=2;omega,fun d hd=>by rw[hv.2]at hd;simp at hd;subst hd;exact hv.1⟩
  · have:(fillD [D.nil,.nil] ([(0,1,Arg.c v)].map fun p=>(p.1,p.2.1,(p.2.2.get []).cells)))=[v,.nil]:=by
      simp[fillD,Arg.get,hv.2]
    rw[this]
    exact hK
def vC (v w:D) (n17 n4 n2:Nat) (c:Code):List (Nat×Slot):=[(n17,.box (.agg [v,w])),(n4,.box (.agg [.nil,.nil])),(n2,.box c.e)]
theorem vC.put {c:Code}{h:Heap}{v w:D}{n17 n4 n2:Nat}{X:List (Nat×Slot)}{R:List (List Nat)}{w':D}{KH:D->Heap->Prop}(q:QD h (vC v w n17 n4 n2 c++X) w' (R.map fun l=>.sl (aL l)))
    (hK:∀h',QD h' (vC v w' n17 n4 n2 c++X) w' (R.map fun l=>.sl (aL l))->KH .undef h'):aa PP (.st (.c (.ptr n17 0 1)) (.c w') 1) h KH:=by
  have V:=q.vs
  have hv1:=q.one
  rw[jZ,V.get 0 _ _ rfl]
  refine⟨by rw[hv1.2];rfl,fun x hx=>by rw[hv1.2]at hx;simp at hx;subst hx;exact hv1.1,rfl,by simp,?_⟩
  have e:setCells (.agg [v,w]) 1 w'.cells=.agg [v,w']:=by rw[hv1.2];rfl
  rw[e]
  exact hK _ (q.cg 0 (s':=.box (.agg [v,w'])) rfl (by simp))
theorem vC.out {c:Code}{h:Heap}{v w:D}{n17 n4 n2:Nat}{T:List Nat}{X:List (Nat×Slot)}{R:List (List Nat)}{K:D->Prop}(x:LX v T X) (q:QD h (vC v w n17 n4 n2 c++X) w (R.map fun l=>.sl (aL l))) (hR:R≠[])
    (hK:K (.agg [.sl (aL T),.sl (R.map fun l=>.sl (aL l))])) :
    aa PP (.ld (.c (.ptr n17 0 0)) 2 true) h fun a24 h25=>aa PP (.st (.c (.ptr n4 0 0)) (.c a24) 2) h25 fun a26 h27=>aa PP (.ld (.c (.ptr n4 0 0)) 2 true) h27 fun a28 _=>lW K a28 h27:=by
  have V:=q.vs
  have h1:=x.one.1
  have h2:=q.one.1
  rw[V.xJ 0 (s:=2) rfl rfl,jZ,V.get 1 _ _ rfl]
  refine⟨rfl,fun y hy=>by simp[D.cells]at hy;rcases hy with rfl|rfl;exact h1;exact h2,rfl,by simp,?_⟩
  have e:setCells (.agg [.nil,.nil]) 0 (D.agg [v,w]).cells=.agg [v,w]:=rfl
  rw[e]
  have q6:=q.cg 1 (s':=.box (.agg [v,w])) rfl (by simp)
  generalize al h n4 (.box (.agg [v,w]))=h6 at q6
  rw[q6.vs.xJ 1 (s:=2) rfl rfl]
  exact La (L:=[(n17,.box (.agg [v,w])),(n4,.box (.agg [v,w])),(n2,.box c.e)]) x q6 hR hK
theorem QD.MI {h:Heap}{L:List (Nat×Slot)}{v d:D}{T:List D}(q:QD h L v T){z':D}{bytes:Nat}{KH:D->Heap->Prop}(hd:wL d) (h1:d.one=true) (hb:(T.length+1)*bytes<=140737488355328) (hl:T.length+1<=9223372036854775807)
    (hK:∀v h',QD h' L v (T++[d])->KH v h'):aa PP (.app (.c v) (.c (.sl [d])) 1 bytes z') h KH:=by
  have hc:d.cells.length=1:=by cases d<;>first|rfl|cases h1
  have hlen:T.length+1=(T++[d]).length:=by simp
  rcases q with⟨rfl,rfl,V⟩|⟨m,rfl,V⟩
  · refine DA (els:=[]) (Or.inl ⟨rfl,rfl⟩) hd.one hc hb hl fun m h' hm hm' hk=>hK _ _ (Or.inr ⟨m,rfl,?_⟩)
    have Vk:=V.Av (h':=h') fun k s ⟨i,hi⟩=>hk k (fun e=>by subst e;exact V.lv i k s hi ((V.get i k s hi).symm.trans hm)) (by simp[D.iB])
    rw[Vs.iff]at Vk ⊢
    refine⟨fun k s hs=>?_,?_⟩
    · rcases List.mem_cons.1 hs with e|hs
      · cases e;exact⟨hm',by simp⟩
      · exact Vk.1 k s hs
    · rw[List.map_cons,List.nodup_cons]
      refine⟨fun hmm=>?_,Vk.2⟩
      obtain⟨⟨k,s⟩,hks,rfl⟩:=List.mem_map.1 hmm
      obtain⟨i,hi⟩:=List.getElem?_of_mem hks
      exact V.lv i _ _ hi ((V.get i _ _ hi).symm.trans hm)
  · refine DA (els:=T) (Or.inr ⟨m,rfl,V.get 0 _ _ rfl⟩) hd.one hc hb hl fun m' h' hm hm' hk=>hK _ _ (Or.inr ⟨m',by rw[hlen],?_⟩)
    have V1:=V.pop
    have Vk:=V1.Av (h':=h') fun k s ⟨i,hi⟩=>hk k (fun e=>by subst e;exact V1.lv i k s hi ((V1.get i k s hi).symm.trans hm)) (fun e=>by
      simp[D.iB]at e
      exact V.ne (i+1) 0 k m s _ (by simpa using hi) rfl (by omega) e)
    rw[Vs.iff]at Vk ⊢
    refine⟨fun k s hs=>?_,?_⟩
    · rcases List.mem_cons.1 hs with e|hs
      · cases e;exact⟨hm',by simp⟩
      · exact Vk.1 k s hs
    · rw[List.map_cons,List.nodup_cons]
      refine⟨fun hmm=>?_,Vk.2⟩
      obtain⟨⟨k,s⟩,hks,rfl⟩:=List.mem_map.1 hmm
      obtain⟨i,hi⟩:=List.getElem?_of_mem hks
      exact V1.lv i _ _ hi ((V1.get i _ _ hi).symm.trans hm)
theorem LN {P:Program}{h:Heap}{K:D->Prop}{fz:Bool}{esz:Nat}{z d:D}(h1:∀y∈d.cells,y.vone=true) (h2:aK d) (h3:d.cells.length=esz) (hz:∀y∈z.cells,y.vone=true) (hK:K (.sl [d])):af P (.bldS fz esz 1 z [(0,.c d)]) h K:=by
  refine⟨fun p hp=>?_,fun p hp=>?_,hz,by simpa[setEls,Arg.get] using hK⟩
  · simp[Arg.get]at hp;subst hp;exact⟨Nat.one_pos,h3,h2⟩
  · simp[Arg.get]at hp;subst hp;exact h1
theorem A7 (c:Code):Gi c=.agg [.sl (aL (cJ c)),.sl (((cJ c).map (rl c)).map fun l=>.sl (aL l))]:=by rw[Gi,List.map_map];rfl
theorem E4 (c:Code) (s:Nat):∀d,d∈[c.e,nD s]->d.vd=true/\aK d:=fun d hd=>by simp at hd;rcases hd with rfl|rfl;exact c.kI.pair;exact aY.pair
theorem H3 {c:Code}(hc:gh c):aN PP jU [c.e] (· = Gi c):=by
  have hnb:=hc.nb
  refine bG xW (ar _ _ _) rfl (xM _ _) ?_
  unfold uU
  refine Vs.nil.box c.kI.one fun n2 h3 V1=>?_
  refine V1.alloc fun n4 h5 V2=>?_
  refine LV.one (k:=0) V2 fun v0 h7 q0=>?_
  have V3:=q0.vs
  rw[V3.xJ 1 (s:=8) rfl rfl]
  refine cn (HZ hc) (fun d hd=>by simp at hd;subst hd;exact c.kI.pair) ?_
  rintro _ ⟨S,rfl,hS,hP⟩
  have hst:(cJ c).length<=c.b.length:=lu
  have hzero:0∈cJ c:=bx.2 ⟨hnb.1,.zero⟩
  refine⟨fun q h=>∃v,q=[v]/\LV h [(n4,.box (.agg [.nil,.nil])),(n2,.box c.e)] v (cJ c),?_,?_⟩
  · rintro f h ⟨v,hq,q⟩
    simp only[List.cons.injEq,and_true]at hq
    obtain⟨X,x,V⟩:=q.lx
    rw[hq]
    refine Ku x.one ?_
    refine V.alloc fun n17 h18 V4=>?_
    refine V4.Fv (cs':=[v,.nil]) 0 rfl rfl rfl (fun y hy=>by simp at hy;rcases hy with rfl|rfl;exact x.one.1;rfl) fun h20 V5=>?_
    replace V5:Vs h20 (vC v .nil n17 n4 n2 c++X):=V5
    refine⟨fun _ h=>∃w,QD h (vC v w n17 n4 n2 c++X) w (((cJ c).map (rl c)).map fun l=>.sl (aL l)),?_,?_⟩
    · rintro f2 h2 ⟨w,q⟩
      exact vC.out x q (by intro e;rw[List.map_eq_nil_iff]at e;rw[e]at hzero;cases hzero) (A7 c).symm
    unfold oO
    refine⟨fun m q h=>∃(i:Nat) (w:D),q=[.int .i64 (i:Int)]/\i<=(cJ c).length/\m=(cJ c).length-i/\QD h (vC v w n17 n4 n2 c++X) w ((((cJ c).take i).map (rl c)).map fun l=>.sl (aL l)),_,
      ⟨0,.nil,rfl,by omega,rfl,Or.inl ⟨rfl,by simp,V5⟩⟩,?_⟩
    rintro m f2 h2 ⟨i,w,hq2,hi,hm,q⟩
    simp only[List.cons.injEq,and_true]at hq2
    have V6:=q.vs
    have lv:=x.lv V6
    rw[hq,hq2,lv.len]
    by_cases hlt:i<(cJ c).length
    · rw[xB (by omega),av]
      obtain⟨s,hs⟩:∃s,(cJ c)[i]?=some s:=⟨(cJ c)[i],List.getElem?_eq_getElem hlt⟩
      have hsN:=(bx.1 (List.mem_of_getElem? hs)).1
      have l3:∀{K:D->Prop},af PP (.ld (.c (.ptr n2 0 0)) 8 true) h2 K=K c.e:=fun {K}=>V6.Js 2 (s:=8) rfl rfl
      have lw:∀{K:D->Prop},af PP (.ld (.c (.ptr n17 0 1)) 1 false) h2 K=K w:=fun {K}=>V6.CF 0 (j:=1) rfl rfl
      simp only[↓V6.sy 0 rfl,Nat.zero_add,↓lw,↓l3]
      refine lv.DI hs ?_
      refine tB (CP hc hsN) (E4 c s) ?_
      refine LN (fun y hy=>by simp[D.cells]at hy;subst hy;rfl) A4.one rfl (fun y hy=>by simp[D.cells]at hy;subst hy;rfl) ?_
      try simp only[↓V6.sy 0 rfl,Nat.zero_add]
      have hrl:((((cJ c).take i).map (rl c)).map fun l=>D.sl (aL l)).length=i:=by simp;omega
      refine q.MI (d:=.sl (aL (rl c s))) A4 rfl (by rw[hrl];omega) (by rw[hrl];omega) fun w' h3 q3=>?_
      have e2:((((cJ c).take i).map (rl c)).map fun l=>D.sl (aL l))++[.sl (aL (rl c s))]=(((cJ c).take (i+1)).map (rl c)).map fun l=>D.sl (aL l):=by rw[List.take_add_one,hs];simp
      rw[e2]at q3
      refine vC.put q3 fun h4 q4=>?_
      rw[gk (by omega) (by omega)]
      simp only[ae,true_and]
      exact⟨_,by omega,i+1,w',by simp,by omega,rfl,q4⟩
    · have:i=(cJ c).length:=by omega
      subst this
      rw[w7 (by omega),au]
      simp only[ae,true_and]
      rw[List.take_length]at q
      exact⟨w,q⟩
  unfold oN
  refine⟨fun m q h=>∃(b:Nat) (T:List Nat) (v:D),q=[v,.int .i64 (b:Int)]/\b<=c.b.length/\m=c.b.length-b/\LV h [(n4,.box (.agg [.nil,.nil])),(n2,.box c.e)] v T/\T.Pairwise (· < ·)/\(∀k,k∈T↔k=0\/∃a,a<b/\Path (edg c) 0 a/\k∈hU c a),_,
    ⟨0,[0],v0,rfl,by omega,rfl,q0,by simp,fun k=>by simp⟩,?_⟩
  rintro m f h ⟨b,T,v,hq,hb,hm,q,hinc,hmem⟩
  simp only[List.cons.injEq,and_true]at hq
  obtain⟨hq1,hq2⟩:=hq
  have V:=q.vs
  have hTN:T.length<=c.b.length:=km (fun k hk=>by
    rcases (hmem k).1 hk with rfl|⟨a,-,-,ht⟩
    · omega
    · exact kH hc (jb ht)) (hinc.imp fun hab=>Nat.ne_of_lt hab)
  simp only[hq1,hq2,↓V.fa 1 rfl,Nat.zero_add,↓V.ig 1 (j:=7) rfl rfl,ku,List.length_map]
  by_cases hlt:b<c.b.length
  case neg =>
    have:b=c.b.length:=by omega
    subst this
    rw[w7 (by omega),au]
    simp only[ae,true_and]
    have:T=cJ c:=Dy hinc ly fun k=>by
      rw[hmem,cJ,bx,KV]
      constructor
      · rintro (rfl|⟨a,h1,h2,h3⟩)
        · exact⟨hnb.1,Or.inl rfl⟩
        · exact⟨kH hc (jb h3),Or.inr ⟨a,h2,h3⟩⟩
      · rintro⟨-,h1|⟨a,h2,h3⟩⟩
        · exact Or.inl h1
        · refine Or.inr ⟨a,?_,h2,h3⟩
          unfold hU at h3
          cases hB:c.b[a]? with
          | none=>rw[hB]at h3;cases h3
          | some B=>exact(List.getElem?_eq_some_iff.1 hB).1
    rw[this]at q
    exact⟨v,rfl,q⟩
  have hB:c.b[b]?=some c.b[b]:=List.getElem?_eq_getElem hlt
  have hTm:=hc.t _ (List.mem_of_getElem? hB)
  generalize c.b[b]=B at hB hTm
  rw[xB (by omega),av]
  refine⟨fun q h=>∃(T:List Nat) (v:D),q=[v]/\LV h [(n4,.box (.agg [.nil,.nil])),(n2,.box c.e)] v T/\T.Pairwise (· < ·)/\(∀k,k∈T↔k=0\/∃a,a<b+1/\Path (edg c) 0 a/\k∈hU c a),?_,?_⟩
  · rintro f2 h2 ⟨T',v',hq',q',hinc',hmem'⟩
    simp only[List.cons.injEq,and_true]at hq'
    rw[hq',gk (by omega) (by omega)]
    simp only[ae,true_and]
    exact⟨_,by omega,b+1,T',v',by simp,by omega,rfl,q',hinc',hmem'⟩
  have Nr:∀{KH:D->Heap->Prop},aa PP (.iadd (.c (.sl (bL S))) (.c (.int .i64 (b:Int))) 1) h KH=KH (.vp (.bool (hasB S b)) 0) h:=fun {KH} =>
    lf (esz:=1) (by omega) (by rw[Int.toNat_natCast];exact BC (uL (by omega))) rfl
  have lvb:∀{KH:D->Heap->Prop}{t:Bool},aa PP (.ld (.c (.vp (.bool t) 0)) 1 false) h KH=KH (.bool t) h:=fun {KH t}=>yX rfl
  have fv1:∀{KH:D->Heap->Prop},aa PP (.fadd (.c (.vp B.e 1)) 0) h KH=KH (.vp B.e 1) h:=fun {KH}=>rfl
  have fv12:∀{KH:D->Heap->Prop},aa PP (.fadd (.c (.vp B.e 1)) 11) h KH=KH (.vp B.e 12) h:=fun {KH}=>rfl
  have lvk:∀{KH:D->Heap->Prop},aa PP (.ld (.c (.vp B.e 1)) 1 false) h KH=KH (.int .i64 B.t.kind) h:=fun {KH}=>Hp rfl
  have same:(¬(hasB S b=true/\B.t.kind=3))->∀k,k∈T↔k=0\/∃a,a<b+1/\Path (edg c) 0 a/\k∈hU c a:=fun hn k=>by
    rw[hmem]
    constructor
    · rintro (h|⟨a,h1,h2⟩)
      · exact Or.inl h
      · exact Or.inr ⟨a,by omega,h2⟩
    · rintro (h|⟨a,h1,h2,h3⟩)
      · exact Or.inl h
      · rcases Nat.lt_or_ge a b with h4|h4
        · exact Or.inr ⟨a,h4,h2,h3⟩
        · exfalso
          have:a=b:=by omega
          subst this
          refine hn ⟨(hP a).2 h2,?_⟩
          rw[nF hB]at h3
          split at h3
          · assumption
          · cases h3
  simp only[↓Nr,↓lvb]
  cases hSb:hasB S b
  · simp only[↓gS,ae,true_and]
    exact⟨T,v,rfl,q,hinc,same (by rw[hSb];simp)⟩
  simp only[↓gS,↓V.fa 1 rfl,Nat.zero_add,↓V.ig 1 (j:=7) rfl rfl,↓Ga hB,↓Kp,↓fv1,↓lvk]
  by_cases hk:B.t.kind=3
  case neg =>
    rw[M8 hk]
    simp only[↓gS,ae,true_and]
    exact⟨T,v,rfl,q,hinc,same fun h=>hk h.2⟩
  rw[M7 hk]
  obtain⟨a,ha,haN,hout⟩:=E8 hB hTm hk
  have iv:∀{KH:D->Heap->Prop},aa PP (.iadda (.c (.vp B.e 12)) (.c (.int .i64 0)) 2 1) h KH=KH (.vp B.e 12) h:=fun {KH}=>by
    apply propext
    constructor
    · rintro⟨-,-,hk⟩;exact hk
    · intro hk;exact⟨by omega,by omega,hk⟩
  have lv12:∀{KH:D->Heap->Prop},aa PP (.ld (.c (.vp B.e 12)) 1 false) h KH=KH (nD a) h:=fun {KH}=>by
    rw[nD, <- ha];exact Hp rfl
  simp only[↓gS,↓V.fa 1 rfl,Nat.zero_add,↓V.ig 1 (j:=7) rfl rfl,↓Ga hB,↓Kp,↓fv12,↓iv,↓lv12]
  refine q.call (yl (by omega) hinc) (fun h' V'=>?_) (fun hf=>by cases hf)
  simp only[ae,true_and]
  refine⟨pg T a,_,rfl,Or.inl ⟨rfl,V'⟩,y3 hinc,fun k=>?_⟩
  rw[kE,hmem]
  constructor
  · rintro ((h|⟨x,h1,h2⟩)|h)
    · exact Or.inl h
    · exact Or.inr ⟨x,by omega,h2⟩
    · exact Or.inr ⟨b,by omega,(hP b).1 hSb,by rw[hout,h];simp⟩
  · rintro (h|⟨x,h1,h2,h3⟩)
    · exact Or.inl (Or.inl h)
    · rcases Nat.lt_or_ge x b with h4|h4
      · exact Or.inl (Or.inr ⟨x,h4,h2,h3⟩)
      · have:x=b:=by omega
        subst this
        rw[hout]at h3
        exact Or.inr (by simpa using h3)
end Go.Am
namespace Go.Am
open Go Go.Proofs
def RX (w:D) (R:List D) (X:List (Nat×Slot)):Prop:=(w=.nil/\R=[]/\X=[])\/∃m,w=.ms m 0 R.length/\X=[(m,.arr 1 R)]
section
variable {h:Heap}{L X:List (Nat×Slot)}{w:D}{R:List D}
theorem QD.rx (q:QD h L w R):∃X,RX w R X/\Vs h (L++X):=by
  rcases q with⟨e,e2,V⟩|⟨m,e,V⟩
  · exact⟨[],Or.inl ⟨e,e2,rfl⟩,by simp;exact V⟩
  · exact⟨_,Or.inr ⟨m,e,rfl⟩,V.perm (by simpa using (List.perm_append_comm (l₁:=L) (l₂:=[(m,Slot.arr 1 R)])).symm)⟩
theorem RX.qd (x:RX w R X) (V:Vs h (L++X)):QD h L w R:=by
  rcases x with⟨e,e2,rfl⟩|⟨m,e,rfl⟩
  · exact Or.inl ⟨e,e2,by simp at V;exact V⟩
  · exact Or.inr ⟨m,e,V.perm (by simpa using List.perm_append_comm (l₁:=L) (l₂:=[(m,Slot.arr 1 R)]))⟩
end
structure BL (c:Code) (T:List Nat):Prop where
  inc:T.Pairwise (· < ·)
  lt:∀k∈T,k<c.b.length
theorem BL.len {c:Code}{T:List Nat}(b:BL c T):T.length<=c.b.length:=km b.lt (b.inc.imp fun hab=>Nat.ne_of_lt hab)
theorem BL.ins {c:Code}{T:List Nat}(b:BL c T){k:Nat}(hk:k<c.b.length):BL c (pg T k):=⟨y3 b.inc,fun x hx=>by rcases kE.1 hx with h|h;exact b.lt x h;omega⟩
def KA (c:Code) (T l:List Nat):Prop:=∀a∈l,∀t,t∈hU c a->t∈T
noncomputable def G2 (c:Code) (T:List Nat):D:=.agg [.sl (aL T),.sl ((T.map (rl c)).map fun l=>.sl (aL l))]
structure Mg (c:Code) (T:List Nat):Prop where
  bl:BL c T
  st:∀k,St c k->k∈T
  cl:∀s∈T,KA c T (rl c s)
noncomputable def te (c:Code) (T:List Nat):List D:=(T.map (rl c)).map fun l=>.sl (aL l)
theorem Jz {c:Code}{more:List Nat}(hc:gh c) (hm1:∀b∈more,b<=255) (hml:more.length<=9223372036854775807):aN PP iM [c.e,nu more] (fun r=>∃T,r=G2 c T/\Mg c T):=by
  have hnb:=hc.nb
  refine bG wA (ar _ _ _) rfl (wh _ _ _) ?_
  unfold sD
  refine Vs.nil.box c.kI.one fun n3 h4 V1=>?_
  refine V1.alloc fun n5 h6 V2=>?_
  rw[V2.xJ 1 (s:=8) rfl rfl]
  refine cn (H3 hc) (fun d hd=>by simp at hd;subst hd;exact c.kI.pair) ?_
  rintro _ rfl
  refine V2.alloc fun n11 h12 V3=>?_
  rw[A7]
  refine V3.Fv (cs':=[.sl (aL (cJ c)),.sl (((cJ c).map (rl c)).map fun l=>.sl (aL l))]) 0 rfl rfl rfl (fun y hy=>by simp at hy;rcases hy with rfl|rfl<;>rfl) fun h14 V4=>?_
  have b0:BL c (cJ c):=⟨ly,fun k hk=>(bx.1 hk).1⟩
  replace V4:Vs h14 (vC (.sl (aL (cJ c))) (.sl (((cJ c).map (rl c)).map fun l=>.sl (aL l))) n11 n5 n3 c):=V4
  simp only[↓V4.fa 0 rfl,Nat.zero_add,↓V4.ig 0 (j:=0) rfl rfl]
  refine⟨fun q h=>∃(T:List Nat) (v w:D),q=[.sl (aL T)]/\Vs h (vC v w n11 n5 n3 c)/\BL c T/\(∀k,St c k->k∈T),?_,?_⟩
  · rintro f h ⟨T,v,w,hq,V,bl,hst⟩
    simp only[List.cons.injEq,and_true]at hq
    refine⟨fun q h=>∃(T:List Nat) (w:D),QD h (vC (.sl (aL T)) w n11 n5 n3 c) w (te c T)/\Mg c T,?_,?_⟩
    · rintro f2 h2 ⟨T,w,q,ls⟩
      have h0:=ls.st 0 .zero
      exact vC.out (X:=[]) (T:=T) (Or.inl ⟨rfl,rfl⟩) (by simp only[List.append_nil];exact q) (by intro e;rw[List.map_eq_nil_iff]at e;rw[e]at h0;cases h0) ⟨T,rfl,ls⟩
    unfold mP
    refine⟨fun m q h=>∃(T:List Nat) (ag:Bool),q=[.sl (aL T),.bool ag]/\BL c T/\(∀k,St c k->k∈T) /\
        ((ag=true/\m=c.b.length+1-T.length/\∃v w,Vs h (vC v w n11 n5 n3 c))\/(ag=false/\m=0/\∃w,QD h (vC (.sl (aL T)) w n11 n5 n3 c) w (te c T)/\Mg c T)),_,
      ⟨T,true,by rw[hq],bl,hst,Or.inl ⟨rfl,rfl,v,w,V⟩⟩,?_⟩
    clear hq V bl hst
    rintro m f2 h2 ⟨T0,ag,hq,bl,hst,hor⟩
    simp only[List.cons.injEq,and_true]at hq
    obtain⟨hq1,hq2⟩:=hq
    rcases hor with⟨rfl,hm,v,w,V⟩|⟨rfl,hm,w,q,ls⟩
    case inr =>
      rw[hq2,au]
      simp only[ae,true_and]
      exact⟨T0,w,q,ls⟩
    rw[hq2,av,hq1]
    refine Ku ⟨rfl,rfl⟩ ?_
    refine V.Fv (cs':=[.sl (aL T0),.nil]) 0 rfl rfl rfl (fun y hy=>by simp at hy;rcases hy with rfl|rfl<;>rfl) fun h37 V5=>?_
    replace V5:Vs h37 (vC (.sl (aL T0)) .nil n11 n5 n3 c):=V5
    have hT0:=bl.len
    unfold mQ
    refine⟨fun m q h=>∃(i:Nat) (w:D),q=[.sl (aL T0),.bool false,.int .i64 (i:Int)]/\i<=T0.length/\m=T0.length-i/\QD h (vC (.sl (aL T0)) w n11 n5 n3 c) w (te c (T0.take i))/\∀s,s∈T0.take i->KA c T0 (rl c s),_,
      ⟨0,.nil,by rw[hq1];rfl,by omega,rfl,Or.inl ⟨rfl,by simp[te],V5⟩,by simp⟩,?_⟩
    clear V V5
    rintro m3 f3 h3 ⟨i,w,hq,hi,hm3,q,hcl⟩
    simp only[List.cons.injEq,and_true]at hq
    obtain⟨p1,p2,p3⟩:=hq
    rw[p1,p2,p3,lq]
    by_cases hlt:i<T0.length
    case neg =>
      have:i=T0.length:=by omega
      subst this
      rw[w7 (by omega),au]
      simp only[ae,true_and]
      rw[List.take_length]at q hcl
      exact⟨_,by omega,T0,false,rfl,bl,hst,Or.inr ⟨rfl,rfl,w,q,bl,hst,hcl⟩⟩
    rw[xB (by omega),av]
    obtain⟨s,hs⟩:∃s,T0[i]?=some s:=⟨T0[i],List.getElem?_eq_getElem hlt⟩
    have hsN:=bl.lt s (List.mem_of_getElem? hs)
    have V:=q.vs
    have l3:∀{K:D->Prop},af PP (.ld (.c (.ptr n3 0 0)) 8 true) h3 K=K c.e:=fun {K}=>V.Js 2 (s:=8) rfl rfl
    simp only[↓l3]
    refine Il (P:=PP) (h:=h3) (KH:=fun d _=>af PP (.call eM [.c c.e,.c d]) h3 _) hs ?_
    refine tB (CP hc hsN) (E4 c s) ?_
    simp only[↓V.fa 0 rfl,Nat.zero_add,↓V.ig 0 (j:=1) rfl rfl]
    have hrl:(te c (T0.take i)).length=i:=by simp[te];omega
    refine q.push (d:=.sl (aL (rl c s))) A4 rfl (by rw[hrl];omega) (by rw[hrl];omega) fun w' h4 q4=>?_
    have e2:te c (T0.take i)++[.sl (aL (rl c s))]=te c (T0.take (i+1)):=by rw[te,te,List.take_add_one,hs];simp
    rw[e2]at q4
    have V4:=q4.vs
    simp only[↓V4.fa 0 rfl,Nat.zero_add]
    refine vC.put (X:=[]) (R:=(T0.take (i+1)).map (rl c)) (by simp only[List.append_nil];exact q4) fun h5 q5=>?_
    simp only[List.append_nil]at q5
    replace q5:QD h5 (vC (.sl (aL T0)) w' n11 n5 n3 c) w' (te c (T0.take (i+1))):=q5
    refine⟨fun q h=>∃(T:List Nat) (ag:Bool),q=[.sl (aL T),.bool ag]/\BL c T/\(∀k∈T0,k∈T)/\QD h (vC (.sl (aL T0)) w' n11 n5 n3 c) w' (te c (T0.take (i+1)))/\((ag=false/\T=T0/\KA c T0 (rl c s))\/(ag=true/\T0.length<T.length)),?_,?_⟩
    · rintro f6 h6 ⟨T,ag,hq,bl',hsub,q6,hor⟩
      simp only[List.cons.injEq,and_true]at hq
      obtain⟨g1,g2⟩:=hq
      rw[g1,g2]
      rcases hor with⟨rfl,rfl,hcl'⟩|⟨rfl,hgt⟩
      · rw[au,gk (by omega) (by omega)]
        simp only[ae,true_and]
        refine⟨_,by omega,i+1,w',by simp,by omega,rfl,q6,fun s' hs'=>?_⟩
        rw[List.take_add_one,hs]at hs'
        simp only[Option.toList_some,List.mem_append,List.mem_singleton]at hs'
        rcases hs' with h|rfl
        · exact hcl s' h
        · exact hcl'
      · rw[av]
        simp only[ae,true_and]
        have:=bl'.len
        exact⟨_,by omega,T,true,rfl,bl',fun k hk=>hsub k (hst k hk),Or.inl ⟨rfl,rfl,_,_,q6.vs⟩⟩
    unfold mR
    refine⟨fun m q h=>∃(k:Nat) (T:List Nat) (ag:Bool),q=[.sl (aL T),.bool ag,.int .i64 (k:Int)]/\k<=(rl c s).length/\m=(rl c s).length-k/\BL c T/\(∀k∈T0,k∈T)/\QD h (vC (.sl (aL T0)) w' n11 n5 n3 c) w' (te c (T0.take (i+1))) /\
        ((ag=false/\T=T0/\KA c T0 ((rl c s).take k))\/(ag=true/\T0.length<T.length)),_,
      ⟨0,T0,false,by rw[p1,p2];rfl,by omega,rfl,bl,fun k hk=>hk,q5,Or.inl ⟨rfl,rfl,by intro a ha;simp at ha⟩⟩,?_⟩
    clear V V4 q q4 q5 l3 hcl
    rintro m6 f6 h6 ⟨k,T,ag,hq,hk,hm6,bl',hsub,q6,hor⟩
    simp only[List.cons.injEq,and_true]at hq
    obtain⟨g1,g2,g3⟩:=hq
    have hrlN:(rl c s).length<=c.b.length:=lu
    rw[g1,g2,g3,lq]
    by_cases hlt6:k<(rl c s).length
    case neg =>
      have:k=(rl c s).length:=by omega
      subst this
      rw[w7 (by omega),au]
      simp only[ae,true_and]
      rw[List.take_length]at hor
      exact⟨T,ag,rfl,bl',hsub,q6,hor⟩
    rw[xB (by omega),av]
    obtain⟨a,ha⟩:∃a,(rl c s)[k]?=some a:=⟨(rl c s)[k],List.getElem?_eq_getElem hlt6⟩
    have haN:=(bx.1 (List.mem_of_getElem? ha)).1
    have hB:c.b[a]?=some c.b[a]:=List.getElem?_eq_getElem haN
    have hTm:=hc.t _ (List.mem_of_getElem? hB)
    generalize c.b[a]=B at hB hTm
    have hT:=bl'.len
    have nxt:∀(T':List Nat) (ag':Bool),((ag'=false/\T'=T0/\KA c T0 ((rl c s).take (k+1)))\/(ag'=true/\T0.length<T'.length))->BL c T'->(∀k∈T0,k∈T')->∀{h'},QD h' (vC (.sl (aL T0)) w' n11 n5 n3 c) w' (te c (T0.take (i+1))) ->
        ∃m,m<m6/\∃(k_1:Nat) (T_1:List Nat) (ag_1:Bool),[D.sl (aL T'),.bool ag',.int .i64 ((k:Int)+1)]=[.sl (aL T_1),.bool ag_1,.int .i64 (k_1:Int)]/\k_1<=(rl c s).length/\m=(rl c s).length-k_1/\BL c T_1/\(∀k∈T0,k∈T_1) /\
          QD h' (vC (.sl (aL T0)) w' n11 n5 n3 c) w' (te c (T0.take (i+1)))/\((ag_1=false/\T_1=T0/\KA c T0 ((rl c s).take k_1))\/(ag_1=true/\T0.length<T_1.length)):=fun T' ag' ho hb hsu h' hq=>⟨_,by omega,k+1,T',ag',by simp,by omega,rfl,hb,hsu,hq,ho⟩
    refine⟨fun q h=>∃(T':List Nat) (ag':Bool),q=[.sl (aL T'),.bool ag']/\((ag'=false/\T'=T0/\KA c T0 ((rl c s).take (k+1)))\/(ag'=true/\T0.length<T'.length))/\BL c T'/\(∀k∈T0,k∈T')/\QD h (vC (.sl (aL T0)) w' n11 n5 n3 c) w' (te c (T0.take (i+1))),?_,?_⟩
    · rintro f7 h7 ⟨T',ag',hq,ho,hb,hsu,q7⟩
      simp only[List.cons.injEq,and_true]at hq
      obtain⟨r1,r2⟩:=hq
      rw[r1,r2,gk (by omega) (by omega)]
      simp only[ae,true_and]
      exact nxt T' ag' ho hb hsu q7
    obtain⟨X,x,V⟩:=q6.rx
    have dda:∀{K:D->Prop},af PP (.iadd (.c (.sl (aL (rl c s)))) (.c (.int .i64 (k:Int))) 1) h6 K=K (.vp (nD a) 0):=fun {K}=>by
      rw[l8,lf (esz:=1) (d:=nD a) (by omega) (by rw[Int.toNat_natCast];exact uu ha) rfl]
    have ddl:∀{K:D->Prop},af PP (.ld (.c (.vp (nD a) 0)) 1 false) h6 K=K (nD a):=fun {K}=>HK rfl
    have ddb:∀{K:D->Prop},af PP (.iadd (.c (.sl (c.b.map Block.e))) (.c (nD a)) 14) h6 K=K (.vp B.e 0):=fun {K}=>CH hB
    simp only[↓V.sy 2 rfl,Nat.zero_add,↓V.CF 2 (j:=7) rfl rfl,↓dda,↓ddl,↓ddb,↓LL,↓CG]
    refine V.alloc fun n81 h82 V8=>?_
    refine V8.Fv (cs':=B.t.cs) 0 rfl rfl rfl (fun y hy=>by simp[Term.cs]at hy;rcases hy with rfl|rfl|rfl|rfl|rfl|rfl|rfl|rfl|rfl|rfl|rfl|rfl|rfl<;>rfl) fun h84 V9=>?_
    replace V9:Vs h84 ((n81,.box (.agg B.t.cs))::(vC (.sl (aL T0)) w' n11 n5 n3 c++X)):=V9
    have q9:QD h84 (vC (.sl (aL T0)) w' n11 n5 n3 c) w' (te c (T0.take (i+1))):=x.qd V9.pop
    have De:(¬(B.t.kind=3/\∃t,t∈hU c a/\t∉T))->((ag=false/\T=T0/\KA c T0 ((rl c s).take (k+1)))\/(ag=true/\T0.length<T.length)):=fun hn=>by
      rcases hor with⟨e1,e2,e3⟩|hgt
      · refine Or.inl ⟨e1,e2,fun a' ha' t ht=>?_⟩
        rw[List.take_add_one,ha]at ha'
        simp only[Option.toList_some,List.mem_append,List.mem_singleton]at ha'
        rcases ha' with h|rfl
        · exact e3 a' h t ht
        · refine Classical.byContradiction fun hnt=>hn ⟨?_,t,ht,by rw[e2];exact hnt⟩
          rw[nF hB]at ht
          split at ht
          · assumption
          · cases ht
      · exact Or.inr hgt
    simp only[↓V9.fa 0 rfl,Nat.zero_add,↓V9.ig 0 (j:=0) (e:=.int .i64 B.t.kind) rfl rfl]
    by_cases hk3:B.t.kind=3
    case neg =>
      rw[M8 hk3]
      simp only[↓gS,ae,true_and]
      exact⟨T,ag,rfl,De fun h=>hk3 h.1,bl',hsub,q9⟩
    rw[M7 hk3]
    obtain⟨t,hto,htN,hout⟩:=E8 hB hTm hk3
    have i0:∀{KH:D->Heap->Prop},aa PP (.iadda (.c (.ptr n81 0 11)) (.c (.int .i64 0)) 2 1) h84 KH=KH (.ptr n81 0 11) h84:=fun {KH}=>V9.MR 0 (a:=0) rfl (by omega)
    have lt11:∀{KH:D->Heap->Prop},aa PP (.ld (.c (.ptr n81 0 11)) 1 false) h84 KH=KH (nD t) h84:=fun {KH}=>by
      rw[V9.ig 0 (j:=11) (e:=.int .i64 B.t.to0) rfl rfl,hto];rfl
    simp only[↓gS,↓V9.fa 0 rfl,Nat.zero_add,↓i0,↓lt11]
    refine cn (H2 (by omega)) (sp T t) ?_
    rintro _ rfl
    by_cases htT:t∈T
    · simp only[htT,decide_true,↓gS,ae,true_and]
      exact⟨T,ag,rfl,De fun h=>by obtain⟨t',h1,h2⟩:=h.2;rw[hout]at h1;simp at h1;exact h2 (h1 ▸ htT),bl',hsub,q9⟩
    · simp only[htT,decide_false,↓gS,↓V9.fa 0 rfl,Nat.zero_add,↓i0,↓lt11]
      refine cn (yl (by omega) bl'.inc) (sp T t) ?_
      rintro _ rfl
      simp only[ae,true_and]
      refine⟨pg T t,true,rfl,Or.inr ⟨rfl,?_⟩,bl'.ins htN,fun k hk=>kE.2 (Or.inl (hsub k hk)),q9⟩
      rcases Co bl'.inc (k:=t) with⟨h1,-⟩|⟨-,h2⟩
      · exact absurd h1 htT
      · have:T0.length<=T.length:=by rcases hor with⟨-,e,-⟩|⟨-,h⟩;rw[e];exact Nat.le_refl _;omega
        omega
  unfold mO
  refine⟨fun m q h=>∃(i:Nat) (T:List Nat),q=[.sl (aL T),.int .i64 (i:Int)]/\i<=4/\m=4-i/\Vs h (vC (.sl (aL (cJ c))) (.sl (((cJ c).map (rl c)).map fun l=>.sl (aL l))) n11 n5 n3 c)/\BL c T/\(∀k,St c k->k∈T),_,
    ⟨0,cJ c,rfl,by omega,rfl,V4,b0,fun k hk=>bx.2 ⟨hk.lt hc,hk⟩⟩,?_⟩
  rintro m f h ⟨i,T,hq,hi,hm,V,bl,hst⟩
  simp only[List.cons.injEq,and_true]at hq
  obtain⟨hq1,hq2⟩:=hq
  have hlen:∀{K:D->Prop},bj (nu more) h K=K (.int .i64 (more.length:Int)):=fun {K}=>by rw[nu,ku,List.length_map]
  have hT:=bl.len
  rw[hq1,hq2,hlen]
  by_cases hlt:i<more.length
  case neg =>
    rw[w7 (by omega)]
    simp only[↓gS,ae,true_and]
    exact⟨T,_,_,rfl,V,bl,hst⟩
  rw[xB (by omega)]
  simp only[↓gS]
  by_cases h4:i<4
  case neg =>
    rw[w7 (by omega)]
    simp only[↓gS,ae,true_and]
    exact⟨T,_,_,rfl,V,bl,hst⟩
  rw[xB (by omega)]
  simp only[↓gS]
  obtain⟨b,hb⟩:∃b,more[i]?=some b:=⟨more[i],List.getElem?_eq_getElem hlt⟩
  have hb255:=hm1 b (List.mem_of_getElem? hb)
  have du:∀{K:D->Prop},af PP (.iadd (.c (nu more)) (.c (.int .i64 (i:Int))) 1) h K=K (.vp (.int .u8 (b:Int)) 0):=fun {K}=>by
    rw[l8,nu,lf (esz:=1) (d:=.int .u8 (b:Int)) (by omega) (by rw[Int.toNat_natCast,List.getElem?_map,hb];rfl) rfl]
  have dl:∀{K:D->Prop},af PP (.ld (.c (.vp (.int .u8 (b:Int)) 0)) 1 false) h K=K (.int .u8 (b:Int)):=fun {K}=>HK rfl
  have dcv:∀{K:D->Prop},af PP (.conv .i64 (.c (.int .u8 (b:Int)))) h K=K (.int .i64 (b:Int)):=fun {K}=>by
    show K (.int .i64 (IntKind.i64.wrap (b:Int)))=_
    rw[wrap64 (by omega) (by omega)]
  simp only[↓du,↓dl,↓dcv,↓V.sy 2 rfl,Nat.zero_add,↓V.CF 2 (j:=7) rfl rfl,ku,List.length_map]
  rw[MH (by omega)]
  have e1:((b:Int).tmod (c.b.length:Int))=((b % c.b.length:Nat):Int):=by rw[Int.tmod_eq_emod_of_nonneg (by omega)];rfl
  rw[e1]
  have hbN:b % c.b.length<c.b.length:=Nat.mod_lt _ (by omega)
  refine tB (yl (k:=b % c.b.length) (by omega) bl.inc) (sp T (b % c.b.length)) ?_
  rw[gk (by omega) (by omega)]
  simp only[ae,true_and]
  exact⟨_,by omega,i+1,pg T (b % c.b.length),by simp,by omega,rfl,V,bl.ins hbN,fun k hk=>kE.2 (Or.inl (hst k hk))⟩
end Go.Am
namespace Go.Am
open Go Go.Proofs
def jy (w:Int) (p:List Bool×List Nat) (b:Nat):List Bool×List Nat:=if !hasB p.1 b&&decide ((b:Int)≠w) then(p.1.set b true,p.2++[b]) else p
def frRun (E:List (List Nat)) (w:Int):Nat->List Bool->List Nat->List Bool
  | 0,S,_=>S
  | _+1,S,[]=>S
  | n+1,S,a::T=>frRun E w n (((E[a]?).getD []).foldl (jy w) (S,T)).1 (((E[a]?).getD []).foldl (jy w) (S,T)).2
def su (E:List (List Nat)) (s:Nat) (w:Int):List Bool :=
  if(s:Int)=w then List.replicate E.length false else frRun E w (3*E.length+3) ((List.replicate E.length false).set s true) [s]
def Og (E:List (List Nat)):D:=.sl (E.map fun l=>.sl (aL l))
theorem FU {E:List (List Nat)}{w:Int}{n:Nat}{S:List Bool}:frRun E w n S []=S:=by cases n<;>rfl
theorem LY {E:List (List Nat)}{s:Nat}{w:Int}(hN:E.length<=1000) (hE:∀l∈E,∀b∈l,b<E.length) (hs:s<E.length) (hEl:∀l∈E,l.length<=1000) :
    aN PP cR [Og E,nD s,.int .i64 w] (· = .sl (bL (su E s w))):=by
  refine bG xZ (ar _ _ _) rfl (xN _ _ _ _) ?_
  unfold uW Og
  rw[ku,List.length_map]
  refine Vs.nil.Oc (by omega) (by omega) fun n5 h6 V1=>?_
  rw[show List.replicate E.length (D.bool false)=bL (List.replicate E.length false) by simp[bL]]at V1
  have ret:∀(h:Heap) (S:List Bool),S.length=E.length->Vs h [(n5,.arr 1 (bL S))]->S=su E s w->lW (· = .sl (bL (su E s w))) (.ms n5 0 E.length) h:=fun h S hS V he=>by
    have hl:D.ms n5 0 E.length=.ms n5 0 (bL S).length:=by simp[bL,hS]
    rw[hl]
    refine nq (esz:=1) (by rw[V.get 0 _ _ rfl];rfl) (fun x hx y hy=>?_) (by rw[he])
    simp only[bL,List.mem_map]at hx
    obtain⟨b,-,rfl⟩:=hx
    simp[D.cells]at hy;subst hy;rfl
  simp only[nD,dE]
  by_cases hw:(s:Int)=w
  · simp only[hw,decide_true,↓av]
    exact ret _ _ (by simp) V1 (by unfold su;rw[if_pos hw])
  simp only[hw,decide_false,↓au]
  rw[V1.ia 0 rfl (by omega) (by omega),Int.toNat_natCast]
  refine V1.Mp 0 rfl (by simp[bL];exact hs) rfl (BB _) fun h11 V2=>?_
  rw[BA]at V2
  replace V2:Vs h11 [(n5,.arr 1 (bL ((List.replicate E.length false).set s true)))]:=V2
  refine QV.one (k:=s) V2 fun v h13 q0=>?_
  refine⟨fun _ h=>∃S:List Bool,S.length=E.length/\Vs h [(n5,.arr 1 (bL S))]/\S=su E s w,fun f h ⟨S,hS,V,he⟩=>ret h S hS V he,?_⟩
  unfold oP
  refine⟨fun m l h=>∃(S:List Bool) (T:List Nat) (v:D),l=[v]/\S.length=E.length/\(∀k∈T,k<E.length)/\QV h [(n5,.arr 1 (bL S))] v T/\frRun E w m S T=su E s w/\2*sU (hasB S) E.length+T.length<=m/\m<=3*E.length+3,3*E.length+3,
    ⟨_,[s],v,rfl,by simp,fun k hk=>by simp at hk;omega,q0,by unfold su;rw[if_neg hw],by have:=AW (hasB ((List.replicate E.length false).set s true)) E.length;simp only[List.length_singleton];omega,by omega⟩,?_⟩
  rintro m f h1 ⟨S,T,v,hl,hS,hT,q,hR,hm,hmb⟩
  simp only[List.cons.injEq,and_true]at hl
  simp only[hl,q.len,rZ]
  cases T with
  | nil =>
    simp only[List.length_nil,show((0:Nat):Int)=0 from rfl,Int.lt_irrefl,decide_false,↓au,ae,true_and]
    exact⟨S,hS,q.vs,by rw[<- hR,FU]⟩
  | cons a T' =>
    cases m with
    | zero=>simp at hm
    | succ m =>
    have haN:=hT a (by simp)
    have hEa:E[a]?=some E[a]:=List.getElem?_eq_getElem haN
    have hEm:=List.mem_of_getElem? hEa
    rw[frRun,hEa]at hR
    simp only[Option.getD_some]at hR
    generalize E[a]=es at hEa hEm hR
    simp only[show((0:Int)<((a::T').length:Int))=True from eq_true (by simp only[List.length_cons];omega),decide_true,↓av]
    refine q.get (i:=0) (k:=a) rfl ?_
    refine q.kY (lo:=some 1) (hi:=none) (a:=1) (b:=(a::T').length) rfl rfl (by simp) (Nat.le_refl _) (by simp) fun v' q'=>?_
    have e1:((a::T').drop 1).take ((a::T').length-1)=T':=by simp
    rw[e1]at q'
    have ide:∀{h:Heap}{KH:D->Heap->Prop},aa PP (.iadd (.c (.sl (E.map fun l=>.sl (aL l)))) (.c (nD a)) 1) h KH=KH (.vp (.sl (aL es)) 0) h:=fun {h KH}=>lf (by omega) (by rw[Int.toNat_natCast,List.getElem?_map,hEa];rfl) rfl
    unfold oQ
    refine⟨fun k l h=>∃(i:Nat) (S:List Bool) (T:List Nat) (v:D),l=[v,.int .i64 (i:Int)]/\i<=es.length/\k=es.length-i/\S.length=E.length/\(∀k∈T,k<E.length)/\QV h [(n5,.arr 1 (bL S))] v T /\
      frRun E w m ((es.drop i).foldl (jy w) (S,T)).1 ((es.drop i).foldl (jy w) (S,T)).2=su E s w/\2*sU (hasB S) E.length+T.length<=m,_,
      ⟨0,S,T',v',rfl,by omega,rfl,hS,fun k hk=>hT k (by simp[hk]),q',hR,by simp only[List.length_cons]at hm;omega⟩,?_⟩
    clear hR hm q' q hS hT hl
    rintro k f2 h2 ⟨i,S,T,v,hl2,hi,hk,hS,hT,q,hR,hm⟩
    simp only[List.cons.injEq,and_true]at hl2
    obtain⟨e8,e10⟩:=hl2
    have hel:=hEl es hEm
    simp only[e8,e10,↓ide,↓yX (d:=.sl (aL es)) rfl,lq,ml]
    by_cases hlt:i<es.length
    · have hb:es[i]?=some es[i]:=List.getElem?_eq_getElem hlt
      have hdrop:es.drop i=es[i]::es.drop (i+1):=List.drop_eq_getElem_cons hlt
      rw[hdrop,List.foldl_cons]at hR
      generalize es[i]=b at hb hR
      have hbN:b<E.length:=hE es hEm b (List.mem_of_getElem? hb)
      simp only[show((i:Int)<(es.length:Int))=True from eq_true (by omega),decide_true,↓av]
      refine⟨fun l h=>∃(S:List Bool) (T:List Nat) (v:D),l=[v]/\S.length=E.length/\(∀k∈T,k<E.length)/\QV h [(n5,.arr 1 (bL S))] v T /\
        frRun E w m ((es.drop (i+1)).foldl (jy w) (S,T)).1 ((es.drop (i+1)).foldl (jy w) (S,T)).2=su E s w/\2*sU (hasB S) E.length+T.length<=m,?_,?_⟩
      · rintro f3 h3 ⟨S,T,v,hl3,g1,g2,g3,g4,g5⟩
        simp only[List.cons.injEq,and_true]at hl3
        rw[hl3,gk (by omega) (by omega)]
        simp only[ae,true_and]
        exact⟨_,by omega,i+1,S,T,v,by simp,by omega,rfl,g1,g2,g3,g4,g5⟩
      have V:=q.vs
      simp only[↓ide,↓yX (d:=.sl (aL es)) rfl]
      refine Il hb ?_
      simp only[nD,↓V.ia 0 rfl (show(0:Int)<=(b:Int) by omega) (show(b:Int)<(E.length:Nat) by omega),Int.toNat_natCast,↓V.NO 0 rfl (BC (uL (S:=S) (k:=b) (by omega))) rfl]
      cases hbS:hasB S b
      · by_cases hbw:(b:Int)=w
        · have hst:jy w (S,T) b=(S,T):=by unfold jy;rw[if_neg (by simp[hbw])]
          rw[hst]at hR
          rw[I0]
          simp only[↓gS,Ej,hbw,decide_true,Bool.not_true,ae,true_and]
          exact⟨S,T,v,rfl,hS,hT,q,hR,hm⟩
        · have hst:jy w (S,T) b=(S.set b true,T++[b]):=by unfold jy;rw[if_pos (by simp[hbS,hbw])]
          rw[hst]at hR
          rw[I0]
          simp only[↓gS,Ej,hbw,decide_false,Bool.not_false]
          simp only[↓gS,↓V.ia 0 rfl (show(0:Int)<=(b:Int) by omega) (show(b:Int)<(E.length:Nat) by omega),Int.toNat_natCast]
          have hun:sU (hasB (S.set b true)) E.length+1<=sU (hasB S) E.length:=qV (x:=b) (fun k hk=>by rw[uK (by omega),hk];simp) hbN hbS (by rw[uK (by omega)];simp)
          refine q.Mp 0 rfl (by simp[bL];omega) rfl (BB _) fun h4 q4=>?_
          rw[BA]at q4
          replace q4:QV h4 [(n5,.arr 1 (bL (S.set b true)))] v T:=q4
          refine q4.push (k:=b) (by omega) (by omega) fun v5 h5 q5=>?_
          simp only[ae,true_and]
          exact⟨_,_,v5,rfl,by simp[hS],fun k hk=>by rcases List.mem_append.1 hk with hk|hk;exact hT k hk;simp at hk;omega,q5,hR,by rw[List.length_append,List.length_singleton];omega⟩
      · have hst:jy w (S,T) b=(S,T):=by unfold jy;rw[if_neg (by simp[hbS])]
        rw[hst]at hR
        rw[IZ]
        simp only[↓gS,ae,true_and]
        exact⟨S,T,v,rfl,hS,hT,q,hR,hm⟩
    · have hi':es.length<=i:=by omega
      simp only[show((i:Int)<(es.length:Int))=False from eq_false (by omega),decide_false,↓au,ae,true_and]
      rw[List.drop_of_length_le hi']at hR
      exact⟨m,by omega,S,T,v,rfl,hS,hT,q,hR,hm,by omega⟩
end Go.Am
