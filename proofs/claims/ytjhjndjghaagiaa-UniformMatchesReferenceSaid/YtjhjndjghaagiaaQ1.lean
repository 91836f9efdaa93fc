/- What the functions of this chapter give, on plain data. No condition. -/
import Derived.Test.YtjhjndjghaagiaaP3
set_option linter.unnecessarySimpa false
set_option linter.defProp false
set_option linter.unusedSectionVars false
set_option linter.unusedSimpArgs false
set_option linter.unusedVariables false
namespace Go.Am
open Go Go.Proofs
section
variable {h:Heap}{F:LSq}{KH:HKq}{nB:Nat}{A:List (Nat×Block)}
theorem OB.UB:OB h nB A F↔Vs h (F++(nB,.arr 14 (A.map PB))::A.map SR) :=
 ⟨fun V=>Vs.perm (List.perm_append_comm (l₁:=(nB,.arr 14 (A.map PB))::A.map SR) (l₂:=F)) V,fun V=>V.perm (List.perm_append_comm (l₁:=F) (l₂:=(nB,.arr 14 (A.map PB))::A.map SR))⟩
theorem OB.alloc (V:OB h nB A F){d:D}(hK:∀n h',OB h' nB A ((n,.box d)::F)->KH (.ptr n 0 0) h'):aa PP (.alloc d) h KH :=
 (OB.UB.1 V).alloc fun n h' V'=>hK n h' (OB.UB.2 V')
theorem OB.less {x:Nat×Slot}(V:OB h nB A (x::F)):OB h nB A F:=OB.UB.2 (OB.UB.1 V).pop
end
section
variable {c:Code}{h:Heap}{nA nL nB n13 n2:Nat}{bs:List Nat}{A:List (Nat×Block)}
end
end Go.Am
namespace Go.Am
open Go Go.Proofs
theorem JN (bs:List Nat):sx (BH bs):=ez (by simp[xH])
end Go.Am
namespace Go.Am
open Go Go.Proofs
section
variable {c:Code}{nU nR nu n4 n2 nr N:Nat}{U R:List Bool}{X:LSq}{vD:D}{P:List Bool->List Bool->Prop}{h:Heap}{t:Bool}
end
def Le (A B:List Bool):Prop:=∀k,hasB A k=true->hasB B k=true
theorem Le.set {A B:List Bool}(h:Le A B){i:Nat}{b:Bool}(hb:b=true->hasB A i=true):Le (A.set i b) B:=fun k hk=>by
 unfold hasB at hk
 rw[List.getElem?_set]at hk
 split at hk
 ·rename_i e;subst e
  split at hk
  ·simp at hk;exact h i (hb hk)
  ·simp at hk
 ·exact h k hk
section
variable {c:Code}{nU nR nu n4 n2 nr:Nat}{U R:List Bool}{X:LSq}{h:Heap}{ms:List Nat}{vt:D}
end
end Go.Am
namespace Go.Am
open Go Go.Proofs
theorem Pq {c:Code}(hc:dX c):(iB c).all (cP (ED c (iB c)) (Er c (iB c)))=true:=by
 rw[List.all_eq_true]
 intro r hr
 have ok:=C5 hc r hr
 refine fp.2 fun hg=>?_
 have:=Gf.closed _ r hr ((Nj ok.of).1 hg)
 exact⟨this.1,fun f hf=>(Nj (ok.needs f hf)).2 (this.2 f hf)⟩
theorem Dr.le {c:Code}{U0 R0:List Bool}:Dr c fun U R=>Le U U0/\Le R R0:=fun U R r _ _ hp _ _ _=>by
 unfold oP
 split
 ·exact⟨hp.1.set fun h=>(by cases h),hp.2⟩
 ·exact⟨hp.1,hp.2.set fun h=>(by cases h)⟩
end Go.Am
namespace Go.Am
open Go Go.Proofs
theorem SH {c:Code}(hc:bS c){f:FuncId}{ds:List D}{h:Heap}{L:LSq}{K:HKq}(V:Vs h L) (hk:Ed c->ai PP f (c.e::ds) h K):ai PP f (c.e::ds) h K:=by
 intro x w vals hh hp hr hs hrel
 have hA:=Fw hc V (KH:=fun _ _=>Ed c) fun v h' O O' at' U Dd _=>⟨O,O',at',U,Dd⟩
 have:=hA x w #[vals.getD 0 Go.undef] hh hp hr rfl fun i d hd=>by
  cases i with
  | zero=>simp at hd;subst hd;exact hrel 0 c.e rfl
  | succ i=>simp at hd
 obtain⟨e,w',fr,⟨v,r,ρ,h',-,-,-,-,-,hD⟩,-⟩:=this []
 exact hk hD x w vals hh hp hr hs hrel
theorem Sp {c:Code}{U R:List Bool}(h1:U.length=c.b.length) (h2:(R.length:Int)=c.regs) (h3:(iB c).all (cP U R)=true):ky c U R=true:=by
 unfold ky;rw[h3,decide_eq_true h1,decide_eq_true h2];rfl
structure SO (A B C:List Bool) (i:Nat):Prop where
 len:C.length=A.length
 el:∀k,k<A.length->hasB C k=(hasB A k||(decide (k<i)&&hasB B k))
theorem SO.zero {A B:List Bool}:SO A B A 0:=⟨rfl,fun k hk=>by simp⟩
theorem SO.set {A B C:List Bool}{i:Nat}(o:SO A B C i) (hi:i<A.length):SO A B (C.set i (hasB C i||hasB B i)) (i+1):=by
 refine⟨by rw[List.length_set,o.len],fun k hk=>?_⟩
 have e:hasB (C.set i (hasB C i||hasB B i)) k=if k=i then(hasB C i||hasB B i) else hasB C k:=by
  unfold hasB
  rw[List.getElem?_set]
  by_cases h:i=k
  ·subst h;simp[o.len,hi]
  ·rw[if_neg h,if_neg (Ne.symm h)]
 rw[e]
 by_cases h:k=i
 ·subst h;rw[if_pos rfl,o.el k hk];simp
 ·rw[if_neg h,o.el k hk]
  congr 2
  exact decide_eq_decide.2 (by omega)
theorem SO.all {A B C:List Bool}(o:SO A B C A.length) (hb:B.length=A.length) (k:Nat):hasB C k=true↔hasB A k=true\/hasB B k=true:=by
 by_cases hk:k<A.length
 ·rw[o.el k hk,decide_eq_true hk];simp
 ·have:∀{X:List Bool},X.length=A.length->hasB X k=false:=fun h=>by unfold hasB;rw[List.getElem?_eq_none (by omega)];rfl
  rw[this o.len,this rfl,this hb];simp
end Go.Am
namespace Go.Am
open Go Go.Proofs
set_option maxRecDepth 100000
theorem Tv {h:Heap}{L:LSq}{U R:List Bool}{nU nR a b:Nat}{K:D->Prop}(ha:a=U.length) (hb:b=R.length) (V:Vs h ((nR,.arr 1 (bL R))::(nU,.arr 1 (bL U))::L)) (hK:K (uE U R)):sy K (.agg [.ms nU 0 a,.ms nR 0 b]) h:=by
 subst ha;subst hb
 have e1:(h nU).row=some (1,bL U):=by rw[V.get 1 _ _ rfl];rfl
 have e2:(h nR).row=some (1,bL R):=by rw[V.get 0 _ _ rfl];rfl
 have bv:∀(S:List Bool) x,x∈bL S->∀y∈x.cells,y.vone=true:=fun S x hx y hy=>by
  simp only[bL,List.mem_map]at hx;obtain⟨b,-,rfl⟩:=hx
  simp[D.cells]at hy;subst hy;rfl
 have ef:(D.agg [.ms nU 0 U.length,.ms nR 0 R.length]).fzt h=uE U R:=by
  simp only[D.fzt,D.fz,D.fzc,List.map_cons,List.map_nil,e1,e2,List.drop_zero]
  rw[List.take_of_length_le (by rw[gX];omega),List.take_of_length_le (by rw[gX];omega)];rfl
 refine⟨fun x hx=>?_,fun x hx=>?_,?_,?_⟩
 ·simp[D.cells]at hx;rcases hx with rfl|rfl<;>rfl
 ·simp[D.cells]at hx
  rcases hx with rfl|rfl
  ·exact⟨1,_,e1,by rw[gX];omega,fun x hx y hy=>bv _ x (List.mem_of_mem_drop (List.mem_of_mem_take hx)) y hy⟩
  ·exact⟨1,_,e2,by rw[gX];omega,fun x hx y hy=>bv _ x (List.mem_of_mem_drop (List.mem_of_mem_take hx)) y hy⟩
 ·rw[ef];rfl
 ·rw[ef];exact hK
theorem Ug {c:Code}{nr:Nat}(hr:c.regs=(nr:Int)) (hn:c.b.length<=1000/\nr<=1000){t:Bool}:aY PP gp [c.e,.bool t] (· = uE (List.replicate c.b.length t) (List.replicate nr t)):=by
 refine bx tZ (aJ _ _ _) rfl (tB _ _ _) (Qp hr hn Vs.nil fun nU nR h' V=>?_)
 exact Tv (by simp) (by simp) V rfl
def Un (len esz:Nat) (ps:List (Nat×Arg)) (z:D):Bool:=(ps.all fun p=>decide (p.1<len)&&decide ((p.2.get []).cells.length=esz)&&((p.2.get []).cells.all fun y=>y.one&&y.vone))&&z.cells.all D.vone
theorem Gg {fz:Bool}{esz len:Nat}{z r:D}{ps:List (Nat×Arg)}{h:Heap}{K:D->Prop}(hb:Un len esz ps z=true) (hr:.sl (setEls (List.replicate len z) (ps.map fun p=>(p.1,p.2.get [])))=r) (hk:K r):ae PP (.bldS fz esz len z ps) h K:=by
 unfold Un at hb
 simp only[Bool.and_eq_true,List.all_eq_true,decide_eq_true_eq]at hb
 obtain⟨h1,h2⟩:=hb
 refine⟨fun p hp=>?_,fun p hp=>?_,h2,by rw[hr];exact hk⟩
 ·simp only[List.mem_map]at hp
  obtain⟨q,hq,rfl⟩:=hp
  exact⟨(h1 q hq).1.1,(h1 q hq).1.2,fun y hy=>((h1 q hq).2 y hy).1⟩
 ·simp only[List.mem_map]at hp
  obtain⟨q,hq,rfl⟩:=hp
  exact fun y hy=>((h1 q hq).2 y hy).2
theorem Vs.Uo {h:Heap}{L:LSq}{KH:HKq}(V:Vs h L){a b c d e:Bool}{z:D}(hK:∀n h',Vs h' ((n,.arr 1 (bL [a,b,c,d,e]))::L)->KH (.ms n 0 5) h'):aa PP (.bldS true 1 5 z [(0,.c (.bool a)),(1,.c (.bool b)),(2,.c (.bool c)),(3,.c (.bool d)),(4,.c (.bool e))]) h KH:=by
 refine⟨fun p hp=>?_,fun _ p hp=>?_,fun n t=>?_⟩
 ·simp[Arg.get]at hp
  rcases hp with rfl|rfl|rfl|rfl|rfl<;>exact⟨by simp,rfl,fun x hx=>by simp[D.cells]at hx;subst hx;rfl⟩
 ·simp[Arg.get]at hp
  rcases hp with rfl|rfl|rfl|rfl|rfl<;>exact fun x hx=>by simp[D.cells]at hx;subst hx;trivial
 ·have:=hK n _ (V.push t.free (s:=.arr 1 (bL [a,b,c,d,e])) (by simp))
  simpa[Arg.get,setEls,D.fz,D.fzc,D.nm,D.jV,Heap.freezeAll,bL,List.replicate] using this
theorem Kp {h:Heap}{L:LSq}{KH:HKq}{A B:List Bool}{n k:Nat}(V:Vs h L) (hm:(n,Slot.arr 1 (bL B))∈L) (hk:k=B.length) (hl:A.length<=1000000) (hK:KH (.bool (decide (A=B))) h):ai PP cB [.sl (bL A),.ms n 0 k] h KH:=by
 subst hk
 have e2:(h n).row=some (1,bL B):=by rw[V.mem hm];rfl
 have f2:(D.ms n 0 B.length).fz h=.sl (bL B):=by
  simp only[D.fz,D.fzc,e2,List.drop_zero]
  rw[List.take_of_length_le (by rw[gX];omega)]
 obtain⟨g1,g2,g3⟩:=qU (h:=h) (d:=.sl (bL A)) mT.pair.1
 refine ai.mono ?_ (gw (K:=(· = .bool (decide (A=B)))) ?_ ?_)
 ·rintro d h' ⟨rfl,h2,-⟩
  rw[h2 (Or.inl rfl)];exact hK
 ·simp only[List.map_cons,List.map_nil,f2,g1]
  exact tm hl
 ·intro d hd
  simp at hd
  rcases hd with rfl|rfl
  ·exact⟨mT.pair.2,g3,by rw[g1];exact mT.pair.1⟩
  ·refine⟨fun x hx=>by simp[D.cells]at hx;subst hx;rfl,fun x hx=>?_,by rw[f2];exact mT.pair.1⟩
   simp[D.cells]at hx;subst hx
   refine⟨1,_,e2,by rw[gX];omega,fun x hx y hy=>?_⟩
   have:=List.mem_of_mem_drop (List.mem_of_mem_take hx)
   simp only[bL,List.mem_map]at this
   obtain⟨b,-,rfl⟩:=this
   simp[D.cells]at hy;subst hy;rfl
def QL (B:Block):D:=.agg (.nil::B.t.cs)
def PF:D:=.agg [.int .i64 4,.int .i64 1,.int .i64 5,.int .i64 0,.int .i64 0,.nil,.nil,.sl [xm.e,Ar.e,QL Aq,DF.e,QL EE]]
theorem Lu:aY PP lF [] (· = PF):=by
 refine bx xD (aJ _ _ _) rfl (xv _) ?_
 unfold rf
 have reg:∀{n:Int}{h:Heap}{K:D->Prop},K (fe n).e->ae PP (.call bt [.c (.int .i64 n)]) h K:=fun {n h K} hk=>qD (r:=(fe n).e) pD (fun d hd=>by simp[Arg.get]at hd;subst hd;exact aW.pair) hk
 have cst:∀{n:Int}{h:Heap}{K:D->Prop},K (Const n).e->ae PP (.call cK [.c (.int .i32 n)]) h K:=fun {n h K} hk=>qD (r:=(Const n).e) qG (fun d hd=>by simp[Arg.get]at hd;subst hd;exact aW.pair) hk
 refine Vs.nil.alloc fun n1 h2 V2=>?_
 rw[ew rfl,ew rfl]
 refine V2.alloc fun n7 h8 V8=>?_
 refine V8.p8 (cs':=(⟨1,0,aj,aj,aj,2,0⟩:Term).cs) 0 rfl rfl rfl (fun y hy=>(⟨1,0,aj,aj,aj,2,0⟩:Term).dS.one y hy) fun h10 V10=>?_
 simp only[List.set_cons_zero]at V10
 refine bO pD (fun d hd=>by simp at hd;subst hd;exact aW.pair) ?_
 rintro _ rfl
 rw[ew rfl]
 refine V10.alloc fun n15 h16 V16=>?_
 refine V16.p8 (cs':=(⟨5,2,0,fe 0,aj,aj,aj⟩:aX).cs) 0 rfl rfl rfl (fun y hy=>(⟨5,2,0,fe 0,aj,aj,aj⟩:aX).dS.one y hy) fun h18 V18=>?_
 simp only[List.set_cons_zero]at V18
 refine bO pD (fun d hd=>by simp at hd;subst hd;exact aW.pair) ?_
 rintro _ rfl
 rw[ew rfl]
 refine V18.alloc fun n23 h24 V24=>?_
 refine V24.p8 (cs':=(⟨5,3,0,fe 1,aj,aj,aj⟩:aX).cs) 0 rfl rfl rfl (fun y hy=>(⟨5,3,0,fe 1,aj,aj,aj⟩:aX).dS.one y hy) fun h26 V26=>?_
 simp only[List.set_cons_zero]at V26
 rw[V26.tc 1 (s:=15) rfl rfl,V26.tc 0 (s:=15) rfl rfl]
 refine Gg (r:=.sl (xm.i.map aX.e)) rfl rfl ?_
 refine reg ?_
 rw[dB rfl,dB rfl,dB rfl]
 refine reg (cst ?_)
 rw[dB rfl]
 refine Gg (r:=.sl (Ar.i.map aX.e)) rfl rfl ?_
 rw[V26.tc 2 (s:=13) rfl rfl,dB rfl]
 refine reg ?_
 rw[dB rfl,dB rfl,dB rfl]
 refine reg (reg ?_)
 rw[dB rfl]
 refine Gg (r:=.sl (DF.i.map aX.e)) rfl rfl ?_
 rw[dB rfl,dB rfl,dB rfl,dB rfl,dB rfl]
 refine Gg (r:=.sl [xm.e,Ar.e,QL Aq,DF.e,QL EE]) rfl rfl ?_
 rw[dB rfl]
 refine V26.p8 (cs':=[.int .i64 4,.int .i64 1,.int .i64 5,.int .i64 0,.int .i64 0,.nil,.nil,.sl [xm.e,Ar.e,QL Aq,DF.e,QL EE]]) 3 rfl rfl rfl (fun y hy=>by simp at hy;rcases hy with rfl|rfl|rfl|rfl|rfl|rfl|rfl<;>rfl) fun h56 V56=>?_
 simp only[List.set_cons_succ,List.set_cons_zero]at V56
 rw[V56.lI 3 (s:=8) rfl rfl]
 exact⟨fun y hy=>by simp[D.cells]at hy;rcases hy with rfl|rfl|rfl|rfl|rfl|rfl|rfl<;>rfl,fun y hy=>by simp[D.cells]at hy;rcases hy with rfl|rfl|rfl|rfl|rfl|rfl|rfl<;>trivial,rfl,rfl⟩
theorem TU:Kr [PF] [ek.e]:=by
 have nb:∀t:Term,Wk (.agg (.nil::t.cs)) (.agg (.sl []::t.cs)):=fun t=>.agg _ _ rfl fun i x y h1 h2=>by
  cases i with
  | zero=>cases h1;cases h2;exact .nil
  | succ i=>rw[List.getElem?_cons_succ]at h1 h2;rw[h1]at h2;cases h2;exact .refl _
 refine .cons (.agg _ _ rfl fun i x y h1 h2=>?_) .nil
 match i with
 | 0|1|2|3|4=>cases h1;cases h2;exact .refl _
 | 5|6=>cases h1;cases h2;exact .nil
 | 7 =>
  cases h1;cases h2
  refine .sl _ _ rfl fun i x y h1 h2=>?_
  match i with
  | 0|1|3=>cases h1;cases h2;exact .refl _
  | 2|4=>cases h1;cases h2;exact nb _
  | i+5=>cases h1
 | i+8=>cases h1
theorem ND {d:D}:Kr [PF,d] [ek.e,d]:=by
 have:=TU
 cases this with
 | cons h k=>exact .cons h (.cons (.refl _) .nil)
theorem yy:sx PF:=ez (by simp[D.vone])
theorem PD:ky ek [true,true,true,true,true] [true,true,true,true,true]=false:=by
 cases h:ky ek [true,true,true,true,true] [true,true,true,true,true]
 ·rfl
 ·exfalso
  unfold ky at h
  simp only[Bool.and_eq_true,List.all_eq_true]at h
  obtain⟨r,hr,ho,hv⟩:=Hu
  have:=(fp.1 (h.2 r hr) (by rw[ho];rfl)).1
  rw[hv]at this;cases this
theorem PE:ky ek [false,false,false,false,false] [false,false,false,false,false]=true:=by
 unfold ky
 have:(iB ek).all (cP [false,false,false,false,false] [false,false,false,false,false])=true:=by
  rw[List.all_eq_true]
  refine fun r hr=>fp.2 fun hg=>?_
  exfalso
  unfold gF xX at hg
  have key:∀k,hasB [false,false,false,false,false] k=false:=fun k=>by
   unfold hasB
   match k with
   | 0|1|2|3|4=>rfl
   | k+5=>rfl
  split at hg<;>rw[key]at hg<;>cases hg
 rw[this];rfl
theorem HG:aY PP ko [] (· = .bool true):=by
 refine bx ue (aJ _ _ _) rfl (tH _) ?_
 unfold oj
 refine bO Lu (fun d hd=>by simp at hd) ?_
 rintro _ rfl
 refine Vs.nil.alloc fun n3 h4 V4=>?_
 refine V4.p8 0 rfl rfl rfl (fun y hy=>yy.one y hy) fun h6 V6=>?_
 simp only[List.set_cons_zero]at V6
 rw[V6.lI 0 (s:=8) rfl rfl,show D.agg [.int .i64 4,.int .i64 1,.int .i64 5,.int .i64 0,.int .i64 0,.nil,.nil,.sl [xm.e,Ar.e,QL Aq,DF.e,QL EE]]=PF from rfl]
 refine bO (aY.arg TU (NZ Fe)) (fun d hd=>by simp at hd;subst hd;exact yy.pair) ?_
 rintro _ ⟨rfl,hD⟩
 unfold uF
 rw[TY hD,TZ hD]
 refine V6.alloc fun n11 h12 V12=>?_
 refine V12.p8 0 rfl rfl rfl (fun y hy=>BP.one y hy) fun h14 V14=>?_
 simp only[List.set_cons_zero]at V14
 have l3:∀{K:D->Prop},ae PP (.ld (.c (.ptr n3 0 0)) 8 true) h14 K=K PF:=fun {K}=>V14.tc 1 (s:=8) rfl rfl
 have chk:∀{U R:List Bool}{K:D->Prop},K (.int .i64 (if ky ek U R then 0 else 100))->ae PP (.call bC [.c PF,.c (uE U R)]) h14 K:=fun {U R K} hk =>
  qD (r:=.int .i64 (if ky ek U R then 0 else 100)) (aY.arg ND (Gj Fe (Or.inl rfl) (Or.inl rfl))) (fun d hd=>by simp[Arg.get]at hd;rcases hd with rfl|rfl;exact yy.pair;exact BP.pair) hk
 have chkN:∀{K:D->Prop},K (.int .i64 (if ky ek [] [] then 0 else 100))->ae PP (.call bC [.c PF,.c (.agg [.nil,.nil])]) h14 K:=fun {K} hk =>
  qD (r:=.int .i64 (if ky ek [] [] then 0 else 100)) (aY.arg ND (Gj Fe (Or.inr ⟨rfl,rfl⟩) (Or.inr ⟨rfl,rfl⟩))) (fun d hd=>by simp[Arg.get]at hd;rcases hd with rfl|rfl;exact yy.pair;exact(ez (by simp[D.vone])).pair) hk
 have all:∀{t:Bool}{K:D->Prop},K (uE [t,t,t,t,t] [t,t,t,t,t])->ae PP (.call gp [.c PF,.c (.bool t)]) h14 K:=fun {t K} hk =>
  qD (r:=uE [t,t,t,t,t] [t,t,t,t,t]) (aY.arg ND (Ug (c:=ek) (nr:=5) rfl ⟨by decide,by decide⟩)) (fun d hd=>by simp[Arg.get]at hd;rcases hd with rfl|rfl;exact yy.pair;exact NL.pair) hk
 have hk:=Pq Fe
 rw[TY hD,TZ hD]at hk
 rw[l3,V14.tc 0 (s:=2) rfl rfl]
 refine chk (U:=[true,false,true,true,true]) (R:=[false,true,false,true,true]) ?_
 rw[Sp rfl rfl hk,if_pos rfl,gK,decide_eq_true rfl]
 simp only[EP,Bool.not_true]
 rw[l3,l3]
 refine all ?_
 refine chk ?_
 rw[PE,if_pos rfl,gK,decide_eq_true rfl,iK,cq]
 simp only[EP,Bool.not_true,aE,if_false]
 rw[l3,l3]
 refine all ?_
 refine chk ?_
 rw[PD]
 simp only[aE,if_false]
 rw[gK,decide_eq_true rfl,iK,cq]
 simp only[EP,Bool.not_true,aE,if_false]
 rw[l3,dB rfl]
 refine chkN ?_
 rw[show ky ek [] []=false from rfl]
 simp only[aE,if_false]
 rw[gK,decide_eq_true rfl,iK,cq]
 simp only[Bool.not_true,aE,if_false]
 rw[af,V14.fa 0 rfl,V14.cx 0 (j:=0+0) rfl rfl]
 refine V14.Uo fun n82 h83 V83=>?_
 refine Kp V83 (B:=[true,false,true,true,true]) (by simp) rfl (by decide) ?_
 rw[decide_eq_true rfl]
 simp only[gD,Bool.not_false,Bool.not_true,aE,if_true,if_false]
 rw[V83.fa 1 rfl,V83.cx 1 (j:=0+1) rfl rfl]
 refine V83.Uo fun n99 h100 V100=>?_
 refine Kp V100 (B:=[false,true,false,true,true]) (by simp) rfl (by decide) ?_
 rw[decide_eq_true rfl]
 first|rw[bw]|(simp only[gD,if_true];rw[bw])
end Go.Am
namespace Go.Am
open Go Go.Proofs
set_option maxRecDepth 100000
def LZ (p:Nat×Nat×Nat):D:=.agg [.int .u8 (p.1:Int),.int .u8 (p.2.1:Int),.int .u8 (p.2.2:Int)]
def Mu (xs:List (Nat×Nat×Nat)):D:=.sl (xs.map LZ)
def bN (t:Term):D:=.agg (.nil::t.cs)
def cN (ts:List Term):D:=.agg [.int .i64 4,.int .i64 2,.int .i64 1,.int .i64 0,.int .i64 0,.nil,.nil,.sl (ts.map bN)]
def cT (ts:List Term):Code:=⟨4,2,1,0,0,[],[],ts.map fun t=>⟨[],t⟩⟩
theorem Vv {ts:List Term}:Wk (cN ts) (cT ts).e:=by
 refine .agg _ _ rfl fun i x y h1 h2=>?_
 match i with
 | 0|1|2|3|4=>cases h1;cases h2;exact .refl _
 | 5|6=>cases h1;cases h2;exact .nil
 | 7 =>
  cases h1;cases h2
  rw[show(cT ts).b.map Block.e=ts.map fun t=>Block.e ⟨[],t⟩ by simp[cT]]
  refine Wk.Ty ts fun t _=>.agg _ _ rfl fun i x y h1 h2=>?_
  cases i with
  | zero=>cases h1;cases h2;exact .nil
  | succ i=>rw[List.getElem?_cons_succ]at h1 h2;rw[h1]at h2;cases h2;exact .refl _
 | i+8=>cases h1
theorem Uh {ts:List Term}(h1:1<=ts.length/\ts.length<=8) (h:∀t∈ts,xJ ts.length 1 t):dX (cT ts):=by
 refine⟨⟨⟨by simp[cT];omega,by simp[cT];omega⟩,fun B hB=>?_⟩,fun B hB x hx=>?_,fun B hB=>?_,by simp[cT]⟩
 ·simp only[cT,List.mem_map]at hB
  obtain⟨t,ht,rfl⟩:=hB
  have:=h t ht
  simpa[cT] using this
 ·simp only[cT,List.mem_map]at hB
  obtain⟨t,ht,rfl⟩:=hB
  simp at hx
 ·simp only[cT,List.mem_map]at hB
  obtain⟨t,ht,rfl⟩:=hB
  simp
section
variable {esz:Nat}{h:Heap}{L:LSq}{v:D}{T:List D}{KH:HKq}
theorem QE.UD (q:QE esz h L v T) (i:Nat){n j s:Nat}{cs ds:List D}(hi:L[i]?=some (n,.box (.agg cs))) (hl:ds.length=s) (hj:j+s<=cs.length) (ho:∀x∈ds,x.one=true)
  (hK:∀h',QE esz h' (L.set i (n,.box (.agg (cs.take j++ds++cs.drop (j+ds.length))))) v T->KH .undef h'):aa PP (.st (.c (.ptr n 0 j)) (.c (.agg ds)) s) h KH:=by
 rw[mQ,q.vs.get i _ _ hi]
 exact⟨hl,ho,rfl,hj,hK _ (q.cc i hi (by simp))⟩
theorem QE.FH (q:QE esz h L v T) (i:Nat){n j:Nat}{cs:List D}{d:D}(hi:L[i]?=some (n,.box (.agg cs))) (hj:j<cs.length) (ho:d.one=true)
  (hK:∀h',QE esz h' (L.set i (n,.box (.agg (cs.set j d)))) v T->KH .undef h'):aa PP (.st (.c (.ptr n 0 j)) (.c d) 1) h KH:=by
 rw[mQ,q.vs.get i _ _ hi]
 have hc:d.cells=[d]:=by cases d<;>first|rfl|cases ho
 refine⟨by rw[hc];rfl,fun x hx=>by rw[hc]at hx;simp at hx;subst hx;exact ho,rfl,by show j+1<=cs.length;omega,?_⟩
 have e:setCells (.agg cs) j d.cells=.agg (cs.set j d):=by
  rw[hc]
  show D.agg (cs.take j++[d]++cs.drop (j+1))=_
  rw[List.set_eq_take_append_cons_drop,if_pos hj]
  simp
 rw[e]
 exact hK _ (q.cc i hi (by simp))
end
theorem Vg {d:D}{h:Heap}{KH:HKq}:aa PP (.iadda (.c (.vp d 0)) (.c (.int .i64 0)) 3 1) h KH=KH (.vp d 0) h:=by
 simp[aa,vcOp,Arg.get,vint]
theorem Vf {d:D}{h:Heap}{KH:HKq}:aa PP (.iadda (.c (.vp d 0)) (.c (.int .i64 1)) 3 1) h KH=KH (.vp d 1) h:=by
 simp[aa,vcOp,Arg.get,vint]
theorem Ve {d:D}{h:Heap}{KH:HKq}:aa PP (.iadda (.c (.vp d 0)) (.c (.int .i64 2)) 3 1) h KH=KH (.vp d 2) h:=by
 simp[aa,vcOp,Arg.get,vint]
def QU (n6 n2:Nat) (v:D):LSq:=[(n6,.box (.agg [.int .i64 4,.int .i64 2,.int .i64 1,.int .i64 0,.int .i64 0,.nil,.nil,v])),(n2,.box (.agg [.int .i64 0,.int .i64 0,.int .i64 0,.int .i64 0,.int .i64 0,.nil,.nil,.nil]))]
theorem Kj {k k':IntKind}{a:Int}{h:Heap}{K:D->Prop}:ae PP (.conv k (.c (.int k' a))) h K=K (.int k (k.wrap a)):=rfl
theorem PR {xs:List (Nat×Nat×Nat)}(hb:∀p∈xs,p.1<=255/\p.2.1<=255/\p.2.2<=255){N n6 n2:Nat}(hN:1<=N/\N<=8) (hx:xs.length<=9223372036854775807){h:Heap}(q:QE 14 h (QU n6 n2 .nil) .nil []){J:HJq}(hJ:∀h' v (ts:List Term),ts.length=N->(∀t∈ts,xJ N 1 t)->QE 14 h' (QU n6 n2 v) v (ts.map bN)->J [] h') :
  lN h (.int .i64 (N:Int)) (.ptr n6 0 0) (Mu xs) (.ptr n2 0 0) J:=by
 unfold lN
 refine⟨fun m l h'=>∃(i:Nat) (v:D) (ts:List Term),l=[nD i]/\i<=N/\m=N-i/\ts.length=i/\(∀t∈ts,xJ N 1 t)/\QE 14 h' (QU n6 n2 v) v (ts.map bN),_,⟨0,.nil,[],rfl,by omega,rfl,rfl,fun t ht=>(by cases ht),q⟩,?_⟩
 rintro m f h1 ⟨i,v,ts,hq,hi,hm,htl,hts,q1⟩
 simp only[aq,and_true]at hq
 rw[hq]
 by_cases hlt:¬i<N
 ·have:i=N:=by omega
  subst this
  rw[nD,jX (by omega),af]
  simp only[ab,true_and]
  exact hJ h1 v ts htl hts q1
 replace hlt:i<N:=Decidable.not_not.1 hlt
 rw[nD,jZ (by omega),ag,ew rfl]
 refine q1.alloc fun n30 h31 q31=>?_
 refine q31.p8 (cs':=(⟨5,0,aj,aj,aj,0,0⟩:Term).cs) rfl rfl (fun y hy=>(⟨5,0,aj,aj,aj,0,0⟩:Term).dS.one y hy) fun h33 q33=>?_
 refine⟨fun _ h'=>∃t:Term,xJ N 1 t/\QE 14 h' ((n30,.box (.agg t.cs))::QU n6 n2 v) v (ts.map bN),?_,?_⟩
 ·rintro f' h36 ⟨t,ht,q36⟩
  have V36:=q36.vs
  rw[V36.fa 1 rfl,V36.cx 1 (j:=0+7) rfl rfl,V36.lI 0 (s:=13) rfl rfl,ew rfl]
  refine q36.push (d:=bN t) (ez (by simp[Term.cs,D.vone])) rfl (by simp;omega) (by simp;omega) fun v' h48 q48=>?_
  have V48:=q48.vs
  rw[V48.fa 1 rfl]
  refine q48.FH 1 rfl (by simp) q48.one fun h52 q52=>?_
  rw[cU (by omega) (by omega)]
  simp only[ab,true_and]
  refine⟨_,by omega,i+1,v',ts++[t],rfl,by omega,rfl,by simp[htl],fun u hu=>?_,?_⟩
  ·rcases List.mem_append.1 hu with hu|hu
   ·exact hts u hu
   ·simp at hu;subst hu;exact ht
  ·have:=q52.less
   simpa[QU] using this
 rw[Mu,bX,aw]
 by_cases hin:¬i<xs.length
 ·rw[jX (by omega),af]
  simp only[ab,true_and]
  exact⟨_,.exit,q33⟩
 replace hin:i<xs.length:=Decidable.not_not.1 hin
 obtain⟨p,hp⟩:∃p,xs[i]?=some p:=⟨xs[i],aC hin⟩
 obtain⟨b0,b1,b2⟩:=hb p (ak hp)
 have hget:(xs.map LZ)[((i:Int)).toNat]?=some (LZ p):=by rw[aA,List.getElem?_map,hp];rfl
 obtain⟨k,hk⟩:∃k,k=p.1 % 8:=⟨_,rfl⟩
 obtain⟨t0,ht0⟩:∃t0,t0=p.2.1 % N:=⟨_,rfl⟩
 obtain⟨t1,ht1⟩:∃t1,t1=p.2.2 % N:=⟨_,rfl⟩
 have hk8:k<8:=by omega
 have h0:t0<N:=by rw[ht0];exact Nat.mod_lt _ (by omega)
 have h1':t1<N:=by rw[ht1];exact Nat.mod_lt _ (by omega)
 have w:∀a:Nat,a<=255->IntKind.i64.wrap (a:Int)=(a:Int):=fun a ha=>wrap64 (by omega) (by omega)
 rw[jZ (by omega),ag,lD (d:=LZ p) (esz:=3) (by omega) hget rfl,Vg,LZ,KV (j:=0) rfl,OW (by omega),show((p.1:Int)).tmod 8=((p.1 % 8:Nat):Int) from ba p.1 8, <- hk,oW,w k (by omega)]
 rw[IL (d:=LZ p) (esz:=3) (by omega) hget rfl,Gd,Vf,LZ,mU,KV (j:=1) rfl,Kj,w _ b1,OW (by omega),ba, <- ht0]
 rw[IL (d:=LZ p) (esz:=3) (by omega) hget rfl,Gd,Ve,LZ,mU,KV (j:=2) rfl,Kj,w _ b2,OW (by omega),ba, <- ht1,dB rfl]
 rw[q33.vs.mH 0 rfl]
 refine q33.UD 0 (ds:=[.int .i64 (t0:Int),.int .i64 (t1:Int)]) rfl rfl (by simp[Term.cs]) (fun x hx=>by simp at hx;rcases hx with rfl|rfl<;>rfl) fun h78 q78=>?_
 let I:Term->Heap->Prop:=fun t h'=>QE 14 h' ((n30,.box (.agg t.cs))::QU n6 n2 v) v (ts.map bN)
 have q78:I ⟨5,0,aj,aj,aj,t0,t1⟩ h78:=q78
 let t79:Term:=if k<5 then ⟨2,0,aj,fe 0,aj,t0,t1⟩ else ⟨5,0,aj,aj,aj,t0,t1⟩
 let t82:Term:=if k=5 then ⟨1,0,aj,aj,aj,t0,t1⟩ else t79
 let t85:Term:=if k=6 then ⟨3,0,aj,aj,aj,t0,t1⟩ else t82
 let t88:Term:=if k=7 then ⟨5,0,aj,aj,aj,0,0⟩ else t85
 have kd:∀{t:Term}{h:Heap}{KH:HKq},I t h->aa PP (.fadd (.c (.ptr n30 0 0)) 0) h (fun a h1=>aa PP (.ld (.c a) 1 false) h1 KH)=KH (.int .i64 t.kind) h:=fun {t h KH} q=>by rw[q.vs.fa 0 rfl,q.vs.cx 0 (j:=0+0) rfl rfl]
 refine⟨fun _ h'=>I t79 h',?_,?_⟩
 ·rintro _ h81 q81
  refine⟨fun _ h'=>I t82 h',?_,?_⟩
  ·rintro _ h84 q84
   refine⟨fun _ h'=>I t85 h',?_,?_⟩
   ·rintro _ h87 q87
    refine⟨fun _ h'=>I t88 h',?_,?_⟩
    ·rintro _ h90 q90
     have fin34:∀(kk:Int) (h:Heap),xJ N 1 ⟨kk,0,aj,aj,aj,t0,0⟩->I ⟨kk,0,aj,aj,aj,t0,t1⟩ h->aa PP (.fadd (.c (.ptr n30 0 0)) 11) h fun a112 h113=>aa PP (.iadda (.c a112) (.c (.int .i64 0)) 2 1) h113 fun a114 h115=>aa PP (.ld (.c a114) 1 false) h115 fun a116 h117=>aa PP (.bld [(.int .i64 0),(.int .i64 0)] [(0,1,(.c a116)),(1,1,(.c (.int .i64 0)))]) h117 fun a118 h119=>aa PP (.fadd (.c (.ptr n30 0 0)) 11) h119 fun a120 h121=>aa PP (.st (.c a120) (.c a118) 2) h121 fun a122 h123=>∃t,xJ N 1 t/\I t h123:=fun kk h hT q=>by
      have i0:∀{KH:HKq},aa PP (.iadda (.c (.ptr n30 0 11)) (.c (.int .i64 0)) 2 1) h KH=KH (.ptr n30 0 11) h:=fun {KH}=>q.vs.RS 0 (a:=0) rfl (by omega)
      rw[q.vs.fa 0 rfl,i0,q.vs.cx 0 (j:=0+11) rfl rfl,ew rfl,q.vs.fa 0 rfl]
      exact q.UD 0 (ds:=[.int .i64 (t0:Int),.int .i64 0]) rfl rfl (by simp[Term.cs]) (fun x hx=>by simp at hx;rcases hx with rfl|rfl<;>rfl) fun h' q'=>⟨⟨kk,0,aj,aj,aj,t0,0⟩,hT,q'⟩
     rw[kd q90,bQ]
     by_cases k5:k=5
     ·have e:t88=⟨1,0,aj,aj,aj,t0,t1⟩:=by simp[t88,t85,t82,k5]
      rw[e]at q90 ⊢
      rw[decide_eq_true rfl]
      simp only[gD,Bool.not_false,Bool.not_true,aE,if_true,if_false]
      rw[ag]
      simp only[ab,true_and]
      exact fin34 1 h90 (.jump t0 h0) q90
     by_cases k6:k=6
     ·have e:t88=⟨3,0,aj,aj,aj,t0,t1⟩:=by simp[t88,t85,k6]
      rw[e]at q90 ⊢
      rw[decide_eq_false (by simp)]
      simp only[gD,Bool.not_false,Bool.not_true,aE,if_true,if_false]
      rw[kd q90,bQ,decide_eq_true rfl,ag]
      simp only[ab,true_and]
      exact fin34 3 h90 (.barrier t0 h0) q90
     have e:xJ N 1 t88/\t88.kind≠1/\t88.kind≠3:=by
      by_cases k7:k=7
      ·have e:t88=⟨5,0,aj,aj,aj,0,0⟩:=by simp[t88,k7]
       rw[e];exact⟨.exit,by simp,by simp⟩
      ·have e:t88=⟨2,0,aj,fe 0,aj,t0,t1⟩:=by
        have:k<5:=by omega
        simp[t88,t85,t82,t79,k7,k6,k5,this]
       rw[e];exact⟨.branch _ t0 t1 ⟨0,by omega,by omega,rfl⟩ h0 h1',by simp,by simp⟩
     obtain⟨e1,e2,e3⟩:=e
     rw[decide_eq_false e2]
     simp only[gD,Bool.not_false,Bool.not_true,aE,if_true,if_false]
     rw[kd q90,bQ,decide_eq_false e3,af]
     simp only[ab,true_and]
     exact⟨t88,e1,q90⟩
    ·rw[kd q87,bQ]
     by_cases k7:k=7
     ·have e:t85=⟨5,0,aj,aj,aj,t0,t1⟩:=by simp[t85,t82,t79,k7]
      have e':t88=⟨5,0,aj,aj,aj,0,0⟩:=by simp[t88,k7]
      rw[e]at q87 ⊢
      rw[decide_eq_true rfl,ag,ew rfl,q87.vs.fa 0 rfl,e']
      simp only[ab,true_and]
      exact q87.UD 0 (ds:=[.int .i64 0,.int .i64 0]) rfl rfl (by simp[Term.cs]) (fun x hx=>by simp at hx;rcases hx with rfl|rfl<;>rfl) fun h' q'=>q'
     ·have e:t88=t85:=by simp[t88,k7]
      have e5:t85.kind≠5:=by
       by_cases k6:k=6
       ·simp[t85,k6]
       by_cases k5:k=5
       ·simp[t85,t82,k5]
       have:k<5:=by omega
       simp[t85,t82,t79,k6,k5,this]
      rw[decide_eq_false e5,af,e]
      simp only[ab,true_and]
      exact q87
   ·rw[bQ]
    by_cases k6:k=6
    ·have e:t82=⟨5,0,aj,aj,aj,t0,t1⟩:=by simp[t82,t79,k6]
     have e':t85=⟨3,0,aj,aj,aj,t0,t1⟩:=by simp[t85,k6]
     rw[e]at q84
     rw[decide_eq_true (by omega),ag,q84.vs.fa 0 rfl,e']
     simp only[ab,true_and]
     exact q84.FH 0 rfl (by simp[Term.cs]) rfl fun h' q'=>q'
    ·have e:t85=t82:=by simp[t85,k6]
     rw[decide_eq_false (by omega),af,e]
     simp only[ab,true_and]
     exact q84
  ·rw[bQ]
   by_cases k5:k=5
   ·have e:t79=⟨5,0,aj,aj,aj,t0,t1⟩:=by simp[t79,k5]
    have e':t82=⟨1,0,aj,aj,aj,t0,t1⟩:=by simp[t82,k5]
    rw[e]at q81
    rw[decide_eq_true (by omega),ag,q81.vs.fa 0 rfl,e']
    simp only[ab,true_and]
    exact q81.FH 0 rfl (by simp[Term.cs]) rfl fun h' q'=>q'
   ·have e:t82=t79:=by simp[t82,k5]
    rw[decide_eq_false (by omega),af,e]
    simp only[ab,true_and]
    exact q81
 ·by_cases k5:k<5
  ·have e':t79=⟨2,0,aj,fe 0,aj,t0,t1⟩:=by simp[t79,k5]
   rw[jZ (by omega),ag,q78.vs.fa 0 rfl,e']
   simp only[ab,true_and]
   refine q78.FH 0 rfl (by simp[Term.cs]) rfl fun h' q'=>?_
   rw[ew rfl,q'.vs.fa 0 rfl]
   exact q'.UD 0 (ds:=[.int .i64 2,.int .i64 0,.int .i32 0]) rfl rfl (by simp[Term.cs]) (fun x hx=>by simp at hx;rcases hx with rfl|rfl|rfl<;>rfl) fun h'' q''=>q''
  ·have e:t79=⟨5,0,aj,aj,aj,t0,t1⟩:=by simp[t79,k5]
   rw[jX (by omega),af,e]
   simp only[ab,true_and]
   exact q78
theorem N0 {xs:List (Nat×Nat×Nat)}(hb:∀p∈xs,p.1<=255/\p.2.1<=255/\p.2.2<=255) (hx:xs.length<=9223372036854775807):aY PP qk [Mu xs] (fun r=>∃ts:List Term,dX (cT ts)/\r=cN ts):=by
 refine bx Cg (aJ _ _ _) rfl (B3 _ _) ?_
 unfold yT
 refine Vs.nil.alloc fun n2 h3 V3=>?_
 rw[ew rfl]
 refine V3.alloc fun n6 h7 V7=>?_
 refine V7.p8 (cs':=[.int .i64 4,.int .i64 2,.int .i64 1,.int .i64 0,.int .i64 0,.nil,.nil,.nil]) 0 rfl rfl rfl (fun x hx=>by simp at hx;rcases hx with rfl|rfl|rfl|rfl|rfl<;>rfl) fun h9 V9=>?_
 simp only[List.set_cons_zero]at V9
 rw[show ∀K:D->Prop,aR (Mu xs) h9 K=K (.int .i64 (xs.length:Int)) from fun K=>by rw[Mu,bX,aw],TH,TG]
 obtain⟨N,hN,e⟩:∃N:Nat,(1<=N/\N<=8)/\(if(if(8:Int)<(xs.length:Int) then(8:Int) else(xs.length:Int))<1 then(1:Int) else(if(8:Int)<(xs.length:Int) then(8:Int) else(xs.length:Int)))=(N:Int):=by
  refine⟨max (min xs.length 8) 1,by omega,?_⟩
  split<;>split at *<;>omega
 rw[e]
 refine⟨fun _ h'=>∃(v:D) (ts:List Term),ts.length=N/\(∀t∈ts,xJ N 1 t)/\QE 14 h' (QU n6 n2 v) v (ts.map bN),?_,PR hb hN hx (Or.inl ⟨rfl,rfl,V9⟩) fun h' v ts h1 h2 q=>⟨v,ts,h1,h2,q⟩⟩
 rintro f h17 ⟨v,ts,hl,hts,q⟩
 rcases q with⟨-,h0,-⟩|⟨m,rfl,V⟩
 ·have:=congrArg List.length h0
  simp at this;subst this;simp at hl;omega
 rw[V.lI 1 (s:=8) rfl rfl]
 refine V.p8 2 rfl rfl rfl (fun x hx=>by simp at hx;rcases hx with rfl|rfl|rfl|rfl|rfl|rfl<;>rfl) fun h21 V21=>?_
 simp only[QU,List.set_cons_succ,List.set_cons_zero]at V21
 rw[V21.lI 2 (s:=8) rfl rfl]
 have hr:(h21 m).row=some (14,ts.map bN):=by rw[V21.get 0 _ _ rfl];rfl
 have ef:(D.agg [.int .i64 4,.int .i64 2,.int .i64 1,.int .i64 0,.int .i64 0,.nil,.nil,.ms m 0 (ts.map bN).length]).fzt h21=cN ts:=by
  simp only[D.fzt,D.fz,D.fzc,List.map_cons,List.map_nil,hr,List.drop_zero]
  rw[List.take_of_length_le (Nat.le_refl _)];rfl
 refine⟨fun x hx=>?_,fun x hx=>?_,?_,?_⟩
 ·simp[D.cells]at hx
  rcases hx with rfl|rfl|rfl|rfl|rfl|rfl<;>rfl
 ·simp[D.cells]at hx
  rcases hx with rfl|rfl|rfl|rfl|rfl|rfl<;>first|trivial|exact⟨14,_,hr,by simp,fun x hx y hy=>by
   have:=List.mem_of_mem_drop (List.mem_of_mem_take hx)
   simp only[List.mem_map]at this
   obtain⟨t,-,rfl⟩:=this
   exact(ez (cs:=.nil::t.cs) (by simp[Term.cs,D.vone])).vd ▸ by simp[bN,D.cells,Term.cs]at hy;rcases hy with rfl|rfl|rfl|rfl|rfl|rfl|rfl|rfl|rfl|rfl|rfl|rfl|rfl|rfl<;>rfl⟩
 ·rw[ef];rfl
 ·rw[ef];exact⟨ts,Uh (by omega) (by rw[hl];exact hts),rfl⟩
end Go.Am
namespace Go.Am
open Go Go.Proofs
theorem CD.get {v:D}{T:List Bool}(w:CD v T){i:Nat}(hi:i<T.length){h:Heap}{K:D->Prop}:ae PP (.iadd (.c v) (.c (.int .i64 (i:Int))) 1) h (fun a=>ae PP (.ld (.c a) 1 false) h K)=K (.bool (hasB T i)):=by
 rw[w.sl (by omega),IL (esz:=1) (d:=.bool (hasB T i)) (by omega) (by rw[aA];exact dq (bo hi)) rfl,Hx rfl]
theorem Su {U R:List Bool}(h1:U.length<=1000000) (h2:R.length<=1000000):aY PP qh [uE U R,uE U R] (· = .bool true):=by
 refine bx Ca (aJ _ _ _) rfl (BU _ _ _) ?_
 unfold yN
 refine Vs.nil.box BP.one fun n3 h4 V4=>?_
 refine V4.box BP.one fun n5 h6 V6=>?_
 rw[V6.fa 1 rfl,V6.cx 1 (j:=0+0) rfl rfl,V6.fa 0 rfl,V6.cx 0 (j:=0+0) rfl rfl]
 refine bO (tm h1) (fun d hd=>by simp at hd;rcases hd with rfl|rfl<;>exact mT.pair) ?_
 rintro _ rfl
 rw[decide_eq_true rfl]
 simp only[gD,Bool.not_false,Bool.not_true,aE,if_true,if_false]
 rw[V6.fa 1 rfl,V6.cx 1 (j:=0+1) rfl rfl,V6.fa 0 rfl,V6.cx 0 (j:=0+1) rfl rfl]
 refine bO (tm h2) (fun d hd=>by simp at hd;rcases hd with rfl|rfl<;>exact mT.pair) ?_
 rintro _ rfl
 rw[decide_eq_true rfl]
 first|rw[bw]|(simp only[gD,if_true];rw[bw])
section
variable {c:Code}{pU pR p nr n6:Nat}{A B zU zR:List Bool}{vU vR:D}{L:LSq}{h:Heap}
def Gu (c:Code) (pU pR p nr:Nat) (A B:List Bool) (L:LSq):LSq:=(p,.box (.agg [.ms pU 0 c.b.length,.ms pR 0 nr]))::(pR,.arr 1 (bL B))::(pU,.arr 1 (bL A))::L
theorem U4 (hn:c.b.length<=1000) (hA:A.length=c.b.length) (wU:CD vU zU) (hz:zU.length<=9223372036854775807) (h6:(n6,Slot.box (.agg [vU,vR]))∈L) (V:Vs h (Gu c pU pR p nr A B L)){a8 a17 a31 a39:D}{f:Nat->D}{J:HJq}(hJ:∀h' A',A'.length=c.b.length->Vs h' (Gu c pU pR p nr A' B L)->J [] h') :
  ct h (.ptr n6 0 0) (.ptr p 0 0) a8 a17 f a31 a39 J:=by
 unfold ct
 refine⟨fun m q h'=>∃(i:Nat) (A:List Bool),q=[nD i]/\i<=c.b.length/\m=c.b.length-i/\A.length=c.b.length/\Vs h' (Gu c pU pR p nr A B L),_,⟨0,A,rfl,by omega,rfl,hA,V⟩,?_⟩
 rintro m f1 h1 ⟨i,A1,hq,hi,hm,hA1,V1⟩
 simp only[aq,and_true]at hq
 have m6:(n6,Slot.box (.agg [vU,vR]))∈Gu c pU pR p nr A1 B L:=by simp[Gu,h6]
 obtain⟨k6,hk6⟩:=aO m6
 rw[hq,V1.Lb m6,V1.Ai (j:=0) m6 rfl,wU.len]
 have stop:J [] h1:=hJ h1 A1 hA1 V1
 by_cases hz1:¬i<zU.length
 ·rw[nD,jX (by omega)]
  simp only[gD,Bool.not_false,Bool.not_true,aE,if_true,if_false]
  rw[af]
  simp only[ab,true_and]
  exact stop
 replace hz1:i<zU.length:=Decidable.not_not.1 hz1
 rw[nD,jZ (by omega)]
 simp only[gD,Bool.not_false,Bool.not_true,aE,if_true,if_false]
 rw[V1.fa 0 rfl,V1.cx 0 (j:=0+0) rfl rfl,bu,V1.get 2 _ _ rfl]
 refine⟨rfl,?_⟩
 by_cases hlt:¬i<c.b.length
 ·rw[jX (by omega),af]
  simp only[ab,true_and]
  exact stop
 replace hlt:i<c.b.length:=Decidable.not_not.1 hlt
 rw[jZ (by omega),ag,V1.mH 0 rfl,V1.iJ 0 (j:=0+0) rfl rfl,V1.mH k6 hk6,V1.iJ k6 (j:=0) hk6 rfl,wU.get hz1,V1.GB 2 rfl (by omega) (by omega),aA]
 refine V1.uK 2 rfl (by rw[gX];omega) rfl (fL _) fun h2 V2=>?_
 rw[fK]at V2
 rw[cU (by omega) (by omega)]
 simp only[ab,true_and]
 exact⟨_,by omega,i+1,A1.set i (hasB zU i),rfl,by omega,rfl,by simp[hA1],V2⟩
theorem U5 (hn:nr<=1000) (hB:B.length=nr) (wR:CD vR zR) (hz:zR.length<=9223372036854775807) (h6:(n6,Slot.box (.agg [vU,vR]))∈L) (V:Vs h (Gu c pU pR p nr A B L)){a8 a17 a31 a39:D}{f:Nat->D}{J:HJq}(hJ:∀h' B',B'.length=nr->Vs h' (Gu c pU pR p nr A B' L)->J [] h') :
  cv h (.ptr n6 0 0) (.ptr p 0 0) a8 a17 f a31 a39 J:=by
 unfold cv
 refine⟨fun m q h'=>∃(i:Nat) (B:List Bool),q=[nD i]/\i<=nr/\m=nr-i/\B.length=nr/\Vs h' (Gu c pU pR p nr A B L),_,⟨0,B,rfl,by omega,rfl,hB,V⟩,?_⟩
 rintro m f1 h1 ⟨i,B1,hq,hi,hm,hB1,V1⟩
 simp only[aq,and_true]at hq
 have m6:(n6,Slot.box (.agg [vU,vR]))∈Gu c pU pR p nr A B1 L:=by simp[Gu,h6]
 obtain⟨k6,hk6⟩:=aO m6
 rw[hq,V1.Lb m6,V1.Ai (j:=1) m6 rfl,wR.len]
 have stop:J [] h1:=hJ h1 B1 hB1 V1
 by_cases hz1:¬i<zR.length
 ·rw[nD,jX (by omega)]
  simp only[gD,Bool.not_false,Bool.not_true,aE,if_true,if_false]
  rw[af]
  simp only[ab,true_and]
  exact stop
 replace hz1:i<zR.length:=Decidable.not_not.1 hz1
 rw[nD,jZ (by omega)]
 simp only[gD,Bool.not_false,Bool.not_true,aE,if_true,if_false]
 rw[V1.fa 0 rfl,V1.cx 0 (j:=0+1) rfl rfl,bu,V1.get 1 _ _ rfl]
 refine⟨rfl,?_⟩
 by_cases hlt:¬i<nr
 ·rw[jX (by omega),af]
  simp only[ab,true_and]
  exact stop
 replace hlt:i<nr:=Decidable.not_not.1 hlt
 rw[jZ (by omega),ag,V1.mH 0 rfl,V1.iJ 0 (j:=0+1) rfl rfl,V1.mH k6 hk6,V1.iJ k6 (j:=1) hk6 rfl,wR.get hz1,V1.GB 1 rfl (by omega) (by omega),aA]
 refine V1.uK 1 rfl (by rw[gX];omega) rfl (fL _) fun h2 V2=>?_
 rw[fK]at V2
 rw[cU (by omega) (by omega)]
 simp only[ab,true_and]
 exact⟨_,by omega,i+1,B1.set i (hasB zR i),rfl,by omega,rfl,by simp[hB1],V2⟩
end
end Go.Am
namespace Go.Am
open Go Go.Proofs
theorem Vs.Uk {h:Heap}{L:LSq}{KH:HKq}(V:Vs h L){esz:Nat}{d e z:D}(hd:sx d) (he:sx e) (hcd:d.cells.length=esz) (hce:e.cells.length=esz) (hK:∀n h',Vs h' ((n,.arr esz [d,e])::L)->KH (.ms n 0 2) h'):aa PP (.bldS true esz 2 z [(0,.c d),(1,.c e)]) h KH:=by
 obtain⟨f1,n1,k1⟩:=qU (h:=h) hd.pair.1
 obtain⟨f2,n2,k2⟩:=qU (h:=h) he.pair.1
 refine⟨fun p hp=>?_,fun _ p hp=>?_,fun n t=>?_⟩
 ·simp[Arg.get]at hp
  rcases hp with rfl|rfl
  ·exact⟨by simp,hcd,hd.one⟩
  ·exact⟨by simp,hce,he.one⟩
 ·simp[Arg.get]at hp
  rcases hp with rfl|rfl
  ·exact k1
  ·exact k2
 ·have:=hK n _ (V.push t.free (s:=.arr esz [d,e]) (by simp))
  simpa[Arg.get,setEls,f1,f2,n1,n2,Heap.freezeAll,List.replicate] using this
theorem Ge {f:FuncId}{d:D}{h:Heap}{L:LSq}{K:D->Prop}{vU vR r:D}{U R:List Bool}(hd:sx d) (V:Vs h L) (wU:BW L vU U) (wR:BW L vR R) (hv:aY PP f [d,uE U R] (· = r)) (hf:r.flat=true) (hK:K r):ae PP (.call f [.c d,.c (.agg [vU,vR])]) h K:=by
 obtain⟨f1,f2,f3⟩:=UH V wU wR
 obtain⟨g1,g2,g3⟩:=qU (h:=h) hd.pair.1
 refine⟨r,?_,fun x hx=>?_,Or.inl hf,hK⟩
 ·have:(([Arg.c d,Arg.c (.agg [vU,vR])]:List Arg).map fun x=>(x.get []).fz h)=[d,uE U R]:=by
   simp only[List.map_cons,List.map_nil,Arg.get,f1,g1]
  rw[this];exact hv
 ·simp[Arg.get]at hx
  rcases hx with rfl|rfl
  ·exact⟨hd.one,g3,by rw[g1];exact hd.pair.1⟩
  ·exact⟨f2,f3,by rw[f1];exact BP.pair.1⟩
theorem SX {d e x:D}(h:Wk d e):Kr [d,x] [e,x]:=.cons h (.cons (.refl _) .nil)
theorem G4 {bs:List Nat}{xs:List (Nat×Nat×Nat)}{vU vR:D}{zU zR:List Bool}(hb:∀b∈bs,b<=255) (hl:bs.length<=9223372036854775807) (hxb:∀p∈xs,p.1<=255/\p.2.1<=255/\p.2.2<=255) (hx:xs.length<=9223372036854775807)
  (wU:CD vU zU) (wR:CD vR zR) (hzU:zU.length<=9223372036854775807) (hzR:zR.length<=9223372036854775807) (hdz:sx (.agg [vU,vR])):aY PP eM [BH bs,Mu xs,.agg [vU,vR]] (· = .bool true):=by
 refine bx iT (aJ _ _ _) rfl (iM _ _ _ _) ?_
 unfold eP
 refine Vs.nil.box (JN bs).one fun n4 h5 V5=>?_
 refine V5.box hdz.one fun n6 h7 V7=>?_
 refine bO HG (fun d hd=>by simp at hd) ?_
 rintro _ rfl
 rw[du,Bool.not_true,af,V7.lI 1 (s:=1) (cs:=[xH bs]) rfl rfl]
 refine bO (Sv hb hl) (fun d hd=>by simp at hd;subst hd;exact(JN bs).pair) ?_
 rintro _ ⟨c,hc,rfl⟩
 refine bO (N0 hxb hx) (fun d hd=>by simp at hd;subst hd;exact mT.pair) ?_
 rintro _ ⟨ts,hts,rfl⟩
 have dN:sx (cN ts):=ez (by simp[D.vone])
 refine V7.Uk c.dS dN rfl rfl fun n17 h18 V18=>?_
 refine⟨fun _ _=>True,fun f h' _=>by rw[bw],?_⟩
 unfold dQ
 refine⟨fun m q h'=>∃(i:Nat) (L:LSq),q=[nD i]/\i<=2/\m=2-i/\(n17,Slot.arr 8 [c.e,cN ts])∈L/\(n6,Slot.box (.agg [vU,vR]))∈L/\Vs h' L,_,⟨0,_,rfl,by omega,rfl,List.mem_cons_self,by simp,V18⟩,?_⟩
 rintro m f h1 ⟨i,L,hq,hi,hm,m17,m6,V1⟩
 simp only[aq,and_true]at hq
 rw[hq]
 by_cases hlt:¬i<2
 ·rw[nD,jX (by omega),af]
  simp only[ab,true_and]
 replace hlt:i<2:=Decidable.not_not.1 hlt
 rw[nD,jZ (by omega),ag]
 obtain⟨c',ds,hc',hw,hdat,hds,hget⟩:∃(c':Code) (ds:List D),dX c'/\Wk (.agg ds) c'.e/\sx (.agg ds)/\ds.length=8/\([c.e,cN ts]:List D)[i]?=some (.agg ds):=by
  match i,hlt with
  | 0,_=>exact⟨c,_,hc.u,.refl _,c.dS,rfl,rfl⟩
  | 1,_=>exact⟨cT ts,_,hts,Vv,dN,rfl,rfl⟩
 obtain⟨k17,hk17⟩:=aO m17
 rw[V1.ia k17 hk17 (by omega) (by omega),aA,V1.Pl k17 hk17 (j:=i) hget hds]
 have hnb:=hc'.g.nb
 have hrg:=hc'.rg
 obtain⟨nr,hnr⟩:∃nr:Nat,c'.regs=(nr:Int):=⟨c'.regs.toNat,by omega⟩
 refine V1.alloc fun n31 h32 V32=>?_
 refine V32.p8 0 rfl rfl hds (fun y hy=>hdat.one y hy) fun h34 V34=>?_
 simp only[List.set_cons_zero]at V34
 rw[V34.lI 0 (s:=8) rfl hds]
 refine ai.arg (.cons hw .nil) ?_
 refine SH hc'.g V34 fun hD=>?_
 refine On hc' hD hnr V34 fun nU nR X h38 V38=>?_
 refine V38.alloc fun n39 h40 V40=>?_
 refine V40.p8 0 rfl rfl rfl (fun x hx=>by simp at hx;rcases hx with rfl|rfl<;>rfl) fun h42 V42=>?_
 simp only[List.set_cons_zero]at V42
 rw[V42.lI 0 (s:=2) rfl rfl]
 have lU:(ED c' (iB c')).length=c'.b.length:=yt
 have lR:(Er c' (iB c')).length=nr:=by rw[yu];omega
 refine Qi V42 (U:=ED c' (iB c')) (R:=Er c' (iB c')) (Or.inr ⟨nU,by rw[lU],by simp⟩) (Or.inr ⟨nR,by rw[lR],by simp⟩) (by omega) (by omega) fun pU pR h46 V46=>?_
 rw[lU,lR]
 refine V46.alloc fun n47 h48 V48=>?_
 refine V48.p8 0 rfl rfl rfl (fun x hx=>by simp at hx;rcases hx with rfl|rfl<;>rfl) fun h50 V50=>?_
 simp only[List.set_cons_zero]at V50
 obtain⟨M,hM⟩:∃M,M=(n39,Slot.box (.agg [.ms nU 0 c'.b.length,.ms nR 0 nr]))::(nR,.arr 1 (bL (Er c' (iB c'))))::(nU,.arr 1 (bL (ED c' (iB c'))))::(X++(n31,.box (.agg ds))::L):=⟨_,rfl⟩
 have V51:Vs h50 (Gu c' pU pR n47 nr (ED c' (iB c')) (Er c' (iB c')) M):=by rw[hM];exact V50
 have k6:(n6,Slot.box (.agg [vU,vR]))∈M:=by simp[hM,m6]
 have k31:(n31,Slot.box (.agg ds))∈M:=by simp[hM]
 have k39:(n39,Slot.box (.agg [.ms nU 0 c'.b.length,.ms nR 0 nr]))∈M:=by simp[hM]
 have kU:(nU,Slot.arr 1 (bL (ED c' (iB c'))))∈M:=by simp[hM]
 have kR:(nR,Slot.arr 1 (bL (Er c' (iB c'))))∈M:=by simp[hM]
 have k17':(n17,Slot.arr 8 [c.e,cN ts])∈M:=by simp[hM,m17]
 refine⟨fun _ h'=>∃A,A.length=c'.b.length/\Vs h' (Gu c' pU pR n47 nr A (Er c' (iB c')) M),?_,U4 (by omega) lU wU hzU k6 V51 fun h' A hA V'=>⟨A,hA,V'⟩⟩
 rintro f2 h53 ⟨A,hA,V53⟩
 refine⟨fun _ h'=>∃B,B.length=nr/\Vs h' (Gu c' pU pR n47 nr A B M),?_,U5 (by omega) lR wR hzR k6 V53 fun h' B hB V'=>⟨B,hB,V'⟩⟩
 rintro f3 h56 ⟨B,hB,V56⟩
 have up:∀{x},x∈M->x∈Gu c' pU pR n47 nr A B M:=fun hx=>by simp[Gu,hx]
 have dl:∀{n s:Nat}{cs:List D}{K:D->Prop},(n,Slot.box (.agg cs))∈M->cs.length=s->ae PP (.ld (.c (.ptr n 0 0)) s true) h56 K=K (.agg cs):=fun {n s cs K} hm hl=>by
  obtain⟨k,hk⟩:=aO (up hm)
  exact V56.tc k hk hl
 have uni:∀{U R:List Bool}{a b:D},CD a U->CD b R->aY PP bC [.agg ds,.agg [a,b]] (· = .int .i64 (if ky c' U R then 0 else 100)):=fun wa wb=>aY.arg (SX hw) (Gj hc' wa wb)
 have ref:∀{U R:List Bool}{a b:D},CD a U->CD b R->aY PP hZ [.agg ds,.agg [a,b]] (· = .int .i64 (if ky c' U R then 0 else 100)):=fun wa wb=>aY.arg (SX hw) (Lv hc' hD wa wb)
 have bA:BW (Gu c' pU pR n47 nr A B M) (.ms pU 0 c'.b.length) A:=Or.inr ⟨pU,by rw[hA],by simp[Gu]⟩
 have bB:BW (Gu c' pU pR n47 nr A B M) (.ms pR 0 nr) B:=Or.inr ⟨pR,by rw[hB],by simp[Gu]⟩
 rw[dl k31 hds]
 refine qD (r:=uF c') (aY.arg (.cons hw .nil) (aY.mono (fun r hr=>hr.1) (NZ hc'))) (fun d hd=>by simp[Arg.get]at hd;subst hd;exact hdat.pair) ?_
 rw[dl (s:=2) k39 rfl]
 refine Ge (U:=ED c' (iB c')) (R:=Er c' (iB c')) (r:=.bool true) BP V56 (Or.inr ⟨nU,by rw[lU],up kU⟩) (Or.inr ⟨nR,by rw[lR],up kR⟩) (Su (by omega) (by omega)) rfl ?_
 rw[du]
 simp only[EP,Bool.not_true]
 rw[dl k31 hds,V56.tc 0 (s:=2) rfl rfl]
 refine Ge hdat V56 bA bB (uni (Or.inl rfl) (Or.inl rfl)) rfl ?_
 rw[dl k31 hds,V56.tc 0 (s:=2) rfl rfl]
 refine Ge hdat V56 bA bB (ref (Or.inl rfl) (Or.inl rfl)) rfl ?_
 rw[gK,decide_eq_true rfl,iK,cq]
 simp only[EP,Bool.not_true,aE,if_false]
 have pr:∀d,d∈[D.agg ds,.agg [vU,vR]]->d.vd=true/\aN d:=fun d hd=>by
  simp at hd;rcases hd with rfl|rfl
  ·exact hdat.pair
  ·exact hdz.pair
 rw[dl k31 hds,dl (s:=2) k6 rfl]
 refine qD (r:=.int .i64 (if ky c' zU zR then 0 else 100)) (uni wU wR) pr ?_
 rw[dl k31 hds,dl (s:=2) k6 rfl]
 refine qD (r:=.int .i64 (if ky c' zU zR then 0 else 100)) (ref wU wR) pr ?_
 rw[gK,decide_eq_true rfl,iK,cq]
 simp only[Bool.not_true,aE,if_false]
 rw[af,cU (by omega) (by omega)]
 simp only[ab,true_and]
 exact⟨_,by omega,i+1,_,rfl,by omega,rfl,up k17',up k6,V56⟩
end Go.Am
namespace Go.Am
open Go Go.Proofs
set_option maxRecDepth 100000
theorem US:Try.prog.underlying 22=some (.slice 5):=by kernel_rfl
theorem VJ:Try.prog.underlying 5=some (.int .u8):=by kernel_rfl
theorem t24:structL Try.prog 24=some [(22,0)]:=by kernel_rfl
theorem z24:Try.prog.cellsOf 24=1:=by kernel_rfl
theorem z22:Try.prog.cellsOf 22=1:=by kernel_rfl
theorem z5:Try.prog.cellsOf 5=1:=by kernel_rfl
theorem Ml:IntKind.u8.min=0:=rfl
theorem Qw:IntKind.u8.max=255:=rfl
theorem S5 {m:Nat}{ds:List D}(h:HasTy Try.prog (m+2) 22 ds):∃bs:List Nat,ds=[xH bs]/\(∀b∈bs,b<=255)/\bs.length<=9223372036854775807:=by
 obtain⟨xs,h1,h2,h3⟩:=IF US VJ h
 refine⟨xs.map Int.toNat,?_,fun b hb=>?_,by unfold maxLen at h2;simp;omega⟩
 ·rw[h1,xH,List.map_map]
  congr 2
  refine List.map_congr_left fun x hx=>?_
  have:=h3 x hx
  rw[Ml]at this
  show D.int .u8 x=D.int .u8 ((x.toNat:Nat):Int)
  rw[Int.toNat_of_nonneg this.1]
 ·simp only[List.mem_map]at hb
  obtain⟨x,hx,rfl⟩:=hb
  have:=h3 x hx
  rw[Ml,Qw]at this
  omega
theorem Ry {m:Nat}{ds:List D}(h:HasTy Try.prog (m+3) 24 ds):∃bs:List Nat,mkElem Try.prog 24 ds=BH bs/\(∀b∈bs,b<=255)/\bs.length<=9223372036854775807:=by
 obtain⟨k1,k2⟩:=yr t24 h
 rw[z24]at k1
 have q:=k2 (22,0) (by simp)
 simp only[z22,List.drop_zero]at q
 match ds,k1 with
 | [d],_ =>
  obtain⟨bs,e1,hb,hbl⟩:=S5 q
  simp at e1
  subst e1
  exact⟨bs,by rw[E1 t24,BH],hb,hbl⟩
theorem Im {m:Nat}{ds:List D}(h:HasTy Try.prog (m+1) 5 ds):∃x:Nat,ds=[.int .u8 (x:Int)]/\x<=255:=by
 obtain⟨g,h1,h2,h3⟩:=E5 VJ h
 rw[Ml]at h2;rw[Qw]at h3
 exact⟨g.toNat,by rw[h1,Int.toNat_of_nonneg h2],by omega⟩
end Go.Am
namespace Go.Am
open Go Go.Proofs
set_option maxRecDepth 100000
theorem S7:Try.prog.underlying 26=some (.slice 78):=by kernel_rfl
theorem S6:Try.prog.underlying 78=some (.array 3 5):=by kernel_rfl
theorem t29:structL Try.prog 29=some [(27,0),(27,1)]:=by kernel_rfl
theorem UQ:Try.prog.underlying 27=some (.slice 4):=by kernel_rfl
theorem VK:Try.prog.underlying 4=some .bool:=by kernel_rfl
theorem Wd:Try.prog.cellsOf 78=3:=by kernel_rfl
theorem z29:Try.prog.cellsOf 29=2:=by kernel_rfl
theorem z27:Try.prog.cellsOf 27=1:=by kernel_rfl
theorem Rf {m:Nat}{ds:List D}(h:HasTy Try.prog (m+2) 78 ds):∃p:Nat×Nat×Nat,mkElem Try.prog 78 ds=LZ p/\p.1<=255/\p.2.1<=255/\p.2.2<=255:=by
 obtain⟨k1,k2⟩:=Hc S6 h
 rw[Wd]at k1
 simp only[z5,Nat.mul_one]at k2
 obtain⟨a,ha,la⟩:=Im (k2 0 (by omega))
 obtain⟨b,hb,lb⟩:=Im (k2 1 (by omega))
 obtain⟨c,hc,lc⟩:=Im (k2 2 (by omega))
 rw[M8 S6]
 match ds,k1 with
 | [d0,d1,d2],_ =>
  simp at ha hb hc
  exact⟨(a,b,c),by rw[ha,hb,hc,LZ],la,lb,lc⟩
theorem Mt {m:Nat}{ds:List D}(h:HasTy Try.prog (m+3) 26 ds):∃xs:List (Nat×Nat×Nat),ds=[Mu xs]/\(∀p∈xs,p.1<=255/\p.2.1<=255/\p.2.2<=255)/\xs.length<=9223372036854775807:=by
 obtain⟨xs,h1,h2,h3⟩:=sX S7 h
 have:∃ys:List (Nat×Nat×Nat),xs.map (mkElem Try.prog 78)=ys.map LZ/\ys.length=xs.length/\∀p∈ys,p.1<=255/\p.2.1<=255/\p.2.2<=255:=by
  clear h1 h2
  induction xs with
  | nil=>exact⟨[],rfl,rfl,fun x hx=>by cases hx⟩
  | cons x r ih =>
   obtain⟨ys,g1,g2,g3⟩:=ih fun x hx=>h3 x (List.mem_cons_of_mem _ hx)
   obtain⟨p,hp,hp1⟩:=Rf (h3 x List.mem_cons_self)
   refine⟨p::ys,by simp only[List.map_cons,g1,hp],by simp[g2],fun y hy=>?_⟩
   rcases List.mem_cons.1 hy with rfl|hy
   ·exact hp1
   ·exact g3 y hy
 obtain⟨ys,g1,g2,g3⟩:=this
 exact⟨ys,by rw[h1,g1,Mu],g3,by rw[g2];unfold maxLen at h2;omega⟩
theorem HO {m:Nat}{ds:List D}(h:HasTy Try.prog (m+2) 27 ds):∃T:List Bool,ds=[.sl (bL T)]/\T.length<=9223372036854775807:=by
 obtain⟨xs,h1,h2,h3⟩:=sX UQ h
 have:∃ys:List Bool,xs.map (mkElem Try.prog 4)=bL ys/\ys.length=xs.length:=by
  clear h1 h2
  induction xs with
  | nil=>exact⟨[],rfl,rfl⟩
  | cons x r ih =>
   obtain⟨ys,g1,g2⟩:=ih fun x hx=>h3 x (List.mem_cons_of_mem _ hx)
   have hx:=h3 x List.mem_cons_self
   unfold HasTy at hx
   rw[VK]at hx
   obtain⟨b,rfl⟩:=hx
   refine⟨b::ys,?_,by simp[g2]⟩
   have e:mkElem Try.prog 4 [.bool b]=.bool b:=by unfold mkElem;rw[VK];rfl
   simp only[List.map_cons,g1,e];rfl
 obtain⟨ys,g1,g2⟩:=this
 exact⟨ys,by rw[h1,g1],by rw[g2];unfold maxLen at h2;omega⟩
theorem Re {m:Nat}{ds:List D}(h:HasTy Try.prog (m+3) 29 ds):∃U R:List Bool,mkElem Try.prog 29 ds=uE U R/\U.length<=9223372036854775807/\R.length<=9223372036854775807:=by
 obtain⟨k1,k2⟩:=yr t29 h
 rw[z29]at k1
 have q0:=k2 (27,0) (by simp)
 have q1:=k2 (27,1) (by simp)
 simp only[z27]at q0 q1
 obtain⟨U,hU,lU⟩:=HO q0
 obtain⟨R,hR,lR⟩:=HO q1
 match ds,k1 with
 | [d0,d1],_ =>
  simp at hU hR
  exact⟨U,R,by rw[E1 t29,hU,hR,uE],lU,lR⟩
theorem RL (xs:List D) (h:Ec Try.prog 12 Try.f3.params.toList xs):aY Try.prog 3 xs (· = .bool true):=by
 have hp:Try.f3.params.toList=[24,26,29]:=by kernel_rfl
 rw[hp]at h
 obtain⟨c1,r1,rfl,h1,c2,r2,rfl,h2,c3,r3,rfl,h3,rfl⟩:=h
 obtain⟨bs,e1,b1,b2⟩:=Ry h1
 obtain⟨ys,rfl,hy,hyl⟩:=Mt h2
 obtain⟨U,R,e3,lU,lR⟩:=Re h3
 have e2:mkElem Try.prog 26 [Mu ys]=Mu ys:=M7 S7 _
 show aY Try.prog 3 [mkElem Try.prog 24 c1,mkElem Try.prog 26 [Mu ys],mkElem Try.prog 29 c3] _
 rw[e1,e2,e3]
 exact G4 b1 b2 hy hyl (Or.inl rfl) (Or.inl rfl) lU lR BP
end Go.Am
