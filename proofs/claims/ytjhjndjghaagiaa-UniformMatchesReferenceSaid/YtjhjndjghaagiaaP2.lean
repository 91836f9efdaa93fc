/- What the functions of this chapter give, on plain data. No condition. -/
import Derived.Shelf.SortM.Plain
import Derived.Shelf.SortM.SortNone
import Derived.Shelf.Slices.CompactI
import Derived.Test.YtjhjndjghaagiaaP1
set_option linter.unnecessarySimpa false
set_option linter.defProp false
set_option linter.unusedSectionVars false
set_option linter.unusedSimpArgs false
set_option linter.unusedVariables false
namespace Go.Am
open Go Go.Proofs
structure QW (c:Code) (O O':List Nat) (at':List Int):Prop where
 ord:u4 (fS c) c.b.length 0 O
 g:Ks (o8 (fS c) O c.b.length (de c O)) c.b.length O' at' (yE (o8 (fS c) O c.b.length (de c O)) O' (c.b.length+1))
 all:∀x∈O,x∈O'
 sub:∀x,x∈de c O->x∈O
 lt:∀x∈O,x<c.b.length
 len:O.length<=20/\(de c O).length<=20
theorem po {l:List Nat}{n:Nat}(nd:l.Nodup) (h:∀x∈l,x<n):l.length<=n:=by
 have:l.length<=(List.range n).length:=nd.length_le_of_subset (fun x hx=>List.mem_range.2 (h x hx))
 simpa using this
theorem SJ {c:Code}(hc:bS c){h:Heap}{L:LSq}{KH:HKq}(V:Vs h L) (hK:∀ng nO nA O O' at' X v h',QW c O O' at'->Vs h' ((nO,.arr 1 (bb O'))::(ng,J4 v nO O'.length nA (c.b.length+1))::(nA,.arr 1 (fP at'))::(X++L))->LR X v (o8 (fS c) O c.b.length (de c O))->KH (.ptr ng 0 0) h') :
  ai PP wZ [c.e] h KH:=by
 have hnb:=hc.nb
 have hE:=iI hc
 refine aT EL (aJ _ _ _) rfl (EH _ _) ?_
 unfold DX
 refine V.box c.dS.one fun n2 h3 V1=>?_
 rw[show aa PP (.ld (.c (.ptr n2 0 0)) 8 true) h3=fun KH=>KH c.e h3 from funext fun KH=>V1.lI 0 rfl rfl]
 refine Qf hc V1 fun nE h7 V7 wE=>?_
 rw[show(D.int .i64 0)=nD 0 from rfl]
 refine DT (E:=fS c) (n:=c.b.length) (r:=0) hE bV (by omega) (by omega) V7 (wE.mono fun x hx=>by simp at hx;simp[hx]) fun ng nO nA O at0 h9 hord G V9=>?_
 have hOlt:∀x∈O,x<c.b.length:=fun x hx=>by have:=G.lt x hx;rwa [bV]at this
 have hOl:O.length<=20:=Nat.le_trans (po G.nd hOlt) hnb.2
 rw[V9.fa 4 rfl,V9.cx 4 (j:=7) rfl rfl,bX,aw]
 refine H7 (E:=fS c) (O:=O) hE V9 (ig:=1) (iO:=0) rfl rfl (wE.mono fun x hx=>by simp at hx;simp[hx]) bV (by omega) (by omega) hOlt fun v0 h16 R16=>?_
 refine R16.Tw (by rw[od];omega) fun v h20 R20=>?_
 let L3:LSq:=(nO,.arr 1 (bb O))::(ng,J4 (.ms nE 0 c.b.length) nO O.length nA c.b.length)::(nA,.arr 1 (fP at0))::(nE,.arr 1 (GA c c.b.length))::(n2,.box c.e)::L
 have R20:gJ h20 L3 v (o8 (fS c) O c.b.length []):=R20
 have V20:=R20.vs
 refine⟨fun _ h'=>gJ h' L3 v (o8 (fS c) O c.b.length (O.filter (qC c))),?_,?_⟩
 ·intro f h23 R23
  unfold vM
  refine⟨fun m q h'=>∃l:List Nat,q=[]/\gJ h' L3 v (o8 (fS c) O c.b.length l)/\l.Nodup/\(∀x∈l,x∈O)/\endF (fS c) O.reverse l=de c O/\m=c.b.length-l.length,_,⟨_,rfl,R23,G.nd.filter _,fun x hx=>(List.mem_filter.1 hx).1,rfl,rfl⟩,?_⟩
  rintro m f' h27 ⟨l,-,R27,hnd,hlO,hend,hm⟩
  have hll:=po hnd fun x hx=>hOlt x (hlO x hx)
  obtain⟨X,V27,wX,lift⟩:=R27.lift
  have htok:=Io hc hOlt hlO (by omega) hOl
  refine DT (E:=o8 (fS c) O c.b.length l) (n:=c.b.length+1) (r:=c.b.length) htok qc (by omega) (by omega) V27 (wX.mono fun x hx=>List.mem_append_left _ hx) fun ng' nO' nA' O' at' h29 hord' G' V29=>?_
  have hmem:=fun {b:Nat}(hb:b∈O)=>OK hE G bV G' hlO hb
  have ix:∀{i:Nat}{x:Nat×Slot},L3[i]?=some x->((nO',Slot.arr 1 (bb O'))::(ng',J4 v nO' O'.length nA' (c.b.length+1))::(nA',.arr 1 (fP at'))::(X++L3))[X.length+i+3]?=some x:=fun hi=>by
   simp only[List.getElem?_cons_succ]
   rw[List.getElem?_append_right (by omega),Nat.add_sub_cancel_left];exact hi
  refine⟨fun q h'=>h'=h29/\∃d,q=[d]/\Ql O O' O.length d,?_,?_⟩
  ·rintro f2 h32 ⟨e,d,hq,hs⟩
   subst e
   simp only[aq,and_true]at hq
   rw[hq]
   rcases hs with⟨rfl,hs⟩|⟨j,b,rfl,hj,hb,hbO,hs⟩
   ·rw[jZ (by omega),ag]
    have hall:∀x∈O,x∈O':=fun x hx=>hs x (by rwa [List.take_length])
    have e1:de c O=l:=by rw[<- hend];exact E9 fun y hy=>(hmem hy).1 (hall y hy)
    refine hK ng' nO' nA' O O' at' (X++[(nO,.arr 1 (bb O)),(ng,J4 (.ms nE 0 c.b.length) nO O.length nA c.b.length),(nA,.arr 1 (fP at0)),(nE,.arr 1 (GA c c.b.length)),(n2,.box c.e)]) v h32 ⟨hord,by rw[e1];exact G',hall,by rw[e1];exact hlO,hOlt,hOl,by rw[e1];omega⟩ ?_ ?_
    ·simpa only[List.append_assoc,List.cons_append,List.nil_append] using V29
    ·rw[e1];exact wX.mono fun x hx=>List.mem_append_left _ hx
   ·have hbO2:b∈O:=ak hb
    rw[nD,jX (by omega),af]
    have R32:gJ h32 L3 v (o8 (fS c) O c.b.length l):=lift h32 V29.pop.pop.pop
    have hnl:b∉l:=fun hbl=>hbO ((hmem hbO2).2 ⟨b,hbl,.refl⟩)
    refine R32.app (b:=c.b.length) (x:=b) Jx (by omega) fun h45 R45=>?_
    rw[Jw]at R45
    simp only[ab,true_and]
    have hl1:(l++[b]).length=l.length+1:=by simp
    have nd1:(l++[b]).Nodup:=List.nodup_append.2 ⟨hnd,by simp,fun a ha x hx=>by simp at hx;subst hx;rintro rfl;exact hnl ha⟩
    have sub1:∀x,x∈l++[b]->x∈O:=fun x hx=>by
     rcases List.mem_append.1 hx with hx|hx
     ·exact hlO x hx
     ·simp at hx;subst hx;exact hbO2
    have hle:=po nd1 fun x hx=>hOlt x (sub1 x hx)
    refine⟨_,?_,l++[b],R45,nd1,sub1,?_,rfl⟩
    ·omega
    ·rw[<- hend]
     have hjl:=(ah.1 hb).1
     have hsp:O=O.take j++b::O.drop (j+1):=by
      conv=>lhs;rw[<- List.take_append_drop j O]
      congr 1
      rw[List.drop_eq_getElem_cons hjl,(ah.1 hb).2]
     refine(Lg hsp (fun y hy=>?_) fun hr=>hbO ((hmem hbO2).2 hr)).symm
     obtain⟨k,hk⟩:=aO hy
     rw[List.getElem?_drop]at hk
     exact(hmem (ak hk)).1 (hs (j+1+k) y (by omega) (ah.1 hk).1 hk)
  ·rw[V29.fa _ (ix (i:=1) rfl),V29.fa _ (ix (i:=1) rfl),V29.cx _ (j:=1) (ix (i:=1) rfl) rfl,bu,V29.get _ _ _ (ix (i:=0) rfl)]
   refine⟨rfl,?_⟩
   refine P5 (w:=v) V29 (fun x hx=>by have:=hOlt x hx;omega) (by omega) (ix (i:=0) rfl) (ig:=1) rfl (iA:=2) rfl (by rw[G'.tq,qc]) (fun x hx=>?_) (fun x hx hn=>G'.ano x (by rw[qc];exact hx) hn) fun d hd=>⟨rfl,d,rfl,hd⟩
   obtain⟨i,hi⟩:=aO hx
   exact⟨i,G'.aat i x hi⟩
 ·rw[V20.fa 1 rfl,V20.fa 1 rfl,V20.cx 1 (j:=1) rfl rfl,bu,V20.get 0 _ _ rfl]
  refine⟨rfl,?_⟩
  exact N9 (ng:=ng) (nA:=nA) (ig:=1) (w:=.nil) hOlt hOl R20 (iO:=0) rfl (i2:=4) rfl fun h' R'=>R'
end Go.Am
namespace Go.Am
open Go Go.Proofs Go.Shelf Go.RowKit
def KI:Go.Shelf.Ren:=⟨fun|5=>72|8=>84|7=>83|19=>98|20=>99|10=>89|11=>90|12=>91|13=>92|14=>93|15=>94|16=>95|17=>96|18=>97|30=>102|31=>103|32=>104|33=>105|34=>106|35=>107|40=>108|n=>n,fun|23=>73|25=>3|3=>3|32=>140|22=>73|0=>0|44=>154|46=>156|4=>4|36=>146|35=>145|41=>151|5=>5|9=>9|53=>161|57=>165|63=>167|64=>168|n=>n,fun|n=>n⟩
theorem S9:Go.Proofs.SlLaysM.n5 Try.prog KI where
 mixed:=by kernel_rfl
 f5:=⟨Try.f72.name,by decide,Try.func72.trans (congrArg some (by kernel_rfl))⟩
 f7:=⟨Try.f83.name,by decide,Try.func83.trans (congrArg some (by kernel_rfl))⟩
 f8:=Try.func84.trans (congrArg some (by kernel_rfl))
 f10:=⟨Try.f89.name,by decide,Try.func89.trans (congrArg some (by kernel_rfl))⟩
 f11:=⟨Try.f90.name,by decide,Try.func90.trans (congrArg some (by kernel_rfl))⟩
 f12:=⟨Try.f91.name,by decide,Try.func91.trans (congrArg some (by kernel_rfl))⟩
 f13:=⟨Try.f92.name,by decide,Try.func92.trans (congrArg some (by kernel_rfl))⟩
 f14:=⟨Try.f93.name,by decide,Try.func93.trans (congrArg some (by kernel_rfl))⟩
 f15:=⟨Try.f94.name,by decide,Try.func94.trans (congrArg some (by kernel_rfl))⟩
 f16:=⟨Try.f95.name,by decide,Try.func95.trans (congrArg some (by kernel_rfl))⟩
 f17:=⟨Try.f96.name,by decide,Try.func96.trans (congrArg some (by kernel_rfl))⟩
 f18:=⟨Try.f97.name,by decide,Try.func97.trans (congrArg some (by kernel_rfl))⟩
 f19:=Try.func98.trans (congrArg some (by kernel_rfl))
 f20:=Try.func99.trans (congrArg some (by kernel_rfl))
 f30:=⟨Try.f102.name,by decide,Try.func102.trans (congrArg some (by kernel_rfl))⟩
 f31:=Try.func103.trans (congrArg some (by kernel_rfl))
 f32:=Try.func104.trans (congrArg some (by kernel_rfl))
 f33:=⟨Try.f105.name,by decide,Try.func105.trans (congrArg some (by kernel_rfl))⟩
 f34:=⟨Try.f106.name,by decide,Try.func106.trans (congrArg some (by kernel_rfl))⟩
 f35:=⟨Try.f107.name,by decide,Try.func107.trans (congrArg some (by kernel_rfl))⟩
 f40:=⟨Try.f108.name,by decide,Try.func108.trans (congrArg some (by kernel_rfl))⟩
 t0:=Try.underlying0
 a0:=Try.isAgg0
 z0:=Try.sizeOf0
 v0:=Try.zeroValue0
 t3:=Try.underlying3
 a3:=Try.isAgg3
 z3:=Try.sizeOf3
 v3:=Try.zeroValue3
 t4:=Try.underlying4
 a4:=Try.isAgg4
 z4:=Try.sizeOf4
 v4:=Try.zeroValue4
 t5:=Try.underlying5
 a5:=Try.isAgg5
 z5:=Try.sizeOf5
 v5:=Try.zeroValue5
 t9:=Try.underlying9
 a9:=Try.isAgg9
 z9:=Try.sizeOf9
 v9:=Try.zeroValue9
 t22:=Try.underlying73
 a22:=Try.isAgg73
 z22:=Try.sizeOf73
 v22:=Try.zeroValue73
 t23:=Try.underlying73
 a23:=Try.isAgg73
 z23:=Try.sizeOf73
 v23:=Try.zeroValue73
 t25:=Try.underlying3
 a25:=Try.isAgg3
 z25:=Try.sizeOf3
 v25:=Try.zeroValue3
 t32:=Try.underlying140
 a32:=Try.isAgg140
 z32:=Try.sizeOf140
 v32:=Try.zeroValue140
 t35:=Try.underlying145
 a35:=Try.isAgg145
 z35:=Try.sizeOf145
 v35:=Try.zeroValue145
 t36:=Try.underlying146
 a36:=Try.isAgg146
 z36:=Try.sizeOf146
 v36:=Try.zeroValue146
 t41:=Try.underlying151
 a41:=Try.isAgg151
 z41:=Try.sizeOf151
 v41:=Try.zeroValue151
 t44:=Try.underlying154
 a44:=Try.isAgg154
 z44:=Try.sizeOf154
 v44:=Try.zeroValue154
 t46:=Try.underlying156
 a46:=Try.isAgg156
 z46:=Try.sizeOf156
 v46:=Try.zeroValue156
 t53:=Try.underlying161
 a53:=Try.isAgg161
 z53:=Try.sizeOf161
 v53:=Try.zeroValue161
 t57:=Try.underlying165
 a57:=Try.isAgg165
 z57:=Try.sizeOf165
 v57:=Try.zeroValue165
 t63:=Try.underlying167
 a63:=Try.isAgg167
 z63:=Try.sizeOf167
 v63:=Try.zeroValue167
 t64:=Try.underlying168
 a64:=Try.isAgg168
 z64:=Try.sizeOf168
 v64:=Try.zeroValue168
def Lm:Go.Shelf.Ren:=⟨fun|20=>73|n=>n,fun|22=>73|3=>3|4=>4|0=>0|n=>n,fun|n=>n⟩
theorem Ud:Go.Proofs.Lays2.n20 Try.prog Lm where
 mixed:=by kernel_rfl
 f20:=Try.func73.trans (congrArg some (by kernel_rfl))
 t0:=Try.underlying0
 a0:=Try.isAgg0
 z0:=Try.sizeOf0
 v0:=Try.zeroValue0
 t3:=Try.underlying3
 a3:=Try.isAgg3
 z3:=Try.sizeOf3
 v3:=Try.zeroValue3
 t4:=Try.underlying4
 a4:=Try.isAgg4
 z4:=Try.sizeOf4
 v4:=Try.zeroValue4
 t22:=Try.underlying73
 a22:=Try.isAgg73
 z22:=Try.sizeOf73
 v22:=Try.zeroValue73
 i3:=by kernel_rfl
end Go.Am
namespace Go.Am
open Go Go.Proofs Go.RowKit Go.Sort
theorem FK {ks:List Int}{cur:Array Value}{i:Nat}(hi:i<ks.length) (hs:ks.length<=cur.size):(putCells encI 0 ks.toArray cur).getD i Go.undef=.int .i64 (ks[i]'hi):=by
 have h1:(putCells encI 0 ks.toArray cur)[i]?=some (encI (ks[i]'hi)):=by
  unfold putCells
  rw[Array.getElem?_mapIdx]
  rw[Array.getElem?_eq_getElem (by omega)]
  simp[hi]
 simp[Array.getD_eq_getD_getElem?,h1]
theorem oQ {ks:List Int}{cur:Array Value}:(putCells encI 0 ks.toArray cur).size=cur.size:=by simp[putCells]
theorem JD {c:Ctx}{w w':World}(hp:c.hp=w.heap) (hr:av c){m g:Nat}{ks ks':List Int}{cur:Array Value}{ty:TypeId}(hm:c.h m=.arr 1 (fP ks)) (hρ:c.ρ m=some g) (hg:c.hp[g]?=some (Obj.cells cur ty (0,0))) (hsz:ks.length<=cur.size) (hl:ks'.length=ks.length){n:Nat}{os:Array Obj}
  (hw:w'=grow (putRow encI (Sort.ahead w n) g 0 ks'.toArray) os):c.le ⟨c.ρ,c.X,aD c.h m (.arr 1 (fP ks')),w'.heap⟩/\av ⟨c.ρ,c.X,aD c.h m (.arr 1 (fP ks')),w'.heap⟩/\WS w w'/\w'.heap[g]?=some (Obj.cells (putCells encI 0 ks'.toArray cur) ty (0,0)):=by
 have hgl:g<c.hp.size:=(Array.getElem?_eq_some_iff.1 hg).1
 have hheap:w'.heap=(w.heap.modify g (onCells (putCells encI 0 ks'.toArray)))++os:=by rw[hw];rfl
 have hsize:c.hp.size<=w'.heap.size:=by rw[hheap,hp];simp
 have hoth:∀k,k<c.hp.size->k≠g->w'.heap[k]?=c.hp[k]?:=fun k hk hne=>by
  rw[hheap,Array.getElem?_append_left (by rw[Array.size_modify, <- hp];exact hk),Array.getElem?_modify,if_neg (fun e=>hne e.symm),hp]
 have hat:w'.heap[g]?=some (Obj.cells (putCells encI 0 ks'.toArray cur) ty (0,0)):=by
  rw[hheap,Array.getElem?_append_left (by rw[Array.size_modify, <- hp];exact hgl),Array.getElem?_modify,if_pos rfl, <- hp,hg];rfl
 have st:iu c ⟨c.ρ,c.X,aD c.h m (.arr 1 (fP ks')),w'.heap⟩ m m g:={
  X:=rfl
  hother:=fun k hk _=>an _ _ hk
  ρother:=fun _ _=>rfl
  hn:=Or.inl rfl
  hm:=fun h=>absurd rfl h
  mine:=by show(aD c.h m _ m).mine;rw[ar];trivial
  ρn:=hρ
  tn:=by show Trans (c.h m) (aD c.h m _ m);rw[ar,hm];exact .arrArr _ _ _ (by rw[mq,mq];omega)
  Ox:=fun _=>hρ
  size:=hsize
  hp:=hoth
  shape:=fun cur' ty' fr h=>by rw[hg]at h;cases h;exact⟨_,hat,oQ⟩
  loop:=fun r h=>by rw[hg]at h;cases h
  from':=Or.inr ⟨by rw[hm];trivial,hρ⟩ }
 refine⟨st.le,st.heap hr ?_,?_,hat⟩
 ·show cM _ m (aD c.h m _ m)
  rw[ar]
  have hcell:∀i j d,aM (fP ks') i j=some d->j=0/\∃(k:Int) (hi:i<ks'.length),ks'[i]=k/\d=.int .i64 k:=by
   intro i j d hd
   simp only[aM,Option.bind_eq_some_iff,fP,List.getElem?_map,Option.map_eq_some_iff]at hd
   obtain⟨x,⟨k,hk,rfl⟩,hx⟩:=hd
   obtain⟨hi,hk⟩:=ah.1 hk
   cases j with
   | zero=>simp[D.cells]at hx;exact⟨rfl,k,hi,hk,hx.symm⟩
   | succ j=>simp[D.cells]at hx
  refine⟨Nat.one_pos,fun e he=>?_,fun i j d hd=>?_,Or.inr ⟨g,_,ty,hρ,hat,by rw[mq,oQ];omega,fun i j d hd=>?_⟩⟩
  ·simp only[fP,List.mem_map]at he;obtain⟨k,-,rfl⟩:=he;rfl
  ·obtain⟨-,k,-,-,rfl⟩:=hcell i j d hd;rfl
  ·obtain⟨rfl,k,hi,hk,rfl⟩:=hcell i j d hd
   rw[Nat.mul_one,Nat.add_zero,FK hi (by omega),hk]
   exact .int _ _
 ·rw[hw];exact⟨rfl,rfl,rfl⟩
theorem JH {c:Ctx}{w:World}(hp:c.hp=w.heap) (hr:av c){m:Nat}{ks:List Int}(hm:c.h m=.arr 1 (fP ks)) (h0:1<=ks.length){va:Value}(hv:aB c (.ms m 0 ks.length) va) :
  ∃(g cap:Nat) (cur:Array Value) (ty:TypeId),va=.slice (some ⟨g,0,none⟩) ks.length cap/\c.ρ m=some g/\c.hp[g]?=some (Obj.cells cur ty (0,0))/\ks.length<=cur.size/\ks.length<=cap/\cap<=maxLen/\cap<=cur.size/\Holds encI w g 0 ks.toArray:=by
 have hsl:=hr.slot m
 rw[hm]at hsl
 obtain⟨-,-,-,hrow⟩:=hsl
 rcases hrow with⟨-,he⟩|⟨g,cur,ty,q1,q2,q3,q4⟩
 ·have:(fP ks).length=0:=by rw[he];rfl
  rw[mq]at this;omega
 generalize hn:ks.length=len at hv
 cases hv with
 | msDead _ _ _ _ _ _ hd=>rw[hm]at hd;cases hd
 | msNil _ _ els hrow hρ=>omega
 | msE _ _ _ _ els hrow=>omega
 | ms _ _ _ g' esz' cap els' cur' ty' fr hrow' hρ hl hg hcap hc hmax =>
  rw[hm]at hrow'
  simp[Slot.row]at hrow'
  obtain⟨rfl,rfl⟩:=hrow'
  rw[hρ]at q1;cases q1
  rw[q2]at hg;cases hg
  rw[mq]at q3
  refine⟨g,cap,cur,ty,by simp,hρ,q2,by omega,hc,hmax,by omega,fun j hj=>?_⟩
  have hj':j<ks.length:=by simpa using hj
  have hc2:j<cur.size:=by omega
  refine⟨?_,?_⟩
  ·rw[pC, <- hp,Nat.zero_add,fy q2 hc2]
   have:=q4 j 0 (.int .i64 ks[j]) (by simp[aM,fP,hj',D.cells])
   rw[Nat.mul_one,Nat.add_zero]at this
   generalize cur.getD j Go.undef=x at this
   cases this
   simp[hj']
  ·simp[World.frozen?, <- hp,q2]
theorem JR {vals:Array Value}{d:D}{c:Ctx}(hs:vals.size=[d].length) (hrel:∀(i:Nat) (d':D),[d][i]?=some d'->aB c d' (vals.getD i Go.undef)):∃va,vals = #[va]/\aB c d va:=by
 obtain⟨l⟩:=vals
 match l,hs with
 | [x],_=>exact⟨x,rfl,hrel 0 _ rfl⟩
def nP (ks:List Int):List Int:=ks.mergeSort fun x y=>decide (x<=y)
theorem zO {ks:List Int}:(nP ks).length=ks.length:=by simp[nP]
theorem SL {h:Heap}{KH:HKq}{m:Nat}{ks:List Int}(hm:h m=.arr 1 (fP ks)) (h0:1<=ks.length) (hl:ks.length<=1000000) (hK:KH (.tup []) (aD h m (.arr 1 (fP (nP ks))))):ai PP dj [.ms m 0 ks.length] h KH:=by
 intro c w vals hh hp hr hs hrel
 subst hh
 obtain⟨va,rfl,r0⟩:=JR hs hrel
 obtain⟨g,cap,cur,ty,rfl,hρ,hg,h1,h2,h3,h4,hH⟩:=JH hp hr hm h0 r0
 refine(AnyM.slices_Sort_int S9 g 0 cap ks w hH (by rw[<- hp];exact(Array.getElem?_eq_some_iff.1 hg).1) (by omega)).mono ?_
 rintro e w' ⟨rfl,n,os,hw⟩
 obtain⟨g1,g2,g3,-⟩:=JD (ks':=nP ks) hp hr hm hρ hg h1 zO hw
 exact⟨_,.tup [],c.ρ,_,rfl,g1,g2,g3,.tup _ _ rfl (fun i d hd=>by simp at hd),hK⟩
def yA (ks:List Int):List Int:=Lib.compact ks++List.replicate (ks.length-(Lib.compact ks).length) 0
theorem LN {h:Heap}{KH:HKq}{m:Nat}{ks:List Int}(hm:h m=.arr 1 (fP ks)) (h0:1<=ks.length) (hl:ks.length<=1000000) (hc:(Lib.compact ks).length<=ks.length) (hK:KH (.ms m 0 (Lib.compact ks).length) (aD h m (.arr 1 (fP (yA ks))))):ai PP cG [.ms m 0 ks.length] h KH:=by
 intro c w vals hh hp hr hs hrel
 subst hh
 obtain⟨va,rfl,r0⟩:=JR hs hrel
 obtain⟨g,cap,cur,ty,rfl,hρ,hg,h1,h2,h3,h4,hH⟩:=JH hp hr hm h0 r0
 refine(Any.slices_Compact_int Ud g 0 cap ks w hH (by omega) h2).mono ?_
 rintro e w' ⟨rfl,q,hw⟩
 have hlen:(yA ks).length=ks.length:=by simp[yA];omega
 obtain⟨g1,g2,g3,g4⟩:=JD (w':=w') (ks':=yA ks) (n:=q) (os:= #[]) hp hr hm hρ hg h1 hlen (by rw[grow_empty,hw];rfl)
 refine⟨_,.ms m 0 (Lib.compact ks).length,c.ρ,_,rfl,g1,g2,g3,?_,hK⟩
 have:=aB.ms (c:=⟨c.ρ,c.X,aD c.h m (.arr 1 (fP (yA ks))),w'.heap⟩) m 0 (Lib.compact ks).length g 1 cap (fP (yA ks)) _ ty (0,0) (by show(aD c.h m _ m).row=_;rw[ar];rfl) hρ (by rw[mq];omega) g4 (by rw[oQ];omega) (by omega) h3
 simpa using this
end Go.Am
namespace Go.Am
open Go Go.Proofs Go.RowKit
theorem A7 {zs:List Int}:(Lib.compact zs).length<=zs.length:=by
 unfold Lib.compact Lib.compactUpTo
 rw[aw]
 have:=List.length_filter_le (Lib.keeps zs.toArray) (List.range zs.length)
 simpa using this
theorem yv {zs:List Int}{j:Nat}(h:j<zs.length):(zs.toArray[j]!)=zs[j]:=by simp[h]
theorem HA {zs:List Int}{x:Int}:x∈Lib.compact zs↔x∈zs:=by
 unfold Lib.compact Lib.compactUpTo
 simp only[List.mem_map,List.mem_filter,List.mem_range]
 constructor
 ·rintro⟨j,⟨hj,-⟩,rfl⟩
  rw[yv hj];exact List.getElem_mem _
 ·intro hx
  have:∀(j:Nat) (hj:j<zs.length),zs[j]=x->∃a,(a<zs.length/\Lib.keeps zs.toArray a=true)/\(zs.toArray[a]!)=x:=by
   intro j
   induction j with
   | zero=>intro hj e;exact⟨0,⟨hj,by simp[Lib.keeps]⟩,by rw[yv hj,e]⟩
   | succ j ih =>
    intro hj e
    by_cases h:zs[j]=x
    ·exact ih (by omega) h
    ·refine⟨j+1,⟨hj,?_⟩,by rw[yv hj,e]⟩
     unfold Lib.keeps
     rw[decide_eq_true_eq,Nat.add_sub_cancel,yv hj,yv (by omega),e]
     exact Or.inr fun q=>h q.symm
  obtain⟨j,hj,e⟩:=List.mem_iff_getElem.1 hx
  exact this j hj e
theorem HB {zs:List Int}(h:zs.Pairwise (· <= ·)):(Lib.compact zs).Pairwise (· < ·):=by
 unfold Lib.compact Lib.compactUpTo
 rw[List.pairwise_map]
 have h1:((List.range zs.length).filter (Lib.keeps zs.toArray)).Pairwise (· < ·):=List.Pairwise.filter _ List.pairwise_lt_range
 refine List.Pairwise.imp_of_mem ?_ h1
 intro a b ha hb hab
 simp only[List.mem_filter,List.mem_range]at ha hb
 rw[yv ha.1,yv hb.1]
 have hk:=hb.2
 unfold Lib.keeps at hk
 rw[decide_eq_true_eq,yv hb.1,yv (by omega)]at hk
 have hne:=hk.resolve_left (by omega)
 have hp:=List.pairwise_iff_getElem.1 h
 have h2:zs[b-1]'(by omega)<=zs[b]:=hp (b-1) b (by omega) hb.1 (by omega)
 have h3:zs[a]<=zs[b-1]'(by omega):=by
  by_cases e:a=b-1
  ·subst e;exact Int.le_refl _
  ·exact hp a (b-1) ha.1 (by omega) (by omega)
 have:zs[b-1]'(by omega)<zs[b]:=by
  rcases Int.lt_or_eq_of_le h2 with h|h
  ·exact h
  ·exact absurd h.symm hne
 exact Int.lt_of_le_of_lt h3 this
theorem Iq {ks:List Int}:(nP ks).Perm ks:=List.mergeSort_perm _ _
theorem Ms {ks:List Int}:(nP ks).Pairwise (· <= ·):=by
 have:=List.pairwise_mergeSort (le:=fun x y:Int=>decide (x<=y)) (fun a b c h1 h2=>by simp at h1 h2 ⊢;omega) (fun a b=>by simp;omega) ks
 exact this.imp fun h=>by simpa using h
def Ir (ks:List Int):List Int:=Lib.compact (nP ks)
theorem Mz {ks:List Int}{x:Int}:x∈Ir ks↔x∈ks:=by rw[Ir,HA,Iq.mem_iff]
theorem MB {ks:List Int}:(Ir ks).Pairwise (· < ·):=HB Ms
theorem MA {ks:List Int}:(Ir ks).length<=ks.length:=Nat.le_trans A7 (by rw[zO];exact Nat.le_refl _)
end Go.Am
namespace Go.Am
open Go Go.Proofs
def WL (nk pb pu pl nU n:Nat) (s:LSt) (B:cV) (cur:Nat) (lv:D) (M:LSq):LSq:=(nk,.lp s B)::(pb,.box (nD cur))::(pu,.box (.ms nU 0 n))::(pl,.box lv)::M
section
variable {h:Heap}{M:LSq}{nk pb pu pl nU n pUv pA iv iU iA cur a w:Nat}{B:cV}{lv:D}{T:List Nat}{U:List Int}{K:HKq}
theorem MR (hv:M[iv]?=some (pUv,.box (.ms nU 0 n))) (hU:M[iU]?=some (nU,.arr 1 (fP U))) (hA:M[iA]?=some (pA,.box (nD a))) (hUn:U.length=n) (hw:U[a]?=some (w:Int)) (hT:T.length<=1000000) (q:QD h (WL nk pb pu pl nU n .ready B cur lv M) lv (bb T))
  {z1 z3 z4 z24 z25 z26 z47 z48 z49:D}(h1:cur=w->∀h',QD h' (WL nk pb pu pl nU n (.done (.exit 4)) B cur lv M) lv (bb T)->K (.bool false) h') (h2:cur≠w->∀h' lv',QD h' (WL nk pb pu pl nU n .ready B cur lv' M) lv' (bb (T++[cur]))->K (.bool true) h') :
  kD nk B (nD cur) z1 z3 z4 (.ptr pUv 0 0) (.ptr pA 0 0) (.ptr pl 0 0) z24 z25 z26 z47 z48 z49 h K:=by
 unfold kD
 have V:=q.vs
 refine⟨rfl,V.get 0 _ _ rfl,?_⟩
 have q1:QD (aD h nk (.lp .busy B)) (WL nk pb pu pl nU n .busy B cur lv M) lv (bb T):=q.cc 0 rfl (by simp)
 have V1:=q1.vs
 have ix:∀{s:LSt}{lv:D}{i:Nat}{x:Nat×Slot},M[i]?=some x->(WL nk pb pu pl nU n s B cur lv M)[i+4]?=some x:=fun hi=>by simpa[WL] using hi
 have ha:=(ah.1 hw).1
 rw[V1.Cw _ (ix hv) rfl,V1.Cw _ (ix hA) rfl,nD,V1.ia _ (ix hU) (by omega) (by omega),aA,V1.xI _ (ix hU) (kP hw) rfl,nD,bQ]
 by_cases hc:cur=w
 ·rw[decide_eq_true (by omega),ag]
  refine⟨V1.get 0 _ _ rfl,h1 hc _ ?_⟩
  exact q1.cc 0 rfl (by simp)
 ·rw[decide_eq_false (by omega),af]
  have hlo:lv.one=true:=by
   rcases q1 with⟨rfl,-,-⟩|⟨m,rfl,-⟩<;>rfl
  rw[V1.Cw 3 rfl hlo]
  refine q1.push aW rfl (by rw[aZ];omega) (by rw[aZ];omega) fun lv' h2' q2=>?_
  have e2:bb T++[nD cur]=bb (T++[cur]):=by simp[bb]
  have e3:bb T++[D.int .i64 (cur:Int)]=bb (T++[cur]):=by simp[bb,nD]
  rw[e3]at q2
  rcases q2 with⟨-,h0,-⟩|⟨m,rfl,V2⟩
  ·simp[bb]at h0
  refine V2.FH 4 rfl hlo rfl fun h3 V3=>?_
  simp only[WL,List.set_cons_succ,List.set_cons_zero]at V3
  refine⟨V3.get 1 _ _ rfl,h2 hc _ (.ms m 0 (bb (T++[cur])).length) ?_⟩
  have q3:QD h3 (WL nk pb pu pl nU n .busy B cur (.ms m 0 (bb (T++[cur])).length) M) (.ms m 0 (bb (T++[cur])).length) (bb (T++[cur])):=Or.inr ⟨m,rfl,V3⟩
  exact q3.cc 0 rfl (by simp)
end
inductive Oo (r:Nat) (up:Nat->Option Nat) (w:Nat):Nat->List Nat->Prop
 | stop:Oo r up w w []
 | top {b:Nat}(h:b≠w) (hu:up b=some b):Oo r up w b [b]
 | step {b y:Nat}{l:List Nat}(h:b≠w) (hy:up b=some y) (hb:y≠b) (k:Oo r up w y l):Oo r up w b (b::l)
section
variable {h:Heap}{M:LSq}{nk pb pu pl nU n pUv pA iv iU iA a w r:Nat}{U:List Int}{O:List Nat}{B:cV}
theorem OC {P:Program}{A:(D->Prop)->Prop}{K:D->Prop}:aF (.bool false) true A K=K gU:=by
 rw[gk];simp
theorem QY {P:Program}{A:(D->Prop)->Prop}{K:D->Prop}:aF (.bool true) true A K=A K:=by
 rw[gk];simp
theorem Sq:fc PP jy=true:=by kernel_rfl
theorem SF (hv:M[iv]?=some (pUv,.box (.ms nU 0 n))) (hU:M[iU]?=some (nU,.arr 1 (fP U))) (hA:M[iA]?=some (pA,.box (nD a))) (hUn:U.length=n) (hn:n<=1000) (hw:U[a]?=some (w:Int)) (T:Tr r (uo O) (· ∈ O) (upF U)) (hr0:uo O r=0)
  {to:Nat}(hto:upF U to≠none) {T0:List Nat}(hT:T0.length<=1000) (hOn:uo O to<=1000) {lv:D}(q:QD h (WL nk pb pu pl nU n .ready B to lv M) lv (bb T0)) {z1 z3 z4 z24 z25 z26 z47 z48 z49:D}{KH:HKq}
  (hps:B.ps=[56]) (hAs:EK PP kH B.nt B.assign) (hBs:EK PP kG B.nt B.body) (hlt:∀p,p∈[56]->p<B.nt) (he:B.env=LEnv.get [(1,z1),(3,z3),(4,z4),(5,.ptr pUv 0 0),(6,.ptr pA 0 0),(9,.ptr pl 0 0),(24,z24),(25,z25),(26,z26),(47,z47),(48,z48),(49,z49)])
  (hK:∀(s:LSt) (cur:Nat) (lv':D) (l:List Nat) (h':Heap),Oo r (upF U) w to l->(s=.ready\/s=.done (.exit 4))->QD h' (WL nk pb pu pl nU n s B cur lv' M) lv' (bb (T0++l))->KH (.tup []) h') :
  ai PP jy [.yld nk,.ptr pb 0 0,.ptr pu 0 0] h KH:=by
 refine aT zz (aJ _ _ _) rfl (yZ _ _ _ _) ?_
 unfold tL oq
 refine⟨fun m q' h'=>∃(cur:Nat) (lv:D) (l:List Nat),q'=[]/\m=uo O cur/\upF U cur≠none/\l.length+uo O cur<=uo O to/\(∀l',Oo r (upF U) w cur l'->Oo r (upF U) w to (l++l'))/\QD h' (WL nk pb pu pl nU n .ready B cur lv M) lv (bb (T0++l)),_,
  ⟨to,lv,[],rfl,rfl,hto,by simp,fun l' k=>k,by rw[List.append_nil];exact q⟩,?_⟩
 rintro m f h7 ⟨cur,lv,l,-,hm,hcu,hl,hseg,q7⟩
 have V7:=q7.vs
 have ix:∀{s:LSt}{cur:Nat}{lv:D}{i:Nat}{x:Nat×Slot},M[i]?=some x->(WL nk pb pu pl nU n s B cur lv M)[i+4]?=some x:=fun hi=>by simpa[WL] using hi
 rw[V7.DG 1 rfl rfl,J0]
 refine⟨⟨_,_,V7.get 0 _ _ rfl⟩,?_⟩
 refine qJ (e:=[(1,z1),(3,z3),(4,z4),(5,.ptr pUv 0 0),(6,.ptr pA 0 0),(9,.ptr pl 0 0),(24,z24),(25,z25),(26,z26),(47,z47),(48,z48),(49,z49)]) (V7.get 0 _ _ rfl) hps hAs hBs (by simp) hlt rfl he ?_
 rw[show([Arg.c (nD cur)].map fun x=>x.get [])=[nD cur] from rfl, <- uZ]
 refine MR hv hU hA hUn hw (by simp;omega) q7 (fun hc h' q'=>?_) fun hc h' lv' q'=>?_
 ·
  subst hc
  have hs:=hseg [] .stop
  rw[List.append_nil]at hs
  have hfin:=hK _ _ _ l h' hs (Or.inr rfl) q'
  simp only[OC (P:=PP),iK,cq,aE,if_false]
  rw[af]
  exact hfin
 ·obtain⟨y,hy⟩:∃y,upF U cur=some y:=by
   cases hy:upF U cur with
   | none=>exact absurd hy hcu
   | some y=>exact⟨y,rfl⟩
  have hyU:=pf hy
  have hcl:=(ah.1 hyU).1
  have V':=q'.vs
  simp only[QY (P:=PP),↓V'.DG 2 rfl rfl,↓V'.DG 1 rfl rfl,nD,↓V'.GB _ (ix hU) (show(0:Int)<=(cur:Int) by omega) (show(cur:Int)<(n:Int) by omega),aA,↓V'.EF _ (ix hU) (kP hyU) rfl,gK,iK,cq,if_true]
  by_cases hyc:y=cur
  ·subst hyc
   rw[decide_eq_true rfl]
   simp only[Bool.not_true]
   rw[af]
   have hs:=hseg [y] (.top hc hy)
   rw[List.append_assoc]at q'
   exact hK _ _ _ (l++[y]) h' hs (Or.inl rfl) q'
  ·rw[decide_eq_false (by omega)]
   simp only[Bool.not_false]
   rw[ag,V'.Cw 2 rfl rfl,V'.Cw 1 rfl rfl,nD,V'.ia _ (ix hU) (by omega) (by omega),aA,V'.xI _ (ix hU) (kP hyU) rfl]
   have hcr:cur≠r:=by
    rintro rfl
    have:=T.rt
    rw[hy]at this;cases this
    exact hyc rfl
   have hplt:=T.lt cur y hy hcr
   rcases q' with⟨-,h0,-⟩|⟨m',rfl,V2⟩
   ·simp[bb]at h0
   refine V2.FH 2 rfl rfl rfl fun h45 V45=>?_
   simp only[WL,List.set_cons_succ,List.set_cons_zero]at V45
   simp only[ab,true_and]
   refine⟨uo O y,by omega,y,.ms m' 0 (bb ((T0++l)++[cur])).length,l++[cur],rfl,(T.nd cur y hy).2,by simp;omega,fun l' k=>?_,Or.inr ⟨m',by rw[List.append_assoc],?_⟩⟩
   ·rw[List.append_assoc];exact hseg _ (.step hc hy hyc k)
   ·rw[<- List.append_assoc];exact V45
end
end Go.Am
namespace Go.Am
open Go Go.Proofs
section
variable {r:Nat}{A:Nat->Nat}{node:Nat->Prop}{up:Nat->Option Nat}{w:Nat}
theorem Oo.mem (T:Tr r A node up){b:Nat}{l:List Nat}(s:Oo r up w b l) (hw:Ch r up b w){x:Nat}:x∈l↔Ch r up b x/\¬Ch r up w x:=by
 induction s with
 | stop=>simp
 | @top b h hu =>
  exfalso
  cases hw with
  | refl _=>exact h rfl
  | step hr hy k =>
   have:=T.lt b b hu hr
   omega
 | @step b y l h hy hb k ih =>
  have hbr:b≠r:=by
   rintro rfl
   have:=T.rt
   rw[hy]at this;cases this
   exact hb rfl
  have hyw:Ch r up y w:=by
   cases hw with
   | refl _=>exact absurd rfl h
   | step hr hy' k'=>rw[hy]at hy';cases hy';exact k'
  rw[List.mem_cons,ih hyw]
  constructor
  ·rintro (rfl|⟨h1,h2⟩)
   ·exact⟨.refl _,fun k'=>h (hw.Jm T k').symm⟩
   ·exact⟨.step hbr hy h1,h2⟩
  ·rintro⟨h1,h2⟩
   cases h1 with
   | refl _=>exact Or.inl rfl
   | step hr hy' k'=>rw[hy]at hy';cases hy';exact Or.inr ⟨k',h2⟩
theorem Oo.len (T:Tr r A node up){b:Nat}{l:List Nat}(s:Oo r up w b l):l.length<=A b+1:=by
 induction s with
 | stop=>simp
 | top h hu=>simp
 | @step b y l h hy hb k ih =>
  have hbr:b≠r:=by
   rintro rfl
   have:=T.rt
   rw[hy]at this;cases this
   exact hb rfl
  have:=T.lt b y hy hbr
  simp only[List.length_cons];omega
end
section
variable {h:Heap}{L:LSq}{v:D}{Bs:List (List Nat)}{KH:HKq}
theorem gJ.split (q:gJ h L v Bs):∃X,Vs h (X++L)/\LR X v Bs/\∀h' L',Vs h' (X++L')->gJ h' L' v Bs:=by
 obtain⟨nB,els,W,nm,rfl,V,R⟩:=q
 refine⟨(nB,.arr 1 els)::W,V,Or.inr ⟨nB,els,rfl,by simp,R.len,fun b e l he hl=>?_⟩,fun h' L' V'=>⟨nB,els,W,nm,rfl,V',R⟩⟩
 refine⟨R.one e (ak he),?_⟩
 rcases R.el b l hl with⟨h1,h2⟩|⟨-,h2,h3⟩
 ·rw[he]at h2;cases h2;exact Or.inl ⟨rfl,h1⟩
 ·rw[he]at h2;cases h2;exact Or.inr (Or.inr ⟨_,rfl,by simp[h3]⟩)
theorem gJ.take (q:gJ h L v Bs){b x:Nat}{l:List Nat}(hb:Bs[b]?=some l):∃(nB:Nat) (els:List D) (W0:LSq) (e:D),v=.ms nB 0 Bs.length/\els.length=Bs.length/\(∀y∈els,y.one=true)/\els[b]?=some e/\QD h ((nB,.arr 1 els)::(W0++L)) e (bb l) /\
  ∀h' m,Vs h' ((m,.arr 1 (bb (l++[x])))::(nB,.arr 1 (els.set b (.ms m 0 (l.length+1))))::(W0++L))->gJ h' L v (Bs.set b (l++[x])):=by
 obtain⟨nB,els,W,nm,rfl,V,R⟩:=q
 have hbl:=(ah.1 hb).1
 obtain⟨e,he⟩:∃e,els[b]?=some e:=⟨els[b]'(by rw[R.len];exact hbl),aC _⟩
 have hx:∃W0,QD h ((nB,.arr 1 els)::(W0++L)) e (bb l)/\∀(b':Nat) (l':List Nat),b'≠b->Bs[b']?=some l'->l'≠[]->(nm b',.arr 1 (bb l'))∈W0:=by
  rcases R.el b l hb with⟨h1,h2⟩|⟨h0,h2,h3⟩
  ·rw[he]at h2;cases h2;subst h1
   refine⟨W,Or.inl ⟨rfl,rfl,V⟩,fun b' l' hne hb' hl'=>?_⟩
   rcases R.el b' l' hb' with⟨g1,-⟩|⟨-,-,g3⟩
   ·exact absurd g1 hl'
   ·exact g3
  ·rw[he]at h2;cases h2
   obtain⟨S,T,rfl⟩:=List.append_of_mem h3
   refine⟨S++T,Or.inr ⟨nm b,by rw[aZ],V.perm ?_⟩,fun b' l' hne hb' hl'=>?_⟩
   ·have:((nB,Slot.arr 1 els)::(S++(nm b,.arr 1 (bb l))::T++L)).Perm ((nm b,.arr 1 (bb l))::(nB,.arr 1 els)::(S++T++L)):=by
     refine(List.Perm.cons _ ?_).trans (.swap _ _ _)
     simp only[List.append_assoc,List.cons_append]
     exact List.perm_middle
    exact this
   ·rcases R.el b' l' hb' with⟨g1,-⟩|⟨-,-,g3⟩
    ·exact absurd g1 hl'
    ·have hnn:nm b'≠nm b:=fun e=>hne (R.inj b' b l' l hb' hb hl' h0 e)
     rcases List.mem_append.1 g3 with g|g
     ·exact List.mem_append_left _ g
     ·rcases List.mem_cons.1 g with g|g
      ·exact absurd (congrArg Prod.fst g) hnn
      ·exact List.mem_append_right _ g
 obtain⟨W0,Q,hoth⟩:=hx
 have hel:b<els.length:=by rw[R.len];exact hbl
 refine⟨nB,els,W0,e,rfl,R.len,R.one,he,Q,fun h' m V'=>⟨nB,els.set b (.ms m 0 (l.length+1)),(m,.arr 1 (bb (l++[x])))::W0,fun y=>if y=b then m else nm y,by simp,V'.swap,?_⟩⟩
 have hmW:∀s,(m,s)∉W0:=by
  intro s hs
  have:=(Vs.iff.1 V').2
  simp only[List.map_cons,List.nodup_cons,List.map_append,List.mem_cons,List.mem_append,not_or]at this
  exact this.1.2.1 (List.mem_map.2 ⟨(m,s),hs,rfl⟩)
 refine⟨by simp[R.len],fun b' l' hb'=>?_,fun b1 b2 l1 l2 h1 h2 n1 n2 hnm=>?_⟩
 ·rw[List.getElem?_set]at hb' ⊢
  by_cases hbb:b=b'
  ·subst hbb
   simp only[if_true]at hb' ⊢
   rw[if_pos hbl]at hb';cases hb'
   rw[if_pos hel]
   refine Or.inr ⟨by simp,?_,by simp⟩
   simp
  ·rw[if_neg hbb]at hb' ⊢
   rw[if_neg (fun e=>hbb e.symm)]
   rcases R.el b' l' hb' with⟨g1,g2⟩|⟨g1,g2,g3⟩
   ·exact Or.inl ⟨g1,g2⟩
   ·exact Or.inr ⟨g1,g2,List.mem_cons_of_mem _ (hoth b' l' (fun e=>hbb e.symm) hb' g1)⟩
 ·have key:∀(b':Nat) (l':List Nat),b'≠b->(Bs.set b (l++[x]))[b']?=some l'->l'≠[]->nm b'≠m:=fun b' l' hne hb' hn e=>by
   rw[List.getElem?_set,if_neg (fun e=>hne e.symm)]at hb'
   exact hmW _ (e ▸ hoth b' l' hne hb' hn)
  by_cases e1:b1=b
  ·by_cases e2:b2=b
   ·rw[e1,e2]
   ·simp only[e1,if_true,if_neg e2]at hnm
    exact absurd hnm.symm (key b2 l2 e2 h2 n2)
  ·by_cases e2:b2=b
   ·simp only[e2,if_true,if_neg e1]at hnm
    exact absurd hnm (key b1 l1 e1 h1 n1)
   ·simp only[if_neg e1,if_neg e2]at hnm
    rw[List.getElem?_set,if_neg (fun e=>e1 e.symm)]at h1
    rw[List.getElem?_set,if_neg (fun e=>e2 e.symm)]at h2
    exact R.inj b1 b2 l1 l2 h1 h2 n1 n2 hnm
end
end Go.Am
namespace Go.Am
open Go Go.Proofs
theorem Se {c:Code}{h:Heap}{L:LSq}{v:D}{Bs:List (List Nat)}{m n2 pA a im i2 iA:Nat}{row:List D}{S:List Nat}{a13 a17 a26 a28:D}{f:Nat->D}{J:HJq}(R:gJ h L v Bs) (hBs:Bs.length=c.b.length) (hm:L[im]?=some (m,.arr 1 row)) (hrow:∀(i b:Nat),S[i]?=some b->row[i]?=some (nD b))
  (h2:L[i2]?=some (n2,.box c.e)) (hA:L[iA]?=some (pA,.box (nD a))) (hS:S.length<=10000) (hlen:∀b,(gL Bs b).length<=10000) (hN:c.b.length<=1000) (hJ:∀h',gJ h' L v (S.foldl (gY a) Bs)->J [] h') :
  gI h (.int .i64 (S.length:Int)) (.ptr n2 0 0) v a13 a17 (.ptr pA 0 0) a26 a28 f (.ms m 0 S.length) J:=by
 unfold gI
 refine⟨fun k q h'=>∃i:Nat,q=[nD i]/\i<=S.length/\k=S.length-i/\(∀b,(gL ((S.take i).foldl (gY a) Bs) b).length<=10000+i)/\gJ h' L v ((S.take i).foldl (gY a) Bs),_,⟨0,rfl,by omega,rfl,by simpa using hlen,R⟩,?_⟩
 rintro k g h1 ⟨i,hq,hi,hk,hl1,R1⟩
 simp only[aq,and_true]at hq
 simp only[hq,nD]
 by_cases hlt:i<S.length
 ·rw[jZ (by omega),ag]
  obtain⟨b,hb⟩:∃b,S[i]?=some b:=⟨S[i],aC hlt⟩
  have V1:=R1.vs
  let B1:=(S.take i).foldl (gY a) Bs
  have hB1:B1.length=c.b.length:=by simp only[B1];rw[mJ,hBs]
  have htk:(S.take (i+1)).foldl (gY a) Bs=gY a B1 b:=by
   rw[List.take_add_one,hb]
   simp only[Option.toList_some,List.foldl_append,List.foldl_cons,List.foldl_nil]
   rfl
  have hnext:∀y,(gL (gY a B1 b) y).length<=10000+(i+1):=fun y=>by
   by_cases hbN:b<c.b.length
   ·rw[Cy (by rw[hB1];exact hbN)]
    split
    ·have:=hl1 b;simp only[List.length_append,List.length_cons,List.length_nil];simp only[B1];omega
    ·have:=hl1 y;simp only[B1];omega
   ·have:gY a B1 b=B1:=by
     unfold gY
     rw[List.set_eq_of_length_le (by omega)]
    rw[this]
    have:=hl1 y;simp only[B1];omega
  refine⟨fun _ h'=>gJ h' L v (gY a B1 b),fun f' h' R'=>?_,?_⟩
  ·rw[cU (by omega) (by omega)]
   simp only[ab,true_and]
   exact⟨_,by omega,i+1,rfl,by omega,rfl,by rw[htk];exact hnext,by rw[htk];exact R'⟩
  rw[V1.ia im hm (by omega) (by omega),aA,V1.xI im hm (hrow i b hb) rfl,V1.fa i2 h2,V1.cx i2 (j:=7) h2 rfl,bX,aw,nD]
  by_cases hbN:b<c.b.length
  ·rw[jZ (by omega),ag]
   have hget:B1[b]?=some (gL B1 b):=by unfold gL;rw[aC (by omega)];rfl
   obtain⟨nB,els,W0,e,rfl,hel,hone,he,Q,fin⟩:=gJ.take (x:=a) R1 hget
   have V2:=Q.vs
   have ix:∀{els:List D}{i:Nat}{x:Nat×Slot},L[i]?=some x->((nB,Slot.arr 1 els)::(W0++L))[W0.length+i+1]?=some x:=fun hi=>by
    rw[List.getElem?_cons_succ,List.getElem?_append_right (by omega),Nat.add_sub_cancel_left];exact hi
   have hB1':((S.take i).foldl (gY a) Bs).length=c.b.length:=hB1
   simp only[↓V2.GB 0 rfl (show(0:Int)<=(b:Int) by omega) (show(b:Int)<(((S.take i).foldl (gY a) Bs).length:Int) by omega),aA,↓V2.EF 0 rfl he (hone e (ak he)),↓V2.DG _ (ix hA) rfl]
   refine IQ ?_
   refine Q.Qa aW rfl (by rw[aZ];have:=hl1 b;simp only[B1];omega) (by rw[aZ];have:=hl1 b;simp only[B1];omega) fun v' h' Q'=>?_
   have e2:bb (gL B1 b)++[nD a]=bb (gL B1 b++[a]):=by simp[bb]
   rw[e2]at Q'
   rcases Q' with⟨-,h0,-⟩|⟨m',rfl,V'⟩
   ·simp[bb]at h0
   simp only[↓V'.GB 1 rfl (show(0:Int)<=(b:Int) by omega) (show(b:Int)<(((S.take i).foldl (gY a) Bs).length:Int) by omega),aA,ab,true_and]
   refine V'.uK 1 rfl (by rw[hel,hB1'];exact hbN) rfl hone fun h3 V3=>?_
   simp only[List.set_cons_succ,List.set_cons_zero]at V3
   simp only[↓V3.GB 1 rfl (show(0:Int)<=(b:Int) by omega) (show(b:Int)<(((S.take i).foldl (gY a) Bs).length:Int) by omega),aA,ab,true_and]
   have:=fin h3 m' (by rw[aZ,List.length_append]at V3;exact V3)
   exact this
  ·rw[jX (by omega),af]
   simp only[ab,true_and]
   have:gY a B1 b=B1:=by
    unfold gY
    rw[List.set_eq_of_length_le (by omega)]
   rw[this]
   exact R1
 ·have:i=S.length:=by omega
  subst this
  rw[jX (by omega),af]
  simp only[ab,true_and]
  rw[List.take_length]at R1
  exact hJ h1 R1
end Go.Am
namespace Go.Am
open Go Go.Proofs
section
variable {h:Heap}{L:LSq}{v:D}{T:List D}{KH:HKq}
theorem QD.more (q:QD h L v T){n:Nat}(hn:h n=.free){s:Slot}(hs:s≠.free):QD (aD h n s) ((n,s)::L) v T:=by
 rcases q with⟨rfl,rfl,V⟩|⟨m,rfl,V⟩
 ·exact Or.inl ⟨rfl,rfl,V.push hn hs⟩
 ·exact Or.inr ⟨m,rfl,(V.push hn hs).swap⟩
theorem QD.less {x:Nat×Slot}(q:QD h (x::L) v T):QD h L v T:=by
 rcases q with⟨rfl,rfl,V⟩|⟨m,rfl,V⟩
 ·exact Or.inl ⟨rfl,rfl,V.pop⟩
 ·exact Or.inr ⟨m,rfl,V.swap.pop⟩
theorem QD.box (q:QD h L v T){d:D}(hd:d.one=true) (hK:∀n h',QD h' ((n,.box d)::L) v T->KH (.ptr n 0 0) h'):aa PP (.box (.c d)) h KH:=by
 rw[Dz]
 exact⟨fun x hx=>by rw[iY hd]at hx;simp at hx;subst hx;exact hd,fun n t=>hK n _ (q.more t.free (by simp))⟩
end
section
variable {h:Heap}{M:LSq}{pl nU n pUv pA iv iU iA a w r:Nat}{U:List Int}{O ts:List Nat}{lv:D}
theorem NG (hv:M[iv]?=some (pUv,.box (.ms nU 0 n))) (hU:M[iU]?=some (nU,.arr 1 (fP U))) (hA:M[iA]?=some (pA,.box (nD a))) (hUn:U.length=n) (hn:n<=1000) (hw:U[a]?=some (w:Int)) (T:Tr r (uo O) (· ∈ O) (upF U)) (hr0:uo O r=0) (hOl:O.length<=400)
  (hts:∀t∈ts,upF U t≠none/\Ch r (upF U) t w) (htl:ts.length<=2) (q:QD h ((pl,.box lv)::M) lv []) {a2 a9 a13 a26 a28:D}{f:Nat->D}{J:HJq}{K:HKq}
  (hJ:∀(lv':D) (l:List Nat) (h':Heap),l.length<=802->(∀x,x∈l ↔ ∃t,t∈ts/\Ch r (upF U) t x/\¬Ch r (upF U) w x)->QD h' ((pl,.box lv')::M) lv' (bb l)->J [] h') :
  kF h (.int .i64 (ts.length:Int)) a2 a9 a13 (.ptr pUv 0 0) (.ptr pA 0 0) (.ptr pl 0 0) a26 a28 f (.sl (bb ts)) J K:=by
 have hplc:∀x,uo O x<=400:=fun x=>Nat.le_trans List.idxOf_le_length hOl
 unfold kF
 refine⟨fun k q' h'=>∃(j:Nat) (lv:D) (l:List Nat),q'=[nD j]/\j<=ts.length/\k=ts.length-j/\l.length<=401*j/\(∀x,x∈l ↔ ∃t,t∈ts.take j/\Ch r (upF U) t x/\¬Ch r (upF U) w x)/\QD h' ((pl,.box lv)::M) lv (bb l),_,⟨0,lv,[],rfl,by omega,rfl,by simp,by simp,q⟩,?_⟩
 rintro k g h1 ⟨j,lv1,l,hq,hj,hk,hl,hmem,q1⟩
 simp only[aq,and_true]at hq
 simp only[hq,nD]
 by_cases hlt:j<ts.length
 ·rw[jZ (by omega),ag]
  obtain⟨to,hto⟩:∃to,ts[j]?=some to:=⟨ts[j],aC hlt⟩
  have htoM:=ak hto
  have htk:ts.take (j+1)=ts.take j++[to]:=by rw[List.take_add_one,hto];rfl
  refine⟨fun _ h'=>∃(lv:D) (l:List Nat),l.length<=401*(j+1)/\(∀x,x∈l ↔ ∃t,t∈ts.take (j+1)/\Ch r (upF U) t x/\¬Ch r (upF U) w x)/\QD h' ((pl,.box lv)::M) lv (bb l),?_,?_⟩
  ·rintro f' h' ⟨lv2,l2,b1,b2,b3⟩
   rw[cU (by omega) (by omega)]
   simp only[ab,true_and]
   exact⟨_,by omega,j+1,lv2,l2,rfl,by omega,rfl,b1,b2,b3⟩
  have V1:=q1.vs
  refine UE hto ?_
  rw[V1.Cw (iv+1) (by simpa using hv) rfl]
  refine aT Ej (aJ _ _ _) rfl (DY _ _ _) ?_
  unfold Bf
  refine q1.box rfl fun pu h4 q4=>?_
  refine q4.box rfl fun pb h6 q6=>?_
  rw[He]
  refine⟨rfl,Sq,fun nk B ht he hps _ hlt' hAs hBs=>?_⟩
  have q7:QD (aD h6 nk (.lp .ready B)) (WL nk pb pu pl nU n .ready B to lv1 M) lv1 (bb l):=q6.more ht.free (by simp)
  refine SF hv hU hA hUn hn hw T hr0 (hts to htoM).1 (by omega) (by have:=hplc to;omega) q7 hps hAs hBs hlt' he fun s cur lv' l' h' hseg hs q8=>?_
  have V8:=q8.vs
  have hget:h' nk=.lp s B:=V8.get 0 _ _ rfl
  have q9:QD (aD h' nk .dead) ((pl,.box lv')::M) lv' (bb (l++l')):=(q8.cc 0 rfl (by simp)).less.less.less
  have hfin:∃(lv:D) (l:List Nat),l.length<=401*(j+1)/\(∀x,x∈l ↔ ∃t,t∈ts.take (j+1)/\Ch r (upF U) t x/\¬Ch r (upF U) w x)/\QD (aD h' nk .dead) ((pl,.box lv)::M) lv (bb l):=by
   refine⟨lv',l++l',?_,fun x=>?_,q9⟩
   ·have h1:=hseg.len T
    have h2:=hplc to
    simp only[List.length_append];omega
   ·rw[List.mem_append,hmem,hseg.mem T (hts to htoM).2,htk]
    constructor
    ·rintro (⟨t,h1,h2⟩|h2)
     ·exact⟨t,by simp[h1],h2⟩
     ·exact⟨to,by simp,h2⟩
    ·rintro⟨t,h1,h2⟩
     rcases List.mem_append.1 h1 with h1|h1
     ·exact Or.inl ⟨t,h1,h2⟩
     ·simp at h1;subst h1;exact Or.inr h2
  show ff _ _ _ _ _
  unfold ff
  rw[hget]
  rcases hs with rfl|rfl
  ·simp only[ab,true_and]
   exact hfin
  ·simp only[ab,true_and,or_false]
   exact hfin
 ·have:j=ts.length:=by omega
  subst this
  rw[jX (by omega),af]
  simp only[ab,true_and]
  rw[List.take_length]at hmem
  exact hJ lv1 l h1 (by omega) hmem q1
end
end Go.Am
namespace Go.Am
open Go Go.Proofs
theorem KF {t:Term}{x y:Nat}(h:cZ t=[x,y]) (h0:0<=t.to0) (h1:0<=t.to1):x≠y:=by
 unfold cZ at h
 split at h
 ·cases h
 ·split at h
  ·rename_i hk
   simp only[aq,and_true]at h
   rintro rfl
   exact hk.2 (by omega)
  ·cases h
noncomputable def pB (c:Code) (O O':List Nat):Nat->List Nat:=preB (yE (o8 (fS c) O c.b.length (de c O)) O' (c.b.length+1))
structure wC (c:Code) (O O':List Nat) (at' U:List Int):Prop where
 b:QW c O O' at'
 u:Ut c.b.length O' (yE (o8 (fS c) O c.b.length (de c O)) O' (c.b.length+1)) (c.b.length+1) U
def Hw (c:Code) (O O':List Nat) (a b:Nat):Prop:=a∈O/\(edg c a).length=2/\(∃t,t∈edg c a/\Dm c.b.length (pB c O O') b t)/\(b=a\/¬Dm c.b.length (pB c O O') b a)
section
variable {c:Code}{O O':List Nat}{at' U:List Int}
theorem wC.o8 (hc:bS c) (D:wC c O O' at' U):∀l,l∈Go.Am.o8 (fS c) O c.b.length (de c O)->(∀x∈l,x<c.b.length+1)/\l.length<=1000 :=
 Io hc D.b.lt D.b.sub (by have:=D.b.len.2;omega) D.b.len.1
theorem wC.mem (hc:bS c) (D:wC c O O' at' U){a:Nat}(ha:a<c.b.length):a∈O'↔a∈O:=by
 refine⟨fun h=>?_,D.b.all a⟩
 have:Path (gL (Go.Am.o8 (fS c) O c.b.length (de c O))) c.b.length a->a=c.b.length\/a∈O:=fun h=>by
  cases h with
  | refl=>exact Or.inl rfl
  | @step x _ _ e =>
   rw[xi]at e
   split at e
   ·rw[jH (iI hc)]at e
    exact Or.inr e.1
   ·split at e
    ·exact Or.inr (D.b.sub _ e)
    ·cases e
 rcases this (D.b.g.path.1 h) with e|h
 ·omega
 ·exact h
theorem wC.pre (hc:bS c) (D:wC c O O' at' U){a t:Nat}(ha:a∈O) (ht:t∈edg c a):t∈pB c O O' a/\t∈O':=by
 have haN:=D.b.lt a ha
 have htO:t∈O:=by
  obtain⟨S,hv⟩:=D.b.ord
  have G:=u4.gr (at':=(List.range c.b.length).map fun x=>if x∈O then((uo O x:Nat):Int) else -1) (iI hc) bV (by omega) ⟨S,hv⟩ (by simp) (fun i x hx=>?_) (fun x hx hn=>?_)
  ·refine G.cl a t ha ?_
   have:t∈gL (fS c) a:=by rw[jB];exact ht
   exact this
  ·have hxO:=ak hx
   have hxN:=D.b.lt x hxO
   have nd:O.Nodup:=by
    obtain⟨m,h1,e⟩:=hv
    obtain⟨N,e2,F⟩:=h1.spec (n:=c.b.length) (fun p b=>mR (iI hc)) (fun x=>mR (iI hc)) (by simp)
    have e3:O=0::N:=by
     have:=congrArg Prod.snd e
     simp only at this
     rw[this,e2];simp
    rw[e3]
    refine List.nodup_cons.2 ⟨fun h=>?_,F.nd⟩
    have h2:=(F.new 0 h).1
    simp only at h2
    rw[bn (by simp;omega)]at h2
    simp at h2
   rw[List.getElem?_map,List.getElem?_range hxN]
   simp[hxO,wW nd hx]
  ·rw[List.getElem?_map,List.getElem?_range hx]
   simp[hn]
 have htO':=D.b.all t htO
 have htN:=D.b.lt t htO
 refine⟨?_,htO'⟩
 have:t∈gL (yE (Go.Am.o8 (fS c) O c.b.length (de c O)) O' (c.b.length+1)) a:=by
  rw[jH (D.o8 hc)]
  refine⟨htO',?_⟩
  rw[xi,if_pos htN,jH (iI hc),jB]
  exact⟨ha,ht⟩
 exact this
theorem wC.up (hc:bS c) (D:wC c O O' at' U){a:Nat}(ha:a∈O):∃w,upF U a=some w/\(∀t,t∈edg c a->upF U t≠none/\Ch c.b.length (upF U) t w)/\∀x,Ch c.b.length (upF U) w x↔Ch c.b.length (upF U) a x/\x≠a:=by
 have haN:=D.b.lt a ha
 have har:a≠c.b.length:=by omega
 have haO':=D.b.all a ha
 obtain⟨w,hw⟩:∃w,upF U a=some w:=by
  cases hy:upF U a with
  | none=>exact absurd hy (D.u.al a haO')
  | some y=>exact⟨y,rfl⟩
 have hlt:=D.u.tr.lt a w hw har
 have hne:w≠a:=by rintro rfl;omega
 have hcw:Ch c.b.length (upF U) a w:=.step har hw (.refl _)
 refine⟨w,hw,fun t ht=>?_,fun x=>?_⟩
 ·obtain⟨h1,h2⟩:=D.pre hc ha ht
  refine⟨D.u.al t h2,(D.u.ch t w h2).2 ?_⟩
  exact IM ((D.u.ch a w haO').1 hcw) h1 hne.symm
 ·constructor
  ·intro h
   refine⟨.step har hw h,?_⟩
   rintro rfl
   rcases h.le D.u.tr with e|h
   ·exact hne e.symm
   ·omega
  ·rintro⟨h1,h2⟩
   cases h1 with
   | refl _=>exact absurd rfl h2
   | step _ hy k=>rw[hw]at hy;cases hy;exact k
theorem wC.dep (hc:bS c) (D:wC c O O' at' U){a w b:Nat}(ha:a∈O) (h2:(edg c a).length=2) (hw:upF U a=some w):(∃t,t∈edg c a/\Ch c.b.length (upF U) t b/\¬Ch c.b.length (upF U) w b)↔Hw c O O' a b:=by
 obtain⟨w',hw',-,hx⟩:=D.up hc ha
 rw[hw]at hw';cases hw'
 have haO':=D.b.all a ha
 have hch:∀{t:Nat},t∈edg c a->(Ch c.b.length (upF U) t b↔Dm c.b.length (pB c O O') b t):=fun ht=>D.u.ch _ _ (D.pre hc ha ht).2
 have hcw:¬Ch c.b.length (upF U) w b↔(b=a\/¬Dm c.b.length (pB c O O') b a):=by
  rw[hx,D.u.ch a b haO']
  constructor
  ·intro h
   by_cases e:b=a
   ·exact Or.inl e
   ·exact Or.inr fun k=>h ⟨k,e⟩
  ·rintro (e|h) ⟨k1,k2⟩
   ·exact k2 e
   ·exact h k1
 constructor
 ·rintro⟨t,ht,h3,h4⟩
  exact⟨ha,h2,⟨t,ht,(hch ht).1 h3⟩,hcw.1 h4⟩
 ·rintro⟨-,-,⟨t,ht,h3⟩,h4⟩
  exact⟨t,ht,(hch ht).2 h3,hcw.2 h4⟩
end
end Go.Am
namespace Go.Am
open Go Go.Proofs
noncomputable def oY (c:Code) (O O':List Nat) (k:Nat):List (List Nat):=(List.range c.b.length).map fun b=>JW k fun a=>Hw c O O' a b
theorem il {c:Code}{O O':List Nat}{k:Nat}:(oY c O O' k).length=c.b.length:=by simp[oY]
theorem uw {c:Code}{O O':List Nat}{k b:Nat}(hb:b<c.b.length):gL (oY c O O' k) b=JW k fun a=>Hw c O O' a b:=by
 unfold gL oY
 rw[List.getElem?_map,List.getElem?_range hb];rfl
theorem Dl {k:Nat}{p:Nat->Prop}:(p k->JW (k+1) p=JW k p++[k])/\(¬p k->JW (k+1) p=JW k p):=by
 unfold JW
 rw[List.range_succ,List.filter_append]
 refine⟨fun h=>?_,fun h=>?_⟩
 ·congr 1
  simp[h]
 ·simp[h]
theorem Hg {p b:Nat}:∀{S:List Nat}{Bs:List (List Nat)},S.Nodup->b<Bs.length->gL (S.foldl (gY p) Bs) b=if b∈S then gL Bs b++[p] else gL Bs b
 | [],_,_,_=>by simp
 | s::S,Bs,hn,hb=>by
  rw[List.nodup_cons]at hn
  rw[List.foldl_cons,Hg hn.2 (by rw[yI];exact hb)]
  have e1:gL (gY p Bs s) b=if b=s then gL Bs s++[p] else gL Bs b:=by
   by_cases hs:s<Bs.length
   ·exact Cy hs
   ·unfold gY
    rw[List.set_eq_of_length_le (by omega),if_neg (by omega)]
  rw[e1]
  by_cases hbs:b=s
  ·subst hbs
   rw[if_neg hn.1,if_pos rfl,if_pos (by simp)]
  ·rw[if_neg hbs]
   by_cases hbS:b∈S
   ·rw[if_pos hbS,if_pos (by simp[hbS])]
   ·rw[if_neg hbS,if_neg (by simp[hbS,hbs])]
theorem jA {A B:List (List Nat)}(hl:A.length=B.length) (h:∀b,b<A.length->gL A b=gL B b):A=B:=by
 apply List.ext_getElem hl
 intro i h1 h2
 have:=h i h1
 unfold gL at this
 rwa [aC h1,aC h2]at this
theorem Sf {c:Code}{O O':List Nat}:oY c O O' 0=List.replicate c.b.length []:=by
 refine jA (by simp[il]) fun b hb=>?_
 rw[il]at hb
 rw[uw hb]
 unfold gL
 rw[List.getElem?_replicate,if_pos hb];rfl
theorem Ff {c:Code}{O O':List Nat}{k:Nat}(h:∀b,¬Hw c O O' k b):oY c O O' (k+1)=oY c O O' k:=by
 refine jA (by simp[il]) fun b hb=>?_
 rw[il]at hb
 rw[uw hb,uw hb,(Dl (p:=fun a=>Hw c O O' a b)).2 (h b)]
theorem NH {c:Code}{O O' S:List Nat}{k:Nat}(hS:S.Nodup) (h:∀b,b∈S↔Hw c O O' k b):S.foldl (gY k) (oY c O O' k)=oY c O O' (k+1):=by
 refine jA (by rw[mJ,il,il]) fun b hb=>?_
 rw[mJ,il]at hb
 rw[Hg hS (by rw[il];exact hb),uw hb,uw hb]
 by_cases hp:Hw c O O' k b
 ·rw[if_pos ((h b).2 hp),(Dl (p:=fun a=>Hw c O O' a b)).1 hp]
 ·rw[if_neg (fun k=>hp ((h b).1 k)),(Dl (p:=fun a=>Hw c O O' a b)).2 hp]
theorem OO {l:List Nat}:∃S:List Nat,Ir (l.map fun n:Nat=>(n:Int))=S.map (fun n:Nat=>(n:Int))/\S.Pairwise (· < ·)/\∀x,x∈S↔x∈l:=by
 have hm:=fun x=>Mz (ks:=l.map fun n:Nat=>(n:Int)) (x:=x)
 have hi:=MB (ks:=l.map fun n:Nat=>(n:Int))
 generalize Ir (l.map fun n:Nat=>(n:Int))=Z at hm hi
 have hnn:∀x∈Z,0<=x:=fun x hx=>by
  have:=(hm x).1 hx
  simp only[List.mem_map]at this
  obtain⟨n,-,rfl⟩:=this
  omega
 refine⟨Z.map Int.toNat,?_,?_,fun x=>?_⟩
 ·rw[List.map_map]
  have:Z.map ((fun n:Nat=>(n:Int)) ∘ Int.toNat)=Z.map id:=List.map_congr_left fun x hx=>by
   have:=hnn x hx
   simp only[Function.comp_apply,id];omega
  rw[this,List.map_id]
 ·rw[List.pairwise_map]
  refine hi.imp_of_mem fun ha hb hab=>?_
  have:=hnn _ ha
  have:=hnn _ hb
  omega
 ·rw[List.mem_map]
  constructor
  ·rintro⟨z,hz,rfl⟩
   have:=(hm z).1 hz
   simp only[List.mem_map]at this
   obtain⟨n,hn,rfl⟩:=this
   simpa using hn
  ·intro hx
   exact⟨(x:Int),(hm _).2 (List.mem_map.2 ⟨x,hx,rfl⟩),by simp⟩
end Go.Am
namespace Go.Am
open Go Go.Proofs
theorem Mc {P:Program}{A:(D->Prop)->Prop}{K:D->Prop}:aF (.bool true) false A K=K gU:=by
 rw[gk];simp
theorem OA {P:Program}{A:(D->Prop)->Prop}{K:D->Prop}:aF (.bool false) false A K=A K:=by
 rw[gk];simp
section
variable {h:Heap}{L:LSq}{v:D}{Bs:List (List Nat)}{KH:HKq}
theorem gJ.sub {L':LSq}(s:L'.Sublist L) (q:gJ h L v Bs):gJ h L' v Bs:=by
 obtain⟨X,V,-,lift⟩:=q.split
 exact lift h L' (V.sub (List.Sublist.append (.refl X) s))
theorem Qg {m n:Nat}{l:List Nat}(V:Vs h ((m,.arr 1 (bb l))::L)) (hn:n=l.length) (h0:1<=l.length) (hl:l.length<=100000) (hK:∀h',Vs h' ((m,.arr 1 (fP (nP (l.map fun n:Nat=>(n:Int)))))::L)->KH (.tup []) h'):ai PP dj [.ms m 0 n] h KH:=by
 have hm:=V.get 0 _ _ rfl
 rw[TD]at hm
 have:=SL (KH:=KH) hm (by rw[aw];exact h0) (by rw[aw];omega) (hK _ (V.cc 0 rfl (by simp)))
 rw[aw]at this
 rw[hn]
 exact this
theorem Qj {m n:Nat}{ks:List Int}(V:Vs h ((m,.arr 1 (fP ks))::L)) (hn:n=ks.length) (h0:1<=ks.length) (hl:ks.length<=100000) (hK:∀h',Vs h' ((m,.arr 1 (fP (yA ks)))::L)->KH (.ms m 0 (Lib.compact ks).length) h'):ai PP cG [.ms m 0 n] h KH:=by
 rw[hn]
 exact LN (V.get 0 _ _ rfl) h0 (by omega) A7 (hK _ (V.cc 0 rfl (by simp)))
end
section
variable {c:Code}{O O':List Nat}{at' U:List Int}{h:Heap}{L:LSq}{v:D}{K:HKq}
theorem PJ (hc:bS c){a pl pbk pA n2 i2:Nat}{X:LSq}{tb:D}{lv:D}{l:List Nat}(hl:l.length<=802) (hl0:1<=l.length) (hmem:∀x,x∈l↔Hw c O O' a x) (h2:L[i2]?=some (n2,.box c.e)) (ha:a<=20)
  (q:QD h ((pl,.box lv)::(pbk,.box tb)::(pA,.box (nD a))::(X++L)) lv (bb l)) (lift:∀h' L',Vs h' (X++L')->gJ h' L' v (oY c O O' a)) {a13 a17 a26 a28:D}{f:Nat->D}{J:HJq}(hJ:∀h',gJ h' L v (oY c O O' (a+1))->J [] h') :
  aa PP (.ld (.c (.ptr pl 0 0)) 1 false) h fun a80 h81 =>
  ai PP dj [a80] h81 fun a82 h83 =>
  aa PP (.ld (.c (.ptr pl 0 0)) 1 false) h83 fun a84 h85 =>
  ai PP cG [a84] h85 fun a86 h87 =>
  aR a86 h87 fun a88 =>
  gI h87 a88 (.ptr n2 0 0) v a13 a17 (.ptr pA 0 0) a26 a28 f a86 J:=by
 have hnb:=hc.nb
 rcases q with⟨-,h0,-⟩|⟨m,rfl,V⟩
 ·have:(bb l).length=0:=by rw[h0];rfl
  rw[aZ]at this;omega
 rw[V.Cw 1 rfl rfl]
 refine Qg V aZ hl0 (by omega) fun h83 V83=>?_
 rw[V83.Cw 1 rfl rfl]
 have hsl:(nP (l.map fun n:Nat=>(n:Int))).length=l.length:=by rw[zO,aw]
 refine Qj V83 (by rw[aZ,hsl]) (by omega) (by omega) fun h87 V87=>?_
 obtain⟨S,hS,hinc,hSm⟩:=OO (l:=l)
 have hSl:(Lib.compact (nP (l.map fun n:Nat=>(n:Int)))).length=S.length:=by
  have:(Ir (l.map fun n:Nat=>(n:Int))).length=S.length:=by rw[hS,aw]
  exact this
 have hSle:S.length<=l.length:=by
  have:=MA (ks:=l.map fun n:Nat=>(n:Int))
  rw[hS,aw,aw]at this;exact this
 rw[bu,V87.get 0 _ _ rfl]
 refine⟨rfl,?_⟩
 rw[hSl]
 have R:=lift h87 ((m,.arr 1 (fP (yA (nP (l.map fun n:Nat=>(n:Int))))))::(pl,.box (.ms m 0 (bb l).length))::(pbk,.box tb)::(pA,.box (nD a))::L) (V87.perm (List.perm_append_comm_assoc [_,_,_,_] X L))
 refine Se (im:=0) (i2:=i2+4) (iA:=3) R il rfl (fun i b hb=>?_) (by simpa using h2) rfl (by omega) (fun b=>?_) (by omega) fun h' R'=>?_
 ·have e:yA (nP (l.map fun n:Nat=>(n:Int)))=(S.map fun n:Nat=>(n:Int))++List.replicate ((nP (l.map fun n:Nat=>(n:Int))).length-(Lib.compact (nP (l.map fun n:Nat=>(n:Int)))).length) 0:=by
   rw[<- hS];rfl
  rw[e]
  have hi:=(ah.1 hb).1
  simp only[fP,List.getElem?_map]
  rw[List.getElem?_append_left (by simpa using hi),List.getElem?_map,hb]
  rfl
 ·by_cases hb:b<c.b.length
  ·rw[uw hb]
   exact Nat.le_trans JV (by omega)
  ·unfold gL
   rw[List.getElem?_eq_none (by rw[il];omega)]
   simp
 ·rw[NH (hinc.imp fun h=>by omega) fun b=>by rw[hSm,hmem]]at R'
  refine hJ h' (R'.sub ?_)
  exact .cons _ (.cons _ (.cons _ (.cons _ (.refl _))))
end
end Go.Am
namespace Go.Am
open Go Go.Proofs
theorem Mr {N:Nat}{R:Int}{t:Term}(h:xJ N R t){x y:Nat}(he:cZ t=[x,y]):x≠y:=by
 cases h with
 | branch o a b ho h1 h2=>exact KF he (by simp) (by simp)
 | _=>simp[cZ]at he
section
variable {c:Code}{O O':List Nat}{at' U:List Int}{h:Heap}{L:LSq}{v:D}{K:HKq}
theorem PK (hc:bS c) (G:wC c O O' at' U){n2 nU nA nO ng pUv i2 iU ig iA iv:Nat}{w0:D}(h2:L[i2]?=some (n2,.box c.e)) (hv:L[iv]?=some (pUv,.box (.ms nU 0 (c.b.length+1)))) (hU:L[iU]?=some (nU,.arr 1 (fP U))) (hg:L[ig]?=some (ng,J4 w0 nO O'.length nA (c.b.length+1))) (hA:L[iA]?=some (nA,.arr 1 (fP at')))
  (R:gJ h L v (oY c O O' 0)) {J:HJq}(hJ:∀h',gJ h' L v (oY c O O' c.b.length)->J [] h') :
  kE h (.int .i64 (c.b.length:Int)) (.ptr n2 0 0) v (.ptr ng 0 0) (.ptr pUv 0 0) (.sl (c.b.map Block.e)) J K:=by
 have hnb:=hc.nb
 unfold kE
 refine⟨fun m q h'=>∃a:Nat,q=[nD a]/\a<=c.b.length/\m=c.b.length-a/\gJ h' L v (oY c O O' a),_,⟨0,rfl,by omega,rfl,R⟩,?_⟩
 rintro m f h32 ⟨a,hq,ha,hm,R1⟩
 simp only[aq,and_true]at hq
 simp only[hq,nD]
 by_cases hlt:a<c.b.length
 ·rw[jZ (by omega),ag]
  obtain⟨B,hB⟩:∃B,c.b[a]?=some B:=⟨c.b[a],aC hlt⟩
  have hTB:=hc.t B (ak hB)
  refine⟨fun _ h'=>gJ h' L v (oY c O O' (a+1)),fun f' h' R'=>?_,?_⟩
  ·rw[cU (by omega) (by omega)]
   simp only[ab,true_and]
   exact⟨_,by omega,a+1,rfl,by omega,rfl,R'⟩
  obtain⟨X,V,-,lift⟩:=R1.split
  rw[xp hB,show B.e=.agg (.sl (B.i.map aX.e)::B.t.cs) from rfl,IA (s:=14) rfl]
  refine V.alloc fun pA h43 V43=>?_
  refine V43.alloc fun pbk h45 V45=>?_
  refine V45.FH 1 rfl rfl rfl fun h47 V47=>?_
  simp only[List.set_cons_succ,List.set_cons_zero]at V47
  refine V47.p8 0 rfl rfl rfl (fun x hx=>B.dS.one x hx) fun h49 V49=>?_
  simp only[List.set_cons_zero]at V49
  rw[V49.fa 0 rfl,L1 (V49.get 0 _ _ rfl) (by show 0+1+13<=14;omega)]
  have eT:((D.sl (B.i.map aX.e)::B.t.cs).drop (0+1)).take 13=B.t.cs:=rfl
  rw[eT]
  refine bO (Jc hTB) (fun d hd=>by simp at hd;subst hd;exact B.t.dS.pair) ?_
  rintro _ rfl
  rw[<- jE hB]
  let M:LSq:=(pbk,.box (.agg (.sl (B.i.map aX.e)::B.t.cs)))::(pA,.box (.int .i64 (a:Int)))::(X++L)
  have ix:∀{i:Nat}{x:Nat×Slot},L[i]?=some x->M[X.length+i+2]?=some x:=fun hi=>by
   simp only[M,List.getElem?_cons_succ]
   rw[List.getElem?_append_right (by omega),Nat.add_sub_cancel_left];exact hi
  have VM:Vs h49 M:=V49
  have back:∀h',Vs h' M->gJ h' L v (oY c O O' a):=fun h' V'=>lift h' L V'.pop.pop
  obtain⟨k,hk,hk0⟩:∃k:Int,at'[a]?=some k/\(a∈O'->0<=k)/\(a∉O'->k<0):=by
   by_cases haO:a∈O'
   ·obtain⟨i,hi⟩:=aO haO
    exact⟨_,G.b.g.aat i a hi,fun _=>by omega,fun h=>absurd haO h⟩
   ·exact⟨_,G.b.g.ano a (by rw[qc];omega) haO,fun h=>absurd h haO,fun _=>by omega⟩
  have hal:at'.length=c.b.length+1:=by rw[G.b.g.tq,qc]
  simp only[VM.mH _ (ix hg),VM.iJ _ (j:=2) (ix hg) rfl,VM.DG 1 rfl rfl,VM.GB _ (ix hA) (show(0:Int)<=(a:Int) by omega) (show(a:Int)<((c.b.length+1:Nat):Int) by omega),aA,VM.EF _ (ix hA) (kP hk) rfl]
  by_cases haO:a∈O'
  ·rw[jX (hk0.1 haO)]
   simp only[OA (P:=PP),Di,iK,cq,aE,if_false,gK]
   have haO2:a∈O:=(G.mem hc hlt).1 haO
   by_cases hlen:(edg c a).length=2
   ·rw[decide_eq_true (by omega)]
    simp only[Bool.not_true]
    rw[af]
    obtain⟨w,hw,hts,hx⟩:=G.up hc haO2
    refine VM.alloc fun pl h76 V76=>?_
    have hmem:∀x,(∃t,t∈edg c a/\Ch c.b.length (upF U) t x/\¬Ch c.b.length (upF U) w x)↔Hw c O O' a x:=fun x=>G.dep hc haO2 hlen hw
    have hne:∀l:List Nat,(∀x,x∈l ↔ ∃t,t∈edg c a/\Ch c.b.length (upF U) t x/\¬Ch c.b.length (upF U) w x)->1<=l.length:=fun l hl=>by
     have he:=jE hB
     match hs:edg c a,hlen with
     | [x,y],_ =>
      rw[hs]at he
      have hxy:=Mr hTB he.symm
      have hxm:x∈edg c a:=by rw[hs];simp
      have hym:y∈edg c a:=by rw[hs];simp
      have:∃t,t∈edg c a/\¬Ch c.b.length (upF U) w t:=by
       by_cases h1:Ch c.b.length (upF U) w x
       ·refine⟨y,hym,fun h2=>hxy ?_⟩
        have e1:=h1.Jm G.u.tr (hts x hxm).2
        have e2:=h2.Jm G.u.tr (hts y hym).2
        rw[e1,e2]
       ·exact⟨x,hxm,h1⟩
      obtain⟨t,ht,hn⟩:=this
      have:t∈l:=(hl t).2 ⟨t,ht,.refl _,hn⟩
      exact List.length_pos_of_mem this
    refine⟨fun _ h'=>∃(lv:D) (l:List Nat),l.length<=802/\(∀x,x∈l ↔ ∃t,t∈edg c a/\Ch c.b.length (upF U) t x/\¬Ch c.b.length (upF U) w x)/\QD h' ((pl,.box lv)::M) lv (bb l),?_,?_⟩
    ·rintro f2 h79 ⟨lv,l,hl1,hl2,q⟩
     exact PJ hc hl1 (hne l hl2) (fun x=>(hl2 x).trans (hmem x)) h2 (by omega) q lift fun h' R'=>R'
    ·refine NG (iv:=X.length+iv+2) (iU:=X.length+iU+2) (iA:=1) (r:=c.b.length) (O:=O') (ix hv) (ix hU) rfl G.u.len (by omega) (pf hw) G.u.tr G.b.g.dg.zero ?_ hts (by omega) (Or.inl ⟨rfl,rfl,V76⟩) fun lv' l h' b1 b2 b3=>⟨lv',l,b1,b2,b3⟩
     have:O'.length<=c.b.length+1:=po G.b.g.nd fun x hx=>by have:=G.b.g.lt x hx;rwa [qc]at this
     omega
   ·rw[decide_eq_false (by omega)]
    simp only[Bool.not_false]
    rw[ag]
    simp only[ab,true_and]
    rw[Ff fun b hb=>hlen hb.2.1]
    exact back h49 VM
  ·rw[jZ (hk0.2 haO)]
   simp only[Mc (P:=PP),iK,cq,if_true]
   rw[ag]
   simp only[ab,true_and]
   rw[Ff fun b hb=>haO ((G.mem hc hlt).2 hb.1)]
   exact back h49 VM
 ·have:a=c.b.length:=by omega
  subst this
  rw[jX (by omega),af]
  simp only[ab,true_and]
  exact hJ h32 R1
end
end Go.Am
namespace Go.Am
open Go Go.Proofs
theorem Fw {c:Code}(hc:bS c){h:Heap}{L:LSq}{KH:HKq}(V:Vs h L) (hK:∀v h' O O' at' U,wC c O O' at' U->gJ h' L v (oY c O O' c.b.length)->KH v h'):ai PP oT [c.e] h KH:=by
 have hnb:=hc.nb
 refine aT AP (aJ _ _ _) rfl (AF _ _) ?_
 unfold vO
 refine V.box c.dS.one fun n2 h3 V1=>?_
 simp only[↓V1.fa 0 rfl,Nat.zero_add,↓V1.cx 0 (j:=7) rfl rfl,bX,aw]
 refine V1.JS (by omega) (by omega) fun nB h10 V10=>?_
 have R10:=gJ.Va V10
 obtain⟨X,V11,-,lift⟩:=R10.split
 have ix:((X++(n2,Slot.box c.e)::L))[X.length+0]?=some (n2,.box c.e):=by
  rw[List.getElem?_append_right (by omega),Nat.add_sub_cancel_left];rfl
 rw[show aa PP (.ld (.c (.ptr n2 0 0)) 8 true) h10=fun KH=>KH c.e h10 from funext fun KH=>V11.lI _ ix rfl]
 refine SJ hc V11 fun ng nO nA O O' at' X' w0 h14 BR V14 wE=>?_
 refine Ur (ig:=1) (iO:=0) (iA:=2) (Io hc BR.lt BR.sub (by have:=BR.len.2;omega) BR.len.1) V14 rfl rfl rfl (wE.mono fun x hx=>by simp[hx]) qc (by omega) BR.g fun nU U h16 V16 UR=>?_
 refine V16.alloc fun pUv h18 V18=>?_
 refine V18.FH 0 rfl rfl rfl fun h20 V20=>?_
 simp only[List.set_cons_zero]at V20
 have D0:wC c O O' at' U:=⟨BR,UR⟩
 let L5:LSq:=(pUv,.box (.ms nU 0 (c.b.length+1)))::(nU,.arr 1 (fP U))::(ng,J4 w0 nO O'.length nA (c.b.length+1))::(nA,.arr 1 (fP at'))::(n2,.box c.e)::L
 have V21:Vs h20 ([(pUv,Slot.box (.ms nU 0 (c.b.length+1))),(nU,.arr 1 (fP U)),(ng,J4 w0 nO O'.length nA (c.b.length+1)),(nA,.arr 1 (fP at'))]++(X++(n2,.box c.e)::L)):=by
  refine V20.sub ?_
  exact .cons_cons _ (.cons_cons _ (.cons _ (.cons_cons _ (.cons_cons _ (List.sublist_append_right X' _)))))
 have R:gJ h20 L5 (.ms nB 0 c.b.length) (oY c O O' 0):=by
  rw[Sf]
  exact lift h20 L5 (V21.perm (List.perm_append_comm_assoc _ X _))
 refine⟨fun _ h'=>gJ h' L5 (.ms nB 0 c.b.length) (oY c O O' c.b.length),fun f h' R'=>hK _ h' O O' at' U D0 (R'.sub ?_),?_⟩
 ·exact .cons _ (.cons _ (.cons _ (.cons _ (.cons _ (.refl _)))))
 have VL:=R.vs
 rw[VL.fa 4 rfl,VL.cx 4 (j:=7) rfl rfl,bX,aw]
 exact PK hc D0 (i2:=4) (iv:=0) (iU:=1) (ig:=2) (iA:=3) rfl rfl rfl rfl rfl R fun h' R'=>R'
end Go.Am
namespace Go.Am
open Go Go.Proofs
theorem PS {h:Heap}{L:LSq}{KH:HKq}{m:Nat}{els:List D}{f:FuncId}{d1 r:D}(V:Vs h ((m,.arr 1 els)::L)) (hv:aY PP f [.sl els,d1] (· = r)) (hd:sx d1) (he:∀x∈els,∀y∈x.cells,y.vone=true) (hfl:r.flat=true) (hK:KH r h):ai PP f [.ms m 0 els.length,d1] h KH:=by
 have hn:=V.get 0 _ _ rfl
 have hrow:(h m).row=some (1,els):=by rw[hn];rfl
 have e0:(D.ms m 0 els.length).fz h=.sl els:=by simp[D.fz,D.fzc,hrow]
 have e1:[D.ms m 0 els.length,d1].map (D.fz h)=[.sl els,d1]:=by rw[List.map_cons,e0,List.map_cons,(qU hd.vd).1];rfl
 refine ai.mono ?_ (gw (K:=(· = r)) (by rw[e1];exact hv) (fun d hdm=>?_))
 ·rintro r' h' ⟨hr',k2,k3⟩
  rw[hr']at k2 ⊢
  rw[k2 (Or.inl hfl)]
  exact hK
 ·simp only[List.mem_cons,List.not_mem_nil,or_false]at hdm
  rcases hdm with rfl|rfl
  ·refine⟨by simp,?_,by rw[e0];rfl⟩
   intro x hx
   simp only[D.cells,List.mem_singleton]at hx
   subst hx
   exact⟨1,els,hrow,by simp,fun x hx y hy=>he x (by simpa using hx) y hy⟩
  ·exact⟨hd.one,(qU hd.vd).2.2,by rw[(qU hd.vd).1];exact hd.vd⟩
theorem QV.three {h:Heap}{L:LSq}(V:Vs h L){z:D}{i j k:Int}{KH:HKq}(hK:∀m h',Vs h' ((m,.arr 1 (fP [i,j,k]))::L)->KH (.ms m 0 3) h'):aa PP (.bldS true 1 3 z [(0,.c (.int .i64 i)),(1,.c (.int .i64 j)),(2,.c (.int .i64 k))]) h KH:=by
 refine⟨fun p hp=>?_,fun hf p hp=>?_,fun n t=>?_⟩
 ·simp[Arg.get]at hp
  rcases hp with rfl|rfl|rfl
  ·exact⟨by show 0<3;omega,rfl,aW.one⟩
  ·exact⟨by show 1<3;omega,rfl,aW.one⟩
  ·exact⟨by show 2<3;omega,rfl,aW.one⟩
 ·simp[Arg.get]at hp
  rcases hp with rfl|rfl|rfl<;>(intro x hx;simp[D.cells]at hx;subst hx;trivial)
 ·have:KH (.ms n 0 3) (aD h n (.arr 1 (fP [i,j,k]))):=hK _ _ (V.push t.free (by simp))
  simpa[Arg.get,setEls,D.fz,D.fzc,D.nm,D.jV,fP,Heap.freezeAll,List.replicate] using this
def fF (x:aX):Bool:= !(decide (x.op=1)||decide (x.op=2)||decide (x.op=3)||decide (x.op=4)||decide (x.op=6)||(decide (x.op=5)&&(decide (x.sub=3)||decide (x.sub=4)||decide (x.sub=5))))
theorem NT {x:aX}:aY PP kn [x.e] (· = .bool (fF x)):=by
 refine bx u5 (aJ _ _ _) rfl (uV _ _) ?_
 unfold pH
 refine Vs.nil.box x.dS.one fun n2 h3 V=>?_
 rw[V.fa 0 rfl,V.cx 0 (j:=0) rfl rfl]
 refine⟨fun q h'=>h'=h3/\∃t:Bool,q=[.bool t]/\t=(decide (x.op=1)||decide (x.op=2)||decide (x.op=3)||decide (x.op=4)||decide (x.op=6)),?_,?_⟩
 ·rintro f h' ⟨e,t,hq,ht⟩
  subst e
  simp only[aq,and_true]at hq
  rw[hq]
  cases t with
  | true =>
   rw[ag,bw]
   unfold fF
   rw[<- ht];rfl
  | false =>
   rw[af,bQ]
   by_cases h5:x.op=5
   ·rw[decide_eq_true h5,ag]
    refine QV.three V fun m h13 V13=>?_
    rw[V13.fa 1 rfl,V13.cx 1 (j:=1) rfl rfl]
    refine PS V13 (HI (l:=[3,4,5]) (k:=x.sub) (by simp)) aW (fun y hy w hw=>by simp only[fP,List.mem_map]at hy;obtain⟨k,-,rfl⟩:=hy;simp[D.cells]at hw;subst hw;rfl) rfl ?_
    rw[du,bw]
    unfold fF
    rw[<- ht,decide_eq_true h5]
    simp only[Bool.false_or,Bool.true_and]
    congr 2
    simp only[List.mem_cons,List.not_mem_nil,or_false,Bool.decide_or,Bool.or_assoc]
   ·rw[decide_eq_false h5,af,bw]
    unfold fF
    rw[<- ht,decide_eq_false h5];rfl
 ·simp only[bQ,ab,true_and]
  by_cases h1:x.op=1
  ·rw[decide_eq_true h1,ag];exact⟨true,rfl,by simp[h1]⟩
  rw[decide_eq_false h1,af]
  by_cases h2:x.op=2
  ·rw[decide_eq_true h2,ag];exact⟨true,rfl,by simp[h2]⟩
  rw[decide_eq_false h2,af]
  by_cases h3':x.op=3
  ·rw[decide_eq_true h3',ag];exact⟨true,rfl,by simp[h3']⟩
  rw[decide_eq_false h3',af]
  by_cases h4:x.op=4
  ·rw[decide_eq_true h4,ag];exact⟨true,rfl,by simp[h4]⟩
  rw[decide_eq_false h4,af]
  exact⟨_,rfl,by simp[h1,h2,h3',h4]⟩
end Go.Am
namespace Go.Am
open Go Go.Proofs
def QE (esz:Nat) (h:Heap) (L:LSq) (v:D) (T:List D):Prop :=
 (v=.nil/\T=[]/\Vs h L)\/∃m,v=.ms m 0 T.length/\Vs h ((m,.arr esz T)::L)
section
variable {esz:Nat}{h:Heap}{L:LSq}{v:D}{T:List D}{KH:HKq}
theorem QE.vs (q:QE esz h L v T):Vs h L:=by
 rcases q with⟨-,-,V⟩|⟨m,-,V⟩
 ·exact V
 ·exact V.pop
theorem QE.cc (q:QE esz h L v T) (i:Nat){n:Nat}{s s':Slot}(hi:L[i]?=some (n,s)) (hs:s'≠.free):QE esz (aD h n s') (L.set i (n,s')) v T:=by
 rcases q with⟨rfl,rfl,V⟩|⟨m,rfl,V⟩
 ·exact Or.inl ⟨rfl,rfl,V.cc i hi hs⟩
 ·exact Or.inr ⟨m,rfl,by have:=V.cc (i+1) (n:=n) (s:=s) (by simpa using hi) hs;simpa using this⟩
theorem QE.more (q:QE esz h L v T){n:Nat}(hn:h n=.free){s:Slot}(hs:s≠.free):QE esz (aD h n s) ((n,s)::L) v T:=by
 rcases q with⟨rfl,rfl,V⟩|⟨m,rfl,V⟩
 ·exact Or.inl ⟨rfl,rfl,V.push hn hs⟩
 ·exact Or.inr ⟨m,rfl,(V.push hn hs).swap⟩
theorem QE.less {x:Nat×Slot}(q:QE esz h (x::L) v T):QE esz h L v T:=by
 rcases q with⟨rfl,rfl,V⟩|⟨m,rfl,V⟩
 ·exact Or.inl ⟨rfl,rfl,V.pop⟩
 ·exact Or.inr ⟨m,rfl,V.swap.pop⟩
theorem QE.push (q:QE esz h L v T){d z z':D}{bytes:Nat}(hd:sx d) (hc:d.cells.length=esz) (hb:(T.length+1)*bytes<=140737488355328) (hl:T.length+1<=9223372036854775807)
  (hK:∀v h',QE esz h' L v (T++[d])->KH v h'):aa PP (.bldS true esz 1 z [(0,.c d)]) h fun x h1=>aa PP (.app (.c v) (.c x) esz bytes z') h1 KH:=by
 have hlen:T.length+1=(T++[d]).length:=by simp
 rcases q with⟨rfl,rfl,V⟩|⟨m,rfl,V⟩
 ·refine Ak (els:=[]) (Or.inl ⟨rfl,rfl⟩) hd hc hb hl fun m h' hm hm' hk=>hK _ _ (Or.inr ⟨m,rfl,?_⟩)
  have Vk:=V.Dv (h':=h') fun k s ⟨i,hi⟩=>hk k (fun e=>by subst e;exact V.lv i k s hi ((V.get i k s hi).symm.trans hm)) (by simp[D.jV]) (by rw[V.get i k s hi];exact V.lv i k s hi)
  rw[Vs.iff]at Vk ⊢
  refine⟨fun k s hs=>?_,?_⟩
  ·rcases List.mem_cons.1 hs with e|hs
   ·cases e;exact⟨hm',by simp⟩
   ·exact Vk.1 k s hs
  ·rw[List.map_cons,List.nodup_cons]
   refine⟨fun hmm=>?_,Vk.2⟩
   obtain⟨⟨k,s⟩,hks,rfl⟩:=List.mem_map.1 hmm
   obtain⟨i,hi⟩:=aO hks
   exact V.lv i _ _ hi ((V.get i _ _ hi).symm.trans hm)
 ·refine Ak (els:=T) (Or.inr ⟨m,rfl,V.get 0 _ _ rfl⟩) hd hc hb hl fun m' h' hm hm' hk=>hK _ _ (Or.inr ⟨m',by rw[hlen],?_⟩)
  have V1:=V.pop
  have Vk:=V1.Dv (h':=h') fun k s ⟨i,hi⟩=>hk k (fun e=>by subst e;exact V1.lv i k s hi ((V1.get i k s hi).symm.trans hm)) (fun e=>by
   simp[D.jV]at e
   exact V.ne (i+1) 0 k m s _ (by simpa using hi) rfl (by omega) e) (by rw[V1.get i k s hi];exact V1.lv i k s hi)
  rw[Vs.iff]at Vk ⊢
  refine⟨fun k s hs=>?_,?_⟩
  ·rcases List.mem_cons.1 hs with e|hs
   ·cases e;exact⟨hm',by simp⟩
   ·exact Vk.1 k s hs
  ·rw[List.map_cons,List.nodup_cons]
   refine⟨fun hmm=>?_,Vk.2⟩
   obtain⟨⟨k,s⟩,hks,rfl⟩:=List.mem_map.1 hmm
   obtain⟨i,hi⟩:=aO hks
   exact V1.lv i _ _ hi ((V1.get i _ _ hi).symm.trans hm)
end
section
variable {esz:Nat}{h:Heap}{L:LSq}{v:D}{T:List D}{KH:HKq}
theorem QE.alloc (q:QE esz h L v T){d:D}(hK:∀n h',QE esz h' ((n,.box d)::L) v T->KH (.ptr n 0 0) h'):aa PP (.alloc d) h KH:=by
 rw[gf]
 exact fun n t=>hK n _ (q.more t.free (by simp))
theorem QE.p8 {n s:Nat}{cs cs':List D}(q:QE esz h ((n,.box (.agg cs))::L) v T) (hl:cs.length=s) (hl':cs'.length=s) (ho:∀x,x∈cs'->x.one=true) (hK:∀h',QE esz h' ((n,.box (.agg cs'))::L) v T->KH .undef h'):aa PP (.st (.c (.ptr n 0 0)) (.c (.agg cs')) s) h KH:=by
 rcases q with⟨rfl,rfl,V⟩|⟨m,rfl,V⟩
 ·exact V.p8 0 rfl hl hl' ho fun h' V'=>hK h' (Or.inl ⟨rfl,rfl,V'⟩)
 ·exact V.p8 1 rfl hl hl' ho fun h' V'=>hK h' (Or.inr ⟨m,rfl,V'⟩)
theorem Vs.Pl (V:Vs h L) (i:Nat){n j s:Nat}{els cs:List D}(hi:L[i]?=some (n,.arr s els)) (hd:els[j]?=some (.agg cs)) (hl:cs.length=s):aa PP (.ld (.c (.ptr n j 0)) s true) h KH=KH (.agg cs) h:=by
 rw[xh,V.get i _ _ hi]
 obtain⟨h1,he⟩:=ah.1 hd
 subst hl
 simp[kI,h1,he,D.cells]
end
structure Fa where
 nZ:Bool
 n:Int
def Fa.e (f:Fa):D:=.agg [.bool f.nZ,.int .i64 f.n]
theorem Fa.dS (f:Fa):sx f.e:=ez (by simp)
def bD (l:List cY):List Fa:=(l.filter fun o=>decide (o.kind=2)).map fun o=>⟨false,o.n⟩
theorem N8 {n:Int}{h:Heap}{KH:HKq}:aa PP (.bld [(.bool false),(.int .i64 0)] [(1,1,(.c (.int .i64 n)))]) h KH=KH (Fa.e ⟨false,n⟩) h:=by
 rw[nT]
 apply propext
 constructor
 ·exact fun hh=>hh.2
 ·refine fun hk=>⟨fun p hp=>?_,hk⟩
  simp[Arg.get]at hp
  subst hp
  exact⟨rfl,by show 1+1<=2;omega,fun d hd=>by simp[D.cells]at hd;subst hd;rfl⟩
theorem H6 {l:List cY}{h:Heap}{L:LSq}{KH:HKq}{m:Nat}(V:Vs h ((m,.arr 3 (l.map cY.e))::L)) (hl:l.length<=100) (hK:∀v h',QE 2 h' ((m,.arr 3 (l.map cY.e))::L) v ((bD l).map Fa.e)->KH v h'):ai PP db [.ms m 0 l.length] h KH:=by
 refine aT jT (aJ _ _ _) rfl (jI _ _) ?_
 unfold gZ
 refine⟨fun q h'=>∃v,q=[v]/\QE 2 h' ((m,.arr 3 (l.map cY.e))::L) v ((bD l).map Fa.e),?_,?_⟩
 ·rintro f h' ⟨v,hq,q⟩
  simp only[aq,and_true]at hq
  rw[hq]
  exact hK v h' q
 rw[bu,V.get 0 _ _ rfl]
 refine⟨rfl,?_⟩
 unfold fM
 refine⟨fun k q h'=>∃(i:Nat) (v:D),q=[v,nD i]/\i<=l.length/\k=l.length-i/\QE 2 h' ((m,.arr 3 (l.map cY.e))::L) v ((bD (l.take i)).map Fa.e),_,⟨0,.nil,rfl,by omega,rfl,Or.inl ⟨rfl,rfl,V⟩⟩,?_⟩
 rintro k f h1 ⟨i,v,hq,hi,hk,q⟩
 simp only[aq,and_true]at hq
 obtain⟨q1,q2⟩:=hq
 simp only[q1,q2,nD]
 by_cases hlt:i<l.length
 ·rw[jZ (by omega),ag]
  obtain⟨o,ho⟩:∃o,l[i]?=some o:=⟨l[i],aC hlt⟩
  have htk:l.take (i+1)=l.take i++[o]:=by rw[List.take_add_one,ho];rfl
  refine⟨fun q' h'=>∃v,q'=[v]/\QE 2 h' ((m,.arr 3 (l.map cY.e))::L) v ((bD (l.take (i+1))).map Fa.e),?_,?_⟩
  ·rintro f' h' ⟨v',hq',q'⟩
   simp only[aq,and_true]at hq'
   rw[hq',cU (by omega) (by omega)]
   simp only[ab,true_and]
   exact⟨_,by omega,i+1,v',rfl,by omega,rfl,q'⟩
  have V1:=q.vs
  rw[V1.ia 0 rfl (by omega) (by omega),aA,V1.Pl 0 rfl (j:=i) (cs:=o.cs) (by simp[ho,cY.e]) rfl]
  refine q.alloc fun n19 h20 q20=>?_
  refine q20.p8 rfl rfl (fun x hx=>o.dS.one x hx) fun h22 q22=>?_
  have V22:=q22.vs
  rw[V22.fa 0 rfl,V22.cx 0 (j:=0) rfl rfl,bQ]
  by_cases hk2:o.kind=2
  ·rw[decide_eq_true hk2,ag,V22.fa 0 rfl,V22.cx 0 (j:=1) rfl rfl,N8]
   refine q22.less.push (Fa.dS _) rfl ?_ ?_ fun v' h' q'=>?_
   ·have:=List.length_filter_le (fun o:cY=>decide (o.kind=2)) (l.take i)
    rw[List.length_take]at this
    simp only[bD,aw];omega
   ·have:=List.length_filter_le (fun o:cY=>decide (o.kind=2)) (l.take i)
    rw[List.length_take]at this
    simp only[bD,aw];omega
   ·simp only[ab,true_and]
    refine⟨v',rfl,?_⟩
    have:(bD (l.take (i+1))).map Fa.e=(bD (l.take i)).map Fa.e++[Fa.e ⟨false,o.n⟩]:=by
     rw[htk];simp[bD,List.filter_append,hk2]
    rw[this]
    exact q'
  ·rw[decide_eq_false hk2,af]
   simp only[ab,true_and]
   refine⟨v,rfl,?_⟩
   have:(bD (l.take (i+1))).map Fa.e=(bD (l.take i)).map Fa.e:=by
    rw[htk];simp[bD,List.filter_append,hk2]
   rw[this]
   exact q22.less
 ·have:i=l.length:=by omega
  subst this
  rw[jX (by omega),af]
  simp only[ab,true_and]
  rw[List.take_length]at q
  exact⟨v,rfl,q⟩
end Go.Am
namespace Go.Am
open Go Go.Proofs
def dE (o:cY):Int:=if o.kind=2 then o.n else -1
theorem NX {o:cY}:aY PP qo [o.e] (· = .int .i64 (dE o)):=by
 refine bx EM (aJ _ _ _) rfl (EI _ _) ?_
 unfold DZ
 refine Vs.nil.box o.dS.one fun n2 h3 V=>?_
 rw[V.fa 0 rfl,V.cx 0 (j:=0) rfl rfl,gK]
 unfold dE
 by_cases hk:o.kind=2
 ·rw[decide_eq_true hk,Bool.not_true,af,V.fa 0 rfl,V.cx 0 (j:=1) rfl rfl,cH,if_pos hk]
 ·rw[decide_eq_false hk,Bool.not_false,ag,cH,if_neg hk]
theorem Vd {P:Program}{h:Heap}{KH:HKq}{n:Nat}{x:Term}(a:h n=.box x.e):aa P (.ld (.c (.ptr n 0 2)) 3 true) h KH=KH x.d.e h:=L1 a (by simp[Term.cs])
theorem TA {P:Program}{h:Heap}{KH:HKq}{n:Nat}{x:aX}(a:h n=.box x.e):aa P (.ld (.c (.ptr n 0 3)) 3 true) h KH=KH x.d.e h:=L1 a (by simp[aX.cs])
theorem Sw {x:aX}:aY PP w6 [x.e] (· = .int .i64 (dE x.d)):=by
 refine bx EN (aJ _ _ _) rfl (EJ _ _) ?_
 unfold D5
 refine Vs.nil.box x.dS.one fun n2 h3 V=>?_
 rw[V.fa 0 rfl,TA (V.get 0 _ _ rfl)]
 refine bO NX (fun d hd=>by simp at hd;subst hd;exact x.d.dS.pair) ?_
 rintro _ rfl
 rw[cH]
theorem PY {x:Term}:aY PP sS [x.e] (· = .int .i64 (dE x.d)):=by
 refine bx Em (aJ _ _ _) rfl (D4 _ _) ?_
 unfold Bh
 refine Vs.nil.box x.dS.one fun n2 h3 V=>?_
 rw[V.fa 0 rfl,Vd (V.get 0 _ _ rfl)]
 refine bO NX (fun d hd=>by simp at hd;subst hd;exact x.d.dS.pair) ?_
 rintro _ rfl
 rw[cH]
theorem Gt {l:List cY}{h:Heap}{L:LSq}{KH:HKq}(V:Vs h L) (hl:l.length<=100) (hK:∀v h',QE 2 h' L v ((bD l).map Fa.e)->KH v h'):ai PP db [.sl (l.map cY.e)] h KH:=by
 refine aT jT (aJ _ _ _) rfl (jI _ _) ?_
 unfold gZ
 refine⟨fun q h'=>∃v,q=[v]/\QE 2 h' L v ((bD l).map Fa.e),?_,?_⟩
 ·rintro f h' ⟨v,hq,q⟩
  simp only[aq,and_true]at hq
  rw[hq]
  exact hK v h' q
 rw[bX,aw]
 unfold fM
 refine⟨fun k q h'=>∃(i:Nat) (v:D),q=[v,nD i]/\i<=l.length/\k=l.length-i/\QE 2 h' L v ((bD (l.take i)).map Fa.e),_,⟨0,.nil,rfl,by omega,rfl,Or.inl ⟨rfl,rfl,V⟩⟩,?_⟩
 rintro k f h1 ⟨i,v,hq,hi,hk,q⟩
 simp only[aq,and_true]at hq
 obtain⟨q1,q2⟩:=hq
 simp only[q1,q2,nD]
 by_cases hlt:i<l.length
 ·rw[jZ (by omega),ag]
  obtain⟨o,ho⟩:∃o,l[i]?=some o:=⟨l[i],aC hlt⟩
  have htk:l.take (i+1)=l.take i++[o]:=by rw[List.take_add_one,ho];rfl
  refine⟨fun q' h'=>∃v,q'=[v]/\QE 2 h' L v ((bD (l.take (i+1))).map Fa.e),?_,?_⟩
  ·rintro f' h' ⟨v',hq',q'⟩
   simp only[aq,and_true]at hq'
   rw[hq',cU (by omega) (by omega)]
   simp only[ab,true_and]
   exact⟨_,by omega,i+1,v',rfl,by omega,rfl,q'⟩
  rw[lD (esz:=3) (d:=o.e) (by omega) (by rw[aA,List.getElem?_map,ho];rfl) rfl,show o.e=.agg o.cs from rfl,IA (s:=3) rfl]
  refine q.alloc fun n19 h20 q20=>?_
  refine q20.p8 rfl rfl (fun x hx=>o.dS.one x hx) fun h22 q22=>?_
  have V22:=q22.vs
  rw[V22.fa 0 rfl,V22.cx 0 (j:=0) rfl rfl,bQ]
  by_cases hk2:o.kind=2
  ·rw[decide_eq_true hk2,ag,V22.fa 0 rfl,V22.cx 0 (j:=1) rfl rfl,N8]
   have hlf:(bD (l.take i)).length<=100:=by
    have:=List.length_filter_le (fun o:cY=>decide (o.kind=2)) (l.take i)
    rw[List.length_take]at this
    simp only[bD,aw];omega
   refine q22.less.push (Fa.dS _) rfl (by rw[aw];omega) (by rw[aw];omega) fun v' h' q'=>?_
   ·simp only[ab,true_and]
    refine⟨v',rfl,?_⟩
    have:(bD (l.take (i+1))).map Fa.e=(bD (l.take i)).map Fa.e++[Fa.e ⟨false,o.n⟩]:=by
     rw[htk];simp[bD,List.filter_append,hk2]
    rw[this]
    exact q'
  ·rw[decide_eq_false hk2,af]
   simp only[ab,true_and]
   refine⟨v,rfl,?_⟩
   have:(bD (l.take (i+1))).map Fa.e=(bD (l.take i)).map Fa.e:=by
    rw[htk];simp[bD,List.filter_append,hk2]
   rw[this]
   exact q22.less
 ·have:i=l.length:=by omega
  subst this
  rw[jX (by omega),af]
  simp only[ab,true_and]
  rw[List.take_length]at q
  exact⟨v,rfl,q⟩
structure Ru where
 of:Fa
 needs:List Fa
 never:Bool
def Ru.e (r:Ru) (v:D):D:=.agg [.bool r.of.nZ,.int .i64 r.of.n,v,.bool r.never]
def qI (b:Nat):Fa:=⟨true,b⟩
def rS (n:Int):Fa:=⟨false,n⟩
def te (b a:Nat) (t:Term):Ru:=⟨qI b,bD [t.a]++[qI a],false⟩
def ij (b:Nat) (x:aX):Ru:=⟨rS (dE x.d),bD [x.a,x.b,x.c]++[qI b],fF x⟩
def gV (b:Nat) (xs:List aX):List Ru:=(xs.filter fun x=>decide (0<=dE x.d)).map (ij b)
def DD (t:Term):List Ru:=if 0<=dE t.d then [⟨rS (dE t.d),[],true⟩] else []
def Pc (b:Nat):Ru:=⟨qI b,[],true⟩
def nZ (c:Code) (b:Nat):Block:=(c.b[b]?).getD default
theorem gW {c:Code}{b:Nat}{B:Block}(h:c.b[b]?=some B):nZ c b=B:=by unfold nZ;rw[h];rfl
def ik (c:Code) (b:Nat) (dep:List Nat):List Ru:=dep.map fun a=>te b a (nZ c a).t
def tp (c:Code) (R:List Bool) (Dp:List (List Nat)) (b:Nat):List Ru :=
 if hasB R b then ik c b (gL Dp b)++gV b (nZ c b).i++DD (nZ c b).t else [Pc b]
def gT (c:Code) (R:List Bool) (Dp:List (List Nat)) (n:Nat):List Ru:=(List.range n).flatMap (tp c R Dp)
def wT (c:Code) (R:List Bool) (Dp:List (List Nat)):List Ru:=gT c R Dp c.b.length
theorem AU {c:Code}{R:List Bool}{Dp:List (List Nat)}{n:Nat}:gT c R Dp (n+1)=gT c R Dp n++tp c R Dp n:=by
 unfold gT;rw[List.range_succ,List.flatMap_append];simp
def Ee (N:Nat) (R:Int) (f:Fa):Prop:=0<=f.n/\(f.nZ=true->f.n<(N:Int))/\(f.nZ=false->f.n<R)
structure xy (N:Nat) (R:Int) (r:Ru):Prop where
 of:Ee N R r.of
 needs:∀f∈r.needs,Ee N R f
 len:r.needs.length<=10
structure dX (c:Code):Prop where
 g:bS c
 i:∀B∈c.b,∀x∈B.i,Eb c.regs x
 len:∀B∈c.b,B.i.length<=100
 rg:1<=c.regs/\c.regs<=100
theorem xF.u {c:Code}(h:xF c):dX c:=by
 refine⟨h.g,fun B hB x hx=>?_,fun B hB=>Nat.le_trans (h.b B hB).len (by omega),?_⟩
 ·obtain⟨k,hk⟩:=aO hx
  exact((h.b B hB).xs k x hk).1
 ·have:=h.regs;have:=h.nl;omega
theorem kj {R:Int}{o:cY}(h:mA R o):o.kind=2/\0<=o.n/\o.n<R:=by obtain⟨r,h1,h2,rfl⟩:=h;exact⟨rfl,h1,h2⟩
theorem mK {R:Int}{o:cY}(h:qN R o):o.kind=2->0<=o.n/\o.n<R:=by
 rcases h with h|⟨v,-,-,rfl⟩
 ·exact fun _=>(kj h).2
 ·intro h;cases h
def v7 (R:Int) (o:cY):Prop:=o.kind=2->0<=o.n/\o.n<R
theorem dw {R:Int}:v7 R aj:=fun h=>by cases h
theorem Eb.O1 {R:Int}{x:aX}(h:Eb R x):v7 R x.d/\v7 R x.a/\v7 R x.b/\v7 R x.c:=by
 cases h with
 | mov d a h1 h2=>exact⟨fun _=>(kj h1).2,mK h2,dw,dw⟩
 | un s d a h0 h1 h2=>exact⟨fun _=>(kj h1).2,mK h2,dw,dw⟩
 | bin s d a b h0 h1 h2 h3=>exact⟨fun _=>(kj h1).2,mK h2,mK h3,dw⟩
 | sel d a b c h1 h2 h3 h4=>exact⟨fun _=>(kj h1).2,mK h2,mK h3,mK h4⟩
 | id s d h0 h1=>exact⟨fun _=>(kj h1).2,dw,dw,dw⟩
 | param n d h0 h1=>exact⟨fun _=>(kj h1).2,dw,dw,dw⟩
 | load n d a h0 h1 h2=>exact⟨fun _=>(kj h1).2,fun _=>(kj h2).2,dw,dw⟩
 | store n a b h0 h1 h2=>exact⟨dw,fun _=>(kj h1).2,mK h2,dw⟩
 | atom s n a b hs h0 h1 h2=>exact⟨dw,fun _=>(kj h1).2,mK h2,dw⟩
 | fence s h0=>exact⟨dw,dw,dw,dw⟩
theorem xJ.O1 {N:Nat}{R:Int}{t:Term}(h:xJ N R t):v7 R t.d/\v7 R t.a/\v7 R t.b:=by
 cases h with
 | jump a h=>exact⟨dw,dw,dw⟩
 | branch o a b ho h1 h2=>exact⟨dw,fun _=>(kj ho).2,dw⟩
 | barrier a h=>exact⟨dw,dw,dw⟩
 | collect s d a b t hs hd ha hb h=>exact⟨fun _=>(kj hd).2,mK ha,mK hb⟩
 | exit=>exact⟨dw,dw,dw⟩
theorem GX {N:Nat}{R:Int}{l:List cY}(h:∀o∈l,v7 R o):∀f,f∈bD l->Ee N R f:=by
 intro f hf
 simp only[bD,List.mem_map,List.mem_filter,decide_eq_true_eq]at hf
 obtain⟨o,⟨ho,hk⟩,rfl⟩:=hf
 exact⟨(h o ho hk).1,fun h=>(by cases h),fun _=>(h o ho hk).2⟩
theorem mG {l:List cY}:(bD l).length<=l.length:=by
 unfold bD;rw[aw];exact List.length_filter_le _ _
theorem HU {N:Nat}{R:Int}{b:Nat}(h:b<N):Ee N R (qI b):=⟨by simp[qI],fun _=>by simp only[qI];omega,fun h=>by cases h⟩
theorem M5 {N:Nat}{R:Int}{b:Nat}(h:b<N):xy N R (Pc b):=⟨HU h,fun f hf=>by simp[Pc]at hf,by simp[Pc]⟩
theorem Kg {N:Nat}{R:Int}{b a:Nat}{t:Term}(hb:b<N) (ha:a<N) (ht:xJ N R t):xy N R (te b a t):=by
 refine⟨HU hb,fun f hf=>?_,?_⟩
 ·rcases List.mem_append.1 hf with hf|hf
  ·exact GX (fun o ho=>by simp at ho;subst ho;exact ht.O1.2.1) f hf
  ·simp at hf;subst hf;exact HU ha
 ·have:(bD [t.a]).length<=1:=mG
  simp[te];omega
theorem G9 {N:Nat}{R:Int}{b:Nat}{x:aX}(hb:b<N) (hx:Eb R x) (h0:0<=dE x.d):xy N R (ij b x):=by
 refine⟨⟨h0,fun h=>(by cases h),fun _=>?_⟩,fun f hf=>?_,?_⟩
 ·unfold ij rS dE at *
  split at h0
  ·rename_i hk
   simp only[if_pos hk]
   exact(hx.O1.1 hk).2
  ·omega
 ·rcases List.mem_append.1 hf with hf|hf
  ·exact GX (fun o ho=>by simp at ho;rcases ho with rfl|rfl|rfl;exact hx.O1.2.1;exact hx.O1.2.2.1;exact hx.O1.2.2.2) f hf
  ·simp at hf;subst hf;exact HU hb
 ·have:(bD [x.a,x.b,x.c]).length<=3:=mG
  simp[ij];omega
theorem Ke {N:Nat}{R:Int}{t:Term}(ht:xJ N R t) (h0:0<=dE t.d):xy N R ⟨rS (dE t.d),[],true⟩:=by
 refine⟨⟨h0,fun h=>(by cases h),fun _=>?_⟩,fun f hf=>(by simp at hf),by simp⟩
 unfold rS dE at *
 split at h0
 ·rename_i hk
  simp only[if_pos hk]
  exact(ht.O1.1 hk).2
 ·omega
end Go.Am
namespace Go.Am
open Go Go.Proofs
section
variable {h:Heap}{L:LSq}{KH:HKq}{K:D->Prop}
theorem Vs.Lb (V:Vs h L){n o:Nat}{s:Slot}(hm:(n,s)∈L):aa PP (.fadd (.c (.ptr n 0 0)) o) h KH=KH (.ptr n 0 o) h:=by
 obtain⟨i,hi⟩:=aO hm;exact V.fa i hi
theorem Vs.Ai (V:Vs h L){n j:Nat}{cs:List D}{e:D}(hm:(n,Slot.box (.agg cs))∈L) (he:cs[j]?=some e):aa PP (.ld (.c (.ptr n 0 j)) 1 false) h KH=KH e h:=KW (V.mem hm) he
theorem Vs.IB (V:Vs h L){n s:Nat}{cs:List D}(hm:(n,Slot.box (.agg cs))∈L) (hl:cs.length=s):aa PP (.ld (.c (.ptr n 0 0)) s true) h KH=KH (.agg cs) h:=by
 obtain⟨i,hi⟩:=aO hm;exact V.lI i hi hl
theorem Vs.TB (V:Vs h L){n:Nat}{d:D}(hm:(n,Slot.box d)∈L) (h1:d.one=true):aa PP (.ld (.c (.ptr n 0 0)) 1 false) h KH=KH d h:=by
 obtain⟨i,hi⟩:=aO hm;exact V.Cw i hi h1
def BW (L:LSq) (v:D) (T:List Bool):Prop:=v=.sl (bL T)\/∃m,v=.ms m 0 T.length/\(m,.arr 1 (bL T))∈L
def FW (L:LSq) (v:D) (T:List Fa):Prop:=(v=.nil/\T=[])\/v=.sl (T.map Fa.e)\/∃m,v=.ms m 0 T.length/\(m,.arr 2 (T.map Fa.e))∈L
theorem BW.mono {L':LSq}{v:D}{T:List Bool}(hs:∀x∈L,x∈L') (w:BW L v T):BW L' v T:=by
 rcases w with h|⟨m,h1,h2⟩
 ·exact Or.inl h
 ·exact Or.inr ⟨m,h1,hs _ h2⟩
theorem FW.mono {L':LSq}{v:D}{T:List Fa}(hs:∀x∈L,x∈L') (w:FW L v T):FW L' v T:=by
 rcases w with h|h|⟨m,h1,h2⟩
 ·exact Or.inl h
 ·exact Or.inr (Or.inl h)
 ·exact Or.inr (Or.inr ⟨m,h1,hs _ h2⟩)
theorem BW.one {v:D}{T:List Bool}(w:BW L v T):v.one=true:=by rcases w with rfl|⟨m,rfl,-⟩<;>rfl
theorem FW.one {v:D}{T:List Fa}(w:FW L v T):v.one=true:=by rcases w with⟨rfl,-⟩|rfl|⟨m,rfl,-⟩<;>rfl
theorem FW.len (V:Vs h L){v:D}{T:List Fa}(w:FW L v T):aR v h K=K (.int .i64 (T.length:Int)):=by
 rcases w with⟨rfl,rfl⟩|rfl|⟨m,rfl,hm⟩
 ·rw[sE];rfl
 ·rw[bX,aw]
 ·rw[bu,V.mem hm]
  apply propext
  exact⟨fun hh=>hh.2,fun hk=>⟨rfl,hk⟩⟩
theorem FW.get (V:Vs h L){v:D}{T:List Fa}(w:FW L v T){i:Nat}{f:Fa}(hf:T[i]?=some f) (hK:KH f.e h):aa PP (.iadd (.c v) (.c (.int .i64 (i:Int))) 2) h fun a h1=>aa PP (.ld (.c a) 2 true) h1 KH:=by
 have hi:=(ah.1 hf).1
 rcases w with⟨-,rfl⟩|rfl|⟨m,rfl,hm⟩
 ·simp at hf
 ·rw[lD (esz:=2) (d:=f.e) (by omega) (by rw[aA,List.getElem?_map,hf];rfl) rfl,show f.e=.agg [.bool f.nZ,.int .i64 f.n] from rfl,IA (s:=2) rfl]
  exact hK
 ·obtain⟨k,hk⟩:=aO hm
  rw[V.ia k hk (by omega) (by omega),aA,V.Pl k hk (j:=i) (cs:=[.bool f.nZ,.int .i64 f.n]) (by rw[List.getElem?_map,hf];rfl) rfl]
  exact hK
theorem BW.len (V:Vs h L){v:D}{T:List Bool}(w:BW L v T):aR v h K=K (.int .i64 (T.length:Int)):=by
 rcases w with rfl|⟨m,rfl,hm⟩
 ·rw[bX];simp[bL]
 ·rw[bu,V.mem hm]
  apply propext
  exact⟨fun hh=>hh.2,fun hk=>⟨rfl,hk⟩⟩
def UM (L:LSq) (v:D) (T:List Bool) (i:Nat) (p:D):Prop:=(v=.sl (bL T)/\p=.vp (.bool (hasB T i)) 0)\/∃m,v=.ms m 0 T.length/\(m,.arr 1 (bL T))∈L/\p=.ptr m i 0
theorem BW.at (V:Vs h L){v:D}{T:List Bool}(w:BW L v T){a:Int}(h0:0<=a) (hi:a<T.length) (hK:∀p,UM L v T a.toNat p->KH p h):aa PP (.iadd (.c v) (.c (.int .i64 a)) 1) h KH:=by
 rcases w with rfl|⟨m,rfl,hm⟩
 ·rw[lD (esz:=1) (d:=.bool (hasB T a.toNat)) h0 (dq (bo (by omega))) rfl]
  exact hK _ (Or.inl ⟨rfl,rfl⟩)
 ·obtain⟨k,hk⟩:=aO hm
  rw[V.ia k hk h0 hi]
  exact hK _ (Or.inr ⟨m,rfl,hm,rfl⟩)
theorem UM.read (V:Vs h L){v p:D}{T:List Bool}{i:Nat}(w:UM L v T i p) (hi:i<T.length) (hK:KH (.bool (hasB T i)) h):aa PP (.fadd (.c p) 0) h fun a h1=>aa PP (.ld (.c a) 1 false) h1 KH:=by
 rcases w with⟨-,rfl⟩|⟨m,-,hm,rfl⟩
 ·rw[La,uR rfl];exact hK
 ·obtain⟨k,hk⟩:=aO hm
  rw[ku,V.mem hm]
  refine⟨rfl,?_⟩
  rw[Nat.zero_add,V.xI k hk (dq (bo hi)) rfl]
  exact hK
end
def xX (U R:List Bool) (f:Fa):List Bool:=if f.nZ then U else R
def gF (U R:List Bool) (f:Fa):Bool:=hasB (xX U R f) f.n.toNat
def cP (U R:List Bool) (r:Ru):Bool:= !gF U R r.of||(!r.never&&r.needs.all (gF U R))
section
variable {h:Heap}{L:LSq}{KH:HKq}{vU vR:D}{U R:List Bool}
theorem SK (V:Vs h L) (wU:BW L vU U) (wR:BW L vR R){f:Fa}(hf:Ee U.length R.length f) (hK:∀p h',Vs h' L->UM L (if f.nZ then vU else vR) (xX U R f) f.n.toNat p->KH p h'):ai PP jr [.agg [vU,vR],f.e] h KH:=by
 refine aT B9 (aJ _ _ _) rfl (BT _ _ _) ?_
 unfold yK
 refine V.box (fun x hx=>?_) fun n3 h4 V4=>?_
 ·simp at hx;rcases hx with rfl|rfl
  ·exact wU.one
  ·exact wR.one
 refine V4.box f.dS.one fun n5 h6 V6=>?_
 rw[V6.fa 0 rfl,V6.cx 0 (j:=0) rfl rfl]
 obtain⟨b,n⟩:=f
 cases b
 ·rw[af,V6.fa 1 rfl,V6.cx 1 (j:=1) rfl rfl,V6.fa 0 rfl,V6.cx 0 (j:=1) rfl rfl]
  refine(wR.mono (L':=_::_::L) (fun x hx=>by simp[hx])).at V6 hf.1 (hf.2.2 rfl) fun p hp=>hK p _ V6.pop.pop ?_
  rcases hp with hp|⟨m,h1,h2,h3⟩
  ·exact Or.inl hp
  ·rcases wR with rfl|⟨m',rfl,hm'⟩
   ·cases h1
   ·cases h1;exact Or.inr ⟨_,rfl,hm',h3⟩
 ·rw[ag,V6.fa 1 rfl,V6.cx 1 (j:=0) rfl rfl,V6.fa 0 rfl,V6.cx 0 (j:=1) rfl rfl]
  refine(wU.mono (L':=_::_::L) (fun x hx=>by simp[hx])).at V6 hf.1 (hf.2.1 rfl) fun p hp=>hK p _ V6.pop.pop ?_
  rcases hp with hp|⟨m,h1,h2,h3⟩
  ·exact Or.inl hp
  ·rcases wU with rfl|⟨m',rfl,hm'⟩
   ·cases h1
   ·cases h1;exact Or.inr ⟨_,rfl,hm',h3⟩
theorem H9 {v cl:D}{T:List Fa}{p:Fa->Bool}(V:Vs h L) (w:FW L v T) (hl:T.length<=1000000)
  (hp:∀y∈T,∀h' (KH:HKq),Vs h' L->(∀h'',Vs h'' L->KH (.bool (p y)) h'')->aa PP (.callv (.c cl) [.c y.e]) h' KH) (hK:∀h',Vs h' L->KH (.bool (T.any p)) h'):ai PP bg [v,cl] h KH:=by
 refine aT dH (aJ _ _ _) rfl (dF _ _ _) ?_
 unfold bI
 have key:∀KH:HKq,(∀(i:Int) h',Vs h' L->(0<=i↔T.any p=true)->KH (.int .i64 i) h')->ai PP bq [v,cl] h KH:=by
  intro KH hk
  refine aT ec (aJ _ _ _) rfl (dZ _ _ _) ?_
  unfold bY
  refine⟨fun _ h'=>Vs h' L/\T.any p=false,?_,?_⟩
  ·rintro f h' ⟨V',hn⟩
   exact hk (-1) h' V' (by simp[hn])
  rw[w.len V]
  unfold bH
  refine⟨fun m q h'=>Vs h' L/\∃i:Nat,i<=T.length/\m=T.length-i/\q=[.int .i64 (i:Int)]/\(T.take i).any p=false,_,⟨V,0,by omega,rfl,rfl,by simp⟩,?_⟩
  rintro m f h1 ⟨V1,i,hi,hm,hq,hn⟩
  simp only[aq,and_true]at hq
  rw[hq]
  by_cases hlt:i<T.length
  ·obtain⟨y,hy⟩:∃y,T[i]?=some y:=⟨T[i],aC hlt⟩
   have hyT:=ak hy
   rw[jZ (by omega),ag]
   refine w.get V1 hy ?_
   refine hp y hyT _ _ V1 fun h2 V2=>?_
   cases hpy:p y
   ·rw[af,cU (by omega) (by omega)]
    simp only[ab,true_and]
    refine⟨_,by omega,V2,i+1,by omega,rfl,by simp,?_⟩
    rw[List.take_add_one,hy]
    simp[hn,hpy]
   ·rw[ag]
    exact hk i _ V2 (by simp only[Int.natCast_nonneg,true_iff,List.any_eq_true];exact⟨y,hyT,hpy⟩)
  ·have:i=T.length:=by omega
   subst this
   rw[jX (by omega),af]
   simp only[ab,true_and]
   rw[List.take_length]at hn
   exact⟨V1,hn⟩
 refine key _ fun i h' V' hi=>?_
 rw[CN]
 have:decide ((0:Int)<=i)=T.any p:=by
  cases ht:T.any p
  ·rw[ht]at hi;simpa using hi
  ·rw[ht]at hi;simpa using hi
 rw[this]
 exact hK h' V'
theorem NR:fc PP jq=true:=by kernel_rfl
theorem RK {n off len:Nat}{cs:List D}{h:Heap}{KH:HKq}{d:D}(a:h n=.box (.agg cs)) (hl:off+len<=cs.length) (hd:.agg ((cs.drop off).take len)=d):aa PP (.ld (.c (.ptr n 0 off)) len true) h KH=KH d h:=by rw[L1 a hl,hd]
theorem Om (V:Vs h L) (wU:BW L vU U) (wR:BW L vR R){r:Ru}(hr:xy U.length R.length r){nd:D}(wn:FW L nd r.needs) (hK:∀h',Vs h' L->KH (.bool (cP U R r)) h'):ai PP gm [.agg [vU,vR],r.e nd] h KH:=by
 refine aT zi (aJ _ _ _) rfl (yJ _ _ _) ?_
 unfold tu
 have hsel:∀f:Fa,Ee U.length R.length f->f.n.toNat<(xX U R f).length:=fun f hf=>by
  obtain⟨b,n⟩:=f
  obtain⟨h1,h2,h3⟩:=hf
  cases b
  ·have g1:n<(R.length:Int):=h3 rfl
   have g2:0<=n:=h1
   show n.toNat<R.length;omega
  ·have g1:n<(U.length:Int):=h2 rfl
   have g2:0<=n:=h1
   show n.toNat<U.length;omega
 refine V.box (fun x hx=>?_) fun n3 h4 V4=>?_
 ·simp at hx;rcases hx with rfl|rfl
  ·exact wU.one
  ·exact wR.one
 refine V4.box (fun x hx=>?_) fun n5 h6 V6=>?_
 ·simp[Ru.e]at hx;rcases hx with rfl|rfl|rfl|rfl
  ·rfl
  ·rfl
  ·exact wn.one
  ·rfl
 have sub:∀x∈L,x∈(n5,Slot.box (r.e nd))::(n3,.box (.agg [vU,vR]))::L:=fun x hx=>by simp[hx]
 rw[V6.lI 1 (s:=2) rfl rfl,V6.fa 0 rfl,RK (d:=r.of.e) (V6.get 0 _ _ rfl) (by simp) rfl]
 refine SK V6 (wU.mono sub) (wR.mono sub) hr.of fun p h14 V14 hp=>?_
 refine hp.read V14 (hsel _ hr.of) ?_
 rw[show hasB (xX U R r.of) r.of.n.toNat=gF U R r.of from rfl]
 have hk:cP U R r=(!gF U R r.of||(!r.never&&r.needs.all (gF U R))):=rfl
 cases ho:gF U R r.of
 ·simp only[↓gS]
  rw[ho]at hk
  have:=hK _ V14.pop.pop
  rw[hk]at this
  exact this
 ·simp only[↓gS]
  rw[ho]at hk
  rw[V14.fa 0 rfl,V14.cx 0 (j:=3) rfl rfl]
  cases hn:r.never
  ·simp only[↓gS]
   rw[hn]at hk
   rw[V14.fa 0 rfl,V14.cx 0 (j:=2) rfl rfl,He]
   refine H9 (p:=fun f=> !gF U R f) V14 (wn.mono sub) (by have:=hr.len;omega) (fun y hy h' KH' V' hk'=>?_) fun h44 V44=>?_
   ·refine⟨NR,?_⟩
    refine aT tU (aJ _ _ _) rfl (tt _ _ _) ?_
    unfold oe
    refine V'.box y.dS.one fun n3' h4' V4'=>?_
    show aa PP (.ld (.c (.ptr n3 0 0)) 2 true) h4' _
    rw[V4'.lI 2 (s:=2) rfl rfl,V4'.lI 0 (s:=2) rfl rfl]
    have sub':∀x∈L,x∈(n3',Slot.box y.e)::(n5,Slot.box (r.e nd))::(n3,.box (.agg [vU,vR]))::L:=fun x hx=>by simp[hx]
    refine SK V4' (wU.mono sub') (wR.mono sub') (hr.needs y hy) fun p h8 V8 hp'=>?_
    refine hp'.read V8 (hsel _ (hr.needs y hy)) ?_
    rw[du]
    exact hk' _ V8.pop
   ·have:=hK _ V44.pop.pop
    rw[hk]at this
    have e:r.needs.all (gF U R) = !r.needs.any fun f=> !gF U R f:=by
     rw[List.not_any_eq_all_not];simp
    rw[e]at this
    cases hany:r.needs.any fun f=> !gF U R f<;>(rw[hany]at this;simp only[↓gS];exact this)
  ·simp only[↓gS]
   rw[hn]at hk
   have:=hK _ V14.pop.pop
   rw[hk]at this
   exact this
end
end Go.Am
namespace Go.Am
open Go Go.Proofs
section
variable {esz:Nat}{h:Heap}{L L':LSq}{v:D}{T:List D}{KH:HKq}
theorem QE.perm (p:L.Perm L') (q:QE esz h L v T):QE esz h L' v T:=by
 rcases q with⟨rfl,rfl,V⟩|⟨m,rfl,V⟩
 ·exact Or.inl ⟨rfl,rfl,V.perm p⟩
 ·exact Or.inr ⟨m,rfl,V.perm (p.cons _)⟩
theorem QE.UT (s:L'.Sublist L) (q:QE esz h L v T):QE esz h L' v T:=by
 rcases q with⟨rfl,rfl,V⟩|⟨m,rfl,V⟩
 ·exact Or.inl ⟨rfl,rfl,V.sub s⟩
 ·exact Or.inr ⟨m,rfl,V.sub (s.cons_cons _)⟩
theorem QE.one (q:QE esz h L v T):v.one=true:=by rcases q with⟨rfl,-⟩|⟨m,rfl,-⟩<;>rfl
theorem QE.Qa (q:QE esz h L v T){d z':D}{bytes:Nat}(hd:sx d) (hc:d.cells.length=esz) (hb:(T.length+1)*bytes<=140737488355328) (hl:T.length+1<=9223372036854775807)
  (hK:∀v h',QE esz h' L v (T++[d])->KH v h'):aa PP (.app (.c v) (.c (.sl [d])) esz bytes z') h KH:=by
 rcases q with⟨rfl,rfl,V⟩|⟨m,rfl,V⟩
 ·rw[Hf]
  refine⟨fun e he=>by simp at he;subst he;exact hc,fun y hy=>by simp at hy;subst hy;exact hd.one,⟨by simpa using hb,by simp⟩,fun n t=>?_⟩
  exact hK _ _ (Or.inr ⟨n,by simp,V.push t.free (by simp)⟩)
 ·refine V.Gr (ys:=[d]) (fun {K} hk=>⟨fun e he=>by simp at he;subst he;exact hc,hk⟩) (fun y hy=>by simp at hy;subst hy;exact hd.one) (by simpa using hb) (by simpa using hl) fun n h' V'=>?_
  exact hK _ _ (Or.inr ⟨n,by simp,V'⟩)
theorem Vs.Um (V:Vs h L){d z:D}(hd:sx d) (hc:d.cells.length=esz) (hK:∀m h',Vs h' ((m,.arr esz [d])::L)->KH (.ms m 0 1) h'):aa PP (.bldS true esz 1 z [(0,.c d)]) h KH :=
 FZ hd.vd hd.one hc fun n t=>hK n _ (V.push t.free (by simp))
theorem cY.vone (o:cY):∀y∈o.e.cells,y.vone=true:=fun y hy=>by
 simp[cY.e,cY.cs,D.cells]at hy;rcases hy with rfl|rfl|rfl<;>rfl
theorem Fa.vone (f:Fa):∀y∈f.e.cells,y.vone=true:=fun y hy=>by
 simp[Fa.e,D.cells]at hy;rcases hy with rfl|rfl<;>rfl
theorem PN {K:D->Prop}{a b c:cY}{h:Heap}(hk:K (.sl ([a,b,c].map cY.e))):ae PP (.bldS false 3 3 (.agg [(.int .i64 0),(.int .i64 0),(.int .i32 0)]) [(0,.c a.e),(1,.c b.e),(2,.c c.e)]) h K:=by
 refine⟨fun p hp=>?_,fun p hp=>?_,fun y hy=>by simp[D.cells]at hy;rcases hy with rfl|rfl<;>rfl,?_⟩
 ·simp[Arg.get]at hp
  rcases hp with rfl|rfl|rfl
  ·exact⟨by show 0<3;omega,rfl,a.dS.one⟩
  ·exact⟨by show 1<3;omega,rfl,b.dS.one⟩
  ·exact⟨by show 2<3;omega,rfl,c.dS.one⟩
 ·simp[Arg.get]at hp
  rcases hp with rfl|rfl|rfl
  ·exact a.vone
  ·exact b.vone
  ·exact c.vone
 ·simpa[Arg.get,setEls,List.replicate] using hk
end
def Yl (nk:Nat) (G:Ru->Prop) (S:List Ru->LSq->Prop) (St:LSq->Prop):Prop :=
 ∀(done:List Ru) (ru:Ru) (Lc:LSq) (h:Heap) (N:LSq) (nd:D) (KH:HKq),S done Lc->done.length<=100000->G ru->QE 2 h (Lc++N) nd (ru.needs.map Fa.e) ->
  (∀Lc' h',S (done++[ru]) Lc'->Vs h' (Lc'++N)->KH (.bool true) h')->(∀Lc' h',St Lc'->Vs h' (Lc'++N)->KH (.bool false) h')->aa PP (.callv (.c (.yld nk)) [.c (ru.e nd)]) h KH
section
variable {c:Code}{nk:Nat}{S:List Ru->LSq->Prop}{St:LSq->Prop}{h:Heap}{W M Lc:LSq}{done:List Ru}{KH:HKq}
theorem Uj {P:Program}{B:Block}:aa P (.ld (.c (.vp B.e 6)) 3 true) h KH=KH B.t.a.e h:=by
 rw[vn,kI]
 apply propext
 exact⟨fun hh=>hh.2,fun hk=>⟨by show 6+3<=14;omega,hk⟩⟩
theorem VT {P:Program}{d:D}{o o':Nat}:aa P (.fadd (.c (.vp d o)) o') h KH=KH (.vp d (o+o')) h:=FY
theorem QP {n:Int}{KH:HKq}:aa PP (.bld [(.bool false),(.int .i64 0)] [(0,1,(.c (.bool true))),(1,1,(.c (.int .i64 n)))]) h KH=KH (Fa.e ⟨true,n⟩) h:=ew rfl
theorem Ul {f:Fa}{v:D}(hv:v.one=true){KH:HKq}:aa PP (.bld [(.bool false),(.int .i64 0),.nil,(.bool false)] [(0,2,(.c f.e)),(2,1,(.c v))]) h KH=KH (.agg [.bool f.nZ,.int .i64 f.n,v,.bool false]) h:=by
 cases v<;>first|exact ew rfl|cases hv
theorem OU {all:List Ru}(Y:Yl nk (fun r=>xy c.b.length c.regs r/\r∈all) S St) (hc:dX c){n2 n29 b:Nat}{dv:D}{dep:List Nat}(hS:S done Lc) (V:Vs h (W++(Lc++M))) (h2:(n2,.box c.e)∈M) (h29:(n29,.box (qI b).e)∈W) (hb:b<c.b.length) (wd:B8 M dv dep) (hd:∀a∈dep,a<c.b.length) (hdl:dep.length<=1000) (hdn:done.length<=90000) (hall:∀r,r∈ik c b dep->r∈all)
  {a2 a3 a23 a7 a9:D}{f:Nat->D}{J:HJq}(hJ:∀Lc' h',S (done++ik c b dep) Lc'->Vs h' (W++(Lc'++M))->J [] h') (hK:∀Lc' h',St Lc'->Vs h' (Lc'++M)->KH (.tup []) h') :
  dT h (.int .i64 (dep.length:Int)) dv (.ptr n2 0 0) (.ptr n29 0 0) (.yld nk) a2 a3 a23 a7 a9 f J KH:=by
 unfold dT
 refine⟨fun m q h'=>∃(j:Nat) (Lc:LSq),q=[nD j]/\j<=dep.length/\m=dep.length-j/\S (done++ik c b (dep.take j)) Lc/\Vs h' (W++(Lc++M)),_,⟨0,Lc,rfl,by omega,rfl,by simpa[ik] using hS,V⟩,?_⟩
 rintro m f' h1 ⟨j,Lc1,hq,hj,hm,hS1,V1⟩
 simp only[aq,and_true]at hq
 simp only[hq,nD]
 have hM:∀x∈M,x∈W++(Lc1++M):=fun x hx=>by simp[hx]
 have hW:∀x∈W,x∈W++(Lc1++M):=fun x hx=>by simp[hx]
 by_cases hlt:j<dep.length
 ·rw[jZ (by omega),ag]
  obtain⟨a,ha⟩:∃a,dep[j]?=some a:=⟨dep[j],aC hlt⟩
  have haN:=hd a (ak ha)
  obtain⟨B,hB⟩:∃B,c.b[a]?=some B:=⟨c.b[a],aC haN⟩
  have hTB:=hc.g.t B (ak hB)
  have htk:ik c b (dep.take (j+1))=ik c b (dep.take j)++[te b a B.t]:=by
   rw[List.take_add_one,ha]
   simp[ik,gW hB]
  rw[B8.get V1 (wd.mono hM) ha,nD,V1.Lb (hM _ h2),V1.Ai (hM _ h2) (j:=7) rfl,xp hB,La,VT,Uj]
  refine V1.Um B.t.a.dS rfl fun m1 h2' V2=>?_
  refine H6 (l:=[B.t.a]) V2 (by simp) fun v h3 q3=>?_
  rw[QP]
  refine q3.push (Fa.dS _) rfl ?_ ?_ fun v' h4 q4=>?_
  ·have:(bD [B.t.a]).length<=1:=mG
   rw[aw];omega
  ·have:(bD [B.t.a]).length<=1:=mG
   rw[aw];omega
  rw[q4.vs.IB (s:=2) (cs:=[.bool true,.int .i64 (b:Int)]) (by simp only[List.mem_cons];exact Or.inr (hW _ h29)) rfl,show D.agg [.bool true,.int .i64 (b:Int)]=(qI b).e from rfl,Ul q4.one]
  have q5:QE 2 h4 (Lc1++(W++M)) v' ((te b a B.t).needs.map Fa.e):=by
   have q5:=(q4.UT (List.sublist_cons_self _ _)).perm (List.perm_append_comm_assoc W Lc1 M)
   have:(te b a B.t).needs.map Fa.e=(bD [B.t.a]).map Fa.e++[Fa.e ⟨true,(a:Int)⟩]:=by simp[te,qI]
   rw[this];exact q5
  refine Y _ (te b a B.t) Lc1 h4 (W++M) v' _ hS1 (by simp[ik];omega) ⟨Kg hb haN hTB,hall _ (by rw[<- List.take_append_drop (j+1) dep];unfold ik at htk ⊢;rw[List.map_append,htk];simp)⟩ q5 (fun Lc' h5 hS5 V5=>?_) fun Lc' h5 hS5 V5=>?_
  ·rw[du,Bool.not_true,af,cU (by omega) (by omega)]
   simp only[ab,true_and]
   refine⟨_,by omega,j+1,Lc',rfl,by omega,rfl,?_,V5.perm (List.perm_append_comm_assoc Lc' W M)⟩
   rw[htk, <- List.append_assoc];exact hS5
  ·rw[du,Bool.not_false,ag]
   exact hK Lc' h5 hS5 (V5.sub (List.Sublist.append (.refl _) (List.sublist_append_right W M)))
 ·have:j=dep.length:=by omega
  subst this
  rw[jX (by omega),af]
  simp only[ab,true_and]
  rw[List.take_length]at hS1
  exact hJ Lc1 h1 hS1 V1
end
section
variable {c:Code}{nk:Nat}{S:List Ru->LSq->Prop}{St:LSq->Prop}{h:Heap}{W M Lc:LSq}{done:List Ru}{KH:HKq}{K:D->Prop}
structure LV (h:Heap) (n m:Nat) (x:aX) (f:Fa):Prop where
 x:h n=.box x.e
 f:h m=.box f.e
section
variable {n m:Nat}{x:aX}{f:Fa}
theorem LV.ld (I:LV h n m x f):ae PP (.ld (.c (.ptr n 0 0)) 15 true) h K=K x.e:=by
 rw[mU,show(15:Nat)=x.cs.length from rfl,lI I.x];rfl
theorem LV.fa (I:LV h n m x f){o:Nat}:ae PP (.fadd (.c (.ptr n 0 0)) o) h K=K (.ptr n 0 o):=by
 rw[show ae PP (.fadd (.c (.ptr n 0 0)) o) h K=aa PP (.fadd (.c (.ptr n 0 0)) o) h (fun d _=>K d) from rfl,ku,I.x]
 apply propext
 exact⟨fun hh=>by simpa using hh.2,fun hk=>⟨rfl,by simpa using hk⟩⟩
theorem LV.oa (I:LV h n m x f):ae PP (.ld (.c (.ptr n 0 6)) 3 true) h K=K x.a.e:=by rw[mU];exact L1 I.x (by simp[aX.cs])
theorem LV.ob (I:LV h n m x f):ae PP (.ld (.c (.ptr n 0 9)) 3 true) h K=K x.b.e:=by rw[mU];exact L1 I.x (by simp[aX.cs])
theorem LV.oc (I:LV h n m x f):ae PP (.ld (.c (.ptr n 0 12)) 3 true) h K=K x.c.e:=by rw[mU];exact L1 I.x (by simp[aX.cs])
theorem LV.at (I:LV h n m x f):ae PP (.ld (.c (.ptr m 0 0)) 2 true) h K=K f.e:=by
 rw[mU,show(2:Nat)=[D.bool f.nZ,.int .i64 f.n].length from rfl,lI I.f];rfl
end
theorem Si {n:Int}{K:D->Prop}:ae PP (.bld [(.bool false),(.int .i64 0)] [(1,1,(.c (.int .i64 n)))]) h K=K (Fa.e ⟨false,n⟩):=dB rfl
theorem Sh {f:Fa}{v:D}{t:Bool}(hv:v.one=true){K:D->Prop}:ae PP (.bld [(.bool false),(.int .i64 0),.nil,(.bool false)] [(0,2,(.c f.e)),(2,1,(.c v)),(3,1,(.c (.bool t)))]) h K=K (.agg [.bool f.nZ,.int .i64 f.n,v,.bool t]):=by
 cases v<;>first|exact dB rfl|cases hv
theorem A3 {b k:Nat}{xs:List aX}{x:aX}(hx:xs[k]?=some x):gV b (xs.take (k+1))=gV b (xs.take k)++if 0<=dE x.d then [ij b x] else []:=by
 rw[List.take_add_one,hx]
 unfold gV
 simp only[Option.toList_some,List.filter_append,List.map_append]
 congr 1
 by_cases h:0<=dE x.d<;>simp[h]
theorem xg {b:Nat}{xs:List aX}:(gV b xs).length<=xs.length:=by
 unfold gV;rw[aw];exact List.length_filter_le _ _
theorem MK {all:List Ru}(Y:Yl nk (fun r=>xy c.b.length c.regs r/\r∈all) S St){n29 b:Nat}{xs:List aX}(hx:∀x∈xs,Eb c.regs x) (hxl:xs.length<=100) (hdn:done.length<=99000) (hall:∀r,r∈gV b xs->r∈all) (hS:S done Lc) (V:Vs h (W++(Lc++M))) (h29:(n29,.box (qI b).e)∈W) (hb:b<c.b.length)
  {a1 a2 a3 a23 a7 a9:D}{f:Nat->D}{J:HJq}(hJ:∀Lc' h',S (done++gV b xs) Lc'->Vs h' (W++(Lc'++M))->J [] h') (hK:∀Lc' h',St Lc'->Vs h' (Lc'++M)->KH (.tup []) h') :
  fY h (.int .i64 (xs.length:Int)) (.sl (xs.map aX.e)) (.ptr n29 0 0) (.yld nk) a1 a2 a3 a23 a7 a9 f J KH:=by
 unfold fY
 refine⟨fun m q h'=>∃(j:Nat) (Lc:LSq),q=[nD j]/\j<=xs.length/\m=xs.length-j/\S (done++gV b (xs.take j)) Lc/\Vs h' (W++(Lc++M)),_,⟨0,Lc,rfl,by omega,rfl,by simpa[gV] using hS,V⟩,?_⟩
 rintro m f' h1 ⟨j,Lc1,hq,hj,hm,hS1,V1⟩
 simp only[aq,and_true]at hq
 simp only[hq,nD]
 by_cases hlt:j<xs.length
 ·rw[jZ (by omega),ag]
  obtain⟨x,hxj⟩:∃x,xs[j]?=some x:=⟨xs[j],aC hlt⟩
  have hIx:=hx x (ak hxj)
  rw[lD (esz:=15) (d:=x.e) (by omega) (by rw[aA,List.getElem?_map,hxj];rfl) rfl,show x.e=.agg x.cs from rfl,IA (s:=15) rfl]
  refine V1.alloc fun n101 h102 V102=>?_
  refine V102.p8 0 rfl rfl rfl (fun y hy=>x.dS.one y hy) fun h104 V104=>?_
  simp only[List.set_cons_zero]at V104
  rw[show D.agg x.cs=x.e from rfl]at V104
  have inb:∀{h':Heap}{X:LSq},Vs h' X->(∀y,y∈(n101,Slot.box x.e)::(W++(Lc1++M))->y∈X)->LV h' n101 n29 x (qI b):=fun V' hs=>⟨V'.mem (hs _ (by simp)),V'.mem (hs _ (by simp[h29]))⟩
  have I:=inb V104 fun _ h=>h
  simp only[↓I.ld,↓I.fa,↓I.oa,↓I.ob,↓I.oc,↓I.at]
  refine PN ?_
  refine IS (d:=(qI b).e) (Fa.dS _).one rfl (Fa.vone _) (fun y hy=>by simp[D.cells]at hy;rcases hy with rfl|rfl<;>rfl) ?_
  refine bO Sw (fun d hd=>by simp at hd;subst hd;exact x.dS.pair) ?_
  rintro _ rfl
  refine⟨by simp only[↓I.ld,↓I.fa,↓I.oa,↓I.ob,↓I.oc,↓I.at,ab,and_self],?_⟩
  rw[Si]
  refine Gt (l:=[x.a,x.b,x.c]) V104 (by simp) fun v h128 q=>?_
  have I2:=inb q.vs fun _ h=>h
  refine⟨by simp only[↓I2.ld,↓I2.at,ab,and_self],?_⟩
  refine q.Qa (Fa.dS _) rfl ?_ ?_ fun v' h132 q132=>?_
  ·have:(bD [x.a,x.b,x.c]).length<=3:=mG
   rw[aw];omega
  ·have:(bD [x.a,x.b,x.c]).length<=3:=mG
   rw[aw];omega
  have I3:=inb q132.vs fun _ h=>h
  refine⟨by simp only[↓I3.ld,ab,and_self],?_⟩
  refine bO NT (fun d hd=>by simp at hd;subst hd;exact x.dS.pair) ?_
  rintro _ rfl
  rw[show(⟨false,dE x.d⟩:Fa)=rS (dE x.d) from rfl,Sh q132.one]
  refine q132.alloc fun n137 h138 q138=>?_
  have I4:=inb q138.vs fun y h=>List.mem_cons_of_mem _ h
  refine⟨by simp only[↓I4.ld,↓I4.fa,↓I4.oa,↓I4.ob,↓I4.oc,↓I4.at,ab,and_self],?_⟩
  refine q138.p8 rfl rfl (fun y hy=>?_) fun h149 q149=>?_
  ·simp only[List.mem_cons,List.not_mem_nil,or_false]at hy
   rcases hy with rfl|rfl|rfl|rfl
   ·rfl
   ·rfl
   ·exact q132.one
   ·rfl
  have V149:=q149.vs
  rw[V149.fa 0 rfl,V149.fa 0 rfl,V149.cx 0 (j:=1) rfl rfl,CN]
  by_cases h0:0<=dE x.d
  ·rw[show(rS (dE x.d)).n=dE x.d from rfl,decide_eq_true h0]
   simp only[↓gS]
   rw[V149.lI 0 (s:=4) rfl rfl]
   have q5:QE 2 h149 (Lc1++(((n137,Slot.box (.agg [.bool (rS (dE x.d)).nZ,.int .i64 (rS (dE x.d)).n,v',.bool (fF x)]))::(n101,.box x.e)::W)++M)) v' ((ij b x).needs.map Fa.e):=by
    have q5:=q149.perm (List.perm_append_comm_assoc ((n137,Slot.box (.agg [.bool (rS (dE x.d)).nZ,.int .i64 (rS (dE x.d)).n,v',.bool (fF x)]))::(n101,.box x.e)::W) Lc1 M)
    have:(ij b x).needs.map Fa.e=(bD [x.a,x.b,x.c]).map Fa.e++[(qI b).e]:=by simp[ij]
    rw[this];exact q5
   refine Y _ (ij b x) Lc1 h149 _ v' _ hS1 (by have:=xg (b:=b) (xs:=xs.take j);rw[List.length_take]at this;rw[List.length_append];omega) ⟨G9 hb hIx h0,hall _ (List.mem_map.2 ⟨x,List.mem_filter.2 ⟨ak hxj,by simpa using h0⟩,rfl⟩)⟩ q5 (fun Lc' h5 hS5 V5=>?_) fun Lc' h5 hS5 V5=>?_
   ·simp only[↓gS]
    rw[cU (by omega) (by omega)]
    simp only[ab,true_and]
    refine⟨_,by omega,j+1,Lc',rfl,by omega,rfl,?_,?_⟩
    ·rw[A3 hxj,if_pos h0, <- List.append_assoc];exact hS5
    ·exact(V5.sub (List.Sublist.append (.refl _) (List.Sublist.append (.cons _ (.cons _ (.refl _))) (.refl _)))).perm (List.perm_append_comm_assoc Lc' W M)
   ·simp only[↓gS]
    exact hK Lc' h5 hS5 (V5.sub (List.Sublist.append (.refl _) (List.sublist_append_right _ M)))
  ·rw[show(rS (dE x.d)).n=dE x.d from rfl,decide_eq_false h0]
   simp only[↓gS]
   rw[cU (by omega) (by omega)]
   simp only[ab,true_and]
   refine⟨_,by omega,j+1,Lc1,rfl,by omega,rfl,?_,V149.pop.pop⟩
   rw[A3 hxj,if_neg h0,List.append_nil];exact hS1
 ·have:j=xs.length:=by omega
  subst this
  rw[jX (by omega),af]
  simp only[ab,true_and]
  rw[List.take_length]at hS1
  exact hJ Lc1 h1 hS1 V1
end
section
variable {c:Code}{nk:Nat}{S:List Ru->LSq->Prop}{St:LSq->Prop}{h:Heap}{M Lc:LSq}{KH:HKq}
theorem QO {f:Fa}{KH:HKq}:aa PP (.bld [(.bool false),(.int .i64 0),.nil,(.bool false)] [(0,2,(.c f.e)),(3,1,(.c (.bool true)))]) h KH=KH (.agg [.bool f.nZ,.int .i64 f.n,.nil,.bool true]) h:=ew rfl
theorem N6 {R:List Bool}{Dp:List (List Nat)}{b:Nat}(hc:dX c) (hD:∀l∈Dp,(∀a∈l,a<c.b.length)/\l.length<=1000):(tp c R Dp b).length<=1200:=by
 unfold tp
 split
 ·have h1:(ik c b (gL Dp b)).length<=1000:=by
   unfold ik gL;rw[aw]
   cases hl:Dp[b]? with
   | none=>simp
   | some l=>exact(hD l (ak hl)).2
  have h2:(gV b (nZ c b).i).length<=100:=by
   refine Nat.le_trans xg ?_
   unfold nZ
   cases hB:c.b[b]? with
   | none=>exact Nat.zero_le _
   | some B=>exact hc.len B (ak hB)
  have h3:(DD (nZ c b).t).length<=1:=by unfold DD;split<;>simp
  simp only[List.length_append];omega
 ·simp
theorem wS {R:List Bool}{Dp:List (List Nat)}(hc:dX c) (hD:∀l∈Dp,(∀a∈l,a<c.b.length)/\l.length<=1000):∀n,(gT c R Dp n).length<=1200*n
 | 0=>by simp[gT]
 | n+1=>by
  rw[AU,List.length_append]
  have:=wS (R:=R) hc hD n
  have:=N6 (R:=R) (b:=n) hc hD
  omega
theorem Fv {R:List Bool}{Dp:List (List Nat)}(Y:Yl nk (fun r=>xy c.b.length c.regs r/\r∈wT c R Dp) S St) (hc:dX c){n2 pr pd:Nat}{dv:D}(hS:S [] Lc) (V:Vs h (Lc++M)) (h2:(n2,.box c.e)∈M) (hr:(pr,.box (.sl (bL R)))∈M) (hR:R.length=c.b.length)
  (hd:(pd,.box dv)∈M) (wd:LR M dv Dp) (hDl:Dp.length=c.b.length) (hD:∀l∈Dp,(∀a∈l,a<c.b.length)/\l.length<=1000)
  (hJ:∀Lc' h',S (wT c R Dp) Lc'->Vs h' (Lc'++M)->KH (.tup []) h') (hK:∀Lc' h',St Lc'->Vs h' (Lc'++M)->KH (.tup []) h') :
  ai PP cj [.yld nk,.ptr n2 0 0,.ptr pr 0 0,.ptr pd 0 0] h KH:=by
 have hnb:=hc.g.nb
 refine aT sq (aJ _ _ _) rfl (sg _ _ _ _ _) ?_
 unfold mX
 have inM:∀{Lc:LSq} x,x∈M->x∈Lc++M:=fun x hx=>by simp[hx]
 rw[V.Lb (inM _ h2),V.Ai (inM _ h2) (j:=7) rfl,bX,aw]
 unfold kf
 refine⟨fun m q h'=>∃(b:Nat) (Lc:LSq),q=[nD b]/\b<=c.b.length/\m=c.b.length-b/\S (gT c R Dp b) Lc/\Vs h' (Lc++M),_,⟨0,Lc,rfl,by omega,rfl,by simpa[gT] using hS,V⟩,?_⟩
 rintro m f h1 ⟨b,Lc1,hq,hb,hm,hS1,V1⟩
 simp only[aq,and_true]at hq
 simp only[hq,nD]
 by_cases hlt:b<c.b.length
 ·rw[jZ (by omega),ag]
  obtain⟨B,hB⟩:∃B,c.b[b]?=some B:=⟨c.b[b],aC hlt⟩
  have hBm:=ak hB
  have hTB:=hc.g.t B hBm
  refine⟨fun _ h'=>∃Lc,S (gT c R Dp (b+1)) Lc/\Vs h' (Lc++M),?_,?_⟩
  ·rintro f' h' ⟨Lc',hS',V'⟩
   rw[cU (by omega) (by omega)]
   simp only[ab,true_and]
   exact⟨_,by omega,b+1,Lc',rfl,by omega,rfl,hS',V'⟩
  rw[xp hB,show B.e=.agg (.sl (B.i.map aX.e)::B.t.cs) from rfl,IA (s:=14) rfl]
  refine V1.alloc fun n23 h24 V24=>?_
  refine V24.p8 0 rfl rfl rfl (fun x hx=>B.dS.one x hx) fun h26 V26=>?_
  simp only[List.set_cons_zero]at V26
  rw[QP,show Fa.e ⟨true,(b:Int)⟩=.agg [.bool true,.int .i64 (b:Int)] from rfl]
  refine V26.alloc fun n29 h30 V30=>?_
  refine V30.p8 0 rfl rfl rfl (fun x hx=>(qI b).dS.one x hx) fun h32 V32=>?_
  simp only[List.set_cons_zero]at V32
  let W:LSq:=[(n29,.box (qI b).e),(n23,.box B.e)]
  have VW:Vs h32 (W++(Lc1++M)):=V32
  have inW:∀{Lc:LSq} x,x∈M->x∈W++(Lc++M):=fun x hx=>by simp[hx]
  have hRb:R[b]?=some (hasB R b):=bo (by omega)
  have hln:=wS (R:=R) hc hD b
  have hin:∀r,r∈tp c R Dp b->r∈wT c R Dp:=fun r hr=>List.mem_flatMap.2 ⟨b,List.mem_range.2 hlt,hr⟩
  rw[V32.TB (inW _ hr) rfl,lD (esz:=1) (d:=.bool (hasB R b)) (by omega) (by rw[aA];exact dq hRb) rfl,uR rfl]
  have hsucc:gT c R Dp (b+1)=gT c R Dp b++tp c R Dp b:=AU
  have drop:∀{h':Heap}{Lc':LSq},Vs h' (Lc'++(W++M))->Vs h' (Lc'++M):=fun V5=>V5.sub (List.Sublist.append (.refl _) (List.sublist_append_right W M))
  cases hRv:hasB R b
  ·have hbk:tp c R Dp b=[Pc b]:=by unfold tp;rw[hRv];rfl
   simp only[↓gS]
   rw[V32.lI 0 (s:=2) rfl rfl,show D.agg [.bool true,.int .i64 (b:Int)]=(qI b).e from rfl,QO]
   refine Y _ (Pc b) Lc1 h32 (W++M) .nil _ hS1 (by omega) ⟨M5 hlt,hin _ (by rw[hbk];simp)⟩ (Or.inl ⟨rfl,rfl,VW.perm (List.perm_append_comm_assoc W Lc1 M)⟩) (fun Lc' h5 hS5 V5=>?_) fun Lc' h5 hS5 V5=>?_
   ·rw[du,Bool.not_true,af]
    simp only[ab,true_and]
    exact⟨Lc',by rw[hsucc,hbk];exact hS5,drop V5⟩
   ·rw[du,Bool.not_false,ag]
    exact hK Lc' h5 hS5 (drop V5)
  ·have hd1:(ik c b (gL Dp b)).length<=1000:=by
    unfold ik gL;rw[aw]
    cases hl:Dp[b]? with
    | none=>simp
    | some l=>exact(hD l (ak hl)).2
   have hi1:(gV b B.i).length<=100:=Nat.le_trans xg (hc.len B hBm)
   have hbk:tp c R Dp b=ik c b (gL Dp b)++gV b B.i++DD B.t:=by unfold tp;rw[hRv,if_pos rfl,gW hB]
   simp only[↓gS]
   refine⟨fun _ h'=>∃Lc,S (gT c R Dp b++ik c b (gL Dp b)) Lc/\Vs h' (W++(Lc++M)),?_,?_⟩
   ·rintro f2 h49 ⟨Lc2,hS2,V2⟩
    refine⟨fun _ h'=>∃Lc,S (gT c R Dp b++ik c b (gL Dp b)++gV b B.i) Lc/\Vs h' (W++(Lc++M)),?_,?_⟩
    ·rintro f3 h52 ⟨Lc3,hS3,V3⟩
     rw[V3.fa 1 rfl,RK (d:=B.t.e) (V3.get 1 _ _ rfl) (by show 0+1+13<=14;omega) rfl]
     refine bO PY (fun d hd=>by simp at hd;subst hd;exact B.t.dS.pair) ?_
     rintro _ rfl
     rw[CN]
     by_cases h0:0<=dE B.t.d
     ·have he:DD B.t=[⟨rS (dE B.t.d),[],true⟩]:=by unfold DD;rw[if_pos h0]
      rw[decide_eq_true h0]
      simp only[↓gS]
      rw[N8,show(⟨false,dE B.t.d⟩:Fa)=rS (dE B.t.d) from rfl,QO]
      refine Y _ ⟨rS (dE B.t.d),[],true⟩ Lc3 h52 (W++M) .nil _ hS3 (by rw[List.length_append,List.length_append];omega) ⟨Ke hTB h0,hin _ (by rw[hbk,he];simp)⟩ (Or.inl ⟨rfl,rfl,V3.perm (List.perm_append_comm_assoc W Lc3 M)⟩) (fun Lc' h5 hS5 V5=>?_) fun Lc' h5 hS5 V5=>?_
      ·simp only[↓gS]
       simp only[ab,true_and]
       exact⟨Lc',by rw[hsucc,hbk,he, <- List.append_assoc, <- List.append_assoc];exact hS5,drop V5⟩
      ·simp only[↓gS]
       exact hK Lc' h5 hS5 (drop V5)
     ·have he:DD B.t=[]:=by unfold DD;rw[if_neg h0]
      rw[decide_eq_false h0]
      simp only[↓gS]
      simp only[ab,true_and]
      refine⟨Lc3,?_,V3.pop.pop⟩
      rw[hsucc,hbk,he,List.append_nil, <- List.append_assoc];exact hS3
    ·rw[V2.fa 1 rfl,V2.cx 1 (j:=0) rfl rfl,bX,aw]
     exact MK Y (hc.i B hBm) (hc.len B hBm) (by rw[List.length_append];omega) (fun r hr=>hin r (by rw[hbk];simp[hr])) hS2 V2 (by simp[W]) hlt (fun Lc' h' hS' V'=>⟨Lc',hS',V'⟩) hK
   ·rw[V32.TB (inW _ hd) wd.one]
    obtain⟨l,hl⟩:∃l,Dp[b]?=some l:=⟨Dp[b]'(by omega),aC _⟩
    have hgl:gL Dp b=l:=by unfold gL;rw[hl];rfl
    obtain⟨hl1,hl2⟩:=hD l (ak hl)
    have hlr:∀e,B8 M e l->aR e h32 (fun a183=>dT h32 a183 e (.ptr n2 0 0) (.ptr n29 0 0) (.yld nk) (.ptr pr 0 0) (.ptr pd 0 0) (.ptr n23 0 0) (.sl (c.b.map Block.e)) (.int .i64 (c.b.length:Int)) f (fun _ h'=>∃Lc,S (gT c R Dp b++ik c b (gL Dp b)) Lc/\Vs h' (W++(Lc++M))) KH):=fun e we=>by
     rw[B8.len VW (we.mono inW)]
     refine OU Y hc hS1 VW h2 (by simp[W]) hlt we hl1 hl2 (by omega) (fun r hr=>hin r (by rw[hbk,hgl];simp[hr])) (fun Lc' h' hS' V'=>⟨Lc',by rw[hgl];exact hS',V'⟩) hK
    exact LR.Pr VW inW wd hl hlr
 ·have:b=c.b.length:=by omega
  subst this
  rw[jX (by omega),af]
  exact hJ Lc1 h1 hS1 V1
end
end Go.Am
namespace Go.Am
open Go Go.Proofs
theorem Pv.cg {pre pre':Nat->List Nat}{bad:Nat->Prop}{s x:Nat}(h:∀a b,a∈pre b↔a∈pre' b) (k:Pv pre bad s x):Pv pre' bad s x:=by
 induction k with
 | refl h=>exact .refl h
 | step _ e hb ih=>exact .step ih ((h _ _).1 e) hb
theorem Dm.cg {pre pre':Nat->List Nat}{r d x:Nat}(h:∀a b,a∈pre b↔a∈pre' b):Dm r pre d x↔Dm r pre' d x :=
 not_congr ⟨Pv.cg h,Pv.cg fun a b=>(h a b).symm⟩
structure Ic (c d:Code):Prop where
 len:c.b.length=d.b.length
 e:∀b,edg c b=edg d b
 x:∀b,qC c b=qC d b
theorem Ic.refl (c:Code):Ic c c:=⟨rfl,fun _=>rfl,fun _=>rfl⟩
section
variable {c d:Code}{O O' P P':List Nat}{at1 at2 U1 U2:List Int}
theorem Ic.dp (s:Ic c d) (hc:bS c) (hd:bS d) (D1:wC c O O' at1 U1) (D2:wC d P P' at2 U2) (a b:Nat):Hw c O O' a b↔Hw d P P' a b:=by
 have eE:fS c=fS d:=by
  unfold fS;rw[s.len]
  exact List.map_congr_left fun b _=>s.e b
 have h1:=D1.b.ord
 have h2:=D2.b.ord
 rw[eE,s.len]at h1
 have eO:O=P:=h1.SU h2
 subst eO
 have eX:qC c=qC d:=funext s.x
 have eF:de c O=de d O:=by unfold de;rw[eE,eX]
 have eT:o8 (fS c) O c.b.length (de c O)=o8 (fS d) O d.b.length (de d O):=by rw[eE,eF,s.len]
 have mem:∀x,x∈O'↔x∈P':=fun x=>by rw[D1.b.g.path,D2.b.g.path,eT,s.len]
 have pre:∀q x,q∈pB c O O' x↔q∈pB d O P' x:=fun q x=>by
  show q∈gL (yE (o8 (fS c) O c.b.length (de c O)) O' (c.b.length+1)) x↔q∈gL (yE (o8 (fS d) O d.b.length (de d O)) P' (d.b.length+1)) x
  rw[jH (D1.o8 hc),jH (D2.o8 hd),mem,eT]
 have eD:∀y x,Dm c.b.length (pB c O O') y x↔Dm d.b.length (pB d O P') y x:=fun y x=>by rw[s.len];exact Dm.cg pre
 unfold Hw
 rw[s.e a,eD b a]
 refine and_congr_right fun _=>and_congr_right fun _=>and_congr_left fun _=>?_
 exact exists_congr fun t=>and_congr_right fun _=>eD b t
end
def Sd (c:Code) (a b:Nat):Prop:=∃O O' at' U,wC c O O' at' U/\Hw c O O' a b
theorem Kf {c:Code}(hc:bS c){O O':List Nat}{at' U:List Int}(D:wC c O O' at' U){a b:Nat}:Sd c a b↔Hw c O O' a b :=
 ⟨fun ⟨_,_,_,_,D',h⟩=>((Ic.refl c).dp hc hc D' D a b).1 h,fun h=>⟨_,_,_,_,D,h⟩⟩
noncomputable def ji (c:Code):List (List Nat):=(List.range c.b.length).map fun b=>JW c.b.length fun a=>Sd c a b
theorem PL {c:Code}(hc:bS c){O O':List Nat}{at' U:List Int}(D:wC c O O' at' U):oY c O O' c.b.length=ji c:=by
 unfold oY ji
 refine List.map_congr_left fun b _=>?_
 congr 1
 funext a
 exact propext (Kf hc D).symm
theorem tf {c:Code}:(ji c).length=c.b.length:=by simp[ji]
theorem yw {c:Code}{b:Nat}(hb:b<c.b.length):gL (ji c) b=JW c.b.length fun a=>Sd c a b:=by
 unfold gL ji
 rw[List.getElem?_map,List.getElem?_range hb];rfl
theorem yz {c:Code}(hc:bS c):∀l,l∈ji c->(∀a∈l,a<c.b.length)/\l.length<=1000:=fun l hl=>by
 simp only[ji,List.mem_map]at hl
 obtain⟨b,-,rfl⟩:=hl
 have:=hc.nb
 exact⟨fun a ha=>(uq.1 ha).1,Nat.le_trans JV (by omega)⟩
noncomputable def da (c:Code):List Bool:=(List.range c.b.length).map fun k=>@decide (Path (edg c) 0 k) (Classical.propDecidable _)
theorem kV {c:Code}:(da c).length=c.b.length:=by simp[da]
theorem cI {c:Code}{k:Nat}(hk:k<c.b.length):hasB (da c) k=true↔Path (edg c) 0 k:=by
 unfold hasB da
 rw[List.getElem?_map,List.getElem?_range hk]
 simp
theorem Cu {c:Code}{S:List Bool}(hl:S.length=c.b.length) (h:∀k,hasB S k=true↔Path (edg c) 0 k):S=da c:=by
 apply List.ext_getElem (by rw[hl,kV])
 intro i h1 h2
 have e1:=bo h1
 have e2:=bo h2
 rw[aC h1]at e1
 rw[aC h2]at e2
 have e1:=Option.some.inj e1
 have e2:=Option.some.inj e2
 rw[e1,e2,Bool.eq_iff_iff,h,cI (by omega)]
noncomputable def iB (c:Code):List Ru:=wT c (da c) (ji c)
theorem C5 {c:Code}(hc:dX c):∀r,r∈iB c->xy c.b.length c.regs r:=by
 intro r hr
 simp only[iB,wT,gT,List.mem_flatMap,List.mem_range]at hr
 obtain⟨b,hb,hr⟩:=hr
 obtain⟨B,hB⟩:∃B,c.b[b]?=some B:=⟨c.b[b],aC hb⟩
 have hBm:=ak hB
 unfold tp at hr
 split at hr
 ·rw[gW hB]at hr
  rcases List.mem_append.1 hr with hr|hr
  ·rcases List.mem_append.1 hr with hr|hr
   ·simp only[ik,List.mem_map]at hr
    obtain⟨a,ha,rfl⟩:=hr
    rw[yw hb]at ha
    have haN:=(uq.1 ha).1
    refine Kg hb haN ?_
    obtain⟨A,hA⟩:∃A,c.b[a]?=some A:=⟨c.b[a],aC haN⟩
    rw[gW hA]
    exact hc.g.t A (ak hA)
   ·simp only[gV,List.mem_map,List.mem_filter,decide_eq_true_eq]at hr
    obtain⟨x,⟨hx,h0⟩,rfl⟩:=hr
    exact G9 hb (hc.i B hBm x hx) h0
  ·unfold DD at hr
   split at hr
   ·rename_i h0
    simp at hr;subst hr
    exact Ke (hc.g.t B hBm) h0
   ·cases hr
 ·simp at hr;subst hr;exact M5 hb
section
variable {c:Code}{h:Heap}{L:LSq}{KH:HKq}
structure SV (c:Code) (W:LSq) (n2 pr pd:Nat) (dv:D):Prop where
 h2:(n2,.box c.e)∈W
 hr:(pr,.box (.sl (bL (da c))))∈W
 hd:(pd,.box dv)∈W
 wd:LR W dv (ji c)
theorem Fk:fc PP cj=true:=by kernel_rfl
theorem Kn (hc:dX c) (V:Vs h L) (hK:∀W n2 pr pd dv h',SV c W n2 pr pd dv->(∃O O' at' U,wC c O O' at' U)->Vs h' (W++L)->KH (.fn cj [] [.ptr n2 0 0,.ptr pr 0 0,.ptr pd 0 0]) h'):ai PP iD [c.e] h KH:=by
 refine aT xz (aJ _ _ _) rfl (xq _ _) ?_
 unfold qX
 refine V.box c.dS.one fun n2 h3 V3=>?_
 have ld:∀{h':Heap}{K:D->Prop},h' n2=.box c.e->ae PP (.ld (.c (.ptr n2 0 0)) 8 true) h' K=K c.e:=fun hn=>by
  rw[mU,show c.e=.agg [.int .i64 c.group,.int .i64 c.sub,.int .i64 c.regs,.int .i64 c.slots,.int .i64 c.params,.sl (c.arrays.map vc.e),.sl (c.loops.map Loop.e),.sl (c.b.map Block.e)] from rfl]at *
  rw[show(8:Nat)=[D.int .i64 c.group,.int .i64 c.sub,.int .i64 c.regs,.int .i64 c.slots,.int .i64 c.params,.sl (c.arrays.map vc.e),.sl (c.loops.map Loop.e),.sl (c.b.map Block.e)].length from rfl,lI hn]
 have g3:=V3.get 0 _ _ rfl
 simp only[↓ld g3]
 refine bO (PV hc.g) (fun d hd=>by simp at hd;subst hd;exact c.dS.pair) ?_
 rintro _ ⟨R,rfl,hRl,hRi⟩
 have eR:=Cu hRl hRi
 subst eR
 refine⟨by simp only[↓ld g3,ab,and_self],?_⟩
 refine Fw hc.g V3 fun v h10 O O' at' U G R10=>?_
 obtain⟨X,V10,wd⟩:=R10.lr
 rw[PL hc.g G]at wd
 refine V10.alloc fun n11 h12 V12=>?_
 have g12:h12 n2=.box c.e:=V12.mem (by simp)
 refine⟨by simp only[↓ld g12,ab,and_self],?_⟩
 refine V12.alloc fun n15 h16 V16=>?_
 have g16:h16 n2=.box c.e:=V16.mem (by simp)
 refine⟨by simp only[↓ld g16,ab,and_self],?_⟩
 refine V16.FH 1 rfl rfl rfl fun h20 V20=>?_
 simp only[List.set_cons_succ,List.set_cons_zero]at V20
 refine V20.FH 0 rfl rfl wd.one fun h22 V22=>?_
 simp only[List.set_cons_zero]at V22
 rw[He]
 refine hK ((n15,.box v)::(n11,.box (.sl (bL (da c))))::(X++[(n2,.box c.e)])) n2 n11 n15 v h22 ⟨by simp,by simp,by simp,wd.mono fun x hx=>by simp[hx]⟩ ⟨O,O',at',U,G⟩ ?_
 have e:(n15,Slot.box v)::(n11,.box (.sl (bL (da c))))::(X++(n2,.box c.e)::L)=((n15,.box v)::(n11,.box (.sl (bL (da c))))::(X++[(n2,.box c.e)]))++L:=by simp
 rw[<- e];exact V22
end
end Go.Am
namespace Go.Am
open Go Go.Proofs
def EX (esz:Nat) (v:D) (T:List D) (A:LSq):Prop:=(v=.nil/\T=[]/\A=[])\/∃m,v=.ms m 0 T.length/\A=[(m,.arr esz T)]
section
variable {esz:Nat}{h:Heap}{L A:LSq}{v:D}{T:List D}{KH:HKq}{K:D->Prop}
theorem EX.qe (x:EX esz v T A) (V:Vs h (A++L)):QE esz h L v T:=by
 rcases x with⟨rfl,rfl,rfl⟩|⟨m,rfl,rfl⟩
 ·exact Or.inl ⟨rfl,rfl,V⟩
 ·exact Or.inr ⟨m,rfl,V⟩
theorem QE.ex (q:QE esz h L v T):∃A,EX esz v T A/\Vs h (A++L):=by
 rcases q with⟨rfl,rfl,V⟩|⟨m,rfl,V⟩
 ·exact⟨[],Or.inl ⟨rfl,rfl,rfl⟩,V⟩
 ·exact⟨_,Or.inr ⟨m,rfl,rfl⟩,V⟩
theorem EX.one (x:EX esz v T A):v.one=true:=by rcases x with⟨rfl,-⟩|⟨m,rfl,-⟩<;>rfl
theorem EX.len {L:LSq}(x:EX esz v T A) (hs:∀y∈A,y∈L) (V:Vs h L):aR v h K=K (.int .i64 (T.length:Int)):=by
 rcases x with⟨rfl,rfl,rfl⟩|⟨m,rfl,rfl⟩
 ·rw[sE];rfl
 ·rw[bu,V.mem (hs (m,.arr esz T) (by simp))]
  apply propext
  exact⟨fun hh=>hh.2,fun hk=>⟨rfl,hk⟩⟩
theorem EX.get {L:LSq}(x:EX esz v T A) (hs:∀y∈A,y∈L) (V:Vs h L){i:Nat}{cs:List D}(hd:T[i]?=some (.agg cs)) (hc:cs.length=esz) (hK:KH (.agg cs) h):aa PP (.iadd (.c v) (.c (.int .i64 (i:Int))) esz) h fun a h1=>aa PP (.ld (.c a) esz true) h1 KH:=by
 have hi:=(ah.1 hd).1
 rcases x with⟨rfl,rfl,rfl⟩|⟨m,rfl,rfl⟩
 ·simp at hd
 ·obtain⟨k,hk⟩:=aO (hs _ (List.mem_singleton.2 rfl))
  rw[V.ia k hk (by omega) (by omega),aA,V.Pl k hk (j:=i) hd hc]
  exact hK
theorem QE.VB (q:QE esz h L v T){d x z':D}{bytes:Nat}(hx:∀{K:List D->Prop},K [d]->velems esz x h K) (hd:aN d) (hb:(T.length+1)*bytes<=140737488355328) (hl:T.length+1<=9223372036854775807)
  (hK:∀m h',Vs h' ((m,.arr esz (T++[d]))::L)->KH (.ms m 0 (T.length+1)) h'):aa PP (.app (.c v) (.c x) esz bytes z') h KH:=by
 rcases q with⟨rfl,rfl,V⟩|⟨m,rfl,V⟩
 ·rw[Hf]
  refine hx ⟨fun y hy=>by simp at hy;subst hy;exact hd,⟨by simpa using hb,by simp⟩,fun n t=>?_⟩
  exact hK n _ (V.push t.free (by simp))
 ·refine V.Gr (ys:=[d]) hx (fun y hy=>by simp at hy;subst hy;exact hd) (by simpa using hb) (by simpa using hl) fun n h' V'=>?_
  exact hK _ _ V'
def VY (r:Ru) (d:D):Prop:=∃nv,d=r.e nv/\FW [] nv r.needs
structure D7 (rs:List Ru) (ds:List D):Prop where
 len:ds.length=rs.length
 el:∀(i:Nat) (r:Ru) (d:D),rs[i]?=some r->ds[i]?=some d->VY r d
theorem D7.nil:D7 [] []:=⟨rfl,fun i r d h=>by simp at h⟩
theorem D7.snoc {rs:List Ru}{ds:List D}(h:D7 rs ds){r:Ru}{d:D}(k:VY r d):D7 (rs++[r]) (ds++[d]):=by
 refine⟨by simp[h.len],fun i r' d' h1 h2=>?_⟩
 have hl:=h.len
 by_cases hi:i<rs.length
 ·rw[List.getElem?_append_left hi]at h1
  rw[List.getElem?_append_left (by omega)]at h2
  exact h.el i r' d' h1 h2
 ·have hi1:=(ah.1 h1).1
  simp at hi1
  have:i=rs.length:=by omega
  subst this
  simp at h1
  rw[<- hl]at h2
  simp at h2
  subst h1;subst h2;exact k
theorem Ru.one {r:Ru}{v:D}(h:v.one=true):aN (r.e v):=fun x hx=>by
 simp[Ru.e]at hx;rcases hx with rfl|rfl|rfl|rfl
 ·rfl
 ·rfl
 ·exact h
 ·rfl
theorem P4 {r:Ru}{nd z:D}(q:QE 2 h L nd (r.needs.map Fa.e)) (hK:∀n nv h',FW [] nv r.needs->Vs h' ((n,.arr 4 [r.e nv])::L)->KH (.ms n 0 1) h'):aa PP (.bldS true 4 1 z [(0,.c (r.e nd))]) h KH:=by
 have ho:=q.one
 refine⟨fun p hp=>?_,fun _ p hp=>?_,fun n t=>?_⟩
 ·simp[Arg.get]at hp;subst hp
  exact⟨by show 0<1;omega,rfl,Ru.one ho⟩
 ·simp[Arg.get]at hp;subst hp
  intro x hx
  simp[Ru.e,D.cells]at hx
  rcases hx with rfl|rfl|rfl|rfl
  ·trivial
  ·trivial
  ·rcases q with⟨rfl,-,-⟩|⟨m,rfl,V⟩
   ·trivial
   ·refine⟨2,_,by rw[V.get 0 _ _ rfl];rfl,by simp,fun y hy w hw=>?_⟩
    have hy:=List.mem_of_mem_drop (List.mem_of_mem_take hy)
    obtain⟨f,-,rfl⟩:=List.mem_map.1 hy
    exact f.vone w hw
  ·trivial
 ·rcases q with⟨rfl,h0,V⟩|⟨m,rfl,V⟩
  ·have:KH (.ms n 0 1) (aD h n (.arr 4 [r.e .nil])):=hK n .nil _ (Or.inl ⟨rfl,by simpa using h0⟩) (V.push t.free (by simp))
   simpa[Arg.get,setEls,D.fz,D.fzc,D.nm,D.jV,Ru.e,Heap.freezeAll,List.replicate] using this
  ·have hm:=V.get 0 _ _ rfl
   have hrow:(h m).row=some (2,r.needs.map Fa.e):=by rw[hm];rfl
   have hmf:h m≠.free:=by rw[hm];simp
   have hne:n≠m:=by rintro rfl;exact hmf t.free
   have V1:Vs (h.freezeAll [m]) L:=V.pop.Dv fun k s ⟨i,hi⟩=>iF [m] (by
    simp only[List.mem_singleton]
    exact V.ne (i+1) 0 k m s _ (by simpa using hi) rfl (by omega))
   have hnf:(h.freezeAll [m]) n=.free:=mS [m] t.free
   have:KH (.ms n 0 1) (aD (h.freezeAll [m]) n (.arr 4 [r.e (.sl (r.needs.map Fa.e))])):=hK n (.sl (r.needs.map Fa.e)) _ (Or.inr (Or.inl rfl)) (V1.push hnf (by simp))
   have e1:(r.e (.ms m 0 (r.needs.map Fa.e).length)).fz h=r.e (.sl (r.needs.map Fa.e)):=by
    simp only[Ru.e,D.fz,List.map_cons,List.map_nil,D.fzc,hrow,List.drop_zero,List.take_length]
   have e2:(r.e (.ms m 0 (r.needs.map Fa.e).length)).nm=[m]:=by simp[Ru.e,D.nm,D.jV]
   simp only[Arg.get,setEls,List.map_cons,List.map_nil,List.flatMap_cons,List.flatMap_nil,List.append_nil,if_true,e1,e2,List.replicate,List.set_cons_zero]
   exact this
def Wr (nk pa:Nat) (B:cV) (done:List Ru) (Lc:LSq):Prop:=∃v els A,D7 done els/\EX 4 v els A/\Lc=(nk,.lp .ready B)::(pa,.box v)::A
theorem Ih {nk pa:Nat}{B:cV}{G:Ru->Prop}(hps:B.ps=[7]) (hlt:∀p,p∈[7]->p<B.nt) (he:B.env=LEnv.get [(2,.ptr pa 0 0)]) (hAs:EK PP bj B.nt B.assign) (hBs:EK PP bh B.nt B.body) :
  Yl nk G (Wr nk pa B) (fun _=>False):=by
 rintro done ru Lc h N nd KH ⟨v,els,A,hv,hx,rfl⟩ hdn-q hT -
 have q0:QE 2 h ((nk,.lp .ready B)::(pa,.box v)::(A++N)) nd (ru.needs.map Fa.e):=q
 have V0:=q0.vs
 have hel:=hv.len
 rw[J0]
 refine⟨⟨_,_,V0.get 0 _ _ rfl⟩,?_⟩
 refine qJ (e:=[(2,.ptr pa 0 0)]) (V0.get 0 _ _ rfl) hps hAs hBs (by simp) hlt rfl he ?_
 rw[show([Arg.c (ru.e nd)].map fun x=>x.get [])=[ru.e nd] from rfl, <- dG]
 unfold bJ
 refine q0.alloc fun n1 h1 q1=>?_
 refine q1.p8 (cs':=[.bool ru.of.nZ,.int .i64 ru.of.n,nd,.bool ru.never]) rfl rfl (fun x hx=>Ru.one q.one x hx) fun h2 q2=>?_
 refine⟨rfl,q2.vs.get 1 _ _ rfl,?_⟩
 have q3:=q2.cc 1 rfl (s':=.lp .busy B) (by simp)
 simp only[List.set_cons_succ,List.set_cons_zero]at q3
 rw[q3.vs.Cw 2 rfl hx.one,q3.vs.lI 0 (s:=4) rfl rfl]
 rw[show D.agg [.bool ru.of.nZ,.int .i64 ru.of.n,nd,.bool ru.never]=ru.e nd from rfl]
 refine P4 q3 fun n nv h5 hnv V5=>?_
 have qa:QE 4 h5 ((n,.arr 4 [ru.e nv])::(n1,.box (ru.e nd))::(nk,.lp .busy B)::(pa,.box v)::N) v els:=hx.qe (V5.perm (List.perm_append_comm_assoc [_,_,_,_] A N))
 refine qa.VB (d:=ru.e nv) (fun {K} hk=>⟨[ru.e nv],by rw[V5.get 0 _ _ rfl];rfl,by simp,by simpa using hk⟩) (Ru.one hnv.one) (by omega) (by omega) fun m h6 V6=>?_
 refine V6.FH 4 rfl hx.one rfl fun h7 V7=>?_
 simp only[List.set_cons_succ,List.set_cons_zero]at V7
 refine⟨V7.get 3 _ _ rfl,?_⟩
 have V8:=V7.cc 3 rfl (s':=.lp .ready B) (by simp)
 simp only[List.set_cons_succ,List.set_cons_zero]at V8
 refine hT ((nk,.lp .ready B)::(pa,.box (.ms m 0 (els.length+1)))::[(m,.arr 4 (els++[ru.e nv]))]) _ ⟨.ms m 0 (els.length+1),els++[ru.e nv],_,hv.snoc ⟨nv,rfl,hnv⟩,Or.inr ⟨m,by simp,rfl⟩,rfl⟩ ?_
 have V9:Vs _ ((m,Slot.arr 4 (els++[ru.e nv]))::(nk,.lp .ready B)::(pa,.box (.ms m 0 (els.length+1)))::N):=V8.sub (.cons_cons _ (.cons _ (.cons _ (.refl _))))
 exact V9.perm (List.perm_append_comm_assoc [_] [_,_] N)
theorem Ia {c:Code}(hc:dX c){W:LSq}{n2 pr pd:Nat}{dv:D}(rm:SV c W n2 pr pd dv) (V:Vs h W){KH:HKq}(hK:∀v els A h',D7 (iB c) els->EX 4 v els A->Vs h' (A++W)->KH v h') :
  ai PP br [.nil,.fn cj [] [.ptr n2 0 0,.ptr pr 0 0,.ptr pd 0 0]] h KH:=by
 refine aT eg (aJ _ _ _) rfl (eb _ _ _) ?_
 unfold bZ
 refine V.box (fun x hx=>by simp at hx;subst hx;rfl) fun pa h4 V4=>?_
 refine⟨fun _ h'=>∃v els A,D7 (iB c) els/\EX 4 v els A/\Vs h' ((pa,.box v)::(A++W)),?_,?_⟩
 ·rintro f h7 ⟨v,els,A,hv,hx,V7⟩
  rw[V7.Cw 0 rfl hx.one]
  exact hK v els A h7 hv hx V7.pop
 refine⟨rfl,Fk,fun nk B ht he hps _ hlt hAs hBs=>?_⟩
 have V5:Vs (aD h4 nk (.lp .ready B)) ([(nk,.lp .ready B),(pa,.box .nil)]++W):=V4.push ht.free (by simp)
 refine Fv (R:=da c) (Dp:=ji c) (Ih hps hlt he hAs hBs) hc ⟨.nil,[],[],.nil,Or.inl ⟨rfl,rfl,rfl⟩,rfl⟩ V5 rm.h2 rm.hr kV rm.hd rm.wd tf (yz hc.g) (fun Lc' h' hS V'=>?_) fun Lc' h' hS V'=>hS.elim
 obtain⟨v,els,A,hv,hx,rfl⟩:=hS
 have V6:Vs h' ((nk,.lp .ready B)::(pa,.box v)::(A++W)):=V'
 have hget:h' nk=.lp .ready B:=V6.get 0 _ _ rfl
 show ff _ _ _ _ _
 unfold ff
 rw[hget]
 simp only[ab,true_and]
 exact⟨v,els,A,hv,hx,(V6.cc 0 rfl (s':=.dead) (by simp)).pop⟩
theorem LO {c:Code}(hc:dX c){W:LSq}{n2 pr pd:Nat}{dv:D}(rm:SV c W n2 pr pd dv) (V:Vs h W){KH:HKq}(hK:∀v els A h',D7 (iB c) els->EX 4 v els A->Vs h' (A++W)->KH v h') :
  ai PP cO [.fn cj [] [.ptr n2 0 0,.ptr pr 0 0,.ptr pd 0 0]] h KH:=by
 refine aT jU (aJ _ _ _) rfl (jN _ _) ?_
 unfold fA
 exact Ia hc rm V hK
end
end Go.Am
namespace Go.Am
open Go Go.Proofs
def Gy (rs:List Ru) (s:Fa->Prop):Prop:=∀r∈rs,s r.of->r.never=false/\∀f∈r.needs,s f
def Gf (rs:List Ru) (f:Fa):Prop:=∃s,Gy rs s/\s f
theorem Gf.closed (rs:List Ru):Gy rs (Gf rs):=by
 rintro r hr ⟨s,hs,h⟩
 obtain⟨h1,h2⟩:=hs r hr h
 exact⟨h1,fun f hf=>⟨s,hs,h2 f hf⟩⟩
def oP (U R:List Bool) (f:Fa):List Bool×List Bool:=if f.nZ then(U.set f.n.toNat false,R) else(U,R.set f.n.toNat false)
def qE (U R:List Bool):Nat:=U.count true+R.count true
theorem count_set {L:List Bool}:∀{i:Nat},hasB L i=true->(L.set i false).count true+1=L.count true:=by
 induction L with
 | nil=>intro i h;simp[hasB]at h
 | cons b L ih =>
  intro i h
  cases i with
  | zero =>
   simp[hasB]at h;subst h
   simp
  | succ i =>
   have h:hasB L i=true:=by simpa[hasB] using h
   have:=ih h
   rw[List.set_cons_succ,List.count_cons,List.count_cons]
   omega
theorem K4 {L:List Bool}{i k:Nat}:hasB (L.set i false) k=(hasB L k && !decide (k=i)):=by
 unfold hasB
 rw[List.getElem?_set]
 by_cases h:i=k
 ·subst h
  rw[if_pos rfl]
  by_cases hl:i<L.length
  ·rw[if_pos hl];simp
  ·rw[if_neg hl,List.getElem?_eq_none (by omega)];simp
 ·rw[if_neg h]
  simp[Ne.symm h]
theorem HC {U R:List Bool}{f:Fa}(h:gF U R f=true):qE (oP U R f).1 (oP U R f).2+1=qE U R:=by
 obtain⟨b,n⟩:=f
 cases b
 ·have:=count_set (L:=R) (i:=n.toNat) h
  simp only[oP,qE,aE,if_false];omega
 ·have:=count_set (L:=U) (i:=n.toNat) h
  simp only[oP,qE,if_true];omega
theorem K5 {U R:List Bool}{f g:Fa}(hf:0<=f.n) (hg:0<=g.n):gF (oP U R f).1 (oP U R f).2 g=true↔gF U R g=true/\g≠f:=by
 obtain⟨b,n⟩:=f
 obtain⟨b',n'⟩:=g
 have hne:(n'.toNat=n.toNat)↔n'=n:=by
  simp only at hf hg;omega
 cases b<;>cases b'<;>simp[gF,xX,oP,K4,hne]
structure UV (c:Code) (rs:List Ru) (U R:List Bool):Prop where
 ul:U.length=c.b.length
 rl:R.length=c.regs.toNat
 up:∀f,Ee c.b.length c.regs f->Gf rs f->gF U R f=true
theorem fp {U R:List Bool}{r:Ru}:cP U R r=true↔(gF U R r.of=true->r.never=false/\∀f∈r.needs,gF U R f=true):=by
 unfold cP
 cases h1:gF U R r.of<;>cases h2:r.never<;>simp[h1,h2]
theorem UV.drop {c:Code}{rs:List Ru}{U R:List Bool}(u:UV c rs U R){r:Ru}(hr:r∈rs) (ok:xy c.b.length c.regs r) (hk:cP U R r=false):gF U R r.of=true/\UV c rs (oP U R r.of).1 (oP U R r.of).2:=by
 have hg:gF U R r.of=true:=by
  cases h:gF U R r.of
  ·exfalso
   have:cP U R r=true:=fp.2 fun h'=>by rw[h]at h';cases h'
   rw[hk]at this;cases this
  ·rfl
 have hng:¬Gf rs r.of:=by
  intro hG
  obtain⟨h1,h2⟩:=Gf.closed rs r hr hG
  have:cP U R r=true:=fp.2 fun _=>⟨h1,fun f hf=>u.up f (ok.needs f hf) (h2 f hf)⟩
  rw[hk]at this;cases this
 refine⟨hg,⟨?_,?_,fun f hf hG=>?_⟩⟩
 ·unfold oP;split
  ·rw[List.length_set];exact u.ul
  ·exact u.ul
 ·unfold oP;split
  ·exact u.rl
  ·rw[List.length_set];exact u.rl
 ·rw[K5 ok.of.1 hf.1]
  refine⟨u.up f hf hG,?_⟩
  rintro rfl
  exact hng hG
noncomputable def ED (c:Code) (rs:List Ru):List Bool:=(List.range c.b.length).map fun b=>@decide (Gf rs (qI b)) (Classical.propDecidable _)
noncomputable def Er (c:Code) (rs:List Ru):List Bool:=(List.range c.regs.toNat).map fun k:Nat=>@decide (Gf rs (rS (k:Int))) (Classical.propDecidable _)
theorem yt {c:Code}{rs:List Ru}:(ED c rs).length=c.b.length:=by simp[ED]
theorem yu {c:Code}{rs:List Ru}:(Er c rs).length=c.regs.toNat:=by simp[Er]
theorem FU {c:Code}{rs:List Ru}{b:Nat}(h:b<c.b.length):hasB (ED c rs) b=true↔Gf rs (qI b):=by
 unfold hasB ED
 rw[List.getElem?_map,List.getElem?_range h];simp
theorem FV {c:Code}{rs:List Ru}{k:Nat}(h:k<c.regs.toNat):hasB (Er c rs) k=true↔Gf rs (rS (k:Int)):=by
 unfold hasB Er
 rw[List.getElem?_map,List.getElem?_range h];simp
theorem Nj {c:Code}{rs:List Ru}{f:Fa}(hf:Ee c.b.length c.regs f):gF (ED c rs) (Er c rs) f=true↔Gf rs f:=by
 obtain⟨b,n⟩:=f
 obtain⟨h0,h1,h2⟩:=hf
 have hn:((n.toNat:Nat):Int)=n:=by simp only at h0;omega
 cases b
 ·have h2:n<c.regs:=h2 rfl
  have:=FV (c:=c) (rs:=rs) (k:=n.toNat) (by simp only at h0;omega)
  unfold rS at this
  rw[hn]at this;exact this
 ·have h1:n<c.b.length:=h1 rfl
  have:=FU (c:=c) (rs:=rs) (b:=n.toNat) (by simp only at h0;omega)
  unfold qI at this
  rw[hn]at this;exact this
theorem sY {A B:List Bool}(hl:A.length=B.length) (h:∀k,k<A.length->(hasB A k=true↔hasB B k=true)):A=B:=by
 apply List.ext_getElem hl
 intro i h1 h2
 have e1:=bo h1
 have e2:=bo h2
 rw[aC h1]at e1
 rw[aC h2]at e2
 rw[Option.some.inj e1,Option.some.inj e2,Bool.eq_iff_iff]
 exact h i h1
theorem UV.fin {c:Code}{rs:List Ru}{U R:List Bool}(u:UV c rs U R) (ok:∀r∈rs,xy c.b.length c.regs r) (hk:∀r∈rs,cP U R r=true):U=ED c rs/\R=Er c rs:=by
 have hcl:Gy rs fun f=>Ee c.b.length c.regs f/\gF U R f=true:=by
  rintro r hr ⟨-,hg⟩
  obtain⟨h1,h2⟩:=fp.1 (hk r hr) hg
  exact⟨h1,fun f hf=>⟨(ok r hr).needs f hf,h2 f hf⟩⟩
 have key:∀f,Ee c.b.length c.regs f->(gF U R f=true↔Gf rs f):=fun f hf=>⟨fun h=>⟨_,hcl,hf,h⟩,u.up f hf⟩
 constructor
 ·refine sY (by rw[u.ul,yt]) fun k hkl=>?_
  have hkl:k<c.b.length:=by rw[<- u.ul];exact hkl
  rw[FU hkl, <- key (qI k) (HU hkl)];rfl
 ·refine sY (by rw[u.rl,yu]) fun k hkl=>?_
  have hkl:k<c.regs.toNat:=by rw[<- u.rl];exact hkl
  have:=key (rS (k:Int)) ⟨by simp[rS],fun h=>(by cases h),fun _=>by simp only[rS];omega⟩
  rw[FV hkl, <- this];rfl
theorem UV.start {c:Code}{rs:List Ru}(hr:0<=c.regs):UV c rs (List.replicate c.b.length true) (List.replicate c.regs.toNat true):=by
 refine⟨by simp,by simp,fun f hf _=>?_⟩
 obtain⟨b,n⟩:=f
 obtain⟨h0,h1,h2⟩:=hf
 cases b
 ·have h2:n<c.regs:=h2 rfl
  simp only at h0
  simp[gF,xX,hasB,show n.toNat<c.regs.toNat by omega]
 ·have h1:n<c.b.length:=h1 rfl
  simp only at h0
  simp[gF,xX,hasB,show n.toNat<c.b.length by omega]
def uE (U R:List Bool):D:=.agg [.sl (bL U),.sl (bL R)]
noncomputable def uF (c:Code):D:=uE (ED c (iB c)) (Er c (iB c))
end Go.Am
namespace Go.Am
open Go Go.Proofs
def kY (n i:Nat):List Bool:=(List.range n).map fun k=>decide (k<i)
theorem Hi {n i:Nat}:(kY n i).length=n:=by simp[kY]
theorem Nm {n:Nat}:kY n 0=List.replicate n false:=by
 apply List.ext_getElem (by simp[kY]);intro i h1 h2;simp[kY]
theorem Nl {n:Nat}:kY n n=List.replicate n true:=by
 apply List.ext_getElem (by simp[kY]);intro i h1 h2;simp[kY]at h1 ⊢;omega
theorem Hh {n i:Nat}:(kY n i).set i true=kY n (i+1):=by
 apply List.ext_getElem (by simp[kY])
 intro k h1 h2
 rw[List.getElem_set]
 simp only[kY,List.getElem_map,List.getElem_range]
 by_cases h:i=k
 ·subst h;simp
 ·rw[if_neg h]
  exact decide_eq_decide.2 (by omega)
section
variable {c:Code}{h:Heap}{KH:HKq}
theorem J7 {P:Program}{bytes l:Nat}{h:Heap}{KH:HKq}(hb:l*bytes<=140737488355328) (hl:l<=9223372036854775807) (hK:KH .undef h):aa P (.mkc bytes (.c (.int .i64 (l:Int))) (.c (.int .i64 (l:Int)))) h KH :=
 ⟨by omega,by omega,by have:=Int.ofNat_le.2 hb;simpa using this,by omega,hK⟩
def bP (c:Code) (nU nR nu n4 n2 nr:Nat) (U R:List Bool) (X:LSq):LSq :=
 (nu,.box (.agg [.ms nU 0 c.b.length,.ms nR 0 nr]))::(nR,.arr 1 (bL R))::(nU,.arr 1 (bL U))::(n4,.box (.agg [.nil,.nil]))::(n2,.box c.e)::X
section
variable {nU nR nu n4 n2 nr:Nat}{U R:List Bool}{X A:LSq}
theorem Nx (hn:c.b.length<=1000) (V:Vs h (bP c nU nR nu n4 n2 nr (kY c.b.length 0) R X)){J:HJq}(hJ:∀h',Vs h' (bP c nU nR nu n4 n2 nr (kY c.b.length c.b.length) R X)->J [] h') :
  jJ h (.int .i64 (c.b.length:Int)) (.ptr nu 0 0) (.ptr n2 0 0) (.ptr n4 0 0) J:=by
 unfold jJ
 refine⟨fun m q h'=>∃i:Nat,q=[nD i]/\i<=c.b.length/\m=c.b.length-i/\Vs h' (bP c nU nR nu n4 n2 nr (kY c.b.length i) R X),_,⟨0,rfl,by omega,rfl,V⟩,?_⟩
 rintro m f h1 ⟨i,hq,hi,hm,V1⟩
 simp only[aq,and_true]at hq
 simp only[hq,nD]
 by_cases hlt:i<c.b.length
 ·rw[jZ (by omega),ag,V1.fa 0 rfl,V1.cx 0 (j:=0) rfl rfl,V1.ia 2 rfl (by omega) (by omega),aA]
  refine V1.uK 2 rfl (by rw[bL,aw,Hi];exact hlt) rfl (fL _) fun h2 V2=>?_
  rw[fK,Hh]at V2
  rw[cU (by omega) (by omega)]
  simp only[ab,true_and]
  exact⟨_,by omega,i+1,rfl,by omega,rfl,V2⟩
 ·have:i=c.b.length:=by omega
  subst this
  rw[jX (by omega),af]
  simp only[ab,true_and]
  exact hJ h1 V1
theorem Ny (hn:nr<=1000) (V:Vs h (bP c nU nR nu n4 n2 nr U (kY nr 0) X)){J:HJq}(hJ:∀h',Vs h' (bP c nU nR nu n4 n2 nr U (kY nr nr) X)->J [] h') :
  jK h (.int .i64 (nr:Int)) (.ptr nu 0 0) (.ptr n2 0 0) (.ptr n4 0 0) J:=by
 unfold jK
 refine⟨fun m q h'=>∃i:Nat,q=[nD i]/\i<=nr/\m=nr-i/\Vs h' (bP c nU nR nu n4 n2 nr U (kY nr i) X),_,⟨0,rfl,by omega,rfl,V⟩,?_⟩
 rintro m f h1 ⟨i,hq,hi,hm,V1⟩
 simp only[aq,and_true]at hq
 simp only[hq,nD]
 by_cases hlt:i<nr
 ·rw[jZ (by omega),ag,V1.fa 0 rfl,V1.cx 0 (j:=1) rfl rfl,V1.ia 1 rfl (by omega) (by omega),aA]
  refine V1.uK 1 rfl (by rw[bL,aw,Hi];exact hlt) rfl (fL _) fun h2 V2=>?_
  rw[fK,Hh]at V2
  rw[cU (by omega) (by omega)]
  simp only[ab,true_and]
  exact⟨_,by omega,i+1,rfl,by omega,rfl,V2⟩
 ·have:i=nr:=by omega
  subst this
  rw[jX (by omega),af]
  simp only[ab,true_and]
  exact hJ h1 V1
theorem Px {rs:List Ru}{els:List D}{v:D}(hr:c.regs=(nr:Int)) (hrl:rs.length<=1000000) (hv:D7 rs els) (hx:EX 4 v els A) (hA:∀y∈A,y∈X) (ok:∀r∈rs,xy c.b.length c.regs r) (u:UV c rs U R) (V:Vs h (bP c nU nR nu n4 n2 nr U R X)){m0:Nat}{I:Nat->HJq}
  (hI:∀ch U' R' h',UV c rs U' R'->(ch=true->qE U' R'<qE U R)->(ch=false->U'=U/\R'=R/\∀r∈rs,cP U R r=true)->Vs h' (bP c nU nR nu n4 n2 nr U' R' X)->∃m,m<m0/\I m [.bool ch] h') :
  jM h (.int .i64 (els.length:Int)) (.ptr n4 0 0) (.ptr nu 0 0) v m0 I:=by
 have hel:=hv.len
 unfold jM
 refine⟨fun m q h'=>∃(i:Nat) (ch:Bool) (U' R':List Bool),q=[.bool ch,nD i]/\i<=els.length/\m=els.length-i/\UV c rs U' R'/\(ch=true->qE U' R'<qE U R)/\(ch=false->U'=U/\R'=R/\∀r,r∈rs.take i->cP U R r=true)/\Vs h' (bP c nU nR nu n4 n2 nr U' R' X),_,
  ⟨0,false,U,R,rfl,by omega,rfl,u,fun h=>(by cases h),fun _=>⟨rfl,rfl,fun r hr=>(by simp at hr)⟩,V⟩,?_⟩
 rintro m f h1 ⟨i,ch,U1,R1,hq,hi,hm,u1,hc1,hc2,V1⟩
 simp only[aq,and_true]at hq
 obtain⟨q1,q2⟩:=hq
 simp only[q1,q2,nD]
 by_cases hlt:i<els.length
 ·rw[jZ (by omega),ag]
  obtain⟨r,hri⟩:∃r,rs[i]?=some r:=⟨rs[i]'(by omega),aC _⟩
  obtain⟨d,hdi⟩:∃d,els[i]?=some d:=⟨els[i],aC hlt⟩
  obtain⟨nv,rfl,wn⟩:=hv.el i r d hri hdi
  have hrm:=ak hri
  have okr:=ok r hrm
  have htk:rs.take (i+1)=rs.take i++[r]:=by rw[List.take_add_one,hri];rfl
  refine⟨fun q h'=>∃(ch:Bool) (U' R':List Bool),q=[.bool ch]/\UV c rs U' R'/\(ch=true->qE U' R'<qE U R)/\(ch=false->U'=U/\R'=R/\∀r,r∈rs.take (i+1)->cP U R r=true)/\Vs h' (bP c nU nR nu n4 n2 nr U' R' X),?_,?_⟩
  ·rintro f' h' ⟨ch',U2,R2,hq',u2,g1,g2,V2⟩
   simp only[aq,and_true]at hq'
   rw[hq',cU (by omega) (by omega)]
   simp only[ab,true_and]
   exact⟨_,by omega,i+1,ch',U2,R2,rfl,by omega,rfl,u2,g1,g2,V2⟩
  refine hx.get (fun y hy=>by have:=hA y hy;simp[bP,this]) V1 hdi rfl ?_
  refine V1.alloc fun n72 h73 V73=>?_
  refine V73.p8 0 rfl rfl rfl (fun x hx=>Ru.one wn.one x hx) fun h75 V75=>?_
  simp only[List.set_cons_zero]at V75
  have V75:Vs h75 ((n72,.box (r.e nv))::bP c nU nR nu n4 n2 nr U1 R1 X):=V75
  have hUl:U1.length=c.b.length:=u1.ul
  have hRl:R1.length=nr:=by rw[u1.rl,hr];rfl
  have wU:∀{L:LSq},(∀x,x∈bP c nU nR nu n4 n2 nr U1 R1 X->x∈L)->BW L (.ms nU 0 c.b.length) U1:=fun hs=>Or.inr ⟨nU,by rw[hUl],hs _ (by simp[bP])⟩
  have wR:∀{L:LSq},(∀x,x∈bP c nU nR nu n4 n2 nr U1 R1 X->x∈L)->BW L (.ms nR 0 nr) R1:=fun hs=>Or.inr ⟨nR,by rw[hRl],hs _ (by simp[bP])⟩
  have sub1:∀x,x∈bP c nU nR nu n4 n2 nr U1 R1 X->x∈(n72,Slot.box (r.e nv))::bP c nU nR nu n4 n2 nr U1 R1 X:=fun x hx=>List.mem_cons_of_mem _ hx
  have okr':xy U1.length R1.length r:=by rw[hUl,hRl, <- hr];exact okr
  rw[V75.lI 1 (s:=2) rfl rfl,V75.lI 0 (s:=4) rfl rfl]
  refine Om V75 (wU sub1) (wR sub1) okr' (wn.mono fun x hx=>by simp at hx) fun h81 V81=>?_
  rw[du]
  cases hk:cP U1 R1 r
  ·rw[Bool.not_false,ag,V81.lI 1 (s:=2) rfl rfl,V81.fa 0 rfl,RK (d:=r.of.e) (V81.get 0 _ _ rfl) (by simp) rfl]
   obtain⟨hg,u2⟩:=u1.drop hrm okr hk
   have hcnt:=HC hg
   refine SK V81 (wU sub1) (wR sub1) okr'.of fun p h90 V90 hp=>?_
   have hfin:∀h',Vs h' (bP c nU nR nu n4 n2 nr (oP U1 R1 r.of).1 (oP U1 R1 r.of).2 X)->∃(ch:Bool) (U' R':List Bool),[D.bool true]=[.bool ch]/\UV c rs U' R'/\(ch=true->qE U' R'<qE U R)/\(ch=false->U'=U/\R'=R/\∀r,r∈rs.take (i+1)->cP U R r=true)/\Vs h' (bP c nU nR nu n4 n2 nr U' R' X):=fun h' V'=>by
    refine⟨true,_,_,rfl,u2,fun _=>?_,fun h=>(by cases h),V'⟩
    cases ch with
    | true=>have:=hc1 rfl;omega
    | false=>obtain⟨rfl,rfl,-⟩:=hc2 rfl;omega
   have hb:∀f:Fa,Ee U1.length R1.length f->f.n.toNat<(xX U1 R1 f).length:=fun f hf=>by
    obtain⟨b,n⟩:=f
    obtain⟨h1,h2,h3⟩:=hf
    cases b
    ·have g1:n<(R1.length:Int):=h3 rfl
     have g2:0<=n:=h1
     show n.toNat<R1.length;omega
    ·have g1:n<(U1.length:Int):=h2 rfl
     have g2:0<=n:=h1
     show n.toNat<U1.length;omega
   have hbl:=hb _ okr'.of
   have eset:∀b,b=r.of.nZ->(oP U1 R1 r.of)=if b then(U1.set r.of.n.toNat false,R1) else(U1,R1.set r.of.n.toNat false):=fun b hb=>by subst hb;rfl
   cases hblk:r.of.nZ
   ·have e1:xX U1 R1 r.of=R1:=by unfold xX;rw[hblk];rfl
    rw[e1]at hp hbl
    rw[hblk]at hp
    rcases hp with⟨hp,-⟩|⟨m',hp,-,rfl⟩
    ·cases hp
    ·cases hp
     rw[ku,V90.get 2 _ _ rfl]
     refine⟨rfl,?_⟩
     rw[Nat.zero_add]
     refine V90.uK 2 rfl (by simpa[bL] using hbl) rfl (fL _) fun h94 V94=>?_
     rw[fK]at V94
     simp only[ab,true_and]
     refine hfin h94 ?_
     rw[eset false hblk.symm]
     exact V94.pop
   ·have e1:xX U1 R1 r.of=U1:=by unfold xX;rw[hblk];rfl
    rw[e1]at hp hbl
    rw[hblk]at hp
    rcases hp with⟨hp,-⟩|⟨m',hp,-,rfl⟩
    ·cases hp
    ·simp only[if_true,D.ms.injEq]at hp
     obtain⟨rfl,-,-⟩:=hp
     rw[ku,V90.get 3 _ _ rfl]
     refine⟨rfl,?_⟩
     rw[Nat.zero_add]
     refine V90.uK 3 rfl (by simpa[bL] using hbl) rfl (fL _) fun h94 V94=>?_
     rw[fK]at V94
     simp only[ab,true_and]
     refine hfin h94 ?_
     rw[eset true hblk.symm]
     exact V94.pop
  ·rw[Bool.not_true,af]
   simp only[ab,true_and]
   refine⟨ch,U1,R1,rfl,u1,hc1,fun h0=>?_,V81.pop⟩
   obtain⟨rfl,rfl,h3⟩:=hc2 h0
   refine⟨rfl,rfl,fun r' hr'=>?_⟩
   rw[htk]at hr'
   rcases List.mem_append.1 hr' with hr'|hr'
   ·exact h3 r' hr'
   ·simp at hr';subst hr';exact hk
 ·have:i=els.length:=by omega
  subst this
  rw[jX (by omega),af]
  simp only[ab,true_and]
  refine hI ch U1 R1 h1 u1 hc1 (fun h0=>?_) V1
  obtain⟨e1,e2,h3⟩:=hc2 h0
  rw[hel,List.take_length]at h3
  exact⟨e1,e2,h3⟩
theorem Py {rs:List Ru}{els:List D}{v:D}(hr:c.regs=(nr:Int)) (hrl:rs.length<=1000000) (hv:D7 rs els) (hx:EX 4 v els A) (hA:∀y∈A,y∈X) (ok:∀r∈rs,xy c.b.length c.regs r) (u:UV c rs U R) (V:Vs h (bP c nU nR nu n4 n2 nr U R X)){J:HJq}
  (hJ:∀h',Vs h' (bP c nU nR nu n4 n2 nr (ED c rs) (Er c rs) X)->J [] h'):jL h v (.ptr n4 0 0) (.ptr nu 0 0) J:=by
 unfold jL
 refine⟨fun m q h'=>∃(ch:Bool) (U R:List Bool),q=[.bool ch]/\m=2*qE U R+(if ch then 1 else 0)/\UV c rs U R/\(ch=false->∀r∈rs,cP U R r=true)/\Vs h' (bP c nU nR nu n4 n2 nr U R X),_,⟨true,U,R,rfl,rfl,u,fun h=>(by cases h),V⟩,?_⟩
 rintro m f h1 ⟨ch,U1,R1,hq,hm,u1,hk,V1⟩
 simp only[aq,and_true]at hq
 rw[hq]
 cases ch with
 | true =>
  rw[ag,hx.len (fun y hy=>by have:=hA y hy;simp[bP,this]) V1]
  refine Px hr hrl hv hx hA ok u1 V1 fun ch' U2 R2 h2 u2 g1 g2 V2=>?_
  refine⟨2*qE U2 R2+(if ch' then 1 else 0),?_,ch',U2,R2,rfl,rfl,u2,fun h0=>?_,V2⟩
  ·subst hm
   cases ch' with
   | true=>have:=g1 rfl;simp;omega
   | false=>obtain⟨rfl,rfl,-⟩:=g2 rfl;simp
  ·obtain⟨rfl,rfl,h3⟩:=g2 h0;exact h3
 | false =>
  rw[af]
  simp only[ab,true_and]
  obtain⟨rfl,rfl⟩:=u1.fin ok (hk rfl)
  exact hJ h1 V1
end
end
end Go.Am
namespace Go.Am
open Go Go.Proofs
theorem Gc {d:D}{h:Heap}{K:D->Prop}:ae PP (.len (.c d)) h K=aR d h K:=rfl
theorem SV.mono {c:Code}{W W':LSq}{n2 pr pd:Nat}{dv:D}(hs:∀x∈W,x∈W') (r:SV c W n2 pr pd dv):SV c W' n2 pr pd dv:=⟨hs _ r.h2,hs _ r.hr,hs _ r.hd,r.wd.mono hs⟩
def Ed (c:Code):Prop:=∃O O' at' U,wC c O O' at' U
theorem OV {c:Code}(hc:dX c):(iB c).length<=1000000:=by
 have:=wS (R:=da c) hc (yz hc.g) c.b.length
 have:=hc.g.nb
 unfold iB wT;omega
theorem Gq {n:Nat}{b:Bool}:bL (List.replicate n b)=List.replicate n (.bool b):=by simp[bL]
theorem NZ {c:Code}(hc:dX c):aY PP js [c.e] (fun r=>r=uF c/\Ed c):=by
 have hnb:=hc.g.nb
 obtain⟨nr,hr⟩:∃nr:Nat,c.regs=(nr:Int):=⟨c.regs.toNat,by have:=hc.rg;omega⟩
 have hr1:=hc.rg
 refine bx zk (aJ _ _ _) rfl (yL _ _) ?_
 unfold tv
 refine Vs.nil.box c.dS.one fun n2 h3 V3=>?_
 refine V3.alloc fun n4 h5 V5=>?_
 rw[V5.mH 1 rfl,V5.iJ 1 (j:=7) rfl rfl,bX,aw,V5.mH 1 rfl,V5.iJ 1 (j:=2) rfl rfl,hr]
 refine J7 (by omega) (by omega) ?_
 refine J7 (by omega) (by omega) ?_
 refine V5.JS (by omega) (by omega) fun nU h16 V16=>?_
 refine⟨by simp only[↓V16.mH 2 rfl,↓V16.iJ 2 (j:=0+2) rfl rfl,hr,ab,and_self],?_⟩
 refine V16.JS (by omega) (by omega) fun nR h20 V20=>?_
 refine⟨by simp only[↓V20.mH 3 rfl,↓V20.iJ 3 (j:=0+7) rfl rfl,Gc,bX,aw,ab,and_self],?_⟩
 rw[dB rfl]
 refine V20.alloc fun nu h26 V26=>?_
 refine⟨by simp only[↓V26.mH 4 rfl,↓V26.iJ 4 (j:=0+7) rfl rfl,↓V26.iJ 4 (j:=0+2) rfl rfl,Gc,bX,aw,hr,ab,and_self],?_⟩
 refine V26.p8 0 (cs':=[.ms nU 0 c.b.length,.ms nR 0 nr]) rfl rfl rfl (fun x hx=>by simp at hx;rcases hx with rfl|rfl<;>rfl) fun h33 V33=>?_
 simp only[List.set_cons_zero]at V33
 have V33:Vs h33 (bP c nU nR nu n4 n2 nr (kY c.b.length 0) (kY nr 0) []):=by
  unfold bP;rw[Nm,Nm,Gq,Gq];exact V33
 refine⟨fun _ h'=>Vs h' (bP c nU nR nu n4 n2 nr (kY c.b.length c.b.length) (kY nr 0) []),?_,?_⟩
 ·rintro f h36 V36
  refine⟨fun _ h'=>Vs h' (bP c nU nR nu n4 n2 nr (kY c.b.length c.b.length) (kY nr nr) []),?_,?_⟩
  ·rintro f2 h39 V39
   rw[V39.lI 4 (s:=8) rfl rfl]
   refine Kn hc V39 fun W m2 pr pd dv h43 rm hD V43=>?_
   refine LO hc (rm.mono (W':=W++bP c nU nR nu n4 n2 nr (kY c.b.length c.b.length) (kY nr nr) []) fun x hx=>by simp[hx]) V43 fun v els A h45 hv hx V45=>?_
   have V45':Vs h45 (bP c nU nR nu n4 n2 nr (List.replicate c.b.length true) (List.replicate c.regs.toNat true) (A++W)):=by
    rw[Nl,Nl, <- List.append_assoc]at V45
    have e:c.regs.toNat=nr:=by omega
    rw[e]
    exact V45.perm List.perm_append_comm
   refine⟨fun _ h'=>Vs h' (bP c nU nR nu n4 n2 nr (ED c (iB c)) (Er c (iB c)) (A++W)),?_,Py hr (OV hc) hv hx (fun y hy=>by simp[hy]) (C5 hc) (UV.start (by omega)) V45' fun h' V'=>V'⟩
   rintro f3 h48 V48
   rw[V48.lI 0 (s:=2) rfl rfl]
   refine V48.p8 3 rfl rfl rfl (fun x hx=>by simp at hx;rcases hx with rfl|rfl<;>rfl) fun h52 V52=>?_
   simp only[bP,List.set_cons_succ,List.set_cons_zero]at V52
   rw[V52.lI 3 (s:=2) rfl rfl]
   have e1:(h52 nU).row=some (1,bL (ED c (iB c))):=by rw[V52.get 2 _ _ rfl];rfl
   have e2:(h52 nR).row=some (1,bL (Er c (iB c))):=by rw[V52.get 1 _ _ rfl];rfl
   have l1:(bL (ED c (iB c))).length=c.b.length:=by rw[bL,aw,yt]
   have l2:(bL (Er c (iB c))).length=nr:=by rw[bL,aw,yu];omega
   have bv:∀(S:List Bool) x,x∈bL S->∀y∈x.cells,y.vone=true:=fun S x hx y hy=>by
    simp only[bL,List.mem_map]at hx;obtain⟨b,-,rfl⟩:=hx
    simp[D.cells]at hy;subst hy;rfl
   have ef:(D.agg [.ms nU 0 c.b.length,.ms nR 0 nr]).fzt h52=uF c:=by
    simp only[D.fzt,D.fz,D.fzc,List.map_cons,List.map_nil,e1,e2,List.drop_zero]
    rw[List.take_of_length_le (by omega),List.take_of_length_le (by omega)];rfl
   refine⟨fun x hx=>?_,fun x hx=>?_,?_,?_⟩
   ·simp[D.cells]at hx;rcases hx with rfl|rfl<;>rfl
   ·simp[D.cells]at hx
    rcases hx with rfl|rfl
    ·exact⟨1,_,e1,by omega,fun x hx y hy=>bv _ x (List.mem_of_mem_drop (List.mem_of_mem_take hx)) y hy⟩
    ·exact⟨1,_,e2,by omega,fun x hx y hy=>bv _ x (List.mem_of_mem_drop (List.mem_of_mem_take hx)) y hy⟩
   ·rw[ef];rfl
   ·rw[ef];exact⟨rfl,hD⟩
  ·rw[V36.fa 0 rfl,V36.cx 0 (j:=0+1) rfl rfl,bu,V36.get 1 _ _ rfl]
   exact⟨rfl,Ny (by omega) V36 fun h' V'=>V'⟩
 ·rw[V33.fa 0 rfl,V33.cx 0 (j:=0+0) rfl rfl,bu,V33.get 2 _ _ rfl]
  exact⟨rfl,Nx (by omega) V33 fun h' V'=>V'⟩
end Go.Am
namespace Go.Am
open Go Go.Proofs
def CD (v:D) (T:List Bool):Prop:=v=.sl (bL T)\/(v=.nil/\T=[])
theorem CD.one {v:D}{T:List Bool}(w:CD v T):v.one=true:=by rcases w with rfl|⟨rfl,-⟩<;>rfl
theorem CD.len {v:D}{T:List Bool}(w:CD v T){h:Heap}{K:D->Prop}:aR v h K=K (.int .i64 (T.length:Int)):=by
 rcases w with rfl|⟨rfl,rfl⟩
 ·rw[bX];simp[bL]
 ·rw[sE];rfl
theorem CD.sl {v:D}{T:List Bool}(w:CD v T) (h:1<=T.length):v=.sl (bL T):=by
 rcases w with h|⟨-,rfl⟩
 ·exact h
 ·simp at h
noncomputable def ky (c:Code) (U R:List Bool):Bool:=decide (U.length=c.b.length)&&decide ((R.length:Int)=c.regs)&&(iB c).all (cP U R)
section
variable {h:Heap}{L:LSq}{KH:HKq}
theorem QE.fw {v:D}{T:List Fa}(q:QE 2 h L v (T.map Fa.e)):∃X,Vs h (X++L)/\FW (X++L) v T:=by
 rcases q with⟨rfl,h0,V⟩|⟨m,rfl,V⟩
 ·exact⟨[],V,Or.inl ⟨rfl,by simpa using h0⟩⟩
 ·exact⟨[(m,.arr 2 (T.map Fa.e))],V,Or.inr (Or.inr ⟨m,by simp,by simp⟩)⟩
def UK (nk n7 n5:Nat) (s:LSt) (B:cV) (e:Int) (vU vR:D):LSq:=[(nk,.lp s B),(n7,.box (.int .i64 e)),(n5,.box (.agg [vU,vR]))]
theorem L6 {c:Code}{U R:List Bool}{rs:List Ru}{nk n7 n5:Nat}{B:cV}(hul:U.length=c.b.length) (hrl:(R.length:Int)=c.regs) (hps:B.ps=[23]) (hlt:∀p,p∈[23]->p<B.nt) (he:B.env=LEnv.get [(3,.ptr n5 0 0),(4,.ptr n7 0 0)]) (hAs:EK PP iS B.nt B.assign) (hBs:EK PP iQ B.nt B.body) :
  Yl nk (fun r=>xy c.b.length c.regs r/\r∈rs) (fun done Lc=>Lc=UK nk n7 n5 .ready B 0 (.sl (bL U)) (.sl (bL R))/\∀r∈done,cP U R r=true) (fun Lc=>Lc=UK nk n7 n5 (.done .ret) B 100 (.sl (bL U)) (.sl (bL R))/\∃r,r∈rs/\cP U R r=false):=by
 rintro done ru Lc h N nd KH ⟨rfl,hdone⟩-⟨hok,hrs⟩ q hT hF
 have V0:=q.vs
 rw[J0]
 refine⟨⟨_,_,V0.get 0 _ _ rfl⟩,?_⟩
 refine qJ (e:=[(3,.ptr n5 0 0),(4,.ptr n7 0 0)]) (V0.get 0 _ _ rfl) hps hAs hBs (by simp) hlt rfl he ?_
 rw[show([Arg.c (ru.e nd)].map fun x=>x.get [])=[ru.e nd] from rfl, <- sh]
 unfold mY
 refine q.alloc fun n1 h1 q1=>?_
 refine q1.p8 (cs':=[.bool ru.of.nZ,.int .i64 ru.of.n,nd,.bool ru.never]) rfl rfl (fun x hx=>Ru.one q.one x hx) fun h2 q2=>?_
 refine⟨rfl,q2.vs.get 1 _ _ rfl,?_⟩
 have q3:=q2.cc 1 rfl (s':=.lp .busy B) (by simp)
 simp only[UK,List.set_cons_succ,List.set_cons_zero,List.cons_append,List.nil_append]at q3
 rw[q3.vs.lI 3 (s:=2) rfl rfl,q3.vs.lI 0 (s:=4) rfl rfl,show D.agg [.bool ru.of.nZ,.int .i64 ru.of.n,nd,.bool ru.never]=ru.e nd from rfl]
 obtain⟨X,V3,wn⟩:=q3.fw
 refine Om (U:=U) (R:=R) V3 (Or.inl rfl) (Or.inl rfl) (by rw[hul,hrl];exact hok) wn fun h4 V4=>?_
 have V4:=V4.H0
 rw[du]
 cases hk:cP U R ru
 ·rw[Bool.not_false,ag]
  refine V4.FH 2 rfl rfl rfl fun h5 V5=>?_
  simp only[List.set_cons_succ,List.set_cons_zero]at V5
  refine⟨V5.get 1 _ _ rfl,?_⟩
  exact hF _ _ ⟨rfl,ru,hrs,hk⟩ (V5.cc 1 rfl (s':=.lp (.done .ret) B) (by simp)).pop
 ·rw[Bool.not_true,af]
  refine⟨V4.get 1 _ _ rfl,?_⟩
  refine hT _ _ ⟨rfl,fun r hr=>?_⟩ (V4.cc 1 rfl (s':=.lp .ready B) (by simp)).pop
  rcases List.mem_append.1 hr with hr|hr
  ·exact hdone r hr
  ·simp at hr;subst hr;exact hk
theorem Gj {c:Code}(hc:dX c){vU vR:D}{U R:List Bool}(wU:CD vU U) (wR:CD vR R):aY PP bC [c.e,.agg [vU,vR]] (· = .int .i64 (if ky c U R then 0 else 100)):=by
 have hnb:=hc.g.nb
 have hr1:=hc.rg
 refine bx xA (aJ _ _ _) rfl (xr _ _ _) ?_
 unfold qY
 refine Vs.nil.box c.dS.one fun n3 h4 V4=>?_
 refine V4.box (fun x hx=>by simp at hx;rcases hx with rfl|rfl;exact wU.one;exact wR.one) fun n5 h6 V6=>?_
 refine V6.alloc fun n7 h8 V8=>?_
 rw[V8.fa 1 rfl,V8.cx 1 (j:=0+0) rfl rfl,wU.len,V8.fa 2 rfl,V8.cx 2 (j:=0+7) rfl rfl,bX,aw,gK]
 have bad:∀(h51:Heap),Vs h51 [(n7,.box (.int .i64 100)),(n5,.box (.agg [vU,vR])),(n3,.box c.e)]->ky c U R=false->aa PP (.ld (.c (.ptr n7 0 0)) 1 false) h51 fun a52 _=>sy (· = .int .i64 (if ky c U R then 0 else 100)) a52 h51:=fun h51 V51 hb=>by
  rw[V51.Cw 0 rfl rfl,cH,hb];rfl
 by_cases hul:U.length=c.b.length
 ·rw[decide_eq_true (by omega)]
  simp only[Bool.not_true]
  simp only[↓gS]
  rw[V8.fa 1 rfl,V8.cx 1 (j:=0+1) rfl rfl,wR.len,V8.fa 2 rfl,V8.cx 2 (j:=0+2) rfl rfl,gK]
  by_cases hrl:(R.length:Int)=c.regs
  ·rw[decide_eq_true hrl]
   simp only[Bool.not_true]
   simp only[↓gS]
   have eU:=wU.sl (by omega)
   have eR:=wR.sl (by omega)
   subst eU;subst eR
   refine⟨fun _ h'=>Vs h' [(n7,.box (.int .i64 0)),(n5,.box (.agg [.sl (bL U),.sl (bL R)])),(n3,.box c.e)]/\ky c U R=true,?_,?_⟩
   ·rintro f h55 ⟨V55,hb⟩
    refine V55.FH 0 rfl rfl rfl fun h57 V57=>?_
    simp only[List.set_cons_zero]at V57
    rw[V57.Cw 0 rfl rfl,cH,hb];rfl
   rw[V8.lI 2 (s:=8) rfl rfl]
   refine Kn hc V8 fun W m2 pr pd dv h62 rm hD V62=>?_
   refine⟨rfl,Fk,fun nk B ht he hps _ hlt hAs hBs=>?_⟩
   have V63:=V62.push ht.free (s:=.lp .ready B) (by simp)
   have V64:Vs (aD h62 nk (.lp .ready B)) (UK nk n7 n5 .ready B 0 (.sl (bL U)) (.sl (bL R))++(W++[(n3,.box c.e)])):=by
    refine V63.perm (.cons _ ?_)
    exact List.perm_append_comm_assoc W [_,_] [_]
   refine Fv (R:=da c) (Dp:=ji c) (L6 (rs:=iB c) hul hrl hps hlt he hAs hBs) hc ⟨rfl,fun r hr=>(by cases hr)⟩ V64 (by simp[rm.h2]) (by simp[rm.hr]) kV (by simp[rm.hd]) (rm.wd.mono fun x hx=>by simp[hx]) tf (yz hc.g) (fun Lc' h' hS V'=>?_) fun Lc' h' hS V'=>?_
   ·obtain⟨rfl,hk⟩:=hS
    have hget:h' nk=.lp .ready B:=V'.get 0 _ _ rfl
    show ff _ _ _ _ _
    unfold ff
    rw[hget]
    simp only[ab,true_and]
    have V9:=(V'.cc 0 rfl (s':=.dead) (by simp)).pop
    refine⟨V9.sub (.cons_cons _ (.cons_cons _ (List.sublist_append_right W _))),?_⟩
    unfold ky
    rw[decide_eq_true hul,decide_eq_true hrl]
    simp only[Bool.true_and,List.all_eq_true]
    exact hk
   ·obtain⟨rfl,r,hr,hk⟩:=hS
    have hget:h' nk=.lp (.done .ret) B:=V'.get 0 _ _ rfl
    show ff _ _ _ _ _
    unfold ff
    rw[hget]
    have V9:=(V'.cc 0 rfl (s':=.dead) (by simp)).pop
    refine Or.inl ⟨trivial,bad _ (V9.sub (.cons_cons _ (.cons_cons _ (List.sublist_append_right W _)))) ?_⟩
    cases hb:ky c U R
    ·rfl
    ·exfalso
     unfold ky at hb
     simp only[Bool.and_eq_true,List.all_eq_true]at hb
     have:=hb.2 r hr
     rw[hk]at this;cases this
  ·rw[decide_eq_false hrl]
   simp only[Bool.not_false]
   simp only[↓gS]
   refine V8.FH 0 rfl rfl rfl fun h51 V51=>?_
   simp only[List.set_cons_zero]at V51
   exact bad h51 V51 (by unfold ky;rw[decide_eq_false hrl];simp)
 ·rw[decide_eq_false (by omega)]
  simp only[Bool.not_false]
  simp only[↓gS]
  refine V8.FH 0 rfl rfl rfl fun h51 V51=>?_
  simp only[List.set_cons_zero]at V51
  exact bad h51 V51 (by unfold ky;rw[decide_eq_false hul];simp)
end
end Go.Am
namespace Go.Am
open Go Go.Proofs
theorem Jd {N:Nat}{R:Int}{t:Term}(h:xJ N R t):aY PP jt [t.e] (· = .sl (bb (cZ t))):=by
 refine bx Ce (aJ _ _ _) rfl (BY _ _) ?_
 unfold yQ
 refine Vs.nil.box t.dS.one fun n2 h3 V=>?_
 have i0:∀{KH:HKq},aa PP (.iadda (.c (.ptr n2 0 11)) (.c (.int .i64 0)) 2 1) h3 KH=KH (.ptr n2 0 11) h3:=fun {KH}=>V.RS 0 (a:=0) rfl (by omega)
 have i1:∀{KH:HKq},aa PP (.iadda (.c (.ptr n2 0 11)) (.c (.int .i64 1)) 2 1) h3 KH=KH (.ptr n2 0 12) h3:=fun {KH}=>V.RS 0 (a:=1) rfl (by omega)
 have one:∀(a:Nat),aa PP (.bldS true 1 1 (.int .i64 0) [(0,.c (.int .i64 (a:Int)))]) h3 fun a60 h61=>sy (fun r=>r=.sl (bb [a])) a60 h61:=fun a=>by
  exact QV.one (k:=a) V fun v h' q=>q.ret rfl (by simp)
 cases h with
 | jump a ha =>
  simp (disch:=omega) only[↓V.fa 0 rfl,Nat.zero_add,↓V.cx 0 (j:=0) rfl rfl,↓cS,↓gS,↓i0,↓V.cx 0 (j:=11) rfl rfl]
  exact one a
 | barrier a ha =>
  simp (disch:=omega) only[↓V.fa 0 rfl,Nat.zero_add,↓V.cx 0 (j:=0) rfl rfl,↓cS,↓gS,↓i0,↓V.cx 0 (j:=11) rfl rfl]
  exact one a
 | collect s d a b t hs hd ha hb ht =>
  simp (disch:=omega) only[↓V.fa 0 rfl,Nat.zero_add,↓V.cx 0 (j:=0) rfl rfl,↓cS,↓gS,↓i0,↓V.cx 0 (j:=11) rfl rfl]
  exact one t
 | exit =>
  simp (disch:=omega) only[↓V.fa 0 rfl,Nat.zero_add,↓V.cx 0 (j:=0) rfl rfl,↓cS,↓gS]
  refine V.Jh fun n11 h12 V1=>?_
  exact uj (esz:=1) (els:=[]) (by rw[V1.get 0 _ _ rfl];rfl) (by simp) rfl
 | branch o a b ho ha hb =>
  simp (disch:=omega) only[↓V.fa 0 rfl,Nat.zero_add,↓V.cx 0 (j:=0) rfl rfl,↓cS,↓gS,↓i0,↓i1,↓V.cx 0 (j:=11) rfl rfl,↓V.cx 0 (j:=12) rfl rfl]
  by_cases hab:a=b
  ·subst hab
   simp (disch:=omega) only[↓cS,↓gS,↓V.fa 0 rfl,Nat.zero_add,↓i0,↓V.cx 0 (j:=11) rfl rfl]
   have e:cZ ⟨2,0,aj,o,aj,(a:Int),(a:Int)⟩=[a]:=by simp[cZ]
   rw[e]
   exact one a
  ·simp (disch:=omega) only[↓cS,↓gS,↓V.fa 0 rfl,Nat.zero_add,↓i0,↓i1,↓V.cx 0 (j:=11) rfl rfl,↓V.cx 0 (j:=12) rfl rfl]
   have e:cZ ⟨2,0,aj,o,aj,(a:Int),(b:Int)⟩=[a,b]:=by simp[cZ];omega
   rw[e]
   exact QV.two (j:=a) (k:=b) V fun v h' q=>q.ret rfl (by simp)
end Go.Am
namespace Go.Am
open Go Go.Proofs
section
variable {h:Heap}{L:LSq}{v:D}{T:List D}{KH:HKq}
theorem QD.alloc (q:QD h L v T){d:D}(hK:∀n h',QD h' ((n,.box d)::L) v T->KH (.ptr n 0 0) h'):aa PP (.alloc d) h KH:=by
 rw[gf]
 exact fun n t=>hK n _ (q.more t.free (by simp))
theorem QD.Ui (q:QD h L v T){d:D}(hd:aN d) (hK:∀n h',QD h' ((n,.box d)::L) v T->KH (.ptr n 0 0) h'):aa PP (.box (.c d)) h KH:=by
 rw[Dz]
 exact⟨hd,fun n t=>hK n _ (q.more t.free (by simp))⟩
theorem QD.p8 (q:QD h L v T) (i:Nat){n s:Nat}{cs cs':List D}(hi:L[i]?=some (n,.box (.agg cs))) (hl:cs.length=s) (hl':cs'.length=s) (ho:∀x,x∈cs'->x.one=true) (hK:∀h',QD h' (L.set i (n,.box (.agg cs'))) v T->KH .undef h'):aa PP (.st (.c (.ptr n 0 0)) (.c (.agg cs')) s) h KH:=by
 rcases q with⟨rfl,rfl,V⟩|⟨m,rfl,V⟩
 ·exact V.p8 i hi hl hl' ho fun h' V'=>hK h' (Or.inl ⟨rfl,rfl,V'⟩)
 ·exact V.p8 (i+1) (by simpa using hi) hl hl' ho fun h' V'=>hK h' (Or.inr ⟨m,rfl,by simpa using V'⟩)
theorem QD.uK (q:QD h L v T) (i:Nat){n j:Nat}{els:List D}{d:D}(hi:L[i]?=some (n,.arr 1 els)) (hj:j<els.length) (ho:d.one=true) (h1:∀x∈els,x.one=true) (hK:∀h',QD h' (L.set i (n,.arr 1 (els.set j d))) v T->KH .undef h'):aa PP (.st (.c (.ptr n j 0)) (.c d) 1) h KH:=by
 rcases q with⟨rfl,rfl,V⟩|⟨m,rfl,V⟩
 ·exact V.uK i hi hj ho h1 fun h' V'=>hK h' (Or.inl ⟨rfl,rfl,V'⟩)
 ·exact V.uK (i+1) (by simpa using hi) hj ho h1 fun h' V'=>hK h' (Or.inr ⟨m,rfl,by simpa using V'⟩)
theorem QD.one (q:QD h L v T):v.one=true:=by rcases q with⟨rfl,-⟩|⟨m,rfl,-⟩<;>rfl
end
theorem Ol {c:Code}(hc:bS c){nR n:Nat}(hn:n=c.b.length):∀(k cap:Nat) (S:List Bool) (T:List Nat) (b:Nat) (h:Heap) (L:LSq) (iR:Nat) (lv:D) (KH:HKq),S.length=n->kT (hasB S) n<=k->T.length+kT (hasB S) n<=cap->cap<=1000->b<n->hasB S b=false->L[iR]?=some (nR,.arr 1 (bL S))->QD h L lv (bb T) ->
  (∀S' T' lv' h',QR (fS c) (S,T) b (S',T')->S'.length=n->T'.length+kT (hasB S') n<=cap->(∀x,hasB S x=true->hasB S' x=true)->QD h' (L.set iR (nR,.arr 1 (bL S'))) lv' (bb T')->KH (.agg [.ms nR 0 n,lv']) h') ->
  ai PP kL [c.e,.agg [.ms nR 0 n,lv],nD b] h KH:=by
 have hnb:=hc.nb
 intro k
 induction k with
 | zero =>
  intro cap S T b h L iR lv KH hS hk hT hcap hb hs hR q hK
  exfalso
  have:kT (hasB (S.set b true)) n+1<=kT (hasB S) n:=mf (x:=b) (fun x hx=>by rw[bn (by omega),hx];simp) hb hs (by rw[bn (by omega)];simp)
  omega
 | succ k ih =>
  intro cap S T b h L iR lv KH hS hk hT hcap hb hs hR q hK
  have hun:kT (hasB (S.set b true)) n+1<=kT (hasB S) n:=mf (x:=b) (fun x hx=>by rw[bn (by omega),hx];simp) hb hs (by rw[bn (by omega)];simp)
  have hbl:∀{S:List Bool},S.length=n->(bL S).length=n:=fun e=>by simp[bL,e]
  have hRl:=(ah.1 hR).1
  refine aT AJ (aJ _ _ _) rfl (Ay _ _ _ _) ?_
  unfold vC
  refine q.Ui c.dS.one fun n4 h5 q5=>?_
  refine q5.Ui (fun x hx=>by
   simp[D.cells]at hx
   rcases hx with rfl|rfl
   ·rfl
   ·exact q.one) fun n6 h7 q7=>?_
  refine q7.alloc fun n8 h9 q9=>?_
  have V9:=q9.vs
  obtain⟨B,hB⟩:∃B,c.b[b]?=some B:=⟨c.b[b]'(by omega),aC _⟩
  have hl:edg c b=cZ B.t:=jE hB
  rw[V9.fa 1 rfl,V9.cx 1 (j:=0) rfl rfl,nD,V9.ia (iR+3) (by simpa using hR) (by omega) (by omega),aA]
  refine q9.uK (iR+3) (by simpa using hR) (by rw[hbl hS];exact hb) rfl (fL _) fun h17 q17=>?_
  rw[fK]at q17
  simp only[List.set_cons_succ]at q17
  have V17:=q17.vs
  rw[V17.fa 2 rfl,V17.cx 2 (j:=7) rfl rfl,xp hB,La,Ly]
  refine bO (Jd (hc.t B (ak hB))) (fun d hd=>by simp at hd;subst hd;exact B.t.dS.pair) ?_
  rintro _ rfl
  rw[<- hl]
  let LL:List Bool->D->LSq:=fun S lv=>(n8,.box (.agg [.nil,.nil]))::(n6,.box (.agg [.ms nR 0 n,lv]))::(n4,.box c.e)::L.set iR (nR,.arr 1 (bL S))
  have iRx:∀{S:List Bool}{lv:D},(LL S lv)[iR+3]?=some (nR,.arr 1 (bL S)):=fun {S lv}=>by
   simp only[LL,List.getElem?_cons_succ,List.getElem?_set,if_true,hRl]
  refine⟨fun _ h'=>∃S1 T1 lv1,jY (fS c) (edg c b) (S.set b true,T) (S1,T1)/\S1.length=n/\T1.length+kT (hasB S1) n+1<=cap/\(∀x,hasB (S.set b true) x=true->hasB S1 x=true)/\QD h' (LL S1 lv1) lv1 (bb T1),?_,?_⟩
  ·rintro f h32 ⟨S1,T1,lv1,hv,hS1,hT1,hm1,q1⟩
   have hlo:=q1.one
   have key:∀X:LSq,Vs h32 (X++LL S1 lv1)->(∀(h':Heap) (y:Nat×Slot),Vs h' (y::(X++LL S1 lv1))->∀{K:List D->Prop},K (bb T1)->velems 1 lv1 h' K) ->
     aa PP (.bldS true 1 1 (.int .i64 0) [(0,(.c (.int .i64 (b:Int))))]) h32 fun a33 h34 =>
     aa PP (.fadd (.c (.ptr n6 0 0)) 1) h34 fun a35 h36 =>
     aa PP (.ld (.c a35) 1 false) h36 fun a37 h38 =>
     aa PP (.app (.c a33) (.c a37) 1 8 (.int .i64 0)) h38 fun a39 h40 =>
     aa PP (.fadd (.c (.ptr n6 0 0)) 1) h40 fun a41 h42 =>
     aa PP (.st (.c a41) (.c a39) 1) h42 fun a43 h44 =>
     aa PP (.ld (.c (.ptr n6 0 0)) 2 true) h44 fun a45 h46 =>
     aa PP (.st (.c (.ptr n8 0 0)) (.c a45) 2) h46 fun a47 h48 =>
     aa PP (.ld (.c (.ptr n8 0 0)) 2 true) h48 fun a49 _ =>
     KH a49 h48:=by
    intro X VX hx
    refine FZ rfl (aW (k:=.i64) (n:=(b:Int))).one rfl fun n33 t33=>?_
    have V34:=VX.push (s:=.arr 1 [.int .i64 (b:Int)]) t33.free (by simp)
    have ix:∀{S:List Bool}{lv:D}{y:Nat×Slot}{i:Nat}{x:Nat×Slot},(LL S lv)[i]?=some x->(y::(X++LL S lv))[X.length+i+1]?=some x:=fun hi=>by
     rw[List.getElem?_cons_succ,List.getElem?_append_right (by omega),Nat.add_sub_cancel_left];exact hi
    rw[V34.fa _ (ix (i:=1) rfl),V34.cx _ (j:=1) (ix (i:=1) rfl) rfl]
    refine V34.Gr (ys:=bb T1) (fun {K} hk=>hx _ _ V34 hk) qq (by rw[aZ];simp only[List.length_cons,List.length_nil];omega) (by rw[aZ];simp only[List.length_cons,List.length_nil];omega) fun n39 h40 V40=>?_
    have e1:[D.int .i64 (b:Int)]++bb T1=bb (b::T1):=rfl
    rw[e1]at V40
    rw[V40.fa _ (ix (i:=1) rfl)]
    have el:[D.int .i64 (b:Int)].length+(bb T1).length=(bb (b::T1)).length:=by simp[bb];omega
    rw[el]
    refine V40.VN _ (ix (i:=1) rfl) (j:=1) (by simp) rfl fun h44 V44=>?_
    have V44':Vs h44 ((n39,.arr 1 (bb (b::T1)))::(X++LL S1 (.ms n39 0 (bb (b::T1)).length))):=by
     have e2:((n39,Slot.arr 1 (bb (b::T1)))::(X++LL S1 lv1)).set (X.length+1+1) (n6,.box (.agg ([D.ms nR 0 n,lv1].set 1 (.ms n39 0 (bb (b::T1)).length))))=(n39,.arr 1 (bb (b::T1)))::(X++LL S1 (.ms n39 0 (bb (b::T1)).length)):=by
      rw[List.set_cons_succ,List.set_append_right _ _ (by omega),Nat.add_sub_cancel_left]
      rfl
     rw[<- e2];exact V44
    rw[V44'.lI (s:=2) _ (ix (i:=1) rfl) rfl]
    have q44:QD h44 (LL S1 (.ms n39 0 (bb (b::T1)).length)) (.ms n39 0 (bb (b::T1)).length) (bb (b::T1)):=Or.inr ⟨n39,rfl,V44'.sub (.cons_cons _ (List.sublist_append_right X _))⟩
    refine q44.p8 0 rfl rfl rfl (fun x hx=>by simp at hx;rcases hx with rfl|rfl<;>rfl) fun h48 q48=>?_
    have V48:=q48.vs
    rw[V48.lI (s:=2) 0 rfl rfl]
    refine hK S1 (b::T1) _ h48 ⟨(S1,T1),by rw[jB];exact hv,rfl⟩ hS1 (by simp only[List.length_cons];omega) (fun x hx=>hm1 x ?_) ?_
    ·rw[bn (by omega),hx];simp
    ·exact q48.less.less.less
   rcases q1 with⟨e1,e2,V1⟩|⟨m,e1,V1⟩
   ·refine key [] V1 fun h' y V' {K} hk=>?_
    rw[e1];rw[e2]at hk;exact hk
   ·refine key [(m,.arr 1 (bb T1))] V1 fun h' y V' {K} hk=>?_
    rw[e1]
    exact zC (V'.get 1 _ _ rfl) (by simp) (by simpa using hk)
  ·unfold pL
   refine⟨fun m q h'=>∃(j:Nat) (S1:List Bool) (T1:List Nat) (lv1:D),q=[nD j]/\j<=(edg c b).length/\m=(edg c b).length-j/\jY (fS c) ((edg c b).take j) (S.set b true,T) (S1,T1)/\S1.length=n/\T1.length+kT (hasB S1) n+1<=cap/\(∀x,hasB (S.set b true) x=true->hasB S1 x=true)/\QD h' (LL S1 lv1) lv1 (bb T1),_,
    ⟨0,S.set b true,T,lv,rfl,by omega,rfl,.nil _,by rw[List.length_set];exact hS,by omega,fun x hx=>hx,q17⟩,?_⟩
   rintro m f h53 ⟨j,S1,T1,lv1,hq,hj,hm,hv,hS1,hT1,hm1,q1⟩
   simp only[aq,and_true]at hq
   simp only[hq,nD,Di]
   by_cases hlj:j<(edg c b).length
   ·rw[jZ (by omega),ag]
    obtain⟨to,hto⟩:∃to,(edg c b)[j]?=some to:=⟨(edg c b)[j],aC hlj⟩
    have htn:to<n:=by rw[hn];exact dM hc (ak hto)
    have htk:(edg c b).take (j+1)=(edg c b).take j++[to]:=by rw[List.take_add_one,hto];rfl
    refine⟨fun _ h'=>∃S1 T1 lv1,jY (fS c) ((edg c b).take (j+1)) (S.set b true,T) (S1,T1)/\S1.length=n/\T1.length+kT (hasB S1) n+1<=cap/\(∀x,hasB (S.set b true) x=true->hasB S1 x=true)/\QD h' (LL S1 lv1) lv1 (bb T1),?_,?_⟩
    ·rintro f' h' ⟨S2,T2,lv2,a1,a2,a3,a4,a5⟩
     rw[cU (by omega) (by have:=nX (c:=c) (a:=b);omega)]
     simp only[ab,true_and]
     exact⟨_,by omega,j+1,S2,T2,lv2,rfl,by omega,rfl,a1,a2,a3,a4,a5⟩
    have V1:=q1.vs
    have e4:∀K:D->Prop,ae PP (.ld (.c (.ptr n4 0 0)) 8 true) h53 K=K c.e:=fun K=>V1.tc 2 rfl rfl
    have e6:∀K:D->Prop,ae PP (.ld (.c (.ptr n6 0 0)) 2 true) h53 K=K (.agg [.ms nR 0 n,lv1]):=fun K=>V1.tc 1 rfl rfl
    have es:∀K:D->Prop,ae PP (.iadd (.c (.sl (bb (edg c b)))) (.c (.int .i64 (j:Int))) 1) h53 K=K (.vp (nD to) 0):=fun K=>IL (by omega) (by rw[aA];exact gd hto) rfl
    have ev:∀K:D->Prop,ae PP (.ld (.c (.vp (nD to) 0)) 1 false) h53 K=K (.int .i64 (to:Int)):=fun K=>Hx rfl
    simp only[↓V1.mH 1 rfl,Nat.zero_add,↓V1.iJ 1 (j:=0) rfl rfl,es,ev,↓V1.GB (iR+3) iRx (show(0:Int)<=(to:Int) by omega) (show(to:Int)<(n:Int) by omega),aA,↓V1.EF (iR+3) iRx (dq (bo (S:=S1) (k:=to) (by omega))) rfl,du,e4,e6]
    cases hs1:hasB S1 to with
    | true =>
     simp only[Bool.not_true]
     rw[af]
     simp only[ab,true_and]
     exact⟨S1,T1,lv1,by rw[htk];exact hv.ET hs1,hS1,hT1,hm1,q1⟩
    | false =>
     simp only[Bool.not_false]
     rw[ag]
     have hu1:kT (hasB S1) n<=kT (hasB (S.set b true)) n:=xP hm1
     refine ih (cap-1) S1 T1 to h53 (LL S1 lv1) (iR+3) lv1 _ hS1 (by omega) (by omega) (by omega) htn hs1 iRx q1 fun S2 T2 lv2 h2 w1 w2 w3 w4 w5=>?_
     have e7:(LL S1 lv1).set (iR+3) (nR,.arr 1 (bL S2))=LL S2 lv1:=by
      simp only[LL,List.set_cons_succ,List.set_set]
     rw[e7]at w5
     have ho:=w5.one
     refine w5.p8 1 rfl rfl rfl (fun x hx=>by
      simp at hx
      rcases hx with rfl|rfl
      ·rfl
      ·exact ho) fun h3 q3=>?_
     simp only[ab,true_and]
     exact⟨S2,T2,lv2,by rw[htk];exact hv.JA hs1 w1,w2,by omega,fun x hx=>w4 x (hm1 x hx),q3⟩
   ·have:j=(edg c b).length:=by omega
    subst this
    rw[jX (by omega),af]
    simp only[ab,true_and]
    rw[List.take_length]at hv
    exact⟨S1,T1,lv1,hv,hS1,hT1,hm1,q1⟩
end Go.Am
namespace Go.Am
open Go Go.Proofs
theorem T9 {v:D}{h:Heap}{K:D->Prop}(hv:v.one=true/\v.cells=[v]) (hK:K (.agg [v,.nil])):ae PP (.bld [.nil,.nil] [(0,1,(.c v))]) h K:=by
 rw[Fh,nT]
 refine⟨fun p hp=>?_,?_⟩
 ·simp[Arg.get]at hp
  subst hp
  exact⟨by rw[hv.2];rfl,by show 0+1<=2;omega,fun d hd=>by rw[hv.2]at hd;simp at hd;subst hd;exact hv.1⟩
 ·have:(fillD [D.nil,.nil] ([(0,1,Arg.c v)].map fun p=>(p.1,p.2.1,(p.2.2.get []).cells)))=[v,.nil]:=by
   simp[fillD,Arg.get,hv.2]
  rw[this]
  exact hK
theorem ML {h:Heap}{L:LSq}{v:D}{T:List Nat}{K:D->Prop}(q:QD h L v (bb T)) (hT:T≠[]) (hK:K (.sl (bb T))):sy K v h:=by
 rcases q with⟨-,h0,-⟩|⟨m,rfl,V⟩
 ·exact absurd (by simpa[bb] using h0) hT
 ·exact uj (esz:=1) (by rw[V.get 0 _ _ rfl];rfl) (fun x hx y hy=>by simp only[bb,List.mem_map]at hx;obtain⟨k,-,rfl⟩:=hx;simp[nD,D.cells]at hy;subst hy;rfl) hK
theorem PW {c:Code}(hc:bS c):aY PP oR [c.e] (fun r=>∃O,u4 (fS c) c.b.length 0 O/\r=.sl (bb O)):=by
 have hnb:=hc.nb
 refine bx AK (aJ _ _ _) rfl (Az _ _) ?_
 unfold vG
 refine Vs.nil.box c.dS.one fun n2 h3 V=>?_
 have e4:∀K:D->Prop,ae PP (.ld (.c (.ptr n2 0 0)) 8 true) h3 K=K c.e:=fun K=>V.tc 0 rfl rfl
 simp only[e4,↓V.mH 0 rfl,Nat.zero_add,↓V.iJ 0 (j:=7) rfl rfl,bX,aw]
 refine V.JS (by omega) (by omega) fun nR h9 V9=>?_
 rw[show List.replicate c.b.length (D.bool false)=bL (List.replicate c.b.length false) by simp[bL]]at V9
 have e9:∀K:D->Prop,ae PP (.ld (.c (.ptr n2 0 0)) 8 true) h9 K=K c.e:=fun K=>V9.tc 1 rfl rfl
 simp only[e9,ab,true_and]
 refine T9 ⟨rfl,rfl⟩ ?_
 have u0:=zD (hasB (List.replicate c.b.length false)) c.b.length
 have q0:QD h9 [(nR,.arr 1 (bL (List.replicate c.b.length false))),(n2,.box c.e)] .nil (bb []):=Or.inl ⟨rfl,rfl,V9⟩
 refine Ol hc (n:=c.b.length) rfl c.b.length c.b.length (List.replicate c.b.length false) [] 0 h9 _ 0 .nil _ (by simp) u0 (by simpa using u0) (by omega) (by omega) ur rfl q0 fun S' T' lv' h' hv _ _ _ q'=>?_
 rw[show ae PP (.fld (.c (.agg [.ms nR 0 c.b.length,lv'])) 1 1 false) h'=fun K=>K lv' from rfl]
 exact ML q' (Mb hv) ⟨T',⟨S',hv⟩,rfl⟩
end Go.Am
namespace Go.Am
open Go Go.Proofs
def F9 (E:List (List Nat)) (w:Int) (a:Nat):List Nat:=(gL E a).filter fun b:Nat=>decide ((b:Int)≠w)
theorem Cz {w:Int}{N:Nat}:∀{l:List Nat}{S:List Bool}{T:List Nat},(∀b∈l,b<N)->S.length=N ->
  (l.foldl (cQ w) (S,T)).1.length=N/\(∀k,hasB (l.foldl (cQ w) (S,T)).1 k=true↔hasB S k=true\/(k∈l/\(k:Int)≠w)) /\
  (∀k∈T,k∈(l.foldl (cQ w) (S,T)).2)/\(∀k,k∈(l.foldl (cQ w) (S,T)).2->k∈T\/(k∈l/\(k:Int)≠w))/\(∀k,hasB (l.foldl (cQ w) (S,T)).1 k=true->hasB S k=true\/k∈(l.foldl (cQ w) (S,T)).2) /\
  2*kT (hasB (l.foldl (cQ w) (S,T)).1) N+(l.foldl (cQ w) (S,T)).2.length<=2*kT (hasB S) N+T.length
 | [],S,T,_,hS=>⟨hS,fun k=>by simp,fun k h=>h,fun k h=>Or.inl h,fun k h=>Or.inl h,Nat.le_refl _⟩
 | b::l,S,T,hl,hS=>by
  rw[List.foldl_cons]
  by_cases hc:(!hasB S b&&decide ((b:Int)≠w))=true
  ·have hst:cQ w (S,T) b=(S.set b true,T++[b]):=by unfold cQ;rw[if_pos hc]
   rw[hst]
   simp only[Bool.and_eq_true,Bool.not_eq_true',decide_eq_true_eq]at hc
   have hbN:=hl b (by simp)
   obtain⟨g1,g2,g3,g4,g5,g6⟩:=Cz (w:=w) (l:=l) (S:=S.set b true) (T:=T++[b]) (fun x hx=>hl x (by simp[hx])) (by rw[List.length_set];exact hS)
   have hset:∀k,hasB (S.set b true) k=true↔k=b\/hasB S k=true:=fun k=>by rw[bn (by omega)];simp
   refine⟨g1,fun k=>?_,fun k hk=>g3 k (by simp[hk]),fun k hk=>?_,fun k hk=>?_,?_⟩
   ·rw[g2,hset,List.mem_cons]
    constructor
    ·rintro ((rfl|h)|⟨h1,h2⟩)
     ·exact Or.inr ⟨Or.inl rfl,hc.2⟩
     ·exact Or.inl h
     ·exact Or.inr ⟨Or.inr h1,h2⟩
    ·rintro (h|⟨rfl|h1,h2⟩)
     ·exact Or.inl (Or.inr h)
     ·exact Or.inl (Or.inl rfl)
     ·exact Or.inr ⟨h1,h2⟩
   ·rcases g4 k hk with h|⟨h1,h2⟩
    ·rcases List.mem_append.1 h with h|h
     ·exact Or.inl h
     ·simp at h;subst h;exact Or.inr ⟨by simp,hc.2⟩
    ·exact Or.inr ⟨by simp[h1],h2⟩
   ·rcases g5 k hk with h|h
    ·rcases (hset k).1 h with rfl|h
     ·exact Or.inr (g3 k (by simp))
     ·exact Or.inl h
    ·exact Or.inr h
   ·have:=mf (p:=hasB S) (p':=hasB (S.set b true)) (N:=N) (x:=b) (fun x hx=>(hset x).2 (Or.inr hx)) hbN hc.1 ((hset b).2 (Or.inl rfl))
    simp only[List.length_append,List.length_cons,List.length_nil]at g6
    omega
  ·have hst:cQ w (S,T) b=(S,T):=by unfold cQ;rw[if_neg hc]
   rw[hst]
   obtain⟨g1,g2,g3,g4,g5,g6⟩:=Cz (w:=w) (l:=l) (S:=S) (T:=T) (fun x hx=>hl x (by simp[hx])) hS
   have hb:(b:Int)≠w->hasB S b=true:=fun h=>by
    cases hs:hasB S b with
    | true=>rfl
    | false=>exact absurd (by rw[hs];simp[h]) hc
   refine⟨g1,fun k=>?_,g3,fun k hk=>?_,g5,g6⟩
   ·rw[g2,List.mem_cons]
    constructor
    ·rintro (h|⟨h1,h2⟩)
     ·exact Or.inl h
     ·exact Or.inr ⟨Or.inr h1,h2⟩
    ·rintro (h|⟨rfl|h1,h2⟩)
     ·exact Or.inl h
     ·exact Or.inl (hb h2)
     ·exact Or.inr ⟨h1,h2⟩
   ·rcases g4 k hk with h|⟨h1,h2⟩
    ·exact Or.inl h
    ·exact Or.inr ⟨by simp[h1],h2⟩
theorem Np {E:List (List Nat)}{w:Int}{s N:Nat}(hE:∀a b,b∈gL E a->b<N):∀{n:Nat}{S:List Bool}{T:List Nat},S.length=N->2*kT (hasB S) N+T.length<=n->hasB S s=true->(∀k,hasB S k=true->Path (F9 E w) s k)->(∀k∈T,hasB S k=true) ->
  (∀a,hasB S a=true->a∈T\/∀b,b∈F9 E w a->hasB S b=true)->∀k,hasB (frRun E w n S T) k=true↔Path (F9 E w) s k
 | n,S,[],hS,hn,hs,hp,hT,hcl=>fun k=>by
  rw[E6]
  refine⟨hp k,fun h=>?_⟩
  induction h with
  | refl=>exact hs
  | step _ e ih =>
   rcases hcl _ ih with h|h
   ·cases h
   ·exact h _ e
 | 0,S,a::T,hS,hn,_,_,_,_=>by simp at hn
 | n+1,S,a::T,hS,hn,hs,hp,hT,hcl=>by
  have hfold:=Cz (w:=w) (N:=N) (l:=gL E a) (S:=S) (T:=T) (fun b hb=>hE a b hb) hS
  obtain⟨g1,g2,g3,g4,g5,g6⟩:=hfold
  have hrun:frRun E w (n+1) S (a::T)=frRun E w n ((gL E a).foldl (cQ w) (S,T)).1 ((gL E a).foldl (cQ w) (S,T)).2:=rfl
  rw[hrun]
  have haS:=hT a (by simp)
  have hex:∀b,b∈F9 E w a↔b∈gL E a/\(b:Int)≠w:=fun b=>by simp[F9]
  refine Np hE g1 ?_ ((g2 s).2 (Or.inl hs)) (fun k hk=>?_) (fun k hk=>?_) (fun x hx=>?_)
  ·simp only[List.length_cons]at hn;omega
  ·rcases (g2 k).1 hk with h|h
   ·exact hp k h
   ·exact .step (hp a haS) ((hex k).2 h)
  ·rcases g4 k hk with h|h
   ·exact(g2 k).2 (Or.inl (hT k (by simp[h])))
   ·exact(g2 k).2 (Or.inr h)
  ·rcases g5 x hx with h|h
   ·rcases hcl x h with h1|h1
    ·rcases List.mem_cons.1 h1 with rfl|h1
     ·exact Or.inr fun b hb=>(g2 b).2 (Or.inr ((hex b).1 hb))
     ·exact Or.inl (g3 x h1)
    ·exact Or.inr fun b hb=>(g2 b).2 (Or.inl (h1 b hb))
   ·exact Or.inl h
theorem An {E:List (List Nat)}{w:Int}{s:Nat}(hE:∀a b,b∈gL E a->b<E.length) (hs:s<E.length) (hw:(s:Int)≠w) (k:Nat):hasB (jC E s w) k=true↔Path (F9 E w) s k:=by
 unfold jC
 rw[if_neg hw]
 have hset:∀k,hasB ((List.replicate E.length false).set s true) k=true↔k=s:=fun k=>by rw[bn (by simp[hs]),ur];simp
 refine Np (N:=E.length) hE (by simp) ?_ ((hset s).2 rfl) (fun k hk=>by rw[(hset k).1 hk];exact .refl) (fun k hk=>by simp at hk;exact(hset k).2 hk) (fun a ha=>Or.inl (by rw[(hset a).1 ha];simp)) k
 have:=zD (hasB ((List.replicate E.length false).set s true)) E.length
 simp only[List.length_singleton];omega
end Go.Am
namespace Go.Am
open Go Go.Proofs
structure UA (c:Code) (O:List Nat) (l:List Nat) (F:List (List Nat)):Prop where
 len:F.length=c.b.length+1
 lt:∀a b,b∈gL F a->b<c.b.length+1
 mem:∀a x,a∈O->(x∈gL F a↔x∈edg c a\/(x=c.b.length/\a∈l))
 last:gL F c.b.length=[]
section
variable {c:Code}{O O':List Nat}{at' U:List Int}{F:List (List Nat)}
theorem Iv (hc:bS c) (D:wC c O O' at' U){a p:Nat}(ha:a∈O):p∈pB c O O' a↔(p=c.b.length/\a∈de c O)\/(p∈edg c a):=by
 have e:p∈pB c O O' a↔p∈gL (yE (o8 (fS c) O c.b.length (de c O)) O' (c.b.length+1)) a:=Iff.rfl
 rw[e,jH (D.o8 hc)]
 constructor
 ·rintro⟨h1,h2⟩
  rw[xi]at h2
  split at h2
  ·rw[jH (iI hc),jB]at h2
   exact Or.inr h2.2
  ·split at h2
   ·rename_i h;exact Or.inl ⟨h,h2⟩
   ·cases h2
 ·rintro (⟨rfl,h⟩|h)
  ·refine⟨ak D.b.g.hd,?_⟩
   rw[xi,if_neg (by omega),if_pos rfl];exact h
  ·obtain⟨h1,h2⟩:=D.pre hc ha h
   rw[e,jH (D.o8 hc)]at h1
   exact h1
theorem LJ (hc:bS c) (D:wC c O O' at' U) (G:UA c O (de c O) F){a b:Nat}(ha:a∈O) (hb:b<c.b.length):(a=b\/¬Path (F9 F (b:Int)) a c.b.length)↔Dm c.b.length (pB c O O') b a:=by
 have hex:∀x y,y∈F9 F (b:Int) x↔y∈gL F x/\y≠b:=fun x y=>by simp only[F9,List.mem_filter,decide_eq_true_eq];exact⟨fun h=>⟨h.1,fun e=>h.2 (by rw[e])⟩,fun h=>⟨h.1,fun e=>h.2 (by omega)⟩⟩
 have inO:∀{x y},x∈O->y∈edg c x->y∈O:=fun hx hy=>(D.mem hc (dM hc hy)).1 (D.pre hc hx hy).2
 have key:∀x∈O,(Pv (pB c O O') (· = b) c.b.length x↔x≠b/\Path (F9 F (b:Int)) x c.b.length):=by
  intro x hx
  constructor
  ·have:∀{x:Nat},Pv (pB c O O') (· = b) c.b.length x->(x=c.b.length\/x∈O)->x≠b/\Path (F9 F (b:Int)) x c.b.length:=by
    intro x h
    induction h with
    | refl h=>exact fun _=>⟨by omega,.refl⟩
    | @step y x h e hbad ih =>
     rintro (rfl|hx)
     ·exact⟨hbad,.refl⟩
     ·rcases (Iv hc D hx).1 e with⟨rfl,h1⟩|h1
      ·exact⟨hbad,.step .refl ((hex _ _).2 ⟨(G.mem x _ hx).2 (Or.inr ⟨rfl,h1⟩),by omega⟩)⟩
      ·have hy:=inO hx h1
       have h2:=ih (Or.inr hy)
       exact⟨hbad,GY ((hex _ _).2 ⟨(G.mem x _ hx).2 (Or.inl h1),h2.1⟩) h2.2⟩
   exact fun h=>this h (Or.inr hx)
  ·rintro⟨hxb,hp⟩
   have:∀{z:Nat},Path (F9 F (b:Int)) x z->(z=c.b.length\/(z∈O/\z≠b))/\(Pv (pB c O O') (· = b) c.b.length z->Pv (pB c O O') (· = b) c.b.length x):=by
    intro z h
    induction h with
    | refl=>exact⟨Or.inr ⟨hx,hxb⟩,id⟩
    | @step y z h e ih =>
     have h1:=(hex _ _).1 e
     rcases ih.1 with rfl|⟨hy,hyb⟩
     ·rw[G.last]at h1;cases h1.1
     ·rcases (G.mem y z hy).1 h1.1 with h2|⟨rfl,h2⟩
      ·exact⟨Or.inr ⟨inO hy h2,h1.2⟩,fun hz=>ih.2 (.step hz ((Iv hc D hy).2 (Or.inr h2)) hyb)⟩
      ·exact⟨Or.inl rfl,fun hz=>ih.2 (.step hz ((Iv hc D hy).2 (Or.inl ⟨rfl,h2⟩)) hyb)⟩
   exact(this hp).2 (.refl (by omega))
 show(a=b\/¬Path (F9 F (b:Int)) a c.b.length) ↔ ¬Pv (pB c O O') (· = b) c.b.length a
 rw[key a ha]
 constructor
 ·rintro (h|h) ⟨h1,h2⟩
  ·exact h1 h
  ·exact h h2
 ·intro h
  by_cases e:a=b
  ·exact Or.inl e
  ·exact Or.inr fun k=>h ⟨e,k⟩
end
end Go.Am
namespace Go.Am
open Go Go.Proofs
theorem p9 {P:Program}{h:Heap}{A:(HKq)->Prop}{KH:HKq}:vguard (.bool true) false A h KH=KH gU h:=by
 rw[jl];simp
theorem xK {P:Program}{h:Heap}{A:(HKq)->Prop}{KH:HKq}:vguard (.bool false) false A h KH=A KH:=by
 rw[jl];simp
def o4 (F:List (List Nat)) (a b:Nat):Bool:=decide (a=b) || !hasB (jC F a (b:Int)) (F.length-1)
theorem Al {E:List (List Nat)}{w:Int}{s:Nat}(hE:∀a b,b∈gL E a->b<E.length):(jC E s w).length=E.length:=by
 unfold jC
 split
 ·simp
 ·have:∀(n:Nat) (S:List Bool) (T:List Nat),S.length=E.length->(frRun E w n S T).length=E.length:=by
   intro n
   induction n with
   | zero=>intro S T h;exact h
   | succ n ih =>
    intro S T h
    cases T with
    | nil=>exact h
    | cons a T=>exact ih _ _ (Cz (w:=w) (N:=E.length) (l:=gL E a) (S:=S) (T:=T) (fun b hb=>hE a b hb) h).1
  exact this _ _ _ (by simp)
end Go.Am
namespace Go.Am
open Go Go.Proofs
theorem DE {E:List (List Nat)}{x:Nat}:∀{T l:List Nat},x∈l->x∈endF E T l
 | [],_,h=>h
 | b::T,l,h=>by
  unfold endF
  split
  ·exact DE h
  ·exact DE (by simp[h])
open Classical in
noncomputable def cR (c:Code) (l:List Nat):List (List Nat):=((List.range c.b.length).map fun b=>if qC c b then [c.b.length] else if b∈l then edg c b++[c.b.length] else edg c b)++[[]]
theorem bF {c:Code}{l:List Nat}:(cR c l).length=c.b.length+1:=by simp[cR]
open Classical in
theorem fI {c:Code}{l:List Nat}{b:Nat}:gL (cR c l) b=if b<c.b.length then(if qC c b then [c.b.length] else if b∈l then edg c b++[c.b.length] else edg c b) else []:=by
 unfold gL cR
 by_cases h:b<c.b.length
 ·rw[List.getElem?_append_left (by simpa using h),List.getElem?_map,List.getElem?_range h,if_pos h];rfl
 ·rw[if_neg h,List.getElem?_append_right (by simpa using (by omega:c.b.length<=b))]
  simp only[aw,List.length_range]
  cases hk:b-c.b.length with
  | zero=>rfl
  | succ k=>rfl
theorem Kd {c:Code}{b:Nat}(h:qC c b=true):edg c b=[]:=by
 unfold qC at h
 unfold edg
 cases hB:c.b[b]? with
 | none=>rfl
 | some B =>
  rw[hB]at h
  simp only[decide_eq_true_eq]at h
  simp only[cZ,h,if_true]
theorem Sa {c:Code}(hc:bS c){O:List Nat}(hO:∀x∈O,x<c.b.length):UA c O (de c O) (cR c (de c O)):=by
 refine⟨bF,fun a b h=>?_,fun a x ha=>?_,by rw[fI,if_neg (by omega)]⟩
 ·rw[fI]at h
  split at h
  ·split at h
   ·simp at h;omega
   ·split at h
    ·rcases List.mem_append.1 h with h|h
     ·have:=dM hc h;omega
     ·simp at h;omega
    ·have:=dM hc h;omega
  ·cases h
 ·rw[fI,if_pos (hO a ha)]
  by_cases hx:qC c a=true
  ·rw[if_pos hx,Kd hx]
   have:a∈de c O:=DE (List.mem_filter.2 ⟨ha,hx⟩)
   simp[this]
  ·rw[if_neg hx]
   by_cases hl:a∈de c O
   ·rw[if_pos hl];simp[hl]
   ·rw[if_neg hl];simp[hl]
theorem Gb {c:Code}(hc:bS c){O O':List Nat}{at' U:List Int}(D:wC c O O' at' U){a b:Nat}(ha:a∈O) (hb:b<c.b.length):o4 (cR c (de c O)) a b=true↔Dm c.b.length (pB c O O') b a:=by
 have haN:=D.b.lt a ha
 have G:=Sa hc D.b.lt
 rw[<- LJ hc D G ha hb]
 unfold o4
 rw[Bool.or_eq_true,decide_eq_true_eq,Bool.not_eq_true',bF,Nat.add_sub_cancel]
 by_cases hab:a=b
 ·simp[hab]
 ·have:=An (E:=cR c (de c O)) (w:=(b:Int)) (s:=a) (fun x y h=>by rw[bF];exact G.lt x y h) (by rw[bF];omega) (by omega) c.b.length
  constructor
  ·rintro (h|h)
   ·exact Or.inl h
   ·refine Or.inr fun k=>?_
    rw[this.2 k]at h;cases h
  ·rintro (h|h)
   ·exact Or.inl h
   ·right
    cases hh:hasB (jC (cR c (de c O)) a (b:Int)) c.b.length with
    | false=>rfl
    | true=>exact absurd (this.1 hh) h
end Go.Am
namespace Go.Am
open Go Go.Proofs
end Go.Am
namespace Go.Am
open Go Go.Proofs
theorem Kq {c:Code}(hc:bS c){h:Heap}{L:LSq}{KH:HKq}(V0:Vs h L) (hK:∀m h',Vs h' ((m,.arr 1 ((fS c).map fun l=>.sl (bb l)))::L)->KH (.ms m 0 c.b.length) h'):ai PP kM [c.e] h KH:=by
 have hnb:=hc.nb
 refine aT AL (aJ _ _ _) rfl (AA _ _) ?_
 unfold vH
 refine V0.box c.dS.one fun n2 h3 V1=>?_
 refine V1.Jh fun n4 h5 V5=>?_
 refine⟨fun q h'=>∃v,q=[v]/\QD h' ((n2,.box c.e)::L) v ((fS c).map fun l=>.sl (bb l)),?_,?_⟩
 ·rintro f h' ⟨v,hq,q⟩
  simp only[aq,and_true]at hq
  rw[hq]
  rcases q with⟨-,h0,-⟩|⟨m,rfl,V⟩
  ·have:=congrArg List.length h0
   rw[aw,bV]at this
   have h1:=hnb.1
   simp only[List.length_nil]at this
   omega
  ·rw[aw,bV]
   exact hK m h' V.swap.pop
 unfold pM
 refine⟨fun k q h'=>∃(i:Nat) (v:D),q=[v,nD i]/\i<=c.b.length/\k=c.b.length-i/\QD h' ((n2,.box c.e)::L) v (((fS c).take i).map fun l=>.sl (bb l)),_,⟨0,_,rfl,by omega,rfl,Or.inr ⟨n4,rfl,V5⟩⟩,?_⟩
 rintro k f h1 ⟨i,v,hq,hi,hk,q⟩
 simp only[aq,and_true]at hq
 obtain⟨q1,q2⟩:=hq
 have V:=q.vs
 simp only[q1,q2,nD,↓V.fa 0 rfl,Nat.zero_add,↓V.cx 0 (j:=7) rfl rfl,bX,aw]
 by_cases hlt:i<c.b.length
 ·rw[jZ (by omega),ag]
  obtain⟨B,hB⟩:∃B,c.b[i]?=some B:=⟨c.b[i],aC hlt⟩
  rw[xp hB,La,Ly]
  refine bO (Jd (hc.t B (ak hB))) (fun d hd=>by simp at hd;subst hd;exact B.t.dS.pair) ?_
  rintro _ rfl
  refine q.push mT rfl (by simp only[aw,List.length_take];omega) (by simp only[aw,List.length_take];omega) fun v' h' q'=>?_
  rw[cU (by omega) (by omega)]
  simp only[ab,true_and]
  refine⟨_,?_,i+1,v',rfl,by omega,rfl,?_⟩
  ·omega
  ·rw[List.take_add_one,CB hlt]
   simp only[Option.toList_some,List.map_append,List.map_cons,List.map_nil]
   rw[jE hB]
   exact q'
 ·have:i=c.b.length:=by omega
  subst this
  rw[jX (by omega),af]
  simp only[ab,true_and]
  rw[<- bV,List.take_length]at q
  exact⟨v,rfl,q⟩
end Go.Am
namespace Go.Am
open Go Go.Proofs
theorem Jp {E:List (List Nat)}{s:Nat}{w:Int}{h:Heap}{L:LSq}{vE:D}{KH:HKq}(V0:Vs h L) (wE:LR L vE E) (hN:E.length<=1000) (hE:∀l∈E,∀b∈l,b<E.length) (hs:s<E.length) (hEl:∀l∈E,l.length<=1000)
  (hK:∀n h',Vs h' ((n,.arr 1 (bL (jC E s w)))::L)->KH (.ms n 0 E.length) h'):ai PP ju [vE,nD s,.int .i64 w] h KH:=by
 refine aT Cf (aJ _ _ _) rfl (BZ _ _ _ _) ?_
 unfold yR
 rw[LR.len V0 wE]
 refine V0.JS (by omega) (by omega) fun n5 h6 V1=>?_
 rw[show List.replicate E.length (D.bool false)=bL (List.replicate E.length false) by simp[bL]]at V1
 have ret:∀(h:Heap) (S:List Bool),Vs h ((n5,.arr 1 (bL S))::L)->S=jC E s w->KH (.ms n5 0 E.length) h:=fun h S V he=>by
  subst he;exact hK n5 h V
 have hsub:∀{S:List Bool} x,x∈L->x∈(n5,Slot.arr 1 (bL S))::L:=fun x hx=>List.mem_cons_of_mem _ hx
 simp only[nD,bQ]
 by_cases hw:(s:Int)=w
 ·simp only[hw,decide_true,↓ag]
  exact ret _ _ V1 (by unfold jC;rw[if_pos hw])
 simp only[hw,decide_false,↓af]
 rw[V1.ia 0 rfl (by omega) (by omega),aA]
 refine V1.uK 0 rfl (by simp[bL];exact hs) rfl (fL _) fun h11 V2=>?_
 rw[fK]at V2
 replace V2:Vs h11 ((n5,.arr 1 (bL ((List.replicate E.length false).set s true)))::L):=V2
 refine QV.one (k:=s) V2 fun v h13 q0=>?_
 refine⟨fun _ h=>∃S:List Bool,S.length=E.length/\Vs h ((n5,.arr 1 (bL S))::L)/\S=jC E s w,fun f h ⟨S,hS,V,he⟩=>ret h S V he,?_⟩
 unfold qZ
 refine⟨fun m l h=>∃(S:List Bool) (T:List Nat) (v:D),l=[v]/\S.length=E.length/\(∀k∈T,k<E.length)/\QV h ((n5,.arr 1 (bL S))::L) v T/\frRun E w m S T=jC E s w/\2*kT (hasB S) E.length+T.length<=m/\m<=3*E.length+3,3*E.length+3,
  ⟨_,[s],v,rfl,by simp,fun k hk=>by simp at hk;omega,q0,by unfold jC;rw[if_neg hw],by have:=zD (hasB ((List.replicate E.length false).set s true)) E.length;simp only[List.length_singleton];omega,by omega⟩,?_⟩
 rintro m f h1 ⟨S,T,v,hl,hS,hT,q,hR,hm,hmb⟩
 simp only[aq,and_true]at hl
 simp only[hl,q.len,xO]
 cases T with
 | nil =>
  simp only[List.length_nil,show((0:Nat):Int)=0 from rfl,Int.lt_irrefl,decide_false,↓af,ab,true_and]
  exact⟨S,hS,q.vs,by rw[<- hR,E6]⟩
 | cons a T' =>
  cases m with
  | zero=>simp at hm
  | succ m =>
  have haN:=hT a (by simp)
  have hEa:E[a]?=some E[a]:=aC haN
  have hEm:=ak hEa
  rw[frRun,hEa]at hR
  simp only[Option.getD_some]at hR
  generalize E[a]=es at hEa hEm hR
  simp only[show((0:Int)<((a::T').length:Int))=True from eq_true (by simp only[List.length_cons];omega),decide_true,↓ag]
  refine q.get (i:=0) (k:=a) rfl ?_
  refine q.zB (lo:=some 1) (hi:=none) (a:=1) (b:=(a::T').length) rfl rfl (by simp) (Nat.le_refl _) (by simp) fun v' q'=>?_
  have e1:((a::T').drop 1).take ((a::T').length-1)=T':=by simp
  rw[e1]at q'
  unfold ra
  refine⟨fun k l h=>∃(i:Nat) (S:List Bool) (T:List Nat) (v:D),l=[v,.int .i64 (i:Int)]/\i<=es.length/\k=es.length-i/\S.length=E.length/\(∀k∈T,k<E.length)/\QV h ((n5,.arr 1 (bL S))::L) v T /\
   frRun E w m ((es.drop i).foldl (cQ w) (S,T)).1 ((es.drop i).foldl (cQ w) (S,T)).2=jC E s w/\2*kT (hasB S) E.length+T.length<=m,_,
   ⟨0,S,T',v',rfl,by omega,rfl,hS,fun k hk=>hT k (by simp[hk]),q',hR,by simp only[List.length_cons]at hm;omega⟩,?_⟩
  clear hR hm q' q hS hT hl
  rintro k f2 h2 ⟨i,S,T,v,hl2,hi,hk,hS,hT,q,hR,hm⟩
  simp only[aq,and_true]at hl2
  obtain⟨e8,e10⟩:=hl2
  have hel:=hEl es hEm
  simp only[e8,e10]
  refine LR.Pr q.vs hsub wE hEa fun e we=>?_
  rw[B8.len q.vs (we.mono hsub),xM]
  by_cases hlt:i<es.length
  ·have hb:es[i]?=some es[i]:=aC hlt
   have hdrop:es.drop i=es[i]::es.drop (i+1):=List.drop_eq_getElem_cons hlt
   rw[hdrop,List.foldl_cons]at hR
   generalize es[i]=b at hb hR
   have hbN:b<E.length:=hE es hEm b (ak hb)
   simp only[show((i:Int)<(es.length:Int))=True from eq_true (by omega),decide_true,↓ag]
   refine⟨fun l h=>∃(S:List Bool) (T:List Nat) (v:D),l=[v]/\S.length=E.length/\(∀k∈T,k<E.length)/\QV h ((n5,.arr 1 (bL S))::L) v T /\
    frRun E w m ((es.drop (i+1)).foldl (cQ w) (S,T)).1 ((es.drop (i+1)).foldl (cQ w) (S,T)).2=jC E s w/\2*kT (hasB S) E.length+T.length<=m,?_,?_⟩
   ·rintro f3 h3 ⟨S,T,v,hl3,g1,g2,g3,g4,g5⟩
    simp only[aq,and_true]at hl3
    rw[hl3,cU (by omega) (by omega)]
    simp only[ab,true_and]
    exact⟨_,by omega,i+1,S,T,v,by simp,by omega,rfl,g1,g2,g3,g4,g5⟩
   have V:=q.vs
   refine LR.Pr q.vs hsub wE hEa fun e' we'=>?_
   rw[B8.get q.vs (we'.mono hsub) hb]
   simp only[nD,↓V.ia 0 rfl (show(0:Int)<=(b:Int) by omega) (show(b:Int)<(E.length:Nat) by omega),aA,↓V.xI 0 rfl (dq (bo (S:=S) (k:=b) (by omega))) rfl]
   cases hbS:hasB S b
   ·by_cases hbw:(b:Int)=w
    ·have hst:cQ w (S,T) b=(S,T):=by unfold cQ;rw[if_neg (by simp[hbw])]
     rw[hst]at hR
     rw[Pb]
     simp only[↓gS,gK,hbw,decide_true,Bool.not_true,ab,true_and]
     exact⟨S,T,v,rfl,hS,hT,q,hR,hm⟩
    ·have hst:cQ w (S,T) b=(S.set b true,T++[b]):=by unfold cQ;rw[if_pos (by simp[hbS,hbw])]
     rw[hst]at hR
     rw[Pb]
     simp only[↓gS,gK,hbw,decide_false,Bool.not_false]
     simp only[↓gS,↓V.ia 0 rfl (show(0:Int)<=(b:Int) by omega) (show(b:Int)<(E.length:Nat) by omega),aA]
     have hun:kT (hasB (S.set b true)) E.length+1<=kT (hasB S) E.length:=mf (x:=b) (fun k hk=>by rw[bn (by omega),hk];simp) hbN hbS (by rw[bn (by omega)];simp)
     refine q.uK 0 rfl (by simp[bL];omega) rfl (fL _) fun h4 q4=>?_
     rw[fK]at q4
     replace q4:QV h4 ((n5,.arr 1 (bL (S.set b true)))::L) v T:=q4
     refine q4.push (k:=b) (by omega) (by omega) fun v5 h5 q5=>?_
     simp only[ab,true_and]
     exact⟨_,_,v5,rfl,by simp[hS],fun k hk=>by rcases List.mem_append.1 hk with hk|hk;exact hT k hk;simp at hk;omega,q5,hR,by rw[List.length_append,List.length_singleton];omega⟩
   ·have hst:cQ w (S,T) b=(S,T):=by unfold cQ;rw[if_neg (by simp[hbS])]
    rw[hst]at hR
    rw[RD]
    simp only[↓gS,ab,true_and]
    exact⟨S,T,v,rfl,hS,hT,q,hR,hm⟩
  ·have hi':es.length<=i:=by omega
   simp only[show((i:Int)<(es.length:Int))=False from eq_false (by omega),decide_false,↓af,ab,true_and]
   rw[List.drop_of_length_le hi']at hR
   exact⟨m,by omega,S,T,v,rfl,hS,hT,q,hR,hm,by omega⟩
end Go.Am
namespace Go.Am
open Go Go.Proofs
theorem BW.QZ {h:Heap}{L:LSq}{v:D}{T:List Bool}(V:Vs h L) (w:BW L v T){K:List D->Prop}(hk:K (bL T)):velems 1 v h K:=by
 rcases w with rfl|⟨m,rfl,hm⟩
 ·exact⟨fun e he=>by simp only[bL,List.mem_map]at he;obtain⟨k,-,rfl⟩:=he;rfl,hk⟩
 ·exact⟨bL T,by rw[V.mem hm];rfl,by simp[bL],by rw[List.drop_zero,List.take_of_length_le (by simp[bL])];exact hk⟩
theorem Fp {T:List Bool}:∀y,y∈bL T->aN y:=fun y hy=>by
 simp only[bL,List.mem_map]at hy;obtain⟨k,-,rfl⟩:=hy;intro x hx;simp[D.cells]at hx;subst hx;rfl
theorem gX {T:List Bool}:(bL T).length=T.length:=by simp[bL]
theorem Qi {h:Heap}{L:LSq}{KH:HKq}{vU vR:D}{U R:List Bool}(V:Vs h L) (wU:BW L vU U) (wR:BW L vR R) (hU:U.length<=1000000) (hR:R.length<=1000000)
  (hK:∀nU nR h',Vs h' ((nR,.arr 1 (bL R))::(nU,.arr 1 (bL U))::L)->KH (.agg [.ms nU 0 U.length,.ms nR 0 R.length]) h'):ai PP qj [.agg [vU,vR]] h KH:=by
 refine aT Cd (aJ _ _ _) rfl (BX _ _) ?_
 unfold yP
 refine V.box (fun x hx=>by simp at hx;rcases hx with rfl|rfl;exact wU.one;exact wR.one) fun n2 h3 V3=>?_
 refine V3.alloc fun n4 h5 V5=>?_
 rw[V5.mH 1 rfl,V5.iJ 1 (j:=0+0) rfl rfl,V5.mH 1 rfl,V5.iJ 1 (j:=0+1) rfl rfl]
 refine V5.Jh fun n10 h11 V11=>?_
 refine⟨by simp only[↓V11.mH 2 rfl,↓V11.iJ 2 (j:=0+0) rfl rfl,↓V11.iJ 2 (j:=0+1) rfl rfl,ab,and_self],?_⟩
 have s1:∀{y z w:Nat×Slot} x,x∈L->x∈y::z::w::L:=fun x hx=>by simp[hx]
 have s2:∀{y z w v:Nat×Slot} x,x∈L->x∈y::z::w::v::L:=fun x hx=>by simp[hx]
 refine V11.Gr (els:=[]) (ys:=bL U) (fun {K} hk=>(wU.mono s1).QZ V11 hk) Fp (by rw[gX];simp;omega) (by rw[gX];simp;omega) fun nU h17 V17=>?_
 simp only[List.nil_append,List.length_nil,Nat.zero_add,gX]at V17 ⊢
 refine⟨by simp only[↓V17.mH 2 rfl,↓V17.iJ 2 (j:=1) rfl rfl,ab,and_self],?_⟩
 refine V17.Jh fun n20 h21 V21=>?_
 refine⟨by simp only[↓V21.mH 3 rfl,↓V21.iJ 3 (j:=0) rfl rfl,↓V21.iJ 3 (j:=1) rfl rfl,ab,and_self],?_⟩
 refine V21.Gr (els:=[]) (ys:=bL R) (fun {K} hk=>(wR.mono s2).QZ V21 hk) Fp (by rw[gX];simp;omega) (by rw[gX];simp;omega) fun nR h27 V27=>?_
 simp only[List.nil_append,List.length_nil,Nat.zero_add,gX]at V27 ⊢
 rw[dB rfl]
 refine V27.p8 2 (cs':=[.ms nU 0 U.length,.ms nR 0 R.length]) rfl rfl rfl (fun x hx=>by simp at hx;rcases hx with rfl|rfl<;>rfl) fun h30 V30=>?_
 simp only[List.set_cons_succ,List.set_cons_zero]at V30
 rw[V30.lI 2 (s:=2) rfl rfl]
 exact hK nU nR h30 (V30.sub (.cons_cons _ (.cons_cons _ (.cons _ (.cons _ (.refl _))))))
end Go.Am
namespace Go.Am
open Go Go.Proofs
def PB (p:Nat×Block):D:=.agg (.ms p.1 0 p.2.i.length::p.2.t.cs)
def SR (p:Nat×Block):Nat×Slot:=(p.1,.arr 15 (p.2.i.map aX.e))
section
variable {h:Heap}{L:LSq}{KH:HKq}
end
end Go.Am
namespace Go.Am
open Go Go.Proofs
theorem Wo {a b:Bool}{h:Heap}{K:D->Prop}:ae PP (.eqv true false [.b] (.c (.bool a)) (.c (.bool b))) h K=K (.bool (!decide (a=b))):=by
 rw[QN,QF]
 apply propext
 have e:veqv true [.b] (.bool a) (.bool b) (fun d=>K d)=K (.bool (!decide (a=b))):=by
  cases a<;>cases b<;>rfl
 constructor
 ·exact fun hh=>by have:=hh.2.2;rw[<- e];exact this
 ·exact fun hk=>⟨rfl,rfl,by rw[<- e]at hk;exact hk⟩
theorem VU {T:List Bool}{i:Nat}{h:Heap}{K:D->Prop}(hi:i<T.length):ae PP (.iadd (.c (.sl (bL T))) (.c (.int .i64 (i:Int))) 1) h (fun a=>ae PP (.ld (.c a) 1 false) h K)=K (.bool (hasB T i)):=by
 rw[IL (esz:=1) (d:=.bool (hasB T i)) (by omega) (by rw[aA];exact dq (bo hi)) rfl,Hx rfl]
theorem Ob {T:List Bool}{h:Heap}{K:D->Prop}:aR (.sl (bL T)) h K=K (.int .i64 (T.length:Int)):=by rw[bX];simp[bL]
theorem tm {A B:List Bool}(hl:A.length<=1000000):aY PP cB [.sl (bL A),.sl (bL B)] (· = .bool (decide (A=B))):=by
 refine bx tY (aJ _ _ _) rfl (tA _ _ _) ?_
 unfold og
 rw[Ob,Ob,gK]
 by_cases hAB:A.length=B.length
 ·rw[decide_eq_true (by omega),Bool.not_true,af]
  refine⟨fun _ _=>A=B,?_,?_⟩
  ·rintro f h' e
   rw[bw,decide_eq_true e]
  unfold lg
  refine⟨fun m q h'=>h'=iG/\∃i:Nat,q=[nD i]/\i<=A.length/\m=A.length-i/\∀k,k<i->hasB A k=hasB B k,_,⟨rfl,0,rfl,by omega,rfl,fun k hk=>(by omega)⟩,?_⟩
  rintro m f h1 ⟨rfl,i,hq,hi,hm,hk⟩
  simp only[aq,and_true]at hq
  rw[hq,Ob]
  by_cases hlt:i<A.length
  ·rw[nD,jZ (by omega),ag,VU hlt,VU (by omega),Wo]
   by_cases he:hasB A i=hasB B i
   ·rw[decide_eq_true he,Bool.not_true,af,cU (by omega) (by omega)]
    simp only[ab,true_and]
    refine⟨_,by omega,i+1,rfl,by omega,rfl,fun k hk'=>?_⟩
    by_cases e:k=i
    ·subst e;exact he
    ·exact hk k (by omega)
   ·rw[decide_eq_false he,Bool.not_false,ag,bw]
    rw[decide_eq_false (fun e=>he (by rw[e]))]
  ·have:i=A.length:=by omega
   subst this
   rw[nD,jX (by omega),af]
   simp only[ab,true_and]
   exact sY hAB fun k hk'=>by rw[hk k hk']
 ·rw[decide_eq_false (by omega),Bool.not_false,ag,bw,decide_eq_false (fun e=>hAB (by rw[e]))]
def OB (h:Heap) (nB:Nat) (A:List (Nat×Block)) (F:LSq):Prop:=Vs h ((nB,.arr 14 (A.map PB))::(A.map SR++F))
section
variable {h:Heap}{F:LSq}{KH:HKq}{K:D->Prop}{nB b w k:Nat}{A:List (Nat×Block)}{B:Block}{x:aX}
theorem OB.mem (V:OB h nB A F){y:Nat×Slot}(hy:y∈F):y∈(nB,Slot.arr 14 (A.map PB))::(A.map SR++F):=by simp[hy]
theorem OB.vs (V:OB h nB A F):Vs h ((nB,.arr 14 (A.map PB))::(A.map SR++F)):=V
theorem OB.hB (V:OB h nB A F):h nB=.arr 14 (A.map PB):=Vs.get V 0 _ _ rfl
theorem OB.len (V:OB h nB A F){n:Nat}:aR (.ms nB 0 n) h K=K (.int .i64 (n:Int)):=by
 rw[bu,V.hB];apply propext;exact⟨fun hh=>hh.2,fun hk=>⟨rfl,hk⟩⟩
theorem OB.ia (V:OB h nB A F){n:Nat}(hb:b<n):aa PP (.iadd (.c (.ms nB 0 n)) (.c (.int .i64 (b:Int))) 14) h KH=KH (.ptr nB b 0) h:=by
 rw[Vs.ia V 0 rfl (by omega) (by omega),aA]
theorem OB.GB (V:OB h nB A F){n:Nat}(hb:b<n):ae PP (.iadd (.c (.ms nB 0 n)) (.c (.int .i64 (b:Int))) 14) h K=K (.ptr nB b 0):=by rw[mV,V.ia hb]
theorem OB.fa (V:OB h nB A F){o:Nat}:aa PP (.fadd (.c (.ptr nB b 0)) o) h KH=KH (.ptr nB b o) h:=by
 rw[ku,V.hB];apply propext;exact⟨fun hh=>by simpa using hh.2,fun hk=>⟨rfl,by simpa using hk⟩⟩
theorem OB.mH (V:OB h nB A F){o:Nat}:ae PP (.fadd (.c (.ptr nB b 0)) o) h K=K (.ptr nB b o):=V.fa (KH:=fun d _=>K d)
theorem OB.el (hA:A[b]?=some (w,B)):(A.map PB)[b]?=some (PB (w,B)):=by rw[List.getElem?_map,hA];rfl
end
structure CO (c:Code) (nA nL nB:Nat) (sA sL sB:Slot):Prop where
 a:sA.row=some (4,c.arrays.map vc.e)
 l:sL.row=some (3,c.loops.map Loop.e)
 b:sB.row=some (14,c.b.map Block.e)
end Go.Am
namespace Go.Am
open Go Go.Proofs
theorem wC.path {c:Code}{O O':List Nat}{at' U:List Int}(hc:bS c) (D:wC c O O' at' U){x:Nat}:x∈O↔Path (edg c) 0 x:=by
 have hnb:=hc.nb
 obtain⟨S,hv⟩:=D.b.ord
 have nd:O.Nodup:=by
  obtain⟨m,h1,e⟩:=hv
  obtain⟨N,e2,F⟩:=h1.spec (n:=c.b.length) (fun p b=>mR (iI hc)) (fun x=>mR (iI hc)) (by simp)
  have e3:O=0::N:=by
   have:=congrArg Prod.snd e
   simp only at this
   rw[this,e2];simp
  rw[e3]
  refine List.nodup_cons.2 ⟨fun h=>?_,F.nd⟩
  have h2:=(F.new 0 h).1
  simp only at h2
  rw[bn (by simp;omega)]at h2
  simp at h2
 have G:=u4.gr (at':=(List.range c.b.length).map fun x=>if x∈O then((uo O x:Nat):Int) else -1) (iI hc) bV (by omega) ⟨S,hv⟩ (by simp) (fun i x hx=>by
  have hxO:=ak hx
  have hxN:=D.b.lt x hxO
  rw[List.getElem?_map,List.getElem?_range hxN]
  simp[hxO,wW nd hx]) (fun x hx hn=>by
  rw[List.getElem?_map,List.getElem?_range hx]
  simp[hn])
 have e:gL (fS c)=edg c:=funext fun b=>jB
 rw[G.path,e]
inductive Uy (c:Code):Ru->Prop
 | no {b:Nat}(hb:b<c.b.length) (hp:¬Path (edg c) 0 b):Uy c (Pc b)
 | dep {b a:Nat}{A:Block}(hb:b<c.b.length) (hp:Path (edg c) 0 b) (hd:Sd c a b) (hA:c.b[a]?=some A):Uy c (te b a A.t)
 | inst {b:Nat}{B:Block}{x:aX}(hB:c.b[b]?=some B) (hp:Path (edg c) 0 b) (hx:x∈B.i) (h0:0<=dE x.d):Uy c (ij b x)
 | fin {b:Nat}{B:Block}(hB:c.b[b]?=some B) (hp:Path (edg c) 0 b) (h0:0<=dE B.t.d):Uy c ⟨rS (dE B.t.d),[],true⟩
theorem kJ {c:Code}{r:Ru}:r∈iB c↔Uy c r:=by
 constructor
 ·intro hr
  simp only[iB,wT,gT,List.mem_flatMap,List.mem_range]at hr
  obtain⟨b,hb,hr⟩:=hr
  obtain⟨B,hB⟩:∃B,c.b[b]?=some B:=⟨c.b[b],aC hb⟩
  unfold tp at hr
  cases hp:hasB (da c) b
  ·rw[hp]at hr
   simp at hr;subst hr
   exact .no hb fun k=>by rw[(cI hb).2 k]at hp;cases hp
  ·have hp':=(cI hb).1 hp
   rw[hp,if_pos rfl,gW hB]at hr
   rcases List.mem_append.1 hr with hr|hr
   ·rcases List.mem_append.1 hr with hr|hr
    ·simp only[ik,List.mem_map]at hr
     obtain⟨a,ha,rfl⟩:=hr
     rw[yw hb]at ha
     obtain⟨haN,hd⟩:=uq.1 ha
     obtain⟨A,hA⟩:∃A,c.b[a]?=some A:=⟨c.b[a],aC haN⟩
     rw[gW hA]
     exact .dep hb hp' hd hA
    ·simp only[gV,List.mem_map,List.mem_filter,decide_eq_true_eq]at hr
     obtain⟨x,⟨hx,h0⟩,rfl⟩:=hr
     exact .inst hB hp' hx h0
   ·unfold DD at hr
    split at hr
    ·rename_i h0
     simp at hr;subst hr
     exact .fin hB hp' h0
    ·cases hr
 ·intro h
  have key:∀{b:Nat},b<c.b.length->r∈tp c (da c) (ji c) b->r∈iB c:=fun hb hr=>List.mem_flatMap.2 ⟨_,List.mem_range.2 hb,hr⟩
  cases h with
  | @no b hb hp =>
   refine key hb ?_
   unfold tp
   have:hasB (da c) b=false:=by
    cases h:hasB (da c) b
    ·rfl
    ·exact absurd ((cI hb).1 h) hp
   rw[this];simp
  | @dep b a A hb hp hd hA =>
   refine key hb ?_
   unfold tp
   rw[(cI hb).2 hp,if_pos rfl]
   refine List.mem_append_left _ (List.mem_append_left _ ?_)
   simp only[ik,List.mem_map]
   refine⟨a,?_,by rw[gW hA]⟩
   rw[yw hb]
   exact uq.2 ⟨(ah.1 hA).1,hd⟩
  | @inst b B x hB hp hx h0 =>
   have hb:=(ah.1 hB).1
   refine key hb ?_
   unfold tp
   rw[(cI hb).2 hp,if_pos rfl,gW hB]
   refine List.mem_append_left _ (List.mem_append_right _ ?_)
   exact List.mem_map.2 ⟨x,List.mem_filter.2 ⟨hx,by simpa using h0⟩,rfl⟩
  | @fin b B hB hp h0 =>
   have hb:=(ah.1 hB).1
   refine key hb ?_
   unfold tp
   rw[(cI hb).2 hp,if_pos rfl,gW hB]
   refine List.mem_append_right _ ?_
   unfold DD;rw[if_pos h0];simp
end Go.Am
namespace Go.Am
open Go Go.Proofs
theorem EZ {c:Code}{O:List Nat}(hc:bS c) (ho:u4 (fS c) c.b.length 0 O):O.Nodup/\∀{x:Nat},x∈O↔Path (edg c) 0 x:=by
 have hnb:=hc.nb
 obtain⟨S,hv⟩:=ho
 have hsp:O.Nodup/\∀x∈O,x<c.b.length:=by
  obtain⟨m,h1,e⟩:=hv
  obtain⟨N,e2,F⟩:=h1.spec (n:=c.b.length) (fun p b=>mR (iI hc)) (fun x=>mR (iI hc)) (by simp)
  have e3:O=0::N:=by
   have:=congrArg Prod.snd e
   simp only at this
   rw[this,e2];simp
  rw[e3]
  refine⟨List.nodup_cons.2 ⟨fun h=>?_,F.nd⟩,fun x hx=>?_⟩
  ·have h2:=(F.new 0 h).1
   simp only at h2
   rw[bn (by simp;omega)]at h2
   simp at h2
  ·rcases List.mem_cons.1 hx with rfl|hx
   ·omega
   ·exact(F.new x hx).2
 obtain⟨nd,hlt⟩:=hsp
 have G:=u4.gr (at':=(List.range c.b.length).map fun x=>if x∈O then((uo O x:Nat):Int) else -1) (iI hc) bV (by omega) ⟨S,hv⟩ (by simp) (fun i x hx=>by
  have hxO:=ak hx
  have hxN:=hlt x hxO
  rw[List.getElem?_map,List.getElem?_range hxN]
  simp[hxO,wW nd hx]) (fun x hx hn=>by
  rw[List.getElem?_map,List.getElem?_range hx]
  simp[hn])
 have e:gL (fS c)=edg c:=funext fun b=>jB
 exact⟨nd,fun {x}=>by rw[G.path,e]⟩
theorem F8 {E:List (List Nat)}{a b:Nat}:b∈F9 E (-1) a↔b∈gL E a:=by
 simp[F9]
theorem Nz {c:Code}(hc:bS c){l:List Nat}{b:Nat}(hb:b<c.b.length) (hbp:Path (edg c) 0 b) (hl:∀x∈l,x<c.b.length) (hx:∀x,Path (edg c) 0 x->qC c x=true->x∈l):hasB (jC (cR c l) b (-1)) c.b.length=true↔zS (fS c) l b:=by
 have hE:∀a t,t∈gL (cR c l) a->t<(cR c l).length:=fun a t h=>by
  rw[bF]
  rw[fI]at h
  split at h
  ·split at h
   ·simp at h;omega
   ·split at h
    ·rcases List.mem_append.1 h with h|h
     ·have:=dM hc h;omega
     ·simp at h;omega
    ·have:=dM hc h;omega
  ·cases h
 have eG:gL (fS c)=edg c:=funext fun b=>jB
 rw[An hE (by rw[bF];omega) (by omega)]
 unfold zS
 rw[eG]
 constructor
 ·intro h
  have key:∀k,Path (F9 (cR c l) (-1)) b k->(k<c.b.length/\Path (edg c) b k)\/(k=c.b.length/\∃x,x∈l/\Path (edg c) b x):=by
   intro k hk
   induction hk with
   | refl=>exact Or.inl ⟨hb,.refl⟩
   | @step a t _ e ih =>
    rw[F8,fI]at e
    rcases ih with⟨h1,h2⟩|⟨rfl,-⟩
    ·rw[if_pos h1]at e
     split at e
     ·rename_i hex
      simp at e;subst e
      exact Or.inr ⟨rfl,a,hx a (EY hbp h2) hex,h2⟩
     ·split at e
      ·rename_i hal
       rcases List.mem_append.1 e with e|e
       ·exact Or.inl ⟨dM hc e,.step h2 e⟩
       ·simp at e;subst e
        exact Or.inr ⟨rfl,a,hal,h2⟩
      ·exact Or.inl ⟨dM hc e,.step h2 e⟩
    ·rw[if_neg (by omega)]at e;cases e
  rcases key _ h with⟨h1,-⟩|⟨-,h⟩
  ·omega
  ·exact h
 ·rintro⟨x,hxl,hp⟩
  have key:∀k,Path (edg c) b k->Path (F9 (cR c l) (-1)) b k:=by
   intro k hk
   induction hk with
   | refl=>exact .refl
   | @step a t h e ih =>
    refine .step ih (F8.2 ?_)
    have ha:a<c.b.length:=by
     unfold edg at e
     cases hB:c.b[a]? with
     | none=>rw[hB]at e;cases e
     | some B=>exact(ah.1 hB).1
    rw[fI,if_pos ha]
    split
    ·rename_i hex;rw[Kd hex]at e;cases e
    ·split
     ·exact List.mem_append_left _ e
     ·exact e
  refine .step (key x hp) (F8.2 ?_)
  rw[fI,if_pos (hl x hxl)]
  split
  ·simp
  ·first|(rw[if_pos hxl];simp)|simp
open Classical in
noncomputable def oX (c:Code) (i:Nat):List (List Nat):=((List.range c.b.length).map fun b=>if qC c b=true/\b<i then [c.b.length] else edg c b)++[[]]
theorem s8 {c:Code}{i:Nat}:(oX c i).length=c.b.length+1:=by simp[oX]
theorem uu {c:Code}{i b:Nat}(h:b<c.b.length):gL (oX c i) b=if qC c b=true/\b<i then [c.b.length] else edg c b:=by
 unfold gL oX
 rw[List.getElem?_append_left (by simpa using h),List.getElem?_map,List.getElem?_range h]
 simp
theorem pz {c:Code}{i b:Nat}(h:¬b<c.b.length):gL (oX c i) b=[]:=by
 unfold gL oX
 rw[List.getElem?_append_right (by simpa using (by omega:c.b.length<=b))]
 simp only[aw,List.length_range]
 cases hk:b-c.b.length with
 | zero=>rfl
 | succ k=>rfl
theorem F0 {E:List (List Nat)}{i b:Nat}{l:List Nat}(hi:i<E.length):gL (E.set i l) b=if b=i then l else gL E b:=by
 unfold gL
 rw[List.getElem?_set]
 by_cases h:i=b
 ·subst h;simp[hi]
 ·rw[if_neg h,if_neg (fun e=>h e.symm)]
theorem Sb {c:Code}:oX c 0=fS c++[[]]:=by
 refine jA (by simp[oX,fS]) fun b hb=>?_
 by_cases h:b<c.b.length
 ·rw[uu h,if_neg (by omega)]
  unfold gL
  rw[List.getElem?_append_left (by rw[bV];exact h),CB h];rfl
 ·rw[pz h]
  unfold gL
  rw[List.getElem?_append_right (by rw[bV];omega),bV]
  rw[s8]at hb
  have:b-c.b.length=0:=by omega
  rw[this];rfl
theorem Ld {c:Code}{i:Nat}(h:qC c i≠true):oX c (i+1)=oX c i:=by
 refine jA (by simp[oX]) fun b hb=>?_
 by_cases hb':b<c.b.length
 ·rw[uu hb',uu hb']
  by_cases e:b=i
  ·subst e;rw[if_neg (fun k=>h k.1),if_neg (fun k=>h k.1)]
  ·by_cases k:qC c b=true/\b<i
   ·rw[if_pos k,if_pos ⟨k.1,by omega⟩]
   ·rw[if_neg k,if_neg fun q=>k ⟨q.1,by omega⟩]
 ·rw[pz hb',pz hb']
theorem NB {c:Code}{i:Nat}(hi:i<c.b.length) (h:qC c i=true):(oX c i).set i [c.b.length]=oX c (i+1):=by
 refine jA (by simp[oX]) fun b hb=>?_
 rw[F0 (by rw[s8];omega)]
 by_cases hb':b<c.b.length
 ·rw[uu hb',uu hb']
  by_cases e:b=i
  ·subst e;rw[if_pos rfl,if_pos ⟨h,by omega⟩]
  ·rw[if_neg e]
   by_cases k:qC c b=true/\b<i
   ·rw[if_pos k,if_pos ⟨k.1,by omega⟩]
   ·rw[if_neg k,if_neg fun q=>k ⟨q.1,by omega⟩]
 ·rw[if_neg (by omega),pz hb',pz hb']
theorem Lf {c:Code}{O:List Nat}:oX c c.b.length=cR c (O.filter (qC c)):=by
 refine jA (by rw[s8,bF]) fun b hb=>?_
 by_cases hb':b<c.b.length
 ·rw[uu hb',fI,if_pos hb']
  by_cases h:qC c b=true
  ·rw[if_pos ⟨h,hb'⟩,if_pos h]
  ·rw[if_neg (fun k=>h k.1),if_neg h,if_neg (fun k=>h (List.mem_filter.1 k).2)]
 ·rw[pz hb',fI,if_neg hb']
theorem NA {c:Code}{l:List Nat}{b:Nat}(hb:b<c.b.length) (h:qC c b≠true):(cR c l).set b (edg c b++[c.b.length])=cR c (l++[b]):=by
 refine jA (by simp[cR]) fun k hk=>?_
 rw[F0 (by rw[bF];omega),fI,fI]
 by_cases e:k=b
 ·subst e
  rw[if_pos rfl,if_pos hb,if_neg h,if_pos (by simp)]
 ·rw[if_neg e]
  have:k∈l++[b]↔k∈l:=by simp[e]
  simp only[this]
end Go.Am
namespace Go.Am
open Go Go.Proofs
structure LM (E:List (List Nat)) (els:List D) (W:LSq):Prop where
 len:els.length=E.length
 el:∀(b:Nat) (e:D) (l:List Nat),els[b]?=some e->E[b]?=some l->e.one=true/\B8 W e l
section
variable {h:Heap}{L W:LSq}{E:List (List Nat)}{els:List D}{m:Nat}{KH:HKq}
theorem LM.lr (x:LM E els W):LR ((m,.arr 1 els)::W) (.ms m 0 E.length) E :=
 Or.inr ⟨m,els,rfl,by simp,x.len,fun b e l h1 h2=>by
  obtain⟨h3,h4⟩:=x.el b e l h1 h2
  exact⟨h3,h4.mono fun y hy=>by simp[hy]⟩⟩
theorem LM.one (x:LM E els W):∀y∈els,y.one=true:=fun y hy=>by
 obtain⟨b,hb⟩:=aO hy
 have hl:=(ah.1 hb).1
 exact(x.el b y (E[b]'(by rw[<- x.len];exact hl)) hb (aC _)).1
theorem LM.data:LM E (E.map fun l=>.sl (bb l)) []:=by
 refine⟨by simp,fun b e l h1 h2=>?_⟩
 rw[List.getElem?_map,h2]at h1
 cases h1
 exact⟨rfl,Or.inr (Or.inl rfl)⟩
theorem LM.set (x:LM E els W){b n:Nat}{l:List Nat}(hb:b<E.length):LM (E.set b l) (els.set b (.ms n 0 l.length)) ((n,.arr 1 (bb l))::W):=by
 refine⟨by simp[x.len],fun k e l' h1 h2=>?_⟩
 rw[List.getElem?_set]at h1 h2
 by_cases hk:b=k
 ·subst hk
  rw[if_pos rfl,if_pos (by rw[x.len];exact hb)]at h1
  rw[if_pos rfl,if_pos hb]at h2
  cases h1;cases h2
  exact⟨rfl,Or.inr (Or.inr ⟨n,rfl,by simp⟩)⟩
 ·rw[if_neg hk]at h1 h2
  obtain⟨h3,h4⟩:=x.el k e l' h1 h2
  exact⟨h3,h4.mono fun y hy=>by simp[hy]⟩
theorem B8.QZ {v:D}{l:List Nat}(V:Vs h L) (w:B8 L v l){K:List D->Prop}(hk:K (bb l)):velems 1 v h K:=by
 rcases w with⟨rfl,rfl⟩|rfl|⟨n,rfl,hn⟩
 ·exact hk
 ·exact Md hk
 ·exact⟨bb l,by rw[V.mem hn];rfl,by rw[aZ];omega,by rw[List.drop_zero,List.take_of_length_le (by rw[aZ];omega)];exact hk⟩
theorem Vs.Vy {w:Nat}{z:D}(V:Vs h ((w,.arr 1 [])::L)) (hK:∀n h',Vs h' ((n,.arr 1 [.sl []])::L)->KH (.ms n 0 1) h'):aa PP (.bldS true 1 1 z [(0,.c (.ms w 0 0))]) h KH:=by
 have hw:=V.get 0 _ _ rfl
 have hrow:(h w).row=some (1,[]):=by rw[hw];rfl
 refine⟨fun p hp=>by
  simp[Arg.get]at hp;subst hp
  exact⟨Nat.one_pos,rfl,fun x hx=>by simp[D.cells]at hx;subst hx;rfl⟩,fun _ p hp=>?_,fun n t0=>?_⟩
 ·simp[Arg.get]at hp;subst hp
  intro x hx
  simp only[D.cells,List.mem_singleton]at hx;subst hx
  exact⟨1,[],hrow,by simp,fun x hx=>by simp at hx⟩
 ·have gM:(aD h w (.frz 1 [])) n=.free:=by
   have:n≠w:=by rintro rfl;rw[t0.free]at hw;cases hw
   rw[an _ _ this];exact t0.free
  have V1:=(V.cc 0 (s':=.frz 1 []) rfl (by simp)).pop
  have:=hK n _ (V1.push gM (s:=.arr 1 [.sl []]) (by simp))
  simpa[Arg.get,Heap.freezeAll,Heap.freeze,hw,setEls,D.fz,D.fzc,D.nm,D.jV,Slot.row] using this
end
section
variable {c:Code}{O:List Nat}{h:Heap}{L W:LSq}{els:List D}{m n2:Nat}
theorem NC (hc:bS c) (h2:(n2,.box c.e)∈L) (x:LM (oX c 0) els W) (V:Vs h ((m,.arr 1 els)::(W++L))){J:HJq}(hJ:∀h' els' W',LM (oX c c.b.length) els' W'->Vs h' ((m,.arr 1 els')::(W'++L))->J [] h'){a21:D} :
  jO h (.int .i64 (c.b.length:Int)) (.ptr n2 0 0) (.ms m 0 (c.b.length+1)) a21 J:=by
 have hnb:=hc.nb
 unfold jO
 refine⟨fun k q h'=>∃(i:Nat) (els:List D) (W:LSq),q=[nD i]/\i<=c.b.length/\k=c.b.length-i/\LM (oX c i) els W/\Vs h' ((m,.arr 1 els)::(W++L)),_,⟨0,els,W,rfl,by omega,rfl,x,V⟩,?_⟩
 rintro k f h1 ⟨i,els1,W1,hq,hi,hk,x1,V1⟩
 simp only[aq,and_true]at hq
 simp only[hq,nD]
 by_cases hlt:i<c.b.length
 ·rw[jZ (by omega),ag]
  obtain⟨B,hB⟩:∃B,c.b[i]?=some B:=⟨c.b[i],aC hlt⟩
  have hex:qC c i=decide (B.t.kind=5):=Ga hB
  refine⟨fun _ h'=>∃(els:List D) (W:LSq),LM (oX c (i+1)) els W/\Vs h' ((m,.arr 1 els)::(W++L)),?_,?_⟩
  ·rintro f' h' ⟨els2,W2,x2,V2⟩
   rw[cU (by omega) (by omega)]
   simp only[ab,true_and]
   exact⟨_,by omega,i+1,els2,W2,rfl,by omega,rfl,x2,V2⟩
  rw[V1.Lb (s:=.box c.e) (by simp[h2]),V1.Ai (cs:=[.int .i64 c.group,.int .i64 c.sub,.int .i64 c.regs,.int .i64 c.slots,.int .i64 c.params,.sl (c.arrays.map vc.e),.sl (c.loops.map Loop.e),.sl (c.b.map Block.e)]) (j:=0+7) (by simp only[List.mem_cons,List.mem_append];exact Or.inr (Or.inr h2)) rfl,xp hB,La,VT,show B.e=.agg (.sl (B.i.map aX.e)::B.t.cs) from rfl,KV (e:=.int .i64 B.t.kind) rfl,bQ]
  by_cases h5:B.t.kind=5
  ·rw[decide_eq_true h5,ag]
   rw[decide_eq_true h5]at hex
   refine V1.Um (d:=nD c.b.length) aW rfl fun n97 h98 V98=>?_
   have V98':Vs h98 ((m,.arr 1 els1)::(n97,.arr 1 [nD c.b.length])::(W1++L)):=V98.swap
   rw[V98'.ia 0 rfl (by omega) (by omega),aA]
   refine V98'.uK 0 rfl (by rw[x1.len,s8];omega) rfl x1.one fun h102 V102=>?_
   simp only[List.set_cons_zero]at V102
   simp only[ab,true_and]
   refine⟨_,(n97,.arr 1 (bb [c.b.length]))::W1,?_,V102⟩
   have:=x1.set (b:=i) (n:=n97) (l:=[c.b.length]) (by rw[s8];omega)
   rw[NB hlt hex]at this
   exact this
  ·rw[decide_eq_false h5,af]
   rw[decide_eq_false h5]at hex
   simp only[ab,true_and]
   exact⟨els1,W1,by rw[Ld (by rw[hex];simp)];exact x1,V1⟩
 ·have:i=c.b.length:=by omega
  subst this
  rw[jX (by omega),af]
  simp only[ab,true_and]
  exact hJ h1 els1 W1 x1 V1
theorem PA (hc:bS c) (ho:u4 (fS c) c.b.length 0 O) (x:LM (cR c (O.filter (qC c))) els W) (V:Vs h ((m,.arr 1 els)::(W++L))){J:HJq}(hJ:∀h' els' W',LM (cR c (de c O)) els' W'->Vs h' ((m,.arr 1 els')::(W'++L))->J [] h') :
  jP (.int .i64 ((O.length:Int)-1)) h (.ms m 0 (c.b.length+1)) (.int .i64 (c.b.length:Int)) (.sl (bb O)) J:=by
 have hnb:=hc.nb
 obtain⟨hnd,hpath⟩:=EZ hc ho
 have hOlt:∀x∈O,x<c.b.length:=fun x hx=>by
  have:=hpath.1 hx
  clear hx
  induction this with
  | refl=>omega
  | step _ e _=>exact dM hc e
 have hOl:O.length<=20:=Nat.le_trans (po hnd hOlt) hnb.2
 unfold jP
 refine⟨fun k q h'=>∃(l:List Nat) (els:List D) (W:LSq),q=[.int .i64 ((k:Int)-1)]/\k<=O.length/\(∀x,x∈O.filter (qC c)->x∈l)/\(∀x∈l,x∈O)/\endF (fS c) (O.take k).reverse l=de c O/\LM (cR c l) els W/\Vs h' ((m,.arr 1 els)::(W++L)),O.length,
  ⟨O.filter (qC c),els,W,rfl,by omega,fun x hx=>hx,fun x hx=>(List.mem_filter.1 hx).1,by rw[List.take_length];rfl,x,V⟩,?_⟩
 rintro k f h1 ⟨l,els1,W1,hq,hk,hl1,hl2,hend,x1,V1⟩
 simp only[aq,and_true]at hq
 simp only[hq]
 cases k with
 | zero =>
  rw[VS (by omega),af]
  simp only[ab,true_and]
  simp only[List.take_zero,List.reverse_nil,endF]at hend
  subst hend
  exact hJ h1 els1 W1 x1 V1
 | succ k =>
  have ek:((k+1:Nat):Int)-1=(k:Int):=by omega
  rw[ek,VR (by omega),ag]
  obtain⟨b,hb⟩:∃b,O[k]?=some b:=⟨O[k]'(by omega),aC _⟩
  have hbO:=ak hb
  have hbN:=hOlt b hbO
  have htk:(O.take (k+1)).reverse=b::(O.take k).reverse:=by rw[List.take_add_one,hb];simp
  rw[htk]at hend
  refine⟨fun _ h'=>∃(l:List Nat) (els:List D) (W:LSq),(∀x,x∈O.filter (qC c)->x∈l)/\(∀x∈l,x∈O)/\endF (fS c) (O.take k).reverse l=de c O/\LM (cR c l) els W/\Vs h' ((m,.arr 1 els)::(W++L)),?_,?_⟩
  ·rintro f' h' ⟨l2,els2,W2,g1,g2,g3,g4,g5⟩
   rw[GR (by omega) (by omega)]
   simp only[ab,true_and]
   exact⟨k,by omega,l2,els2,W2,rfl,by omega,g1,g2,g3,g4,g5⟩
  refine UE hb ?_
  have hEl:∀e,e∈cR c l->(∀y∈e,y<(cR c l).length)/\e.length<=1000:=fun e he=>by
   obtain⟨a,ha⟩:=aO he
   have ea:gL (cR c l) a=e:=by unfold gL;rw[ha];rfl
   rw[fI]at ea
   rw[bF]
   have e2:(edg c a).length<=2:=nX
   split at ea
   ·split at ea
    ·subst ea;exact⟨fun y hy=>by simp at hy;omega,by simp⟩
    ·split at ea
     ·subst ea
      refine⟨fun y hy=>?_,by simp;omega⟩
      rcases List.mem_append.1 hy with hy|hy
      ·have:=dM hc hy;omega
      ·simp at hy;omega
     ·subst ea
      exact⟨fun y hy=>by have:=dM hc hy;omega,by omega⟩
   ·subst ea;exact⟨fun y hy=>(by cases hy),by simp⟩
  have V1':Vs h1 ((((m,.arr 1 els1)::W1))++L):=V1
  have wE:LR (((m,.arr 1 els1)::W1)++L) (.ms m 0 (c.b.length+1)) (cR c l):=by
   have:=x1.lr (m:=m)
   rw[bF]at this
   exact this.mono fun y hy=>List.mem_append_left _ hy
  refine Jp V1' wE (by rw[bF];omega) (fun e he=>(hEl e he).1) (by rw[bF];omega) (fun e he=>(hEl e he).2) fun n5 h45 V45=>?_
  have hfl:(jC (cR c l) b (-1)).length=c.b.length+1:=by
   rw[Al fun x y hxy=>?_,bF]
   have:gL (cR c l) x∈cR c l\/gL (cR c l) x=[]:=by
    unfold gL
    cases h:(cR c l)[x]? with
    | none=>exact Or.inr rfl
    | some e=>exact Or.inl (ak h)
   rcases this with h|h
   ·exact(hEl _ h).1 y hxy
   ·rw[h]at hxy;cases hxy
  rw[bF,V45.ia 0 rfl (by omega) (by omega),aA,V45.xI 0 rfl (dq (bo (by rw[hfl];omega))) rfl]
  have V46:Vs h45 ((m,.arr 1 els1)::(W1++L)):=V45.pop
  have hiff:=Nz hc hbN (hpath.1 hbO) (fun x hx=>hOlt x (hl2 x hx)) (fun x hx he=>hl1 x (List.mem_filter.2 ⟨hpath.2 hx,he⟩))
  rw[du]
  cases hr:hasB (jC (cR c l) b (-1)) c.b.length
  ·rw[Bool.not_false,ag]
   have hnr:¬zS (fS c) l b:=fun k=>by rw[hiff.2 k]at hr;cases hr
   have hbl:b∉l:=fun h=>hnr ⟨b,h,.refl⟩
   have hbx:qC c b≠true:=fun h=>hbl (hl1 b (List.mem_filter.2 ⟨hbO,h⟩))
   rw[Ht hnr]at hend
   have hEb:(cR c l)[b]?=some (edg c b):=by
    have:b<(cR c l).length:=by rw[bF];omega
    have e:=fI (c:=c) (l:=l) (b:=b)
    rw[if_pos hbN,if_neg hbx,if_neg hbl]at e
    unfold gL at e
    rw[aC this]at e ⊢
    simp only[Option.getD_some]at e
    rw[e]
   have hel:b<els1.length:=by rw[x1.len,bF];omega
   obtain⟨e,he⟩:∃e,els1[b]?=some e:=⟨els1[b],aC hel⟩
   obtain⟨he1,hew⟩:=x1.el b e _ he hEb
   have dO:∀{h:Heap}{K:D->Prop},ae PP (.iadd (.c (.sl (bb O))) (.c (.int .i64 (k:Int))) 1) h K=K (.vp (nD b) 0):=fun {h K}=>IL (by omega) (by rw[aA];exact gd hb) rfl
   have dm:∀{h:Heap}{X:LSq}{K:D->Prop},Vs h (X++(m,.arr 1 els1)::(W1++L))->ae PP (.iadd (.c (.ms m 0 (c.b.length+1))) (.c (nD b)) 1) h K=K (.ptr m b 0):=fun {h X K} V=>by
    have ix:(X++(m,Slot.arr 1 els1)::(W1++L))[X.length]?=some (m,.arr 1 els1):=by rw[List.getElem?_append_right (Nat.le_refl _),Nat.sub_self];rfl
    rw[nD,V.GB _ ix (by omega) (by omega),aA]
   have dl:∀{h:Heap}{X:LSq}{K:D->Prop},Vs h (X++(m,.arr 1 els1)::(W1++L))->ae PP (.ld (.c (.ptr m b 0)) 1 false) h K=K e:=fun {h X K} V=>by
    have ix:(X++(m,Slot.arr 1 els1)::(W1++L))[X.length]?=some (m,.arr 1 els1):=by rw[List.getElem?_append_right (Nat.le_refl _),Nat.sub_self];rfl
    rw[V.EF _ ix he he1]
   have V46':Vs h45 ([]++(m,.arr 1 els1)::(W1++L)):=V46
   have ldn:∀{h:Heap}{K:D->Prop},ae PP (.ld (.c (.vp (nD b) 0)) 1 false) h K=K (nD b):=fun {h K}=>Hx rfl
   simp only[↓dO,↓ldn,↓dm V46',↓dl V46']
   refine IQ ?_
   have e2:(edg c b).length<=2:=nX
   refine V46.Jh fun n58 h59 V59=>?_
   have V59':Vs h59 ([(n58,.arr 1 [])]++(m,.arr 1 els1)::(W1++L)):=V59
   refine⟨by simp only[↓dO,↓ldn,↓dm V59',↓dl V59',ab,and_self],?_⟩
   refine V59.Gr (els:=[]) (ys:=bb (edg c b)) (fun {K} hk=>B8.QZ V59 (hew.mono fun y hy=>by simp[hy]) hk) (fun y hy=>qq y hy) (by rw[aZ];simp;omega) (by rw[aZ];simp;omega) fun n66 h67 V67=>?_
   simp only[List.nil_append,List.length_nil,Nat.zero_add]at V67 ⊢
   have V67':Vs h67 ([(n66,.arr 1 (bb (edg c b)))]++(m,.arr 1 els1)::(W1++L)):=V67
   refine⟨by simp only[↓dO,↓ldn,↓dm V67',↓dl V67',ab,and_self],?_⟩
   refine V67.Gr (ys:=bb [c.b.length]) (fun {K} hk=>Md hk) (fun y hy=>qq y hy) (by rw[aZ,aZ];simp;omega) (by rw[aZ,aZ];simp;omega) fun n70 h71 V71=>?_
   have V71':Vs h71 ([(n70,.arr 1 (bb (edg c b)++bb [c.b.length]))]++(m,.arr 1 els1)::(W1++L)):=V71
   refine⟨by simp only[↓dO,↓ldn,↓dm V71',↓dl V71',ab,and_self],?_⟩
   rw[dm V71']
   have V72:=V71.swap
   refine V72.uK 0 rfl hel rfl x1.one fun h76 V76=>?_
   simp only[List.set_cons_zero]at V76
   simp only[ab,true_and]
   have eN:bb (edg c b)++bb [c.b.length]=bb (edg c b++[c.b.length]):=by simp[bb]
   have eL:(bb (edg c b)).length+(bb [c.b.length]).length=(edg c b++[c.b.length]).length:=by simp[bb]
   rw[eN,eL]at V76
   refine⟨l++[b],_,(n70,.arr 1 (bb (edg c b++[c.b.length])))::W1,fun x hx=>by simp[hl1 x hx],fun x hx=>?_,hend,?_,V76⟩
   ·rcases List.mem_append.1 hx with hx|hx
    ·exact hl2 x hx
    ·simp at hx;subst hx;exact hbO
   ·have:=x1.set (b:=b) (n:=n70) (l:=edg c b++[c.b.length]) (by rw[bF];omega)
    rw[NA hbN hbx]at this
    exact this
  ·rw[Bool.not_true,af]
   simp only[ab,true_and]
   have hyr:=hiff.1 hr
   refine⟨l,els1,W1,hl1,hl2,?_,x1,V46⟩
   rw[<- hend,endF,if_pos (by simpa using hyr)]
end
theorem Qh {c:Code}(hc:bS c){h:Heap}{L:LSq}{KH:HKq}(V0:Vs h L) (hK:∀O m X h',u4 (fS c) c.b.length 0 O->Vs h' (X++L)->LR X (.ms m 0 (c.b.length+1)) (cR c (de c O))->KH (.ms m 0 (c.b.length+1)) h'):ai PP oS [c.e] h KH:=by
 have hnb:=hc.nb
 refine aT zr (aJ _ _ _) rfl (yS _ _) ?_
 unfold tD
 refine V0.box c.dS.one fun n2 h3 V3=>?_
 rw[show aa PP (.ld (.c (.ptr n2 0 0)) 8 true) h3=fun KH=>KH c.e h3 from funext fun KH=>V3.lI 0 rfl rfl]
 refine Kq hc V3 fun m0 h7 V7=>?_
 refine V7.Jh fun n8 h9 V9=>?_
 refine V9.Vy fun n10 h11 V11=>?_
 have r10:=V11.get 0 _ _ rfl
 have hlen:((fS c).map fun l=>D.sl (bb l)).length=c.b.length:=by rw[aw,bV]
 rw[show D.ms m0 0 c.b.length=.ms m0 0 ((fS c).map fun l=>D.sl (bb l)).length by rw[hlen]]
 refine Vs.Gr (ys:=[.sl []]) V11.swap (fun hk=>⟨[.sl []],by rw[r10];rfl,by simp,hk⟩) (fun y hy=>by simp at hy;subst hy;intro z hz;simp[D.cells]at hz;subst hz;rfl) (by rw[hlen];simp;omega) (by rw[hlen];simp;omega) fun m h13 V13=>?_
 rw[hlen]
 have V13':Vs h13 ((m,.arr 1 ((oX c 0).map fun l=>.sl (bb l)))::(([]:LSq)++(n2,.box c.e)::L)):=by
  have:=V13.erase 1
  simp only[List.eraseIdx_cons_succ,List.eraseIdx_cons_zero]at this
  rw[Sb]
  simpa[bb] using this
 rw[V13'.Lb (s:=.box c.e) (by simp),V13'.Ai (cs:=[.int .i64 c.group,.int .i64 c.sub,.int .i64 c.regs,.int .i64 c.slots,.int .i64 c.params,.sl (c.arrays.map vc.e),.sl (c.loops.map Loop.e),.sl (c.b.map Block.e)]) (j:=0+7) (by simp only[List.mem_cons,List.mem_append];exact Or.inr (Or.inr (Or.inl rfl))) rfl,bX,aw,V13'.lI 1 (s:=8) rfl rfl,show D.agg [.int .i64 c.group,.int .i64 c.sub,.int .i64 c.regs,.int .i64 c.slots,.int .i64 c.params,.sl (c.arrays.map vc.e),.sl (c.loops.map Loop.e),.sl (c.b.map Block.e)]=c.e from rfl]
 refine bO (PW hc) (fun d hd=>by simp at hd;subst hd;exact c.dS.pair) ?_
 rintro _ ⟨O,ho,rfl⟩
 refine⟨fun _ h'=>∃els W,LM (oX c c.b.length) els W/\Vs h' ((m,.arr 1 els)::(W++(n2,.box c.e)::L)),?_,NC hc (by simp) LM.data V13' fun h' els W x V=>⟨els,W,x,V⟩⟩
 rintro f h25 ⟨els,W,x,V25⟩
 refine⟨fun _ h'=>∃els W,LM (cR c (de c O)) els W/\Vs h' ((m,.arr 1 els)::(W++(n2,.box c.e)::L)),?_,?_⟩
 ·rintro f2 h28 ⟨els2,W2,x2,V28⟩
  have wl:=x2.lr (m:=m)
  rw[bF]at wl
  refine hK O m ((m,.arr 1 els2)::W2) h28 ho ?_ wl
  exact V28.sub (.cons_cons _ (List.Sublist.append (.refl _) (List.sublist_cons_self _ _)))
 rw[Di]
 have hO1:O.length<=1000000:=by
  obtain⟨hnd,hpath⟩:=EZ hc ho
  have:O.length<=c.b.length:=po hnd fun x hx=>by
   have:=hpath.1 hx
   clear hx
   induction this with
   | refl=>omega
   | step _ e _=>exact dM hc e
  omega
 rw[GR (by omega) (by omega)]
 rw[Lf (O:=O)]at x
 exact PA hc ho x V25 fun h' els W x V=>⟨els,W,x,V⟩
end Go.Am
namespace Go.Am
open Go Go.Proofs
theorem Qk {F:List (List Nat)}{a b:Nat}{h:Heap}{L:LSq}{vF:D}{KH:HKq}(V:Vs h L) (wF:LR L vF F) (hF:1<=F.length/\F.length<=1000) (hE:∀l∈F,(∀x∈l,x<F.length)/\l.length<=1000) (ha:a<F.length)
  (hK:∀h',Vs h' L->KH (.bool (o4 F a b)) h'):ai PP dA [vF,nD a,nD b] h KH:=by
 have hgE:∀x y,y∈gL F x->y<F.length:=fun x y=>mR hE
 refine aT AM (aJ _ _ _) rfl (AB _ _ _ _) ?_
 unfold vI
 rw[nD,nD,bQ]
 by_cases hab:a=b
 ·rw[decide_eq_true (by omega)]
  simp only[p9 (P:=PP),cq,if_true]
  have:=hK h V
  unfold o4 at this;rw[decide_eq_true hab]at this
  exact this
 ·rw[decide_eq_false (by omega)]
  simp only[xK (P:=PP)]
  refine Jp (s:=a) (w:=(b:Int)) V wF hF.2 (fun l hl=>(hE l hl).1) ha (fun l hl=>(hE l hl).2) fun n h' V'=>?_
  have hlt:F.length-1<(jC F a (b:Int)).length:=by rw[Al hgE];omega
  rw[LR.len V' (wF.mono fun x hx=>List.mem_cons_of_mem _ hx),GR (by omega) (by omega),show((F.length:Int)-1)=((F.length-1:Nat):Int) by omega,V'.ia 0 rfl (by omega) (by omega),aA,V'.xI 0 rfl (dq (bo hlt)) rfl,du,cq]
  simp only[aE,if_false]
  have:=hK h' V'.pop
  unfold o4 at this;rw[decide_eq_false hab,Bool.false_or]at this
  exact this
noncomputable def uS (c:Code) (O:List Nat) (a b:Nat):Bool:=hasB (da c) a&&hasB (da c) b&&decide ((edg c a).length=2)&&(decide (a=b) || !o4 (cR c (de c O)) a b)&&(edg c a).any fun t=>o4 (cR c (de c O)) t b
theorem Hy {c:Code}(hc:bS c){O O':List Nat}{at' U:List Int}(D:wC c O O' at' U){a b:Nat}(ha:a<c.b.length) (hb:b<c.b.length):uS c O a b=true↔Sd c a b:=by
 rw[Kf hc D]
 unfold uS Hw
 simp only[Bool.and_eq_true,Bool.or_eq_true,decide_eq_true_eq,List.any_eq_true,Bool.not_eq_true']
 rw[cI ha,cI hb]
 have key:∀{t:Nat},t∈edg c a->Path (edg c) 0 a->(o4 (cR c (de c O)) t b=true↔Dm c.b.length (pB c O O') b t):=fun ht hp=>Gb hc D ((D.path hc).2 (.step hp ht)) hb
 constructor
 ·rintro⟨⟨⟨⟨h1,h2⟩,h3⟩,h4⟩,t,ht,h5⟩
  refine⟨(D.path hc).2 h1,h3,⟨t,ht,(key ht h1).1 h5⟩,?_⟩
  rcases h4 with h4|h4
  ·exact Or.inl h4.symm
  ·refine Or.inr fun k=>?_
   rw[(Gb hc D ((D.path hc).2 h1) hb).2 k]at h4;cases h4
 ·rintro⟨h1,h3,⟨t,ht,h5⟩,h4⟩
  have hp:=(D.path hc).1 h1
  have htO:t∈O:=(D.path hc).2 (.step hp ht)
  have hbO:Path (edg c) 0 b:=by
   by_cases hbO:b∈O
   ·exact(D.path hc).1 hbO
   ·exfalso
    have hch:=(D.u.ch t b (D.b.all t htO)).2 h5
    have key:∀{x y:Nat},Ch c.b.length (upF U) x y->upF U x≠none->upF U y≠none:=fun h=>by
     induction h with
     | refl _=>exact id
     | step _ hy _ ih=>exact fun _=>ih (D.u.tr.nd _ _ hy).2
    have hub:=key hch (D.u.al t (D.b.all t htO))
    obtain⟨z,hz⟩:∃z,upF U b=some z:=by
     cases hu:upF U b with
     | none=>exact absurd hu hub
     | some z=>exact⟨z,rfl⟩
    exact hbO ((D.mem hc hb).1 (D.u.tr.nd b z hz).1)
  refine⟨⟨⟨⟨hp,hbO⟩,h3⟩,?_⟩,t,ht,(key ht hp).2 h5⟩
  rcases h4 with h4|h4
  ·exact Or.inl h4.symm
  ·refine Or.inr ?_
   cases hh:o4 (cR c (de c O)) a b
   ·rfl
   ·exact absurd ((Gb hc D h1 hb).1 hh) h4
noncomputable def As (c:Code) (O:List Nat) (b k:Nat):List Nat:=(List.range k).filter fun a=>uS c O a b
theorem Fg {c:Code}{O:List Nat}{b k:Nat}:As c O b (k+1)=if uS c O k b=true then As c O b k++[k] else As c O b k:=by
 unfold As
 rw[List.range_succ,List.filter_append]
 cases h:uS c O k b<;>simp[h]
theorem Li {c:Code}(hc:bS c){O O':List Nat}{at' U:List Int}(D:wC c O O' at' U){b:Nat}(hb:b<c.b.length):As c O b c.b.length=gL (ji c) b:=by
 rw[yw hb]
 unfold As JW
 refine List.filter_congr fun a ha=>?_
 have:=Hy hc D (List.mem_range.1 ha) hb
 rw[Bool.eq_iff_iff,this];simp
noncomputable def jh (c:Code) (O:List Nat) (i k:Nat):List (List Nat):=(List.range c.b.length).map fun b=>if b<i then gL (ji c) b else if b=i then As c O b k else []
theorem kZ {c:Code}{O:List Nat}{i k:Nat}:(jh c O i k).length=c.b.length:=by simp[jh]
theorem mu {c:Code}{O:List Nat}{i k b:Nat}(hb:b<c.b.length):gL (jh c O i k) b=if b<i then gL (ji c) b else if b=i then As c O b k else []:=by
 unfold gL jh
 rw[List.getElem?_map,List.getElem?_range hb];rfl
theorem Sg {c:Code}{O:List Nat}:jh c O 0 0=List.replicate c.b.length []:=by
 refine jA (by simp[jh]) fun b hb=>?_
 rw[kZ]at hb
 rw[mu hb,if_neg (by omega)]
 have:gL (List.replicate c.b.length ([]:List Nat)) b=[]:=by unfold gL;rw[List.getElem?_replicate,if_pos hb];rfl
 rw[this]
 split
 ·simp[As]
 ·rfl
theorem Lk {c:Code}(hc:bS c){O O':List Nat}{at' U:List Int}(D:wC c O O' at' U){i:Nat}:jh c O i c.b.length=jh c O (i+1) 0:=by
 refine jA (by simp[jh]) fun b hb=>?_
 rw[kZ]at hb
 rw[mu hb,mu hb]
 by_cases h1:b<i
 ·rw[if_pos h1,if_pos (by omega)]
 ·rw[if_neg h1]
  by_cases h2:b=i
  ·subst h2;rw[if_pos rfl,if_pos (by omega),Li hc D hb]
  ·rw[if_neg h2,if_neg (by omega)]
   split
   ·simp[As]
   ·rfl
theorem Ll {c:Code}{O:List Nat}:jh c O c.b.length 0=ji c:=by
 refine jA (by rw[kZ,tf]) fun b hb=>?_
 rw[kZ]at hb
 rw[mu hb,if_pos hb]
theorem Lj {c:Code}{O:List Nat}{i k:Nat}(h:uS c O k i=false):jh c O i (k+1)=jh c O i k:=by
 refine jA (by simp[jh]) fun b hb=>?_
 rw[kZ]at hb
 rw[mu hb,mu hb]
 by_cases h2:b=i
 ·subst h2;simp[Fg,h]
 ·rw[if_neg h2,if_neg h2]
theorem NJ {c:Code}{O:List Nat}{i k:Nat}(hi:i<c.b.length) (h:uS c O k i=true):(jh c O i k).set i (As c O i k++[k])=jh c O i (k+1):=by
 refine jA (by simp[jh]) fun b hb=>?_
 rw[F0 (by rw[kZ];exact hi)]
 rw[List.length_set,kZ]at hb
 rw[mu hb,mu hb]
 by_cases h2:b=i
 ·subst h2;simp[Fg,h]
 ·rw[if_neg h2,if_neg h2,if_neg h2]
end Go.Am
namespace Go.Am
open Go Go.Proofs
theorem Qq {P:Program}{h:Heap}{A:(HKq)->Prop}{KH:HKq}:vguard (.bool true) true A h KH=A KH:=by rw[jl];simp
theorem Qr {P:Program}{h:Heap}{A:(HKq)->Prop}{KH:HKq}:vguard (.bool false) true A h KH=KH gU h:=by rw[jl];simp
theorem GK {P:Program}{h:Heap}{w:Bool}{A:(HKq)->Prop}{KH:HKq}:vguard gU w A h KH=KH gU h:=xN
theorem Pz {c:Code}(hc:bS c){l:List Nat}:∀e,e∈cR c l->(∀y∈e,y<(cR c l).length)/\e.length<=1000:=fun e he=>by
 obtain⟨a,ha⟩:=aO he
 have ea:gL (cR c l) a=e:=by unfold gL;rw[ha];rfl
 rw[fI]at ea
 rw[bF]
 have e2:(edg c a).length<=2:=nX
 split at ea
 ·split at ea
  ·subst ea;exact⟨fun y hy=>by simp at hy;omega,by simp⟩
  ·split at ea
   ·subst ea
    refine⟨fun y hy=>?_,by simp;omega⟩
    rcases List.mem_append.1 hy with hy|hy
    ·have:=dM hc hy;omega
    ·simp at hy;omega
   ·subst ea
    exact⟨fun y hy=>by have:=dM hc hy;omega,by omega⟩
 ·subst ea;exact⟨fun y hy=>(by cases hy),by simp⟩
theorem Nn {c:Code}(hc:bS c):jC (fS c) 0 (-1)=da c:=by
 have hnb:=hc.nb
 have hE:∀a b,b∈gL (fS c) a->b<(fS c).length:=fun a b h=>by rw[jB]at h;rw[bV];exact dM hc h
 refine Cu (by rw[Al hE,bV]) fun k=>?_
 rw[An hE (by rw[bV];omega) (by omega)]
 have e:F9 (fS c) (-1)=edg c:=funext fun a=>by
  unfold F9
  rw[jB,List.filter_eq_self.2 fun b _=>by simp]
 rw[e]
section
variable {c:Code}{O O':List Nat}{at' U:List Int}{h:Heap}{L:LSq}{v vF:D}{n2 nr i:Nat}{J:HJq}
theorem NI {b k:Nat}:(As c O b k).length<=k:=by
 have:=List.length_filter_le (fun a=>uS c O a b) (List.range k)
 rw[List.length_range]at this
 exact this
theorem Sm (hc:bS c) (h2:(n2,.box c.e)∈L) (hr:(nr,.arr 1 (bL (da c)))∈L) (wF:LR L vF (cR c (de c O))) (hi:i<c.b.length) (R:gJ h L v (jh c O i 0)){f:Nat->D}(hf:f 6=nD i) (hJ:∀h',gJ h' L v (jh c O i c.b.length)->J [] h') :
  iL h (.ptr n2 0 0) (.ms nr 0 c.b.length) vF v f J:=by
 have hnb:=hc.nb
 unfold iL
 refine⟨fun m q h'=>∃k:Nat,q=[nD k]/\k<=c.b.length/\m=c.b.length-k/\gJ h' L v (jh c O i k),_,⟨0,rfl,by omega,rfl,R⟩,?_⟩
 rintro m f1 h1 ⟨k,hq,hk,hm,R1⟩
 simp only[aq,and_true]at hq
 obtain⟨X,V,w,back⟩:=R1.lift
 have hM:∀x∈L,x∈X++L:=fun x hx=>List.mem_append_right _ hx
 have hbk:∀{KH:HKq}{h:Heap},Vs h (X++L)->aa PP (.fadd (.c (.ptr n2 0 0)) 7) h (fun a h1=>aa PP (.ld (.c a) 1 false) h1 KH)=KH (.sl (c.b.map Block.e)) h:=fun {KH h} V=>by
  rw[V.Lb (s:=.box c.e) (hM _ h2),V.Ai (cs:=[.int .i64 c.group,.int .i64 c.sub,.int .i64 c.regs,.int .i64 c.slots,.int .i64 c.params,.sl (c.arrays.map vc.e),.sl (c.loops.map Loop.e),.sl (c.b.map Block.e)]) (hM _ h2) rfl]
 rw[hf,hq,hbk V,bX,aw]
 by_cases hlt:k<c.b.length
 ·rw[nD,jZ (by omega),ag]
  refine⟨fun _ h'=>gJ h' L v (jh c O i (k+1)),fun f' h' R'=>?_,?_⟩
  ·rw[cU (by omega) (by omega)]
   simp only[ab,true_and]
   exact⟨_,by omega,k+1,rfl,by omega,rfl,R'⟩
  obtain⟨B,hB⟩:∃B,c.b[k]?=some B:=⟨c.b[k],aC hlt⟩
  have skip:∀h',Vs h' (X++L)->uS c O k i=false->gJ h' L v (jh c O i (k+1)):=fun h' V' hd=>by rw[Lj hd];exact back h' V'
  rw[hbk V,xp hB,La,Ly]
  refine bO (Jd (hc.t B (ak hB))) (fun d hd=>by simp at hd;subst hd;exact B.t.dS.pair) ?_
  rintro _ rfl
  rw[<- jE hB]
  obtain⟨ir,hir⟩:=aO (hM _ hr)
  have iar:∀{x:Nat}{KH:HKq}{h:Heap},x<c.b.length->Vs h (X++L)->aa PP (.iadd (.c (.ms nr 0 c.b.length)) (.c (nD x)) 1) h KH=KH (.ptr nr x 0) h:=fun {x KH h} hx V=>by rw[nD,V.ia ir hir (by omega) (by omega),aA]
  have ldr:∀{x:Nat}{KH:HKq}{h:Heap},x<c.b.length->Vs h (X++L)->aa PP (.ld (.c (.ptr nr x 0)) 1 false) h KH=KH (.bool (hasB (da c) x)) h:=fun {x KH h} hx V=>V.xI ir hir (dq (bo (by rw[kV];exact hx))) rfl
  rw[show D.int .i64 (k:Int)=nD k from rfl,iar hlt V,ldr hlt V,du]
  cases g1:hasB (da c) k
  ·simp only[Bool.not_false,p9 (P:=PP),GK (P:=PP),cq,if_true,ag,ab,true_and]
   exact skip h1 V (by unfold uS;rw[g1];simp)
  simp only[Bool.not_true,xK (P:=PP)]
  rw[iar hi V,ldr hi V,du,cq]
  cases g2:hasB (da c) i
  ·simp only[Bool.not_false,aE,if_false,p9 (P:=PP),GK (P:=PP),cq,if_true,ag,ab,true_and]
   exact skip h1 V (by unfold uS;rw[g2];simp)
  simp only[Bool.not_true,aE,if_false,xK (P:=PP)]
  rw[Di,gK,cq]
  by_cases g3:(edg c k).length≠2
  ·rw[decide_eq_false (by omega)]
   simp only[Bool.not_false,aE,if_false,p9 (P:=PP),GK (P:=PP),cq,if_true,ag,ab,true_and]
   exact skip h1 V (by unfold uS;rw[decide_eq_false g3];simp)
  replace g3:(edg c k).length=2:=Decidable.not_not.1 g3
  rw[decide_eq_true (by omega)]
  simp only[Bool.not_true,aE,if_false,xK (P:=PP)]
  rw[show ∀K:D->Prop,vbin .neq (nD k) (nD i) K=K (.bool !decide ((k:Int)=(i:Int))) from fun K=>gK]
  obtain⟨t0,t1,ht⟩:∃t0 t1,edg c k=[t0,t1]:=by
   match e:edg c k,g3 with
   | [a,b],_=>exact⟨a,b,rfl⟩
  have h0:t0<c.b.length:=dM hc (a:=k) (by rw[ht];simp)
  have h1':t1<c.b.length:=dM hc (a:=k) (by rw[ht];simp)
  have aft:∀{x:Nat}{KH:HKq}{h:Heap},x<c.b.length->Vs h (X++L)->(∀h',Vs h' (X++L)->KH (.bool (o4 (cR c (de c O)) x i)) h')->ai PP dA [vF,nD x,nD i] h KH:=fun {x KH h} hx V hK =>
   Qk V (wF.mono hM) (by rw[bF];omega) (Pz hc) (by rw[bF];omega) hK
  have d0:uS c O k i=((decide (k=i) || !o4 (cR c (de c O)) k i)&&(o4 (cR c (de c O)) t0 i||o4 (cR c (de c O)) t1 i)):=by
   unfold uS;rw[g1,g2,decide_eq_true g3,ht];simp
  have eN:(bb (edg c k))=[nD t0,nD t1]:=by rw[ht];rfl
  have fin:∀h',Vs h' (X++L)->uS c O k i=true->aa PP (.iadd (.c v) (.c (nD i)) 1) h' fun a170 h171 =>
    aa PP (.ld (.c a170) 1 false) h171 fun a172 h173 =>
    aa PP (.bldS true 1 1 (.int .i64 0) [(0,(.c (nD k)))]) h173 fun a174 h175 =>
    aa PP (.app (.c a172) (.c a174) 1 8 (.int .i64 0)) h175 fun a176 h177 =>
    aa PP (.iadd (.c v) (.c (nD i)) 1) h177 fun a178 h179 =>
    aa PP (.st (.c a178) (.c a176) 1) h179 fun a180 h181=>gJ h181 L v (jh c O i (k+1)):=fun h' V' hd=>by
   have hget:(jh c O i k)[i]?=some (As c O i k):=by
    have e:=mu (c:=c) (O:=O) (i:=i) (k:=k) hi
    rw[if_neg (Nat.lt_irrefl i),if_pos rfl]at e
    have hl:i<(jh c O i k).length:=by rw[kZ];exact hi
    unfold gL at e
    rw[aC hl]at e ⊢
    simp only[Option.getD_some]at e;rw[e]
   refine(back h' V').app hget (by have:=NI (c:=c) (O:=O) (b:=i) (k:=k);omega) fun h2' R2=>?_
   rw[NJ hi hd]at R2
   exact R2
  have rest:∀h',Vs h' (X++L)->(decide (k=i) || !o4 (cR c (de c O)) k i)=true->aa PP (.iadd (.c (.sl (bb (edg c k)))) (.c (.int .i64 0)) 1) h' fun a138 h139 =>
    aa PP (.ld (.c a138) 1 false) h139 fun a140 h141 =>
    ai PP dA [vF,a140,nD i] h141 fun a142 h143 =>
    vguard a142 false (fun G144=>G144 vF h143) h143 fun a145 h146 =>
    vguard a142 false (fun G147=>G147 (.sl (bb (edg c k))) h146) h146 fun a148 h149 =>
    vguard a142 false (fun G150=>aa PP (.iadd (.c a148) (.c (.int .i64 1)) 1) h149 fun a153 h154=>G150 a153 h154) h149 fun a151 h152 =>
    vguard a142 false (fun G155=>aa PP (.ld (.c a151) 1 false) h152 fun a158 h159=>G155 a158 h159) h152 fun a156 h157 =>
    vguard a142 false (fun G160=>G160 (nD i) h157) h157 fun a161 h162 =>
    vguard a142 false (fun G163=>ai PP dA [a145,a156,a161] h162 fun a166 h167=>G163 a166 h167) h162 fun a164 h165 =>
    aa PP (.pick (.c a142) (.c (.bool true)) (.c a164)) h165 fun a168 h169 =>
    vcond a168 (aa PP (.iadd (.c v) (.c (nD i)) 1) h169 fun a170 h171 =>
     aa PP (.ld (.c a170) 1 false) h171 fun a172 h173 =>
     aa PP (.bldS true 1 1 (.int .i64 0) [(0,(.c (nD k)))]) h173 fun a174 h175 =>
     aa PP (.app (.c a172) (.c a174) 1 8 (.int .i64 0)) h175 fun a176 h177 =>
     aa PP (.iadd (.c v) (.c (nD i)) 1) h177 fun a178 h179 =>
     aa PP (.st (.c a178) (.c a176) 1) h179 fun a180 h181=>gJ h181 L v (jh c O i (k+1))) (gJ h169 L v (jh c O i (k+1))):=fun h' V' g4=>by
   rw[g4,Bool.true_and]at d0
   rw[eN,lD (d:=nD t0) (esz:=1) (by omega) rfl rfl,uR rfl]
   refine aft h0 V' fun h2' V2=>?_
   cases g5:o4 (cR c (de c O)) t0 i
   ·simp only[xK (P:=PP)]
    rw[lD (d:=nD t1) (esz:=1) (by omega) rfl rfl,uR rfl]
    refine aft h1' V2 fun h3' V3=>?_
    rw[cq]
    simp only[aE,if_false]
    rw[g5,Bool.false_or]at d0
    cases g6:o4 (cR c (de c O)) t1 i
    ·rw[af];exact skip h3' V3 (by rw[d0,g6])
    ·rw[ag];exact fin h3' V3 (by rw[d0,g6])
   ·simp only[p9 (P:=PP),cq,if_true,ag]
    exact fin h2' V2 (by rw[d0,g5];rfl)
  by_cases g4:k=i
  ·rw[decide_eq_true (p:=(k:Int)=(i:Int)) (by omega)]
   simp only[Bool.not_true,aE,if_false,Qr (P:=PP),GK (P:=PP),cq,af,ab,true_and]
   exact rest h1 V (by rw[decide_eq_true g4];rfl)
  ·rw[decide_eq_false (p:=(k:Int)=(i:Int)) (by omega)]
   simp only[Bool.not_false,aE,if_false,Qq (P:=PP),cq,ab,true_and]
   refine aft hlt V fun h2' V2=>?_
   simp only[if_true]
   cases g5:o4 (cR c (de c O)) k i
   ·rw[af]
    exact rest h2' V2 (by rw[g5,decide_eq_false g4];rfl)
   ·rw[ag]
    exact skip h2' V2 (by rw[d0,g5,decide_eq_false g4];rfl)
 ·have:k=c.b.length:=by omega
  subst this
  rw[nD,jX (by omega),af]
  simp only[ab,true_and]
  exact hJ h1 (back h1 V)
end
theorem Ba {c:Code}(hc:bS c){O0 O0':List Nat}{at' U:List Int}(D0:wC c O0 O0' at' U){h:Heap}{L:LSq}{KH:HKq}(V:Vs h L) (hK:∀v X h',Vs h' (X++L)->LR X v (ji c)->KH v h'):ai PP iE [c.e] h KH:=by
 have hnb:=hc.nb
 refine aT xB (aJ _ _ _) rfl (xt _ _) ?_
 unfold rb
 refine V.box c.dS.one fun n2 h3 V1=>?_
 rw[V1.tc 0 (s:=8) rfl rfl,V1.tc 0 (s:=8) rfl rfl]
 refine Kq hc V1 fun m0 h7 V7=>?_
 refine⟨⟨by rw[V7.tc 1 (s:=8) rfl rfl,ab];trivial,trivial⟩,?_⟩
 have wE:LR ((m0,.arr 1 ((fS c).map fun l=>.sl (bb l)))::(n2,.box c.e)::L) (.ms m0 0 c.b.length) (fS c):=by
  have:=(LM.data (E:=fS c)).lr (m:=m0)
  rw[bV]at this
  exact this.mono fun x hx=>by simp at hx;subst hx;simp
 refine Jp (s:=0) (w:=-1) V7 wE (by rw[bV];omega) (fun l hl b hb=>?_) (by rw[bV];omega) (fun l hl=>?_) fun nr h10 V10=>?_
 ·obtain⟨a,ha⟩:=aO hl
  have:gL (fS c) a=l:=by unfold gL;rw[ha];rfl
  rw[jB]at this;subst this
  rw[bV];exact dM hc hb
 ·obtain⟨a,ha⟩:=aO hl
  have:gL (fS c) a=l:=by unfold gL;rw[ha];rfl
  rw[jB]at this;subst this
  have e2:(edg c a).length<=2:=nX
  omega
 rw[bV]
 rw[Nn hc]at V10
 refine⟨⟨by rw[V10.tc 2 (s:=8) rfl rfl,ab];trivial,trivial⟩,?_⟩
 rw[show D.agg [.int .i64 c.group,.int .i64 c.sub,.int .i64 c.regs,.int .i64 c.slots,.int .i64 c.params,.sl (c.arrays.map vc.e),.sl (c.loops.map Loop.e),.sl (c.b.map Block.e)]=c.e from rfl]
 refine Qh hc V10 fun O m X h13 hO V13 wF=>?_
 obtain⟨O',hO',D1⟩:∃O',O'=O0/\wC c O' O0' at' U:=⟨O0,rfl,D0⟩
 have eO:O=O0:=u4.SU hO D0.b.ord
 subst eO
 have hbk:∀{KH:HKq}{h:Heap}{M:LSq},Vs h M->(n2,.box c.e)∈M->aa PP (.fadd (.c (.ptr n2 0 0)) 7) h (fun a h1=>aa PP (.ld (.c a) 1 false) h1 KH)=KH (.sl (c.b.map Block.e)) h:=fun {KH h M} V h2=>by
  rw[V.Lb (s:=.box c.e) h2,V.Ai (cs:=[.int .i64 c.group,.int .i64 c.sub,.int .i64 c.regs,.int .i64 c.slots,.int .i64 c.params,.sl (c.arrays.map vc.e),.sl (c.loops.map Loop.e),.sl (c.b.map Block.e)]) h2 rfl]
 rw[hbk V13 (by simp),bX,aw]
 refine V13.JS (by omega) (by omega) fun nB h20 V20=>?_
 have R0:=gJ.Va V20
 rw[<- Sg (c:=c) (O:=O)]at R0
 let M:LSq:=X++(nr,.arr 1 (bL (da c)))::(m0,.arr 1 ((fS c).map fun l=>.sl (bb l)))::(n2,.box c.e)::L
 have h2M:(n2,Slot.box c.e)∈M:=by simp[M]
 have hrM:(nr,Slot.arr 1 (bL (da c)))∈M:=by simp[M]
 have wFM:LR M (.ms m 0 (c.b.length+1)) (cR c (de c O)):=wF.mono fun x hx=>by simp[M,hx]
 replace R0:gJ h20 M (.ms nB 0 c.b.length) (jh c O 0 0):=R0
 refine⟨fun _ h'=>gJ h' M (.ms nB 0 c.b.length) (jh c O c.b.length 0),?_,?_⟩
 ·rintro f h23 R23
  rw[Ll]at R23
  obtain⟨Y,V',w',-⟩:=R23.lift
  refine hK _ Y h23 (V'.sub (.append (.refl _) ?_)) w'
  exact(((List.sublist_cons_self _ _).trans (List.sublist_cons_self _ _)).trans (List.sublist_cons_self _ _)).trans (List.sublist_append_right X _)
 unfold m8
 refine⟨fun k q h'=>∃i:Nat,q=[nD i]/\i<=c.b.length/\k=c.b.length-i/\gJ h' M (.ms nB 0 c.b.length) (jh c O i 0),_,⟨0,rfl,by omega,rfl,R0⟩,?_⟩
 rintro k f h1 ⟨i,hq,hi,hk,R1⟩
 simp only[aq,and_true]at hq
 have h2X:∀{X:LSq},(n2,Slot.box c.e)∈X++M:=fun {X}=>List.mem_append_right _ h2M
 obtain⟨X1,Vx,-,back⟩:=R1.lift
 rw[hbk Vx h2X,bX,aw,hq]
 by_cases hlt:i<c.b.length
 ·rw[nD,jZ (by omega),ag]
  refine⟨fun _ h'=>gJ h' M (.ms nB 0 c.b.length) (jh c O i c.b.length),fun f' h' R'=>?_,?_⟩
  ·rw[cU (by omega) (by omega)]
   simp only[ab,true_and]
   rw[Lk hc D0]at R'
   exact⟨_,by omega,i+1,rfl,by omega,rfl,R'⟩
  ·exact Sm hc h2M hrM wFM hlt R1 hq fun h' R'=>R'
 ·have:i=c.b.length:=by omega
  subst this
  rw[nD,jX (by omega),af]
  simp only[ab,true_and]
  exact R1
end Go.Am
namespace Go.Am
open Go Go.Proofs
def DI (R:List Bool) (o:cY):Bool:= !decide (o.kind=2)||hasB R o.n.toNat
theorem BP {U R:List Bool}:sx (uE U R):=ez (by simp[D.vone])
theorem DK {U R:List Bool}{o:cY}(ho:o.kind=2->0<=o.n/\o.n<R.length):aY PP cw [uE U R,o.e] (· = .bool (DI R o)):=by
 refine bx u7 (aJ _ _ _) rfl (uX _ _ _) ?_
 unfold pJ
 refine Vs.nil.box BP.one fun n3 h4 V4=>?_
 refine V4.box o.dS.one fun n5 h6 V6=>?_
 rw[V6.fa 0 rfl,V6.cx 0 (j:=0) rfl rfl,gK]
 unfold DI
 by_cases hk:o.kind=2
 ·rw[decide_eq_true hk]
  obtain⟨h1,h2⟩:=ho hk
  simp only[Bool.not_true,xK (P:=PP)]
  rw[V6.fa 1 rfl,V6.cx 1 (j:=1) rfl rfl,V6.fa 0 rfl,V6.cx 0 (j:=1) rfl rfl,lD (d:=.bool (hasB R o.n.toNat)) (esz:=1) h1 (dq (bo (by omega))) rfl,uR rfl,cq]
  simp only[aE,if_false,Bool.false_or]
  rw[bw]
 ·rw[decide_eq_false hk]
  simp only[Bool.not_false,p9 (P:=PP),GK (P:=PP),cq,if_true,Bool.true_or]
  rw[bw]
theorem NV {x:aX}:aY PP mN [x.e] (· = .bool (!fF x)):=by
 refine bx zl (aJ _ _ _) rfl (yM _ _) ?_
 unfold tx
 refine Vs.nil.box x.dS.one fun n2 h3 V=>?_
 rw[V.fa 0 rfl,V.cx 0 (j:=0) rfl rfl]
 refine⟨fun q h'=>h'=h3/\∃t:Bool,q=[.bool t]/\t=(decide (x.op=1)||decide (x.op=2)||decide (x.op=3)||decide (x.op=4)||decide (x.op=6)),?_,?_⟩
 ·rintro f h' ⟨e,t,hq,ht⟩
  subst e
  simp only[aq,and_true]at hq
  rw[hq]
  cases t with
  | true =>
   rw[ag,bw]
   unfold fF
   rw[<- ht];rfl
  | false =>
   rw[af,bQ]
   by_cases h5:x.op=5
   ·rw[decide_eq_true h5,ag]
    unfold fF
    rw[<- ht,decide_eq_true h5,V.fa 0 rfl,V.cx 0 (j:=0+1) rfl rfl,bQ]
    by_cases g3:x.sub=3
    ·rw[decide_eq_true g3]
     simp only[p9 (P:=PP),GK (P:=PP),cq,if_true]
     rw[bw];simp
    rw[decide_eq_false g3]
    simp only[xK (P:=PP)]
    rw[V.fa 0 rfl,V.cx 0 (j:=0+1) rfl rfl,bQ,cq]
    by_cases g4:x.sub=4
    ·rw[decide_eq_true g4]
     simp only[p9 (P:=PP),GK (P:=PP),cq,if_true,aE,if_false]
     rw[bw];simp
    rw[decide_eq_false g4]
    simp only[xK (P:=PP),aE,if_false]
    rw[V.fa 0 rfl,V.cx 0 (j:=0+1) rfl rfl,bQ,cq]
    simp only[aE,if_false]
    rw[bw];simp
   ·rw[decide_eq_false h5,af,bw]
    unfold fF
    rw[<- ht,decide_eq_false h5];rfl
 ·simp only[bQ,ab,true_and]
  by_cases h1:x.op=1
  ·rw[decide_eq_true h1,ag];exact⟨true,rfl,by simp⟩
  rw[decide_eq_false h1,af]
  by_cases h2:x.op=2
  ·rw[decide_eq_true h2,ag];exact⟨true,rfl,by simp⟩
  rw[decide_eq_false h2,af]
  by_cases h3:x.op=3
  ·rw[decide_eq_true h3,ag];exact⟨true,rfl,by simp⟩
  rw[decide_eq_false h3,af]
  by_cases h4:x.op=4
  ·rw[decide_eq_true h4,ag];exact⟨true,rfl,by simp⟩
  rw[decide_eq_false h4,af]
  exact⟨_,rfl,by simp⟩
theorem Vs.UI {h:Heap}{L:LSq}{KH:HKq}(V:Vs h L) (i:Nat){n j o:Nat}{s:Slot}(hi:L[i]?=some (n,s)):aa PP (.fadd (.c (.ptr n 0 j)) o) h KH=KH (.ptr n 0 (j+o)) h:=by
 have:=V.fa (P:=PP) (o:=o) (KH:=fun _ _=>True) i hi
 rw[ku]at this ⊢
 have hu:(h n).used=true:=by
  have e:((h n).used=true/\True)=True:=this
  exact(of_eq_true e).1
 exact propext ⟨fun hh=>hh.2,fun hk=>⟨hu,hk⟩⟩
theorem Sx {x:aX}:aY PP sQ [x.e] (· = .int .i64 (dE x.d)):=by
 refine bx Eg (aJ _ _ _) rfl (DV _ _) ?_
 unfold Bd
 refine Vs.nil.box x.dS.one fun n2 h3 V=>?_
 rw[V.fa 0 rfl,V.UI 0 rfl,V.cx 0 (j:=0+3+0) rfl rfl,bQ]
 unfold dE
 by_cases hk:x.d.kind=2
 ·rw[decide_eq_true hk,ag,V.fa 0 rfl,V.UI 0 rfl,V.cx 0 (j:=0+3+1) rfl rfl,cH,if_pos hk]
 ·rw[decide_eq_false hk,af,cH,if_neg hk]
theorem PZ {x:Term}:aY PP qn [x.e] (· = .int .i64 (dE x.d)):=by
 refine bx Ck (aJ _ _ _) rfl (B6 _ _) ?_
 unfold yW
 refine Vs.nil.box x.dS.one fun n2 h3 V=>?_
 rw[V.fa 0 rfl,V.UI 0 rfl,V.cx 0 (j:=0+2+0) rfl rfl,bQ]
 unfold dE
 by_cases hk:x.d.kind=2
 ·rw[decide_eq_true hk,ag,V.fa 0 rfl,V.UI 0 rfl,V.cx 0 (j:=0+2+1) rfl rfl,cH,if_pos hk]
 ·rw[decide_eq_false hk,af,cH,if_neg hk]
theorem UH {h:Heap}{L:LSq}{vU vR:D}{U R:List Bool}(V:Vs h L) (wU:BW L vU U) (wR:BW L vR R):(D.agg [vU,vR]).fz h=uE U R/\aN (.agg [vU,vR])/\mB h (.agg [vU,vR]):=by
 have one:∀{v:D}{T:List Bool},BW L v T->v.fzc h=.sl (bL T)/\oE h v:=fun {v T} w=>by
  rcases w with rfl|⟨m,rfl,hm⟩
  ·exact⟨rfl,trivial⟩
  ·have hr:(h m).row=some (1,bL T):=by rw[V.mem hm];rfl
   refine⟨?_,1,_,hr,by simp[bL],fun x hx y hy=>?_⟩
   ·simp only[D.fzc,hr,List.drop_zero]
    rw[List.take_of_length_le (by simp[bL])]
   ·have:=List.mem_of_mem_drop (List.mem_of_mem_take hx)
    simp only[bL,List.mem_map]at this
    obtain⟨b,-,rfl⟩:=this
    simp[D.cells]at hy;subst hy;rfl
 obtain⟨a1,a2⟩:=one wU
 obtain⟨b1,b2⟩:=one wR
 refine⟨?_,fun x hx=>?_,fun x hx=>?_⟩
 ·simp only[D.fz,List.map_cons,List.map_nil,a1,b1];rfl
 ·simp[D.cells]at hx
  rcases hx with rfl|rfl
  ·exact wU.one
  ·exact wR.one
 ·simp[D.cells]at hx
  rcases hx with rfl|rfl
  ·exact a2
  ·exact b2
theorem IP {h:Heap}{L:LSq}{vU vR:D}{U R:List Bool}(V:Vs h L) (wU:BW L vU U) (wR:BW L vR R){o:cY}(ho:o.kind=2->0<=o.n/\o.n<R.length){K:D->Prop}(hK:K (.bool (DI R o))):ae PP (.call cw [.c (.agg [vU,vR]),.c o.e]) h K:=by
 obtain⟨f1,f2,f3⟩:=UH V wU wR
 obtain⟨o1,o2⟩:=o.dS.pair
 obtain⟨g1,g2,g3⟩:=qU (h:=h) o1
 refine⟨.bool (DI R o),?_,fun d hd=>?_,Or.inl rfl,hK⟩
 ·have:(([Arg.c (.agg [vU,vR]),Arg.c o.e]:List Arg).map fun x=>(x.get []).fz h)=[uE U R,o.e]:=by
   simp only[List.map_cons,List.map_nil,Arg.get,f1,g1]
  rw[this]
  exact DK ho
 ·simp[Arg.get]at hd
  rcases hd with rfl|rfl
  ·exact⟨f2,f3,by rw[f1];exact BP.pair.1⟩
  ·exact⟨o2,g3,by rw[g1];exact o1⟩
end Go.Am
namespace Go.Am
open Go Go.Proofs
theorem EP {A:(D->Prop)->Prop}{K:D->Prop}:aF (.bool false) false A K=A K:=by rw[gk];simp
theorem QX {A:(D->Prop)->Prop}{K:D->Prop}:aF (.bool true) false A K=K gU:=by rw[gk];simp
theorem UN {w:Bool}{A:(D->Prop)->Prop}{K:D->Prop}:aF gU w A K=K gU:=um
theorem BW.get {h:Heap}{L:LSq}{KH:HKq}{v:D}{T:List Bool}(V:Vs h L) (w:BW L v T){i:Nat}(hi:i<T.length):aa PP (.iadd (.c v) (.c (nD i)) 1) h (fun a h1=>aa PP (.ld (.c a) 1 false) h1 KH)=KH (.bool (hasB T i)) h:=by
 rcases w with rfl|⟨m,rfl,hm⟩
 ·rw[nD,lD (esz:=1) (d:=.bool (hasB T i)) (by omega) (by rw[aA];exact dq (bo hi)) rfl,uR rfl]
 ·obtain⟨k,hk⟩:=aO hm
  rw[nD,V.ia k hk (by omega) (by omega),aA,V.xI k hk (dq (bo hi)) rfl]
theorem BW.T4 {h:Heap}{L:LSq}{K:D->Prop}{v:D}{T:List Bool}(V:Vs h L) (w:BW L v T){i:Nat}(hi:i<T.length):ae PP (.iadd (.c v) (.c (nD i)) 1) h (fun a=>ae PP (.ld (.c a) 1 false) h K)=K (.bool (hasB T i)):=by
 rcases w with rfl|⟨m,rfl,hm⟩
 ·rw[nD,IL (esz:=1) (d:=.bool (hasB T i)) (by omega) (by rw[aA];exact dq (bo hi)) rfl,Hx rfl]
 ·obtain⟨k,hk⟩:=aO hm
  rw[nD,V.GB k hk (by omega) (by omega),aA,V.EF k hk (dq (bo hi)) rfl]
def L2 (c:Code) (Rc:List Bool) (Dp:List (List Nat)) (U R:List Bool) (b:Nat):Bool:=hasB Rc b&&(gL Dp b).all fun a=>hasB U a&&DI R (nZ c a).t.a
theorem Ko {c:Code}(hc:dX c){h:Heap}{L:LSq}{KH:HKq}{vU vR vD:D}{U R Rc:List Bool}{Dp:List (List Nat)}{b:Nat}(hD:∀l∈Dp,(∀a∈l,a<c.b.length)/\l.length<=1000) (hDl:Dp.length=c.b.length) (V:Vs h L) (wU:BW L vU U) (wR:BW L vR R) (wD:LR L vD Dp) (hU:U.length=c.b.length) (hR:(R.length:Int)=c.regs) (hb:b<c.b.length) (hRc:Rc.length=c.b.length)
  (hK:∀h',Vs h' L->KH (.bool (L2 c Rc Dp U R b)) h'):ai PP kK [c.e,.sl (bL Rc),vD,.agg [vU,vR],nD b] h KH:=by
 have hnb:=hc.g.nb
 refine aT AH (aJ _ _ _) rfl (Aw _ _ _ _ _ _) ?_
 unfold vw
 refine V.box c.dS.one fun n6 h7 V7=>?_
 refine V7.box (UH V wU wR).2.1 fun n8 h9 V9=>?_
 rw[BW.get V9 (Or.inl rfl) (by omega),du]
 unfold L2 at hK
 cases hr:hasB Rc b
 ·rw[Bool.not_false,ag]
  rw[hr]at hK
  exact hK h9 V9.pop.pop
 rw[Bool.not_true,af]
 rw[hr,Bool.true_and]at hK
 obtain⟨l,hl,hgl⟩:∃l,Dp[b]?=some l/\gL Dp b=l:=⟨Dp[b]'(by omega),aC _,by unfold gL;rw[aC];rfl⟩
 rw[hgl]at hK
 obtain⟨hlt,hll⟩:=hD l (ak hl)
 have hs:∀x∈L,x∈(n8,Slot.box (.agg [vU,vR]))::(n6,.box c.e)::L:=fun x hx=>by simp[hx]
 refine⟨fun _ h'=>Vs h' ((n8,Slot.box (.agg [vU,vR]))::(n6,.box c.e)::L)/\(l.all fun a=>hasB U a&&DI R (nZ c a).t.a)=true,?_,?_⟩
 ·rintro f h' ⟨V',ha⟩
  rw[ha]at hK
  exact hK h' V'.pop.pop
 unfold pK
 refine⟨fun m q h'=>∃k:Nat,q=[nD k]/\k<=l.length/\m=l.length-k/\Vs h' ((n8,Slot.box (.agg [vU,vR]))::(n6,.box c.e)::L)/\((l.take k).all fun a=>hasB U a&&DI R (nZ c a).t.a)=true,_,⟨0,rfl,by omega,rfl,V9,by simp⟩,?_⟩
 rintro m f h1 ⟨k,hq,hk,hm,V1,hall⟩
 simp only[aq,and_true]at hq
 rw[hq]
 refine LR.get V1 (wD.mono hs) hl fun e we=>?_
 rw[B8.len V1 we]
 by_cases hkl:¬k<l.length
 ·have:k=l.length:=by omega
  subst this
  rw[nD,jX (by omega),af]
  rw[List.take_length]at hall
  simp only[ab,true_and]
  exact⟨V1,hall⟩
 replace hkl:k<l.length:=Decidable.not_not.1 hkl
 rw[nD,jZ (by omega),ag]
 obtain⟨a,ha⟩:∃a,l[k]?=some a:=⟨l[k],aC hkl⟩
 have haN:=hlt a (ak ha)
 obtain⟨A,hA⟩:∃A,c.b[a]?=some A:=⟨c.b[a],aC haN⟩
 refine LR.get V1 (wD.mono hs) hl fun e2 we2=>?_
 rw[B8.get V1 we2 ha]
 rw[V1.mH 0 rfl,V1.iJ 0 (j:=0+0) rfl rfl,BW.T4 V1 (wU.mono hs) (by omega),du]
 have htk:l.take (k+1)=l.take k++[a]:=by rw[List.take_add_one,ha];rfl
 have no:(hasB U a&&DI R (nZ c a).t.a)=false->(l.all fun a=>hasB U a&&DI R (nZ c a).t.a)=false:=fun h=>by
  cases h2:l.all fun a=>hasB U a&&DI R (nZ c a).t.a
  ·rfl
  ·rw[List.all_eq_true.1 h2 a (ak ha)]at h;cases h
 cases hu:hasB U a
 ·simp only[Bool.not_false,QX,UN]
  rw[iK,cq,if_pos rfl,ag]
  rw[no (by rw[hu];rfl)]at hK
  exact hK h1 V1.pop.pop
 simp only[Bool.not_true,EP]
 rw[V1.tc 0 (s:=2) rfl rfl,V1.mH 1 rfl,V1.iJ 1 (j:=0+7) rfl rfl,nD,T7 hA,Vr,Ki,mU,Uj]
 refine IP V1 (wU.mono hs) (wR.mono hs) (fun h2=>?_) ?_
 ·have:=(hc.g.t A (ak hA)).O1.2.1 h2
  omega
 rw[du,iK,cq]
 simp only[aE,if_false]
 have hbl:(nZ c a).t.a=A.t.a:=by rw[gW hA]
 cases hcn:DI R A.t.a
 ·rw[Bool.not_false,ag]
  rw[no (by rw[hbl,hcn,Bool.and_false])]at hK
  exact hK h1 V1.pop.pop
 ·rw[Bool.not_true,af,cU (by omega) (by omega)]
  simp only[ab,true_and]
  refine⟨_,by omega,k+1,rfl,by omega,rfl,V1,?_⟩
  rw[htk,List.all_append,hall]
  simp[hu,hbl,hcn]
end Go.Am
namespace Go.Am
open Go Go.Proofs
def Oa (U R:List Bool) (b:Nat) (r:Int) (x:aX):Bool:=decide (dE x.d=r)&&(!hasB U b||(fF x||(!DI R x.a||(!DI R x.b || !DI R x.c))))
def Is (Rc U R:List Bool) (r:Int) (b:Nat) (B:Block):Bool:= !hasB Rc b||(!decide (dE B.t.d=r)&&B.i.all fun x=> !Oa U R b r x)
def Ig (c:Code) (Rc U R:List Bool) (r:Int):Bool:=(List.range c.b.length).all fun b=>Is Rc U R r b (nZ c b)
def gD:=And.intro (@Qq PP)<|And.intro (@Qr PP)<|And.intro (@xK PP)<|And.intro (@p9 PP)<|And.intro (@GK PP) (@cq)
section
variable {c:Code}{U R Rc:List Bool}{r:Int}{n5 n7 b:Nat}{B:Block}{h:Heap}{L:LSq}{J:HJq}{KH:HKq}
theorem Tu (hc:dX c) (h5:(n5,Slot.box c.e)∈L) (h7:(n7,Slot.box (uE U R))∈L) (V:Vs h L) (hU:U.length=c.b.length) (hR:(R.length:Int)=c.regs) (hB:c.b[b]?=some B){f:Nat->D}(hf:f 9=nD b)
  (hJ:∀h',Vs h' L->(B.i.all fun x=> !Oa U R b r x)=true->J [] h') (hK:∀h',Vs h' L->(B.i.all fun x=> !Oa U R b r x)=false->KH (.bool false) h') :
  g9 h (.ptr n5 0 0) f (.int .i64 r) (.ptr n7 0 0) (.sl (bL Rc)) J KH:=by
 have hnb:=hc.g.nb
 have hBm:=ak hB
 have hbN:=(ah.1 hB).1
 have hil:=hc.len B hBm
 unfold g9
 refine⟨fun m q h'=>∃k:Nat,q=[nD k]/\k<=B.i.length/\m=B.i.length-k/\Vs h' L/\((B.i.take k).all fun x=> !Oa U R b r x)=true,_,⟨0,rfl,by omega,rfl,V,by simp⟩,?_⟩
 rintro m f1 h1 ⟨k,hq,hk,hm,V1,hall⟩
 simp only[aq,and_true]at hq
 have hbk:∀{KH:HKq},aa PP (.fadd (.c (.ptr n5 0 0)) 7) h1 (fun a h2=>aa PP (.ld (.c a) 1 false) h2 KH)=KH (.sl (c.b.map Block.e)) h1:=fun {KH}=>by
  rw[V1.Lb (s:=.box c.e) h5,V1.Ai (cs:=[.int .i64 c.group,.int .i64 c.sub,.int .i64 c.regs,.int .i64 c.slots,.int .i64 c.params,.sl (c.arrays.map vc.e),.sl (c.loops.map Loop.e),.sl (c.b.map Block.e)]) h5 rfl]
 have hin:∀{KH:HKq},aa PP (.ld (.c (.vp B.e 0)) 1 false) h1 KH=KH (.sl (B.i.map aX.e)) h1:=fun {KH}=>by
  rw[show B.e=.agg (.sl (B.i.map aX.e)::B.t.cs) from rfl,KV (e:=.sl (B.i.map aX.e)) rfl]
 rw[hq,hbk,hf,nD,xp hB,La,hin,bX,aw]
 by_cases hlt:¬k<B.i.length
 ·have:k=B.i.length:=by omega
  subst this
  rw[nD,jX (by omega),af]
  rw[List.take_length]at hall
  simp only[ab,true_and]
  exact hJ h1 V1 hall
 replace hlt:k<B.i.length:=Decidable.not_not.1 hlt
 obtain⟨x,hx⟩:∃x,B.i[k]?=some x:=⟨B.i[k],aC hlt⟩
 have hxm:=ak hx
 obtain⟨-,oa,ob,oc⟩:=(hc.i B hBm x hxm).O1
 rw[nD,jZ (by omega),ag,hbk,xp hB,La,hin,lD (esz:=15) (d:=x.e) (by omega) (by rw[aA,List.getElem?_map,hx];rfl) rfl]
 rw[show aa PP (.ld (.c (.vp x.e 0)) 15 true) h1=fun KH=>KH x.e h1 from funext fun KH=>IA rfl]
 refine V1.alloc fun n74 h75 V75=>?_
 refine V75.p8 0 (cs':=x.cs) rfl rfl rfl (fun y hy=>x.dS.one y hy) fun h77 V77=>?_
 simp only[List.set_cons_zero]at V77
 rw[V77.lI 0 (s:=15) rfl rfl,show D.agg x.cs=x.e from rfl]
 refine bO Sx (fun d hd=>by simp at hd;subst hd;exact x.dS.pair) ?_
 rintro _ rfl
 rw[bQ]
 have htk:B.i.take (k+1)=B.i.take k++[x]:=by rw[List.take_add_one,hx];rfl
 have go:Oa U R b r x=false->∃m',m'<m/\∃k':Nat,[D.int .i64 ((k:Int)+1)]=[nD k']/\k'<=B.i.length/\m'=B.i.length-k'/\Vs h77 L/\((B.i.take k').all fun x=> !Oa U R b r x)=true:=fun hn =>
  ⟨_,by omega,k+1,rfl,by omega,rfl,V77.pop,by rw[htk,List.all_append,hall];simp[hn]⟩
 have stop:Oa U R b r x=true->KH (.bool false) h77:=fun hy=>hK h77 V77.pop (by
  cases h2:B.i.all fun x=> !Oa U R b r x
  ·rfl
  ·have:=List.all_eq_true.1 h2 x hxm;rw[hy]at this;cases this)
 unfold Oa at go stop
 by_cases hd:¬dE x.d=r
 ·rw[decide_eq_false hd]at go ⊢
  simp only[gD,Bool.not_false,Bool.not_true,aE,if_true,if_false]
  rw[af,cU (by omega) (by omega)]
  simp only[ab,true_and]
  exact go rfl
 replace hd:dE x.d=r:=Decidable.not_not.1 hd
 rw[decide_eq_true hd]at go stop ⊢
 have h7':(n7,Slot.box (uE U R))∈(n74,Slot.box x.e)::L:=by simp[h7]
 have ldU:∀{KH:HKq},aa PP (.ld (.c (.ptr n7 0 0)) 1 false) h77 KH=KH (.sl (bL U)) h77:=fun {KH}=>V77.Ai (cs:=[.sl (bL U),.sl (bL R)]) h7' rfl
 have ldE:∀{KH:HKq},aa PP (.ld (.c (.ptr n7 0 0)) 2 true) h77 KH=KH (uE U R) h77:=fun {KH}=>V77.IB (cs:=[.sl (bL U),.sl (bL R)]) h7' rfl
 have g0:=V77.get 0 _ _ rfl
 have la:∀{KH:HKq},aa PP (.ld (.c (.ptr n74 0 6)) 3 true) h77 KH=KH x.a.e h77:=fun {KH}=>L1 g0 (by simp[aX.cs])
 have lb:∀{KH:HKq},aa PP (.ld (.c (.ptr n74 0 9)) 3 true) h77 KH=KH x.b.e h77:=fun {KH}=>L1 g0 (by simp[aX.cs])
 have lc:∀{KH:HKq},aa PP (.ld (.c (.ptr n74 0 12)) 3 true) h77 KH=KH x.c.e h77:=fun {KH}=>L1 g0 (by simp[aX.cs])
 have cn:∀{o:cY}{KH:HKq},v7 c.regs o->KH (.bool (DI R o)) h77->ai PP cw [uE U R,o.e] h77 KH:=fun {o KH} ho hk=>by
  refine bO (DK fun h2=>by have:=ho h2;omega) (fun d hd=>by simp at hd;rcases hd with rfl|rfl;exact BP.pair;exact o.dS.pair) ?_
  rintro _ rfl;exact hk
 simp only[gD,Bool.not_false,Bool.not_true,aE,if_true,if_false]
 rw[V77.Lb h7',ldU,lD (esz:=1) (d:=.bool (hasB U b)) (by omega) (by rw[aA];exact dq (bo (by omega))) rfl,uR rfl,du]
 cases g1:hasB U b
 ·simp only[gD,Bool.not_false,Bool.not_true,aE,if_true,if_false];rw[ag];exact stop (by rw[g1];rfl)
 simp only[gD,Bool.not_false,Bool.not_true,aE,if_true,if_false]
 rw[V77.lI 0 (s:=15) rfl rfl,show D.agg x.cs=x.e from rfl]
 refine bO NV (fun d hd=>by simp at hd;subst hd;exact x.dS.pair) ?_
 rintro _ rfl
 rw[du,Bool.not_not]
 by_cases g2':fF x=true
 ·rw[g2'];simp only[gD,Bool.not_false,Bool.not_true,aE,if_true,if_false];rw[ag];exact stop (by rw[g1,g2'];rfl)
 have g2:fF x=false:=by simpa using g2'
 rw[g2]
 simp only[gD,Bool.not_false,Bool.not_true,aE,if_true,if_false]
 rw[ldE,V77.fa 0 rfl,la]
 refine cn oa ?_
 rw[du]
 cases g3:DI R x.a
 ·simp only[gD,Bool.not_false,Bool.not_true,aE,if_true,if_false];rw[ag];exact stop (by rw[g1,g2,g3];rfl)
 simp only[gD,Bool.not_false,Bool.not_true,aE,if_true,if_false]
 rw[ldE,V77.fa 0 rfl,lb]
 refine cn ob ?_
 rw[du]
 cases g4:DI R x.b
 ·simp only[gD,Bool.not_false,Bool.not_true,aE,if_true,if_false];rw[ag];exact stop (by rw[g1,g2,g3,g4];rfl)
 simp only[gD,Bool.not_false,Bool.not_true,aE,if_true,if_false]
 rw[ldE,V77.fa 0 rfl,lc]
 refine cn oc ?_
 rw[du]
 cases g5:DI R x.c
 ·simp only[gD,Bool.not_false,Bool.not_true,aE,if_true,if_false];rw[ag];exact stop (by rw[g1,g2,g3,g4,g5];rfl)
 simp only[gD,Bool.not_false,Bool.not_true,aE,if_true,if_false]
 rw[af,cU (by omega) (by omega)]
 simp only[ab,true_and]
 exact go (by rw[g1,g2,g3,g4,g5];rfl)
end
theorem Ja {c:Code}(hc:dX c){U R Rc:List Bool}{r:Int}(hU:U.length=c.b.length) (hR:(R.length:Int)=c.regs) (hRc:Rc.length=c.b.length):aY PP fo [c.e,.sl (bL Rc),uE U R,.int .i64 r] (· = .bool (Ig c Rc U R r)):=by
 have hnb:=hc.g.nb
 refine bx u6 (aJ _ _ _) rfl (uW _ _ _ _ _) ?_
 unfold pI
 refine Vs.nil.box c.dS.one fun n5 h6 V6=>?_
 refine V6.box BP.one fun n7 h8 V8=>?_
 obtain⟨L,hL⟩:∃L,L=[(n7,Slot.box (uE U R)),(n5,.box c.e)]:=⟨_,rfl⟩
 rw[<- hL]at V8
 have h5:(n5,Slot.box c.e)∈L:=by simp[hL]
 have h7:(n7,Slot.box (uE U R))∈L:=by simp[hL]
 refine⟨fun _ h'=>((List.range c.b.length).all fun b=>Is Rc U R r b (nZ c b))=true,?_,?_⟩
 ·rintro f h' ha
  rw[bw];unfold Ig;rw[ha]
 unfold lT
 refine⟨fun m q h'=>∃b:Nat,q=[nD b]/\b<=c.b.length/\m=c.b.length-b/\Vs h' L/\((List.range b).all fun b=>Is Rc U R r b (nZ c b))=true,_,⟨0,rfl,by omega,rfl,V8,by simp⟩,?_⟩
 rintro m f h1 ⟨b,hq,hb,hm,V1,hall⟩
 simp only[aq,and_true]at hq
 have hbk:∀{KH:HKq},aa PP (.fadd (.c (.ptr n5 0 0)) 7) h1 (fun a h2=>aa PP (.ld (.c a) 1 false) h2 KH)=KH (.sl (c.b.map Block.e)) h1:=fun {KH}=>by
  rw[V1.Lb (s:=.box c.e) h5,V1.Ai (cs:=[.int .i64 c.group,.int .i64 c.sub,.int .i64 c.regs,.int .i64 c.slots,.int .i64 c.params,.sl (c.arrays.map vc.e),.sl (c.loops.map Loop.e),.sl (c.b.map Block.e)]) h5 rfl]
 rw[hbk,bX,aw,hq]
 by_cases hlt:¬b<c.b.length
 ·have:b=c.b.length:=by omega
  subst this
  rw[nD,jX (by omega),af]
  simp only[ab,true_and]
  exact hall
 replace hlt:b<c.b.length:=Decidable.not_not.1 hlt
 obtain⟨B,hB⟩:∃B,c.b[b]?=some B:=⟨c.b[b],aC hlt⟩
 have eB:=gW hB
 have nx:∀h',Vs h' L->Is Rc U R r b B=true->∃m',m'<m/\∃b':Nat,[D.int .i64 ((b:Int)+1)]=[nD b']/\b'<=c.b.length/\m'=c.b.length-b'/\Vs h' L/\((List.range b').all fun b=>Is Rc U R r b (nZ c b))=true:=fun h' V' hr =>
  ⟨_,by omega,b+1,rfl,by omega,rfl,V',by rw[List.range_succ,List.all_append,hall];simp[eB,hr]⟩
 have no:Is Rc U R r b B=false->Ig c Rc U R r=false:=fun hr=>by
  unfold Ig
  cases h2:(List.range c.b.length).all fun b=>Is Rc U R r b (nZ c b)
  ·rfl
  ·have:=List.all_eq_true.1 h2 b (List.mem_range.2 hlt);rw[eB,hr]at this;cases this
 rw[nD,jZ (by omega),ag]
 refine⟨fun _ h'=>Vs h' L/\Is Rc U R r b B=true,?_,?_⟩
 ·rintro f' h' ⟨V',hr⟩
  rw[cU (by omega) (by omega)]
  simp only[ab,true_and]
  exact nx h' V' hr
 rw[lD (esz:=1) (d:=.bool (hasB Rc b)) (by omega) (by rw[aA];exact dq (bo (by omega))) rfl,uR rfl,du]
 cases g1:hasB Rc b
 ·rw[Bool.not_false,ag]
  simp only[ab,true_and]
  exact⟨V1,by unfold Is;rw[g1];rfl⟩
 rw[Bool.not_true,af,hbk,xp hB,La,Ly]
 refine bO PZ (fun d hd=>by simp at hd;subst hd;exact B.t.dS.pair) ?_
 rintro _ rfl
 rw[bQ]
 by_cases g2:dE B.t.d=r
 ·rw[decide_eq_true g2,ag,bw,no (by unfold Is;rw[g1,decide_eq_true g2];rfl)]
 ·rw[decide_eq_false g2,af]
  refine Tu hc h5 h7 V1 hU hR hB hq (fun h' V' ha=>⟨V',?_⟩) fun h' V' ha=>?_
  ·unfold Is;rw[g1,decide_eq_false g2,ha];rfl
  ·rw[bw,no (by unfold Is;rw[g1,decide_eq_false g2,ha];rfl)]
theorem DS {c:Code}(hc:dX c){h:Heap}{L:LSq}{KH:HKq}{vU vR:D}{U R Rc:List Bool}{r:Int}(V:Vs h L) (wU:BW L vU U) (wR:BW L vR R) (hU:U.length=c.b.length) (hR:(R.length:Int)=c.regs) (hRc:Rc.length=c.b.length) (hK:KH (.bool (Ig c Rc U R r)) h):ai PP fo [c.e,.sl (bL Rc),.agg [vU,vR],.int .i64 r] h KH:=by
 obtain⟨f1,f2,f3⟩:=UH V wU wR
 have pr:∀{d:D},d.vd=true/\aN d->d.fz h=d/\aN d/\mB h d/\(d.fz h).vd=true:=fun {d} p=>by
  obtain⟨g1,g2,g3⟩:=qU (h:=h) p.1
  exact⟨g1,p.2,g3,by rw[g1];exact p.1⟩
 obtain⟨a1,a2⟩:=pr c.dS.pair
 obtain⟨b1,b2⟩:=pr (d:=.sl (bL Rc)) mT.pair
 obtain⟨c1,c2⟩:=pr (d:=.int .i64 r) aW.pair
 refine ai.mono ?_ (gw (K:=(· = .bool (Ig c Rc U R r))) ?_ ?_)
 ·rintro d h' ⟨rfl,h2,-⟩
  rw[h2 (Or.inl rfl)];exact hK
 ·simp only[List.map_cons,List.map_nil,f1,a1,b1,c1]
  exact Ja hc hU hR hRc
 ·intro d hd
  simp at hd
  rcases hd with rfl|rfl|rfl|rfl
  ·exact a2
  ·exact b2
  ·exact⟨f2,f3,by rw[f1];exact BP.pair.1⟩
  ·exact c2
end Go.Am
namespace Go.Am
open Go Go.Proofs
section
variable {c:Code}{U R:List Bool}
theorem x6 {o:cY}:(∀f,f∈bD [o]->gF U R f=true)↔DI R o=true:=by
 unfold bD DI
 by_cases h:o.kind=2
 ·simp[h,gF,xX]
 ·simp[h]
theorem JK {x y z:cY}:(∀f,f∈bD [x,y,z]->gF U R f=true)↔DI R x=true/\DI R y=true/\DI R z=true:=by
 rw[<- x6 (U:=U) (R:=R) (o:=x), <- x6 (U:=U) (R:=R) (o:=y), <- x6 (U:=U) (R:=R) (o:=z)]
 have e:bD [x,y,z]=bD [x]++(bD [y]++bD [z]):=by
  unfold bD
  rw[show [x,y,z]=[x]++([y]++[z]) from rfl]
  simp only[List.filter_append,List.map_append]
 rw[e]
 simp only[List.mem_append]
 exact⟨fun h=>⟨fun f hf=>h f (Or.inl hf),fun f hf=>h f (Or.inr (Or.inl hf)),fun f hf=>h f (Or.inr (Or.inr hf))⟩,fun ⟨h1,h2,h3⟩ f hf=>by
  rcases hf with hf|hf|hf
  ·exact h1 f hf
  ·exact h2 f hf
  ·exact h3 f hf⟩
def VO (U R:List Bool) (r:Ru):Prop:=r.never=false/\∀f∈r.needs,gF U R f=true
theorem Ps {b:Nat}:gF U R (qI b)=hasB U b:=rfl
theorem Gn {b:Nat}(hb:b<c.b.length):L2 c (da c) (ji c) U R b=true ↔ ∀r,r∈iB c->r.of=qI b->VO U R r:=by
 unfold L2
 rw[Bool.and_eq_true,cI hb,List.all_eq_true,yw hb]
 constructor
 ·rintro⟨hp,ha⟩ r hr ho
  have hi:=kJ.1 hr
  cases hi with
  | @no b' hb' hp' =>
   have:b'=b:=by simp only[Pc,qI,Fa.mk.injEq,true_and]at ho;omega
   subst this;exact absurd hp hp'
  | @dep b' a A hb' hp' hd hA =>
   have:b'=b:=by simp only[te,qI,Fa.mk.injEq,true_and]at ho;omega
   subst this
   have:=ha a (uq.2 ⟨(ah.1 hA).1,hd⟩)
   rw[Bool.and_eq_true,gW hA]at this
   refine⟨rfl,fun f hf=>?_⟩
   simp only[te,List.mem_append]at hf
   rcases hf with hf|hf
   ·exact x6.2 this.2 f hf
   ·simp at hf;subst hf;exact this.1
  | inst=>simp[ij,rS,qI]at ho
  | fin=>simp[rS,qI]at ho
 ·intro h
  have hp:Path (edg c) 0 b:=by
   by_cases hp:Path (edg c) 0 b
   ·exact hp
   ·have:=(h _ (kJ.2 (.no hb hp)) rfl).1;cases this
  refine⟨hp,fun a ha=>?_⟩
  obtain⟨haN,hd⟩:=uq.1 ha
  obtain⟨A,hA⟩:∃A,c.b[a]?=some A:=⟨c.b[a],aC haN⟩
  have:=(h _ (kJ.2 (.dep hb hp hd hA)) rfl).2
  rw[Bool.and_eq_true,gW hA]
  exact⟨this (qI a) (by simp[te]),(x6 (U:=U)).1 fun f hf=>this f (by simp only[te,List.mem_append];exact Or.inl hf)⟩
theorem FI {r:Int}(h0:0<=r):Ig c (da c) U R r=true ↔ ∀ru,ru∈iB c->ru.of=rS r->VO U R ru:=by
 unfold Ig
 rw[List.all_eq_true]
 constructor
 ·intro h ru hr ho
  have hi:=kJ.1 hr
  cases hi with
  | no=>simp[Pc,rS,qI]at ho
  | dep=>simp[te,rS,qI]at ho
  | @inst b B x hB hp hx hx0 =>
   have hb:=(ah.1 hB).1
   have:=h b (List.mem_range.2 hb)
   unfold Is at this
   rw[(cI hb).2 hp,gW hB,Bool.not_true,Bool.false_or,Bool.and_eq_true,List.all_eq_true]at this
   have hx':=this.2 x hx
   simp only[ij,rS,Fa.mk.injEq,true_and]at ho
   unfold Oa at hx'
   rw[decide_eq_true ho]at hx'
   simp only[Bool.true_and,Bool.not_eq_true',Bool.or_eq_false_iff,Bool.not_eq_false']at hx'
   obtain⟨h1,h2,h3,h4,h5⟩:=hx'
   refine⟨h2,fun f hf=>?_⟩
   simp only[ij,List.mem_append]at hf
   rcases hf with hf|hf
   ·exact JK.2 ⟨h3,h4,h5⟩ f hf
   ·simp at hf;subst hf;exact h1
  | @fin b B hB hp hx0 =>
   have hb:=(ah.1 hB).1
   have:=h b (List.mem_range.2 hb)
   unfold Is at this
   rw[(cI hb).2 hp,gW hB,Bool.not_true,Bool.false_or,Bool.and_eq_true]at this
   simp only[rS,Fa.mk.injEq,true_and]at ho
   have h1:=this.1
   rw[decide_eq_true ho]at h1;cases h1
 ·intro h b hb
  have hb:=List.mem_range.1 hb
  obtain⟨B,hB⟩:∃B,c.b[b]?=some B:=⟨c.b[b],aC hb⟩
  unfold Is
  rw[gW hB]
  cases hp:hasB (da c) b
  ·rfl
  have hp':=(cI hb).1 hp
  rw[Bool.not_true,Bool.false_or,Bool.and_eq_true,List.all_eq_true]
  constructor
  ·by_cases hd:dE B.t.d=r
   ·have:=(h _ (kJ.2 (.fin hB hp' (by omega))) (by simp[hd])).1;cases this
   ·rw[decide_eq_false hd];rfl
  ·intro x hx
   unfold Oa
   by_cases hd:dE x.d=r
   ·have:=h _ (kJ.2 (.inst hB hp' hx (by omega))) (by simp[ij,hd])
    have h3:=(JK (U:=U) (R:=R) (x:=x.a) (y:=x.b) (z:=x.c)).1 fun f hf=>this.2 f (by simp only[ij,List.mem_append];exact Or.inl hf)
    have h4:=this.2 (qI b) (by simp[ij])
    have h5:fF x=false:=this.1
    rw[Ps]at h4
    rw[decide_eq_true hd,h4,h5,h3.1,h3.2.1,h3.2.2];rfl
   ·rw[decide_eq_false hd];rfl
theorem SC {b:Nat}(hb:b<c.b.length) (h:L2 c (da c) (ji c) U R b=false) (hu:hasB U b=true):∃r,r∈iB c/\r.of=qI b/\cP U R r=false:=by
 apply Classical.byContradiction
 intro hn
 have:L2 c (da c) (ji c) U R b=true:=(Gn hb).2 fun r hr ho=>by
  cases hk:cP U R r
  ·exact absurd ⟨r,hr,ho,hk⟩ hn
  ·exact fp.1 hk (by rw[ho];exact hu)
 rw[h]at this;cases this
theorem Rw {n:Nat}(h:Ig c (da c) U R (n:Int)=false) (hu:hasB R n=true):∃r,r∈iB c/\r.of=rS (n:Int)/\cP U R r=false:=by
 apply Classical.byContradiction
 intro hn
 have:Ig c (da c) U R (n:Int)=true:=(FI (by omega)).2 fun r hr ho=>by
  cases hk:cP U R r
  ·exact absurd ⟨r,hr,ho,hk⟩ hn
  ·exact fp.1 hk (by rw[ho];exact hu)
 rw[h]at this;cases this
theorem yp (hc:dX c):(iB c).all (cP U R)=true↔(∀b,b<c.b.length->hasB U b=true->L2 c (da c) (ji c) U R b=true)/\∀n:Nat,(n:Int)<c.regs->hasB R n=true->Ig c (da c) U R (n:Int)=true:=by
 rw[List.all_eq_true]
 constructor
 ·intro h
  refine⟨fun b hb hu=>(Gn hb).2 fun r hr ho=>?_,fun n hn hu=>(FI (by omega)).2 fun r hr ho=>?_⟩
  ·exact fp.1 (h r hr) (by rw[ho];exact hu)
  ·exact fp.1 (h r hr) (by rw[ho];exact hu)
 ·rintro⟨h1,h2⟩ r hr
  have ok:=(C5 hc r hr).of
  obtain⟨o0,o1,o2⟩:=ok
  refine fp.2 fun hg=>?_
  obtain⟨⟨bl,n⟩,needs,never⟩:=r
  simp only at o0 o1 o2
  have en:((n.toNat:Nat):Int)=n:=by omega
  cases bl with
  | true =>
   have:=o1 rfl
   have hb:n.toNat<c.b.length:=by omega
   exact(Gn hb).1 (h1 _ hb hg) _ hr (by simp[qI,en])
  | false =>
   have:=o2 rfl
   have hb:=h2 n.toNat (by omega) hg
   rw[en]at hb
   exact(FI o0).1 hb _ hr rfl
end
end Go.Am
namespace Go.Am
open Go Go.Proofs
def Dr (c:Code) (P:List Bool->List Bool->Prop):Prop:=∀U R r,U.length=c.b.length->(R.length:Int)=c.regs->P U R->r∈iB c->gF U R r.of=true->cP U R r=false->P (oP U R r.of).1 (oP U R r.of).2
structure GC (c:Code) (P:List Bool->List Bool->Prop) (N:Nat) (U R:List Bool) (t:Bool):Prop where
 ul:U.length=c.b.length
 rl:(R.length:Int)=c.regs
 p:P U R
 n:if t then qE U R<N else qE U R=N
theorem GC.le {c:Code}{P:List Bool->List Bool->Prop}{N:Nat}{U R:List Bool}{t:Bool}(s:GC c P N U R t):qE U R<=N:=by
 have:=s.n;split at this<;>omega
theorem GC.drop {c:Code}{P:List Bool->List Bool->Prop}{N:Nat}{U R:List Bool}{t:Bool}(hP:Dr c P) (s:GC c P N U R t){r:Ru}(hr:r∈iB c) (hg:gF U R r.of=true) (hk:cP U R r=false):GC c P N (oP U R r.of).1 (oP U R r.of).2 true:=by
 refine⟨?_,?_,hP U R r s.ul s.rl s.p hr hg hk,?_⟩
 ·unfold oP;split<;>simp[s.ul]
 ·unfold oP;split<;>simp[s.rl]
 ·have:=HC hg;have:=s.le
  rw[if_pos rfl];omega
section
variable {c:Code}{nU nR nu n4 n2 nr N:Nat}{U R:List Bool}{X:LSq}{vD:D}{P:List Bool->List Bool->Prop}{h:Heap}{t:Bool}
def uT (c:Code) (U R:List Bool) (i:Nat):Prop:=∀b,b<i->hasB U b=true->L2 c (da c) (ji c) U R b=true
def IV (c:Code) (U R:List Bool) (i:Nat):Prop:=∀n:Nat,n<i->hasB R n=true->Ig c (da c) U R (n:Int)=true
theorem GC.bU {L:LSq}(s:GC c P N U R t) (hs:∀x,x∈bP c nU nR nu n4 n2 nr U R X->x∈L):BW L (.ms nU 0 c.b.length) U:=Or.inr ⟨nU,by rw[s.ul],hs _ (by simp[bP])⟩
theorem GC.bR {L:LSq}(s:GC c P N U R t) (hr:c.regs=(nr:Int)) (hs:∀x,x∈bP c nU nR nu n4 n2 nr U R X->x∈L):BW L (.ms nR 0 nr) R:=Or.inr ⟨nR,by have:=s.rl;rw[show R.length=nr by omega],hs _ (by simp[bP])⟩
theorem K8 (hc:dX c) (hr:c.regs=(nr:Int)) (hP:Dr c P) (wD:LR X vD (ji c)) (s:GC c P N U R false) (V:Vs h (bP c nU nR nu n4 n2 nr U R X)){J:HJq}
  (hJ:∀h' U' R' t,GC c P N U' R' t->(t=false->uT c U' R' c.b.length)->Vs h' (bP c nU nR nu n4 n2 nr U' R' X)->J [.bool t] h') :
  lL h (.ptr nu 0 0) (.ptr n2 0 0) (.ptr n4 0 0) (.sl (bL (da c))) vD J:=by
 have hnb:=hc.g.nb
 unfold lL
 refine⟨fun m q h'=>∃(i:Nat) (U R:List Bool) (t:Bool),q=[.bool t,nD i]/\i<=c.b.length/\m=c.b.length-i/\GC c P N U R t/\(t=false->uT c U R i)/\Vs h' (bP c nU nR nu n4 n2 nr U R X),_,⟨0,U,R,false,rfl,by omega,rfl,s,fun _ b hb=>by omega,V⟩,?_⟩
 rintro m f h1 ⟨i,U1,R1,t1,hq,hi,hm,s1,ck,V1⟩
 simp only[aq,and_true]at hq
 obtain⟨q1,q2⟩:=hq
 have get0:∀{KH:HKq},aa PP (.fadd (.c (.ptr nu 0 0)) 0) h1 (fun a h2=>aa PP (.ld (.c a) 1 false) h2 KH)=KH (.ms nU 0 c.b.length) h1:=fun {KH}=>by rw[V1.fa 0 rfl,V1.cx 0 (j:=0+0) rfl rfl]
 have len0:∀{K:D->Prop},aR (.ms nU 0 c.b.length) h1 K=K (.int .i64 (c.b.length:Int)):=fun {K}=>by
  rw[bu,V1.get 2 _ _ rfl];exact propext ⟨fun hh=>hh.2,fun hk=>⟨rfl,hk⟩⟩
 rw[get0,len0,q1,q2]
 by_cases hlt:¬i<c.b.length
 ·have:i=c.b.length:=by omega
  subst this
  rw[nD,jX (by omega),af]
  simp only[ab,true_and]
  exact hJ h1 U1 R1 t1 s1 ck V1
 replace hlt:i<c.b.length:=Decidable.not_not.1 hlt
 rw[nD,jZ (by omega),ag]
 refine⟨fun q h'=>∃(U R:List Bool) (t:Bool),q=[.bool t]/\GC c P N U R t/\(t=false->uT c U R (i+1))/\Vs h' (bP c nU nR nu n4 n2 nr U R X),?_,?_⟩
 ·rintro f' h' ⟨U2,R2,t2,hq,s2,ck2,V2⟩
  simp only[aq,and_true]at hq
  rw[hq,cU (by omega) (by omega)]
  simp only[ab,true_and]
  exact⟨_,by omega,i+1,U2,R2,t2,rfl,by omega,rfl,s2,ck2,V2⟩
 have more:(hasB U1 i=true->L2 c (da c) (ji c) U1 R1 i=true)->(t1=false->uT c U1 R1 (i+1)):=fun hh ht b hb hu=>by
  by_cases e:b=i
  ·subst e;exact hh hu
  ·exact ck ht b (by omega) hu
 rw[get0,V1.ia 2 rfl (by omega) (by omega),aA,V1.xI 2 rfl (dq (bo (by rw[s1.ul];exact hlt))) rfl]
 cases g1:hasB U1 i
 ·simp only[gD,Bool.not_false,Bool.not_true,aE,if_true,if_false]
  rw[af]
  simp only[ab,true_and]
  exact⟨U1,R1,t1,rfl,s1,more fun h=>by(rw[g1]at h;cases h),V1⟩
 simp only[gD,Bool.not_false,Bool.not_true,aE,if_true,if_false]
 rw[V1.lI 4 (s:=8) rfl rfl,V1.lI 0 (s:=2) rfl rfl,show D.agg [.int .i64 c.group,.int .i64 c.sub,.int .i64 c.regs,.int .i64 c.slots,.int .i64 c.params,.sl (c.arrays.map vc.e),.sl (c.loops.map Loop.e),.sl (c.b.map Block.e)]=c.e from rfl]
 refine Ko hc (yz hc.g) tf V1 (s1.bU fun x hx=>hx) (s1.bR hr fun x hx=>hx) (wD.mono fun x hx=>by simp[bP,hx]) s1.ul s1.rl hlt kV fun h2 V2=>?_
 rw[du]
 cases g2:L2 c (da c) (ji c) U1 R1 i
 ·rw[Bool.not_false,ag,V2.fa 0 rfl,V2.cx 0 (j:=0+0) rfl rfl,V2.ia 2 rfl (by omega) (by omega),aA]
  refine V2.uK 2 rfl (by simp[bL,s1.ul];exact hlt) rfl (fL _) fun h3 V3=>?_
  rw[fK]at V3
  simp only[ab,true_and]
  obtain⟨r,hr1,hr2,hr3⟩:=SC hlt g2 g1
  have:=s1.drop hP hr1 (by rw[hr2];exact g1) hr3
  rw[hr2]at this
  exact⟨U1.set i false,R1,true,rfl,this,fun h=>(by cases h),V3⟩
 ·rw[Bool.not_true,af]
  simp only[ab,true_and]
  exact⟨U1,R1,t1,rfl,s1,more fun _=>g2,V2⟩
theorem Pu (hc:dX c) (hr:c.regs=(nr:Int)) (hP:Dr c P) (s:GC c P N U R t) (cb:t=false->uT c U R c.b.length) (V:Vs h (bP c nU nR nu n4 n2 nr U R X)){f:Nat->D}(hf:f 6=.bool t){I:Nat->HJq}{n31:Nat}
  (hJ:∀h' U' R' t,GC c P N U' R' t->(t=false->uT c U' R' c.b.length/\IV c U' R' nr)->Vs h' (bP c nU nR nu n4 n2 nr U' R' X)->∃m,m<n31/\I m [.bool t] h') :
  lM f h (.ptr nu 0 0) (.ptr n2 0 0) (.ptr n4 0 0) (.sl (bL (da c))) vD n31 I:=by
 have hnb:=hc.g.nb
 have hrg:=hc.rg
 unfold lM
 rw[hf]
 refine⟨fun m q h'=>∃(i:Nat) (U R:List Bool) (t:Bool),q=[.bool t,nD i]/\i<=nr/\m=nr-i/\GC c P N U R t/\(t=false->uT c U R c.b.length/\IV c U R i)/\Vs h' (bP c nU nR nu n4 n2 nr U R X),_,⟨0,U,R,t,rfl,by omega,rfl,s,fun h=>⟨cb h,fun b hb=>by omega⟩,V⟩,?_⟩
 rintro m f h1 ⟨i,U1,R1,t1,hq,hi,hm,s1,ck,V1⟩
 simp only[aq,and_true]at hq
 obtain⟨q1,q2⟩:=hq
 have hRl:R1.length=nr:=by have:=s1.rl;omega
 have get0:∀{KH:HKq}{h1:Heap}{U1 R1:List Bool},Vs h1 (bP c nU nR nu n4 n2 nr U1 R1 X)->aa PP (.fadd (.c (.ptr nu 0 0)) 1) h1 (fun a h2=>aa PP (.ld (.c a) 1 false) h2 KH)=KH (.ms nR 0 nr) h1:=fun {KH h1 U1 R1} V1=>by rw[V1.fa 0 rfl,V1.cx 0 (j:=0+1) rfl rfl]
 have len0:∀{K:D->Prop},aR (.ms nR 0 nr) h1 K=K (.int .i64 (nr:Int)):=fun {K}=>by
  rw[bu,V1.get 1 _ _ rfl];exact propext ⟨fun hh=>hh.2,fun hk=>⟨rfl,hk⟩⟩
 rw[get0 V1,len0,q1,q2]
 by_cases hlt:¬i<nr
 ·have:i=nr:=by omega
  subst this
  rw[nD,jX (by omega),af]
  simp only[ab,true_and]
  exact hJ h1 U1 R1 t1 s1 ck V1
 replace hlt:i<nr:=Decidable.not_not.1 hlt
 rw[nD,jZ (by omega),ag]
 refine⟨fun q h'=>∃(U R:List Bool) (t:Bool),q=[.bool t]/\GC c P N U R t/\(t=false->uT c U R c.b.length/\IV c U R (i+1))/\Vs h' (bP c nU nR nu n4 n2 nr U R X),?_,?_⟩
 ·rintro f' h' ⟨U2,R2,t2,hq,s2,ck2,V2⟩
  simp only[aq,and_true]at hq
  rw[hq,cU (by omega) (by omega)]
  simp only[ab,true_and]
  exact⟨_,by omega,i+1,U2,R2,t2,rfl,by omega,rfl,s2,ck2,V2⟩
 have more:(hasB R1 i=true->Ig c (da c) U1 R1 (i:Int)=true)->(t1=false->uT c U1 R1 c.b.length/\IV c U1 R1 (i+1)):=fun hh ht=>⟨(ck ht).1,fun b hb hu=>by
  by_cases e:b=i
  ·subst e;exact hh hu
  ·exact(ck ht).2 b (by omega) hu⟩
 rw[get0 V1,V1.ia 1 rfl (by omega) (by omega),aA,V1.xI 1 rfl (dq (bo (by rw[hRl];exact hlt))) rfl]
 cases g1:hasB R1 i
 ·simp only[gD,Bool.not_false,Bool.not_true,aE,if_true,if_false]
  rw[af]
  simp only[ab,true_and]
  exact⟨U1,R1,t1,rfl,s1,more fun h=>by(rw[g1]at h;cases h),V1⟩
 simp only[gD,Bool.not_false,Bool.not_true,aE,if_true,if_false]
 rw[V1.lI 4 (s:=8) rfl rfl,V1.lI 0 (s:=2) rfl rfl,show D.agg [.int .i64 c.group,.int .i64 c.sub,.int .i64 c.regs,.int .i64 c.slots,.int .i64 c.params,.sl (c.arrays.map vc.e),.sl (c.loops.map Loop.e),.sl (c.b.map Block.e)]=c.e from rfl]
 refine DS hc V1 (s1.bU fun x hx=>hx) (s1.bR hr fun x hx=>hx) s1.ul s1.rl kV ?_
 rw[du]
 cases g2:Ig c (da c) U1 R1 (i:Int)
 ·rw[Bool.not_false,ag,get0 V1,V1.ia 1 rfl (by omega) (by omega),aA]
  refine V1.uK 1 rfl (by simp[bL,hRl];exact hlt) rfl (fL _) fun h3 V3=>?_
  rw[fK]at V3
  simp only[ab,true_and]
  obtain⟨r,hr1,hr2,hr3⟩:=Rw g2 g1
  have:=s1.drop hP hr1 (by rw[hr2];exact g1) hr3
  rw[hr2]at this
  exact⟨U1,R1.set i false,true,rfl,this,fun h=>(by cases h),V3⟩
 ·rw[Bool.not_true,af]
  simp only[ab,true_and]
  exact⟨U1,R1,t1,rfl,s1,more fun _=>g2,V1⟩
theorem Pw (hc:dX c) (hr:c.regs=(nr:Int)) (hP:Dr c P) (wD:LR X vD (ji c)) (hul:U.length=c.b.length) (hrl:(R.length:Int)=c.regs) (hp:P U R) (V:Vs h (bP c nU nR nu n4 n2 nr U R X)){J:HJq}
  (hJ:∀h' U' R',U'.length=c.b.length->(R'.length:Int)=c.regs->P U' R'->(iB c).all (cP U' R')=true->Vs h' (bP c nU nR nu n4 n2 nr U' R' X)->J [] h') :
  lK h (.ptr nu 0 0) (.ptr n2 0 0) (.ptr n4 0 0) (.sl (bL (da c))) vD J:=by
 unfold lK
 refine⟨fun m q h'=>∃(U R:List Bool) (t:Bool),q=[.bool t]/\m=2*qE U R+(if t then 1 else 0)/\U.length=c.b.length/\(R.length:Int)=c.regs/\P U R/\(t=false->uT c U R c.b.length/\IV c U R nr)/\Vs h' (bP c nU nR nu n4 n2 nr U R X),_,⟨U,R,true,rfl,rfl,hul,hrl,hp,fun h=>(by cases h),V⟩,?_⟩
 rintro m f h1 ⟨U1,R1,t1,hq,hm,ul,rl,p1,ck,V1⟩
 simp only[aq,and_true]at hq
 rw[hq]
 cases t1 with
 | false =>
  rw[af]
  simp only[ab,true_and]
  obtain⟨c1,c2⟩:=ck rfl
  exact hJ h1 U1 R1 ul rl p1 ((yp hc).2 ⟨c1,fun n hn hu=>c2 n (by omega) hu⟩) V1
 | true =>
  rw[ag]
  refine⟨fun q h'=>∃(U R:List Bool) (t:Bool),q=[.bool t]/\GC c P (qE U1 R1) U R t/\(t=false->uT c U R c.b.length)/\Vs h' (bP c nU nR nu n4 n2 nr U R X),?_,?_⟩
  ·rintro f' h' ⟨U2,R2,t2,hq2,s2,ck2,V2⟩
   simp only[aq,and_true]at hq2
   refine Pu hc hr hP s2 ck2 V2 hq2 fun h3 U3 R3 t3 s3 ck3 V3=>?_
   refine⟨_,?_,U3,R3,t3,rfl,rfl,s3.ul,s3.rl,s3.p,ck3,V3⟩
   have:=s3.n
   cases t3
   ·simp at this ⊢;simp at hm;omega
   ·simp at this ⊢;simp at hm;omega
  ·exact K8 hc hr hP wD ⟨ul,rl,p1,by simp⟩ V1 fun h' U' R' t s ck V=>⟨U',R',t,rfl,s,ck,V⟩
end
end Go.Am
namespace Go.Am
open Go Go.Proofs
def mv (t:Bool) (n i:Nat):List Bool:=(List.range n).map fun k=>decide (k<i)&&t
theorem Hp {t:Bool}{n i:Nat}:(mv t n i).length=n:=by simp[mv]
theorem Nw {t:Bool}{n:Nat}:mv t n 0=List.replicate n false:=by
 apply List.ext_getElem (by simp[mv]);intro i h1 h2;simp[mv]
theorem Nv {t:Bool}{n:Nat}:mv t n n=List.replicate n t:=by
 apply List.ext_getElem (by simp[mv]);intro i h1 h2;simp[mv]at h1 ⊢;intro;omega
theorem Ho {t:Bool}{n i:Nat}:(mv t n i).set i t=mv t n (i+1):=by
 apply List.ext_getElem (by simp[mv])
 intro k h1 h2
 rw[List.getElem_set]
 simp only[mv,List.getElem_map,List.getElem_range]
 by_cases h:i=k
 ·subst h;simp
 ·rw[if_neg h]
  congr 1
  exact decide_eq_decide.2 (by omega)
section
variable {c:Code}{nU nR nu n4 n2 nr:Nat}{U R:List Bool}{X:LSq}{h:Heap}{t:Bool}
theorem VD (hn:c.b.length<=1000) (V:Vs h (bP c nU nR nu n4 n2 nr (mv t c.b.length 0) R X)){J:HJq}(hJ:∀h',Vs h' (bP c nU nR nu n4 n2 nr (mv t c.b.length c.b.length) R X)->J [] h') :
  m4 h (.ptr nu 0 0) (.bool t) (.ptr n4 0 0) J:=by
 unfold m4
 refine⟨fun m q h'=>∃i:Nat,q=[nD i]/\i<=c.b.length/\m=c.b.length-i/\Vs h' (bP c nU nR nu n4 n2 nr (mv t c.b.length i) R X),_,⟨0,rfl,by omega,rfl,V⟩,?_⟩
 rintro m f h1 ⟨i,hq,hi,hm,V1⟩
 simp only[aq,and_true]at hq
 rw[hq,nD,V1.fa 0 rfl,V1.cx 0 (j:=0+0) rfl rfl,bu,V1.get 2 _ _ rfl]
 refine⟨rfl,?_⟩
 by_cases hlt:i<c.b.length
 ·rw[jZ (by omega),ag,V1.fa 0 rfl,V1.cx 0 (j:=0+0) rfl rfl,V1.ia 2 rfl (by omega) (by omega),aA]
  refine V1.uK 2 rfl (by rw[bL,aw,Hp];exact hlt) rfl (fL _) fun h2 V2=>?_
  rw[fK,Ho]at V2
  rw[cU (by omega) (by omega)]
  simp only[ab,true_and]
  exact⟨_,by omega,i+1,rfl,by omega,rfl,V2⟩
 ·have:i=c.b.length:=by omega
  subst this
  rw[jX (by omega),af]
  simp only[ab,true_and]
  exact hJ h1 V1
theorem VE (hn:nr<=1000) (V:Vs h (bP c nU nR nu n4 n2 nr U (mv t nr 0) X)){J:HJq}(hJ:∀h',Vs h' (bP c nU nR nu n4 n2 nr U (mv t nr nr) X)->J [] h') :
  m7 h (.ptr nu 0 0) (.bool t) (.ptr n4 0 0) J:=by
 unfold m7
 refine⟨fun m q h'=>∃i:Nat,q=[nD i]/\i<=nr/\m=nr-i/\Vs h' (bP c nU nR nu n4 n2 nr U (mv t nr i) X),_,⟨0,rfl,by omega,rfl,V⟩,?_⟩
 rintro m f h1 ⟨i,hq,hi,hm,V1⟩
 simp only[aq,and_true]at hq
 rw[hq,nD,V1.fa 0 rfl,V1.cx 0 (j:=0+1) rfl rfl,bu,V1.get 1 _ _ rfl]
 refine⟨rfl,?_⟩
 by_cases hlt:i<nr
 ·rw[jZ (by omega),ag,V1.fa 0 rfl,V1.cx 0 (j:=0+1) rfl rfl,V1.ia 1 rfl (by omega) (by omega),aA]
  refine V1.uK 1 rfl (by rw[bL,aw,Hp];exact hlt) rfl (fL _) fun h2 V2=>?_
  rw[fK,Ho]at V2
  rw[cU (by omega) (by omega)]
  simp only[ab,true_and]
  exact⟨_,by omega,i+1,rfl,by omega,rfl,V2⟩
 ·have:i=nr:=by omega
  subst this
  rw[jX (by omega),af]
  simp only[ab,true_and]
  exact hJ h1 V1
end
theorem Qp {c:Code}{nr:Nat}(hr:c.regs=(nr:Int)) (hn:c.b.length<=1000/\nr<=1000){t:Bool}{h:Heap}{L:LSq}{KH:HKq}(V:Vs h L)
  (hK:∀nU nR h',Vs h' ((nR,.arr 1 (bL (List.replicate nr t)))::(nU,.arr 1 (bL (List.replicate c.b.length t)))::L)->KH (.agg [.ms nU 0 c.b.length,.ms nR 0 nr]) h'):tC c.e (.bool t) h KH:=by
 unfold tC
 refine V.box c.dS.one fun n2 h3 V3=>?_
 refine V3.alloc fun n4 h5 V5=>?_
 rw[V5.mH 1 rfl,V5.iJ 1 (j:=0+7) rfl rfl,bX,aw,V5.mH 1 rfl,V5.iJ 1 (j:=0+2) rfl rfl,hr]
 refine J7 (by omega) (by omega) ?_
 refine J7 (by omega) (by omega) ?_
 refine V5.JS (by omega) (by omega) fun nU h16 V16=>?_
 refine⟨by simp only[↓V16.mH 2 rfl,↓V16.iJ 2 (j:=0+2) rfl rfl,hr,ab,and_self],?_⟩
 refine V16.JS (by omega) (by omega) fun nR h20 V20=>?_
 refine⟨by simp only[↓V20.mH 3 rfl,↓V20.iJ 3 (j:=0+7) rfl rfl,Gc,bX,aw,ab,and_self],?_⟩
 rw[dB rfl]
 refine V20.alloc fun nu h26 V26=>?_
 refine⟨by simp only[↓V26.mH 4 rfl,↓V26.iJ 4 (j:=0+7) rfl rfl,↓V26.iJ 4 (j:=0+2) rfl rfl,Gc,bX,aw,hr,ab,and_self],?_⟩
 refine V26.p8 0 (cs':=[.ms nU 0 c.b.length,.ms nR 0 nr]) rfl rfl rfl (fun x hx=>by simp at hx;rcases hx with rfl|rfl<;>rfl) fun h33 V33=>?_
 simp only[List.set_cons_zero]at V33
 have V33:Vs h33 (bP c nU nR nu n4 n2 nr (mv t c.b.length 0) (mv t nr 0) L):=by
  unfold bP;rw[Nw,Nw,Gq,Gq];exact V33
 refine⟨fun _ h'=>Vs h' (bP c nU nR nu n4 n2 nr (mv t c.b.length c.b.length) (mv t nr 0) L),?_,VD (by omega) V33 fun h' V'=>V'⟩
 rintro f h36 V36
 refine⟨fun _ h'=>Vs h' (bP c nU nR nu n4 n2 nr (mv t c.b.length c.b.length) (mv t nr nr) L),?_,VE (by omega) V36 fun h' V'=>V'⟩
 rintro f2 h48 V48
 rw[Nv,Nv]at V48
 rw[V48.lI 0 (s:=2) rfl rfl]
 refine V48.p8 3 rfl rfl rfl (fun x hx=>by simp at hx;rcases hx with rfl|rfl<;>rfl) fun h52 V52=>?_
 simp only[bP,List.set_cons_succ,List.set_cons_zero]at V52
 rw[V52.lI 3 (s:=2) rfl rfl]
 exact hK nU nR h52 (V52.sub (.cons _ (.cons_cons _ (.cons_cons _ (.cons _ (.cons _ (.refl _)))))))
theorem Us {c:Code}{nr:Nat}(hr:c.regs=(nr:Int)) (hn:c.b.length<=1000/\nr<=1000){t:Bool}{h:Heap}{L:LSq}{KH:HKq}(V:Vs h L)
  (hK:∀nU nR h',Vs h' ((nR,.arr 1 (bL (List.replicate nr t)))::(nU,.arr 1 (bL (List.replicate c.b.length t)))::L)->KH (.agg [.ms nU 0 c.b.length,.ms nR 0 nr]) h'):ai PP gp [c.e,.bool t] h KH :=
 aT tZ (aJ _ _ _) rfl (tB _ _ _) (Qp hr hn V hK)
theorem Dr.uv {c:Code}(hc:dX c):Dr c (UV c (iB c)):=fun U R r hu hr hp hrr hg hk=>(hp.drop hrr (C5 hc r hrr) hk).2
theorem On {c:Code}(hc:dX c) (hD:Ed c){nr:Nat}(hr:c.regs=(nr:Int)){h:Heap}{L:LSq}{KH:HKq}(V:Vs h L)
  (hK:∀nU nR X h',Vs h' ((nR,.arr 1 (bL (Er c (iB c))))::(nU,.arr 1 (bL (ED c (iB c))))::(X++L))->KH (.agg [.ms nU 0 c.b.length,.ms nR 0 nr]) h'):ai PP qi [c.e] h KH:=by
 have hnb:=hc.g.nb
 have hrg:=hc.rg
 obtain⟨O,O',at',U,Dd⟩:=hD
 refine aT Cc (aJ _ _ _) rfl (BV _ _) ?_
 unfold yO
 refine V.box c.dS.one fun n2 h3 V3=>?_
 refine V3.alloc fun n4 h5 V5=>?_
 have ldE:∀{KH:HKq}{h:Heap}{M:LSq},Vs h M->(n2,Slot.box c.e)∈M->aa PP (.ld (.c (.ptr n2 0 0)) 8 true) h KH=KH c.e h:=fun {KH h M} V hm=>V.IB (cs:=[.int .i64 c.group,.int .i64 c.sub,.int .i64 c.regs,.int .i64 c.slots,.int .i64 c.params,.sl (c.arrays.map vc.e),.sl (c.loops.map Loop.e),.sl (c.b.map Block.e)]) hm rfl
 rw[ldE V5 (by simp)]
 refine Us hr ⟨by omega,by omega⟩ V5 fun nU nR h9 V9=>?_
 refine V9.alloc fun nu h11 V11=>?_
 refine V11.p8 0 rfl rfl rfl (fun x hx=>by simp at hx;rcases hx with rfl|rfl<;>rfl) fun h13 V13=>?_
 simp only[List.set_cons_zero]at V13
 replace V13:Vs h13 (bP c nU nR nu n4 n2 nr (List.replicate c.b.length true) (List.replicate nr true) L):=V13
 rw[ldE V13 (by simp[bP])]
 refine bO (HH hc.g) (fun d hd=>by simp at hd;subst hd;exact c.dS.pair) ?_
 rintro _ ⟨S,rfl,hS,hSk⟩
 have eS:=Cu hS hSk
 subst eS
 rw[ldE V13 (by simp[bP])]
 refine Ba hc.g Dd V13 fun v X h21 V21 wX=>?_
 have V22:Vs h21 (bP c nU nR nu n4 n2 nr (List.replicate c.b.length true) (List.replicate nr true) (X++L)):=by
  refine V21.perm ?_
  exact List.perm_append_comm_assoc X [(nu,.box (.agg [.ms nU 0 c.b.length,.ms nR 0 nr])),(nR,.arr 1 (bL (List.replicate nr true))),(nU,.arr 1 (bL (List.replicate c.b.length true))),(n4,.box (.agg [.nil,.nil])),(n2,.box c.e)] L
 have enr:nr=c.regs.toNat:=by omega
 refine⟨fun _ h'=>Vs h' (bP c nU nR nu n4 n2 nr (ED c (iB c)) (Er c (iB c)) (X++L)),?_,Pw hc hr (Dr.uv hc) (wX.mono fun x hx=>by simp[hx]) (by simp) (by simp[hr]) (by rw[enr];exact UV.start (by omega)) V22 fun h' U' R' ul rl p ck V'=>?_⟩
 ·rintro f h24 V24
  rw[V24.lI 0 (s:=2) rfl rfl]
  refine V24.p8 3 rfl rfl rfl (fun x hx=>by simp at hx;rcases hx with rfl|rfl<;>rfl) fun h52 V52=>?_
  simp only[bP,List.set_cons_succ,List.set_cons_zero]at V52
  rw[V52.lI 3 (s:=2) rfl rfl]
  exact hK nU nR X h52 (V52.sub (.cons _ (.cons_cons _ (.cons_cons _ (.cons _ (.cons _ (.refl _)))))))
 ·obtain⟨e1,e2⟩:=p.fin (C5 hc) (List.all_eq_true.1 ck)
  subst e1;subst e2
  exact V'
end Go.Am
