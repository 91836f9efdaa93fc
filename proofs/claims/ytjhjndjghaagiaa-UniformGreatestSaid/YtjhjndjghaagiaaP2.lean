/- What the functions of this chapter give, on plain data. No condition. -/
import Derived.Shelf.SortM.Plain
import Derived.Shelf.SortM.SortNone
import Derived.Shelf.Slices.CompactI
import Derived.Test.YtjhjndjghaagiaaP1
set_option linter.unnecessarySimpa false
set_option linter.defProp false
set_option linter.unusedSectionVars false
set_option linter.unusedSimpArgs false
set_option linter.unusedVariables false
namespace Go.Am
open Go Go.Proofs
structure Qp (c:Code) (O O':List Nat) (at':List Int):Prop where
 ord:uL (fu c) c.b.length 0 O
 g:JP (oR (fu c) O c.b.length (cM c O)) c.b.length O' at' (yj (oR (fu c) O c.b.length (cM c O)) O' (c.b.length+1))
 all:∀x∈O,x∈O'
 sub:∀x,x∈cM c O->x∈O
 lt:∀x∈O,x<c.b.length
 len:O.length<=20/\(cM c O).length<=20
theorem o6 {l:List Nat}{n:Nat}(nd:l.Nodup) (h:∀x∈l,x<n):l.length<=n:=by
 have:l.length<=(List.range n).length:=nd.length_le_of_subset (fun x hx=>List.mem_range.2 (h x hx))
 simpa using this
theorem Sb {c:Code}(hc:bG c){h:Heap}{L:LSq}{KH:HKq}(V:Vs h L) (hK:∀ng nO nA O O' at' X v h',Qp c O O' at'->Vs h' ((nO,.arr 1 (aV O'))::(ng,Ju v nO O'.length nA (c.b.length+1))::(nA,.arr 1 (fp at'))::(X++L))->LR X v (oR (fu c) O c.b.length (cM c O))->KH (.ptr ng 0 0) h') :
  ah PP wC [c.e] h KH:=by
 have hnb:=hc.nb
 have hE:=gW hc
 refine aL El (aD _ _ _) rfl (Eh _ _) ?_
 unfold DB
 refine V.box c.db.one fun n2 h3 V1=>?_
 rw[show aa PP (.ld (.c (.ptr n2 0 0)) 8 true) h3=fun KH=>KH c.e h3 from funext fun KH=>V1.lu 0 rfl rfl]
 refine PJ hc V1 fun nE h7 V7 wE=>?_
 rw[show(D.int .i64 0)=nD 0 from rfl]
 refine Dw (E:=fu c) (n:=c.b.length) (r:=0) hE bH (by omega) (by omega) V7 (wE.mono fun x hx=>by simp at hx;simp[hx]) fun ng nO nA O at0 h9 hord G V9=>?_
 have hOlt:∀x∈O,x<c.b.length:=fun x hx=>by have:=G.lt x hx;rwa [bH]at this
 have hOl:O.length<=20:=Nat.le_trans (o6 G.nd hOlt) hnb.2
 rw[V9.fa 4 rfl,V9.b9 4 (j:=7) rfl rfl,br,List.length_map]
 refine HC (E:=fu c) (O:=O) hE V9 (ig:=1) (iO:=0) rfl rfl (wE.mono fun x hx=>by simp at hx;simp[hx]) bH (by omega) (by omega) hOlt fun v0 h16 R16=>?_
 refine R16.SW (by rw[nF];omega) fun v h20 R20=>?_
 let L3:LSq:=(nO,.arr 1 (aV O))::(ng,Ju (.ms nE 0 c.b.length) nO O.length nA c.b.length)::(nA,.arr 1 (fp at0))::(nE,.arr 1 (Ga c c.b.length))::(n2,.box c.e)::L
 have R20:gh h20 L3 v (oR (fu c) O c.b.length []):=R20
 have V20:=R20.vs
 refine⟨fun _ h'=>gh h' L3 v (oR (fu c) O c.b.length (O.filter (qq c))),?_,?_⟩
 ·intro f h23 R23
  unfold vn
  refine⟨fun m q h'=>∃l:List Nat,q=[]/\gh h' L3 v (oR (fu c) O c.b.length l)/\l.Nodup/\(∀x∈l,x∈O)/\endF (fu c) O.reverse l=cM c O/\m=c.b.length-l.length,_,⟨_,rfl,R23,G.nd.filter _,fun x hx=>(List.mem_filter.1 hx).1,rfl,rfl⟩,?_⟩
  rintro m f' h27 ⟨l,-,R27,hnd,hlO,hend,hm⟩
  have hll:=o6 hnd fun x hx=>hOlt x (hlO x hx)
  obtain⟨X,V27,wX,lift⟩:=R27.lift
  have htok:=HP hc hOlt hlO (by omega) hOl
  refine Dw (E:=oR (fu c) O c.b.length l) (n:=c.b.length+1) (r:=c.b.length) htok pZ (by omega) (by omega) V27 (wX.mono fun x hx=>List.mem_append_left _ hx) fun ng' nO' nA' O' at' h29 hord' G' V29=>?_
  have hmem:=fun {b:Nat}(hb:b∈O)=>Oc hE G bH G' hlO hb
  have ix:∀{i:Nat}{x:Nat×Slot},L3[i]?=some x->((nO',Slot.arr 1 (aV O'))::(ng',Ju v nO' O'.length nA' (c.b.length+1))::(nA',.arr 1 (fp at'))::(X++L3))[X.length+i+3]?=some x:=fun hi=>by
   simp only[List.getElem?_cons_succ]
   rw[List.getElem?_append_right (by omega),Nat.add_sub_cancel_left];exact hi
  refine⟨fun q h'=>h'=h29/\∃d,q=[d]/\PQ O O' O.length d,?_,?_⟩
  ·rintro f2 h32 ⟨e,d,hq,hs⟩
   subst e
   simp only[List.cons.injEq,and_true]at hq
   rw[hq]
   rcases hs with⟨rfl,hs⟩|⟨j,b,rfl,hj,hb,hbO,hs⟩
   ·rw[kN (by omega),ag]
    have hall:∀x∈O,x∈O':=fun x hx=>hs x (by rwa [List.take_length])
    have e1:cM c O=l:=by rw[<- hend];exact EJ fun y hy=>(hmem hy).1 (hall y hy)
    refine hK ng' nO' nA' O O' at' (X++[(nO,.arr 1 (aV O)),(ng,Ju (.ms nE 0 c.b.length) nO O.length nA c.b.length),(nA,.arr 1 (fp at0)),(nE,.arr 1 (Ga c c.b.length)),(n2,.box c.e)]) v h32 ⟨hord,by rw[e1];exact G',hall,by rw[e1];exact hlO,hOlt,hOl,by rw[e1];omega⟩ ?_ ?_
    ·simpa only[List.append_assoc,List.cons_append,List.nil_append] using V29
    ·rw[e1];exact wX.mono fun x hx=>List.mem_append_left _ hx
   ·have hbO2:b∈O:=List.mem_of_getElem? hb
    rw[nD,kp (by omega),af]
    have R32:gh h32 L3 v (oR (fu c) O c.b.length l):=lift h32 V29.pop.pop.pop
    have hnl:b∉l:=fun hbl=>hbO ((hmem hbO2).2 ⟨b,hbl,.refl⟩)
    refine R32.app (b:=c.b.length) (x:=b) IU (by omega) fun h45 R45=>?_
    rw[IT]at R45
    simp only[ab,true_and]
    have hl1:(l++[b]).length=l.length+1:=by simp
    have nd1:(l++[b]).Nodup:=List.nodup_append.2 ⟨hnd,by simp,fun a ha x hx=>by simp at hx;subst hx;rintro rfl;exact hnl ha⟩
    have sub1:∀x,x∈l++[b]->x∈O:=fun x hx=>by
     rcases List.mem_append.1 hx with hx|hx
     ·exact hlO x hx
     ·simp at hx;subst hx;exact hbO2
    have hle:=o6 nd1 fun x hx=>hOlt x (sub1 x hx)
    refine⟨_,?_,l++[b],R45,nd1,sub1,?_,rfl⟩
    ·omega
    ·rw[<- hend]
     have hjl:=(List.getElem?_eq_some_iff.1 hb).1
     have hsp:O=O.take j++b::O.drop (j+1):=by
      conv=>lhs;rw[<- List.take_append_drop j O]
      congr 1
      rw[List.drop_eq_getElem_cons hjl,(List.getElem?_eq_some_iff.1 hb).2]
     refine(KB hsp (fun y hy=>?_) fun hr=>hbO ((hmem hbO2).2 hr)).symm
     obtain⟨k,hk⟩:=List.getElem?_of_mem hy
     rw[List.getElem?_drop]at hk
     exact(hmem (List.mem_of_getElem? hk)).1 (hs (j+1+k) y (by omega) (List.getElem?_eq_some_iff.1 hk).1 hk)
  ·rw[V29.fa _ (ix (i:=1) rfl),V29.fa _ (ix (i:=1) rfl),V29.b9 _ (j:=1) (ix (i:=1) rfl) rfl,bb,V29.get _ _ _ (ix (i:=0) rfl)]
   refine⟨rfl,?_⟩
   refine Pz (w:=v) V29 (fun x hx=>by have:=hOlt x hx;omega) (by omega) (ix (i:=0) rfl) (ig:=1) rfl (iA:=2) rfl (by rw[G'.sX,pZ]) (fun x hx=>?_) (fun x hx hn=>G'.ano x (by rw[pZ];exact hx) hn) fun d hd=>⟨rfl,d,rfl,hd⟩
   obtain⟨i,hi⟩:=List.getElem?_of_mem hx
   exact⟨i,G'.aat i x hi⟩
 ·rw[V20.fa 1 rfl,V20.fa 1 rfl,V20.b9 1 (j:=1) rfl rfl,bb,V20.get 0 _ _ rfl]
  refine⟨rfl,?_⟩
  exact NC (ng:=ng) (nA:=nA) (ig:=1) (w:=.nil) hOlt hOl R20 (iO:=0) rfl (i2:=4) rfl fun h' R'=>R'
end Go.Am
namespace Go.Am
open Go Go.Proofs Go.Shelf Go.RowKit
def Ka:Go.Shelf.Ren:=⟨fun|5=>72|8=>84|7=>83|19=>98|20=>99|10=>89|11=>90|12=>91|13=>92|14=>93|15=>94|16=>95|17=>96|18=>97|30=>102|31=>103|32=>104|33=>105|34=>106|35=>107|40=>108|n=>n,fun|23=>73|25=>3|3=>3|32=>140|22=>73|0=>0|44=>154|46=>156|4=>4|36=>146|35=>145|41=>151|5=>5|9=>9|53=>161|57=>165|63=>167|64=>168|n=>n,fun|n=>n⟩
theorem Sz:Go.Proofs.SlLaysM.n5 Try.prog Ka where
 mixed:=by kernel_rfl
 f5:=⟨Try.f72.name,by decide,Try.func72.trans (congrArg some (by kernel_rfl))⟩
 f7:=⟨Try.f83.name,by decide,Try.func83.trans (congrArg some (by kernel_rfl))⟩
 f8:=Try.func84.trans (congrArg some (by kernel_rfl))
 f10:=⟨Try.f89.name,by decide,Try.func89.trans (congrArg some (by kernel_rfl))⟩
 f11:=⟨Try.f90.name,by decide,Try.func90.trans (congrArg some (by kernel_rfl))⟩
 f12:=⟨Try.f91.name,by decide,Try.func91.trans (congrArg some (by kernel_rfl))⟩
 f13:=⟨Try.f92.name,by decide,Try.func92.trans (congrArg some (by kernel_rfl))⟩
 f14:=⟨Try.f93.name,by decide,Try.func93.trans (congrArg some (by kernel_rfl))⟩
 f15:=⟨Try.f94.name,by decide,Try.func94.trans (congrArg some (by kernel_rfl))⟩
 f16:=⟨Try.f95.name,by decide,Try.func95.trans (congrArg some (by kernel_rfl))⟩
 f17:=⟨Try.f96.name,by decide,Try.func96.trans (congrArg some (by kernel_rfl))⟩
 f18:=⟨Try.f97.name,by decide,Try.func97.trans (congrArg some (by kernel_rfl))⟩
 f19:=Try.func98.trans (congrArg some (by kernel_rfl))
 f20:=Try.func99.trans (congrArg some (by kernel_rfl))
 f30:=⟨Try.f102.name,by decide,Try.func102.trans (congrArg some (by kernel_rfl))⟩
 f31:=Try.func103.trans (congrArg some (by kernel_rfl))
 f32:=Try.func104.trans (congrArg some (by kernel_rfl))
 f33:=⟨Try.f105.name,by decide,Try.func105.trans (congrArg some (by kernel_rfl))⟩
 f34:=⟨Try.f106.name,by decide,Try.func106.trans (congrArg some (by kernel_rfl))⟩
 f35:=⟨Try.f107.name,by decide,Try.func107.trans (congrArg some (by kernel_rfl))⟩
 f40:=⟨Try.f108.name,by decide,Try.func108.trans (congrArg some (by kernel_rfl))⟩
 t0:=Try.underlying0
 a0:=Try.isAgg0
 z0:=Try.sizeOf0
 v0:=Try.zeroValue0
 t3:=Try.underlying3
 a3:=Try.isAgg3
 z3:=Try.sizeOf3
 v3:=Try.zeroValue3
 t4:=Try.underlying4
 a4:=Try.isAgg4
 z4:=Try.sizeOf4
 v4:=Try.zeroValue4
 t5:=Try.underlying5
 a5:=Try.isAgg5
 z5:=Try.sizeOf5
 v5:=Try.zeroValue5
 t9:=Try.underlying9
 a9:=Try.isAgg9
 z9:=Try.sizeOf9
 v9:=Try.zeroValue9
 t22:=Try.underlying73
 a22:=Try.isAgg73
 z22:=Try.sizeOf73
 v22:=Try.zeroValue73
 t23:=Try.underlying73
 a23:=Try.isAgg73
 z23:=Try.sizeOf73
 v23:=Try.zeroValue73
 t25:=Try.underlying3
 a25:=Try.isAgg3
 z25:=Try.sizeOf3
 v25:=Try.zeroValue3
 t32:=Try.underlying140
 a32:=Try.isAgg140
 z32:=Try.sizeOf140
 v32:=Try.zeroValue140
 t35:=Try.underlying145
 a35:=Try.isAgg145
 z35:=Try.sizeOf145
 v35:=Try.zeroValue145
 t36:=Try.underlying146
 a36:=Try.isAgg146
 z36:=Try.sizeOf146
 v36:=Try.zeroValue146
 t41:=Try.underlying151
 a41:=Try.isAgg151
 z41:=Try.sizeOf151
 v41:=Try.zeroValue151
 t44:=Try.underlying154
 a44:=Try.isAgg154
 z44:=Try.sizeOf154
 v44:=Try.zeroValue154
 t46:=Try.underlying156
 a46:=Try.isAgg156
 z46:=Try.sizeOf156
 v46:=Try.zeroValue156
 t53:=Try.underlying161
 a53:=Try.isAgg161
 z53:=Try.sizeOf161
 v53:=Try.zeroValue161
 t57:=Try.underlying165
 a57:=Try.isAgg165
 z57:=Try.sizeOf165
 v57:=Try.zeroValue165
 t63:=Try.underlying167
 a63:=Try.isAgg167
 z63:=Try.sizeOf167
 v63:=Try.zeroValue167
 t64:=Try.underlying168
 a64:=Try.isAgg168
 z64:=Try.sizeOf168
 v64:=Try.zeroValue168
def KL:Go.Shelf.Ren:=⟨fun|20=>73|n=>n,fun|22=>73|3=>3|4=>4|0=>0|n=>n,fun|n=>n⟩
theorem TB:Go.Proofs.Lays2.n20 Try.prog KL where
 mixed:=by kernel_rfl
 f20:=Try.func73.trans (congrArg some (by kernel_rfl))
 t0:=Try.underlying0
 a0:=Try.isAgg0
 z0:=Try.sizeOf0
 v0:=Try.zeroValue0
 t3:=Try.underlying3
 a3:=Try.isAgg3
 z3:=Try.sizeOf3
 v3:=Try.zeroValue3
 t4:=Try.underlying4
 a4:=Try.isAgg4
 z4:=Try.sizeOf4
 v4:=Try.zeroValue4
 t22:=Try.underlying73
 a22:=Try.isAgg73
 z22:=Try.sizeOf73
 v22:=Try.zeroValue73
 i3:=by kernel_rfl
end Go.Am
namespace Go.Am
open Go Go.Proofs Go.RowKit Go.Sort
theorem Fj {ks:List Int}{cur:Array Value}{i:Nat}(hi:i<ks.length) (hs:ks.length<=cur.size):(putCells encI 0 ks.toArray cur).getD i Go.undef=.int .i64 (ks[i]'hi):=by
 have h1:(putCells encI 0 ks.toArray cur)[i]?=some (encI (ks[i]'hi)):=by
  unfold putCells
  rw[Array.getElem?_mapIdx]
  rw[Array.getElem?_eq_getElem (by omega)]
  simp[hi]
 simp[Array.getD_eq_getD_getElem?,h1]
theorem oy {ks:List Int}{cur:Array Value}:(putCells encI 0 ks.toArray cur).size=cur.size:=by simp[putCells]
theorem I1 {c:Ctx}{w w':World}(hp:c.hp=w.heap) (hr:aq c){m g:Nat}{ks ks':List Int}{cur:Array Value}{ty:TypeId}(hm:c.h m=.arr 1 (fp ks)) (hρ:c.ρ m=some g) (hg:c.hp[g]?=some (Obj.cells cur ty (0,0))) (hsz:ks.length<=cur.size) (hl:ks'.length=ks.length){n:Nat}{os:Array Obj}
  (hw:w'=grow (putRow encI (Sort.ahead w n) g 0 ks'.toArray) os):c.le ⟨c.ρ,c.X,au c.h m (.arr 1 (fp ks')),w'.heap⟩/\aq ⟨c.ρ,c.X,au c.h m (.arr 1 (fp ks')),w'.heap⟩/\WS w w'/\w'.heap[g]?=some (Obj.cells (putCells encI 0 ks'.toArray cur) ty (0,0)):=by
 have hgl:g<c.hp.size:=(Array.getElem?_eq_some_iff.1 hg).1
 have hheap:w'.heap=(w.heap.modify g (onCells (putCells encI 0 ks'.toArray)))++os:=by rw[hw];rfl
 have hsize:c.hp.size<=w'.heap.size:=by rw[hheap,hp];simp
 have hoth:∀k,k<c.hp.size->k≠g->w'.heap[k]?=c.hp[k]?:=fun k hk hne=>by
  rw[hheap,Array.getElem?_append_left (by rw[Array.size_modify, <- hp];exact hk),Array.getElem?_modify,if_neg (fun e=>hne e.symm),hp]
 have hat:w'.heap[g]?=some (Obj.cells (putCells encI 0 ks'.toArray cur) ty (0,0)):=by
  rw[hheap,Array.getElem?_append_left (by rw[Array.size_modify, <- hp];exact hgl),Array.getElem?_modify,if_pos rfl, <- hp,hg];rfl
 have st:gJ c ⟨c.ρ,c.X,au c.h m (.arr 1 (fp ks')),w'.heap⟩ m m g:={
  X:=rfl
  hother:=fun k hk _=>ai _ _ hk
  ρother:=fun _ _=>rfl
  hn:=Or.inl rfl
  hm:=fun h=>absurd rfl h
  mine:=by show(au c.h m _ m).mine;rw[ak];trivial
  ρn:=hρ
  tn:=by show Trans (c.h m) (au c.h m _ m);rw[ak,hm];exact .arrArr _ _ _ (by rw[lV,lV];omega)
  NY:=fun _=>hρ
  size:=hsize
  hp:=hoth
  shape:=fun cur' ty' fr h=>by rw[hg]at h;cases h;exact⟨_,hat,oy⟩
  loop:=fun r h=>by rw[hg]at h;cases h
  from':=Or.inr ⟨by rw[hm];trivial,hρ⟩ }
 refine⟨st.le,st.heap hr ?_,?_,hat⟩
 ·show cx _ m (au c.h m _ m)
  rw[ak]
  have hcell:∀i j d,aF (fp ks') i j=some d->j=0/\∃(k:Int) (hi:i<ks'.length),ks'[i]=k/\d=.int .i64 k:=by
   intro i j d hd
   simp only[aF,Option.bind_eq_some_iff,fp,List.getElem?_map,Option.map_eq_some_iff]at hd
   obtain⟨x,⟨k,hk,rfl⟩,hx⟩:=hd
   obtain⟨hi,hk⟩:=List.getElem?_eq_some_iff.1 hk
   cases j with
   | zero=>simp[D.cells]at hx;exact⟨rfl,k,hi,hk,hx.symm⟩
   | succ j=>simp[D.cells]at hx
  refine⟨Nat.one_pos,fun e he=>?_,fun i j d hd=>?_,Or.inr ⟨g,_,ty,hρ,hat,by rw[lV,oy];omega,fun i j d hd=>?_⟩⟩
  ·simp only[fp,List.mem_map]at he;obtain⟨k,-,rfl⟩:=he;rfl
  ·obtain⟨-,k,-,-,rfl⟩:=hcell i j d hd;rfl
  ·obtain⟨rfl,k,hi,hk,rfl⟩:=hcell i j d hd
   rw[Nat.mul_one,Nat.add_zero,Fj hi (by omega),hk]
   exact .int _ _
 ·rw[hw];exact⟨rfl,rfl,rfl⟩
theorem Jb {c:Ctx}{w:World}(hp:c.hp=w.heap) (hr:aq c){m:Nat}{ks:List Int}(hm:c.h m=.arr 1 (fp ks)) (h0:1<=ks.length){va:Value}(hv:ar c (.ms m 0 ks.length) va) :
  ∃(g cap:Nat) (cur:Array Value) (ty:TypeId),va=.slice (some ⟨g,0,none⟩) ks.length cap/\c.ρ m=some g/\c.hp[g]?=some (Obj.cells cur ty (0,0))/\ks.length<=cur.size/\ks.length<=cap/\cap<=maxLen/\cap<=cur.size/\Holds encI w g 0 ks.toArray:=by
 have hsl:=hr.slot m
 rw[hm]at hsl
 obtain⟨-,-,-,hrow⟩:=hsl
 rcases hrow with⟨-,he⟩|⟨g,cur,ty,q1,q2,q3,q4⟩
 ·have:(fp ks).length=0:=by rw[he];rfl
  rw[lV]at this;omega
 generalize hn:ks.length=len at hv
 cases hv with
 | msDead _ _ _ _ _ _ hd=>rw[hm]at hd;cases hd
 | msNil _ _ els hrow hρ=>omega
 | msE _ _ _ _ els hrow=>omega
 | ms _ _ _ g' esz' cap els' cur' ty' fr hrow' hρ hl hg hcap hc hmax =>
  rw[hm]at hrow'
  simp[Slot.row]at hrow'
  obtain⟨rfl,rfl⟩:=hrow'
  rw[hρ]at q1;cases q1
  rw[q2]at hg;cases hg
  rw[lV]at q3
  refine⟨g,cap,cur,ty,by simp,hρ,q2,by omega,hc,hmax,by omega,fun j hj=>?_⟩
  have hj':j<ks.length:=by simpa using hj
  have hc2:j<cur.size:=by omega
  refine⟨?_,?_⟩
  ·rw[pj, <- hp,Nat.zero_add,eQ q2 hc2]
   have:=q4 j 0 (.int .i64 ks[j]) (by simp[aF,fp,hj',D.cells])
   rw[Nat.mul_one,Nat.add_zero]at this
   generalize cur.getD j Go.undef=x at this
   cases this
   simp[hj']
  ·simp[World.frozen?, <- hp,q2]
theorem Jk {vals:Array Value}{d:D}{c:Ctx}(hs:vals.size=[d].length) (hrel:∀(i:Nat) (d':D),[d][i]?=some d'->ar c d' (vals.getD i Go.undef)):∃va,vals = #[va]/\ar c d va:=by
 obtain⟨l⟩:=vals
 match l,hs with
 | [x],_=>exact⟨x,rfl,hrel 0 _ rfl⟩
def nh (ks:List Int):List Int:=ks.mergeSort fun x y=>decide (x<=y)
theorem zt {ks:List Int}:(nh ks).length=ks.length:=by simp[nh]
theorem Sd {h:Heap}{KH:HKq}{m:Nat}{ks:List Int}(hm:h m=.arr 1 (fp ks)) (h0:1<=ks.length) (hl:ks.length<=1000000) (hK:KH (.tup []) (au h m (.arr 1 (fp (nh ks))))):ah PP cO [.ms m 0 ks.length] h KH:=by
 intro c w vals hh hp hr hs hrel
 subst hh
 obtain⟨va,rfl,r0⟩:=Jk hs hrel
 obtain⟨g,cap,cur,ty,rfl,hρ,hg,h1,h2,h3,h4,hH⟩:=Jb hp hr hm h0 r0
 refine(AnyM.slices_Sort_int Sz g 0 cap ks w hH (by rw[<- hp];exact(Array.getElem?_eq_some_iff.1 hg).1) (by omega)).mono ?_
 rintro e w' ⟨rfl,n,os,hw⟩
 obtain⟨g1,g2,g3,-⟩:=I1 (ks':=nh ks) hp hr hm hρ hg h1 zt hw
 exact⟨_,.tup [],c.ρ,_,rfl,g1,g2,g3,.tup _ _ rfl (fun i d hd=>by simp at hd),hK⟩
def yf (ks:List Int):List Int:=Lib.compact ks++List.replicate (ks.length-(Lib.compact ks).length) 0
theorem K8 {h:Heap}{KH:HKq}{m:Nat}{ks:List Int}(hm:h m=.arr 1 (fp ks)) (h0:1<=ks.length) (hl:ks.length<=1000000) (hc:(Lib.compact ks).length<=ks.length) (hK:KH (.ms m 0 (Lib.compact ks).length) (au h m (.arr 1 (fp (yf ks))))):ah PP cq [.ms m 0 ks.length] h KH:=by
 intro c w vals hh hp hr hs hrel
 subst hh
 obtain⟨va,rfl,r0⟩:=Jk hs hrel
 obtain⟨g,cap,cur,ty,rfl,hρ,hg,h1,h2,h3,h4,hH⟩:=Jb hp hr hm h0 r0
 refine(Any.slices_Compact_int TB g 0 cap ks w hH (by omega) h2).mono ?_
 rintro e w' ⟨rfl,q,hw⟩
 have hlen:(yf ks).length=ks.length:=by simp[yf];omega
 obtain⟨g1,g2,g3,g4⟩:=I1 (w':=w') (ks':=yf ks) (n:=q) (os:= #[]) hp hr hm hρ hg h1 hlen (by rw[grow_empty,hw];rfl)
 refine⟨_,.ms m 0 (Lib.compact ks).length,c.ρ,_,rfl,g1,g2,g3,?_,hK⟩
 have:=ar.ms (c:=⟨c.ρ,c.X,au c.h m (.arr 1 (fp (yf ks))),w'.heap⟩) m 0 (Lib.compact ks).length g 1 cap (fp (yf ks)) _ ty (0,0) (by show(au c.h m _ m).row=_;rw[ak];rfl) hρ (by rw[lV];omega) g4 (by rw[oy];omega) (by omega) h3
 simpa using this
end Go.Am
namespace Go.Am
open Go Go.Proofs Go.RowKit
theorem AL {zs:List Int}:(Lib.compact zs).length<=zs.length:=by
 unfold Lib.compact Lib.compactUpTo
 rw[List.length_map]
 have:=List.length_filter_le (Lib.keeps zs.toArray) (List.range zs.length)
 simpa using this
theorem x9 {zs:List Int}{j:Nat}(h:j<zs.length):(zs.toArray[j]!)=zs[j]:=by simp[h]
theorem G4 {zs:List Int}{x:Int}:x∈Lib.compact zs↔x∈zs:=by
 unfold Lib.compact Lib.compactUpTo
 simp only[List.mem_map,List.mem_filter,List.mem_range]
 constructor
 ·rintro⟨j,⟨hj,-⟩,rfl⟩
  rw[x9 hj];exact List.getElem_mem _
 ·intro hx
  have:∀(j:Nat) (hj:j<zs.length),zs[j]=x->∃a,(a<zs.length/\Lib.keeps zs.toArray a=true)/\(zs.toArray[a]!)=x:=by
   intro j
   induction j with
   | zero=>intro hj e;exact⟨0,⟨hj,by simp[Lib.keeps]⟩,by rw[x9 hj,e]⟩
   | succ j ih =>
    intro hj e
    by_cases h:zs[j]=x
    ·exact ih (by omega) h
    ·refine⟨j+1,⟨hj,?_⟩,by rw[x9 hj,e]⟩
     unfold Lib.keeps
     rw[decide_eq_true_eq,Nat.add_sub_cancel,x9 hj,x9 (by omega),e]
     exact Or.inr fun q=>h q.symm
  obtain⟨j,hj,e⟩:=List.mem_iff_getElem.1 hx
  exact this j hj e
theorem G6 {zs:List Int}(h:zs.Pairwise (· <= ·)):(Lib.compact zs).Pairwise (· < ·):=by
 unfold Lib.compact Lib.compactUpTo
 rw[List.pairwise_map]
 have h1:((List.range zs.length).filter (Lib.keeps zs.toArray)).Pairwise (· < ·):=List.Pairwise.filter _ List.pairwise_lt_range
 refine List.Pairwise.imp_of_mem ?_ h1
 intro a b ha hb hab
 simp only[List.mem_filter,List.mem_range]at ha hb
 rw[x9 ha.1,x9 hb.1]
 have hk:=hb.2
 unfold Lib.keeps at hk
 rw[decide_eq_true_eq,x9 hb.1,x9 (by omega)]at hk
 have hne:=hk.resolve_left (by omega)
 have hp:=List.pairwise_iff_getElem.1 h
 have h2:zs[b-1]'(by omega)<=zs[b]:=hp (b-1) b (by omega) hb.1 (by omega)
 have h3:zs[a]<=zs[b-1]'(by omega):=by
  by_cases e:a=b-1
  ·subst e;exact Int.le_refl _
  ·exact hp a (b-1) ha.1 (by omega) (by omega)
 have:zs[b-1]'(by omega)<zs[b]:=by
  rcases Int.lt_or_eq_of_le h2 with h|h
  ·exact h
  ·exact absurd h.symm hne
 exact Int.lt_of_le_of_lt h3 this
theorem HS {ks:List Int}:(nh ks).Perm ks:=List.mergeSort_perm _ _
theorem LS {ks:List Int}:(nh ks).Pairwise (· <= ·):=by
 have:=List.pairwise_mergeSort (le:=fun x y:Int=>decide (x<=y)) (fun a b c h1 h2=>by simp at h1 h2 ⊢;omega) (fun a b=>by simp;omega) ks
 exact this.imp fun h=>by simpa using h
def HT (ks:List Int):List Int:=Lib.compact (nh ks)
theorem LZ {ks:List Int}{x:Int}:x∈HT ks↔x∈ks:=by rw[HT,G4,HS.mem_iff]
theorem L1 {ks:List Int}:(HT ks).Pairwise (· < ·):=G6 LS
theorem L0 {ks:List Int}:(HT ks).length<=ks.length:=Nat.le_trans AL (by rw[zt];exact Nat.le_refl _)
end Go.Am
namespace Go.Am
open Go Go.Proofs
def WL (nk pb pu pl nU n:Nat) (s:LSt) (B:cC) (cur:Nat) (lv:D) (M:LSq):LSq:=(nk,.lp s B)::(pb,.box (nD cur))::(pu,.box (.ms nU 0 n))::(pl,.box lv)::M
section
variable {h:Heap}{M:LSq}{nk pb pu pl nU n pUv pA iv iU iA cur a w:Nat}{B:cC}{lv:D}{T:List Nat}{U:List Int}{K:HKq}
theorem Ml (hv:M[iv]?=some (pUv,.box (.ms nU 0 n))) (hU:M[iU]?=some (nU,.arr 1 (fp U))) (hA:M[iA]?=some (pA,.box (nD a))) (hUn:U.length=n) (hw:U[a]?=some (w:Int)) (hT:T.length<=1000000) (q:QD h (WL nk pb pu pl nU n .ready B cur lv M) lv (aV T))
  {z1 z3 z4 z24 z25 z26 z47 z48 z49:D}(h1:cur=w->∀h',QD h' (WL nk pb pu pl nU n (.done (.exit 4)) B cur lv M) lv (aV T)->K (.bool false) h') (h2:cur≠w->∀h' lv',QD h' (WL nk pb pu pl nU n .ready B cur lv' M) lv' (aV (T++[cur]))->K (.bool true) h') :
  jR nk B (nD cur) z1 z3 z4 (.ptr pUv 0 0) (.ptr pA 0 0) (.ptr pl 0 0) z24 z25 z26 z47 z48 z49 h K:=by
 unfold jR
 have V:=q.vs
 refine⟨rfl,V.get 0 _ _ rfl,?_⟩
 have q1:QD (au h nk (.lp .busy B)) (WL nk pb pu pl nU n .busy B cur lv M) lv (aV T):=q.bX 0 rfl (by simp)
 have V1:=q1.vs
 have ix:∀{s:LSt}{lv:D}{i:Nat}{x:Nat×Slot},M[i]?=some x->(WL nk pb pu pl nU n s B cur lv M)[i+4]?=some x:=fun hi=>by simpa[WL] using hi
 have ha:=(List.getElem?_eq_some_iff.1 hw).1
 rw[V1.B6 _ (ix hv) rfl,V1.B6 _ (ix hA) rfl,nD,V1.ia _ (ix hU) (by omega) (by omega),Int.toNat_natCast,V1.uV _ (ix hU) (kh hw) rfl,nD,bY]
 by_cases hc:cur=w
 ·rw[decide_eq_true (by omega),ag]
  refine⟨V1.get 0 _ _ rfl,h1 hc _ ?_⟩
  exact q1.bX 0 rfl (by simp)
 ·rw[decide_eq_false (by omega),af]
  have hlo:lv.one=true:=by
   rcases q1 with⟨rfl,-,-⟩|⟨m,rfl,-⟩<;>rfl
  rw[V1.B6 3 rfl hlo]
  refine q1.push aO rfl (by rw[aQ];omega) (by rw[aQ];omega) fun lv' h2' q2=>?_
  have e2:aV T++[nD cur]=aV (T++[cur]):=by simp[aV]
  have e3:aV T++[D.int .i64 (cur:Int)]=aV (T++[cur]):=by simp[aV,nD]
  rw[e3]at q2
  rcases q2 with⟨-,h0,-⟩|⟨m,rfl,V2⟩
  ·simp[aV]at h0
  refine V2.IW 4 rfl hlo rfl fun h3 V3=>?_
  simp only[WL,List.set_cons_succ,List.set_cons_zero]at V3
  refine⟨V3.get 1 _ _ rfl,h2 hc _ (.ms m 0 (aV (T++[cur])).length) ?_⟩
  have q3:QD h3 (WL nk pb pu pl nU n .busy B cur (.ms m 0 (aV (T++[cur])).length) M) (.ms m 0 (aV (T++[cur])).length) (aV (T++[cur])):=Or.inr ⟨m,rfl,V3⟩
  exact q3.bX 0 rfl (by simp)
end
inductive NS (r:Nat) (up:Nat->Option Nat) (w:Nat):Nat->List Nat->Prop
 | stop:NS r up w w []
 | top {b:Nat}(h:b≠w) (hu:up b=some b):NS r up w b [b]
 | step {b y:Nat}{l:List Nat}(h:b≠w) (hy:up b=some y) (hb:y≠b) (k:NS r up w y l):NS r up w b (b::l)
section
variable {h:Heap}{M:LSq}{nk pb pu pl nU n pUv pA iv iU iA a w r:Nat}{U:List Int}{O:List Nat}{B:cC}
theorem N4 {P:Program}{A:(D->Prop)->Prop}{K:D->Prop}:av (.bool false) true A K=K gU:=by
 rw[ep];simp
theorem Qs {P:Program}{A:(D->Prop)->Prop}{K:D->Prop}:av (.bool true) true A K=A K:=by
 rw[ep];simp
theorem RP:eb PP iZ=true:=by kernel_rfl
theorem R8 (hv:M[iv]?=some (pUv,.box (.ms nU 0 n))) (hU:M[iU]?=some (nU,.arr 1 (fp U))) (hA:M[iA]?=some (pA,.box (nD a))) (hUn:U.length=n) (hn:n<=1000) (hw:U[a]?=some (w:Int)) (T:Tr r (tZ O) (· ∈ O) (upF U)) (hr0:tZ O r=0)
  {to:Nat}(hto:upF U to≠none) {T0:List Nat}(hT:T0.length<=1000) (hOn:tZ O to<=1000) {lv:D}(q:QD h (WL nk pb pu pl nU n .ready B to lv M) lv (aV T0)) {z1 z3 z4 z24 z25 z26 z47 z48 z49:D}{KH:HKq}
  (hps:B.ps=[56]) (hAs:Ek PP jV B.nt B.assign) (hBs:Ek PP jU B.nt B.body) (hlt:∀p,p∈[56]->p<B.nt) (he:B.env=LEnv.get [(1,z1),(3,z3),(4,z4),(5,.ptr pUv 0 0),(6,.ptr pA 0 0),(9,.ptr pl 0 0),(24,z24),(25,z25),(26,z26),(47,z47),(48,z48),(49,z49)])
  (hK:∀(s:LSt) (cur:Nat) (lv':D) (l:List Nat) (h':Heap),NS r (upF U) w to l->(s=.ready\/s=.done (.exit 4))->QD h' (WL nk pb pu pl nU n s B cur lv' M) lv' (aV (T0++l))->KH (.tup []) h') :
  ah PP iZ [.yld nk,.ptr pb 0 0,.ptr pu 0 0] h KH:=by
 refine aL zc (aD _ _ _) rfl (yF _ _ _ _) ?_
 unfold tu nQ
 refine⟨fun m q' h'=>∃(cur:Nat) (lv:D) (l:List Nat),q'=[]/\m=tZ O cur/\upF U cur≠none/\l.length+tZ O cur<=tZ O to/\(∀l',NS r (upF U) w cur l'->NS r (upF U) w to (l++l'))/\QD h' (WL nk pb pu pl nU n .ready B cur lv M) lv (aV (T0++l)),_,
  ⟨to,lv,[],rfl,rfl,hto,by simp,fun l' k=>k,by rw[List.append_nil];exact q⟩,?_⟩
 rintro m f h7 ⟨cur,lv,l,-,hm,hcu,hl,hseg,q7⟩
 have V7:=q7.vs
 have ix:∀{s:LSt}{cur:Nat}{lv:D}{i:Nat}{x:Nat×Slot},M[i]?=some x->(WL nk pb pu pl nU n s B cur lv M)[i+4]?=some x:=fun hi=>by simpa[WL] using hi
 rw[V7.Db 1 rfl rfl,Jt]
 refine⟨⟨_,_,V7.get 0 _ _ rfl⟩,?_⟩
 refine qw (e:=[(1,z1),(3,z3),(4,z4),(5,.ptr pUv 0 0),(6,.ptr pA 0 0),(9,.ptr pl 0 0),(24,z24),(25,z25),(26,z26),(47,z47),(48,z48),(49,z49)]) (V7.get 0 _ _ rfl) hps hAs hBs (by simp) hlt rfl he ?_
 rw[show([Arg.c (nD cur)].map fun x=>x.get [])=[nD cur] from rfl, <- uK]
 refine Ml hv hU hA hUn hw (by simp;omega) q7 (fun hc h' q'=>?_) fun hc h' lv' q'=>?_
 ·
  subst hc
  have hs:=hseg [] .stop
  rw[List.append_nil]at hs
  have hfin:=hK _ _ _ l h' hs (Or.inr rfl) q'
  simp only[N4 (P:=PP),fT,bE,Bool.false_eq_true,if_false]
  rw[af]
  exact hfin
 ·obtain⟨y,hy⟩:∃y,upF U cur=some y:=by
   cases hy:upF U cur with
   | none=>exact absurd hy hcu
   | some y=>exact⟨y,rfl⟩
  have hyU:=oX hy
  have hcl:=(List.getElem?_eq_some_iff.1 hyU).1
  have V':=q'.vs
  simp only[Qs (P:=PP),↓V'.Db 2 rfl rfl,↓V'.Db 1 rfl rfl,nD,↓V'.EO _ (ix hU) (show(0:Int)<=(cur:Int) by omega) (show(cur:Int)<(n:Int) by omega),Int.toNat_natCast,↓V'.Bu _ (ix hU) (kh hyU) rfl,gj,fT,bE,if_true]
  by_cases hyc:y=cur
  ·subst hyc
   rw[decide_eq_true rfl]
   simp only[Bool.not_true]
   rw[af]
   have hs:=hseg [y] (.top hc hy)
   rw[List.append_assoc]at q'
   exact hK _ _ _ (l++[y]) h' hs (Or.inl rfl) q'
  ·rw[decide_eq_false (by omega)]
   simp only[Bool.not_false]
   rw[ag,V'.B6 2 rfl rfl,V'.B6 1 rfl rfl,nD,V'.ia _ (ix hU) (by omega) (by omega),Int.toNat_natCast,V'.uV _ (ix hU) (kh hyU) rfl]
   have hcr:cur≠r:=by
    rintro rfl
    have:=T.rt
    rw[hy]at this;cases this
    exact hyc rfl
   have hplt:=T.lt cur y hy hcr
   rcases q' with⟨-,h0,-⟩|⟨m',rfl,V2⟩
   ·simp[aV]at h0
   refine V2.IW 2 rfl rfl rfl fun h45 V45=>?_
   simp only[WL,List.set_cons_succ,List.set_cons_zero]at V45
   simp only[ab,true_and]
   refine⟨tZ O y,by omega,y,.ms m' 0 (aV ((T0++l)++[cur])).length,l++[cur],rfl,(T.nd cur y hy).2,by simp;omega,fun l' k=>?_,Or.inr ⟨m',by rw[List.append_assoc],?_⟩⟩
   ·rw[List.append_assoc];exact hseg _ (.step hc hy hyc k)
   ·rw[<- List.append_assoc];exact V45
end
end Go.Am
namespace Go.Am
open Go Go.Proofs
section
variable {r:Nat}{A:Nat->Nat}{node:Nat->Prop}{up:Nat->Option Nat}{w:Nat}
theorem NS.mem (T:Tr r A node up){b:Nat}{l:List Nat}(s:NS r up w b l) (hw:Ch r up b w){x:Nat}:x∈l↔Ch r up b x/\¬Ch r up w x:=by
 induction s with
 | stop=>simp
 | @top b h hu =>
  exfalso
  cases hw with
  | refl _=>exact h rfl
  | step hr hy k =>
   have:=T.lt b b hu hr
   omega
 | @step b y l h hy hb k ih =>
  have hbr:b≠r:=by
   rintro rfl
   have:=T.rt
   rw[hy]at this;cases this
   exact hb rfl
  have hyw:Ch r up y w:=by
   cases hw with
   | refl _=>exact absurd rfl h
   | step hr hy' k'=>rw[hy]at hy';cases hy';exact k'
  rw[List.mem_cons,ih hyw]
  constructor
  ·rintro (rfl|⟨h1,h2⟩)
   ·exact⟨.refl _,fun k'=>h (hw.IG T k').symm⟩
   ·exact⟨.step hbr hy h1,h2⟩
  ·rintro⟨h1,h2⟩
   cases h1 with
   | refl _=>exact Or.inl rfl
   | step hr hy' k'=>rw[hy]at hy';cases hy';exact Or.inr ⟨k',h2⟩
theorem NS.len (T:Tr r A node up){b:Nat}{l:List Nat}(s:NS r up w b l):l.length<=A b+1:=by
 induction s with
 | stop=>simp
 | top h hu=>simp
 | @step b y l h hy hb k ih =>
  have hbr:b≠r:=by
   rintro rfl
   have:=T.rt
   rw[hy]at this;cases this
   exact hb rfl
  have:=T.lt b y hy hbr
  simp only[List.length_cons];omega
end
section
variable {h:Heap}{L:LSq}{v:D}{Bs:List (List Nat)}{KH:HKq}
theorem gh.split (q:gh h L v Bs):∃X,Vs h (X++L)/\LR X v Bs/\∀h' L',Vs h' (X++L')->gh h' L' v Bs:=by
 obtain⟨nB,els,W,nm,rfl,V,R⟩:=q
 refine⟨(nB,.arr 1 els)::W,V,Or.inr ⟨nB,els,rfl,by simp,R.len,fun b e l he hl=>?_⟩,fun h' L' V'=>⟨nB,els,W,nm,rfl,V',R⟩⟩
 refine⟨R.one e (List.mem_of_getElem? he),?_⟩
 rcases R.el b l hl with⟨h1,h2⟩|⟨-,h2,h3⟩
 ·rw[he]at h2;cases h2;exact Or.inl ⟨rfl,h1⟩
 ·rw[he]at h2;cases h2;exact Or.inr (Or.inr ⟨_,rfl,by simp[h3]⟩)
theorem gh.take (q:gh h L v Bs){b x:Nat}{l:List Nat}(hb:Bs[b]?=some l):∃(nB:Nat) (els:List D) (W0:LSq) (e:D),v=.ms nB 0 Bs.length/\els.length=Bs.length/\(∀y∈els,y.one=true)/\els[b]?=some e/\QD h ((nB,.arr 1 els)::(W0++L)) e (aV l) /\
  ∀h' m,Vs h' ((m,.arr 1 (aV (l++[x])))::(nB,.arr 1 (els.set b (.ms m 0 (l.length+1))))::(W0++L))->gh h' L v (Bs.set b (l++[x])):=by
 obtain⟨nB,els,W,nm,rfl,V,R⟩:=q
 have hbl:=(List.getElem?_eq_some_iff.1 hb).1
 obtain⟨e,he⟩:∃e,els[b]?=some e:=⟨els[b]'(by rw[R.len];exact hbl),List.getElem?_eq_getElem _⟩
 have hx:∃W0,QD h ((nB,.arr 1 els)::(W0++L)) e (aV l)/\∀(b':Nat) (l':List Nat),b'≠b->Bs[b']?=some l'->l'≠[]->(nm b',.arr 1 (aV l'))∈W0:=by
  rcases R.el b l hb with⟨h1,h2⟩|⟨h0,h2,h3⟩
  ·rw[he]at h2;cases h2;subst h1
   refine⟨W,Or.inl ⟨rfl,rfl,V⟩,fun b' l' hne hb' hl'=>?_⟩
   rcases R.el b' l' hb' with⟨g1,-⟩|⟨-,-,g3⟩
   ·exact absurd g1 hl'
   ·exact g3
  ·rw[he]at h2;cases h2
   obtain⟨S,T,rfl⟩:=List.append_of_mem h3
   refine⟨S++T,Or.inr ⟨nm b,by rw[aQ],V.perm ?_⟩,fun b' l' hne hb' hl'=>?_⟩
   ·have:((nB,Slot.arr 1 els)::(S++(nm b,.arr 1 (aV l))::T++L)).Perm ((nm b,.arr 1 (aV l))::(nB,.arr 1 els)::(S++T++L)):=by
     refine(List.Perm.cons _ ?_).trans (.swap _ _ _)
     simp only[List.append_assoc,List.cons_append]
     exact List.perm_middle
    exact this
   ·rcases R.el b' l' hb' with⟨g1,-⟩|⟨-,-,g3⟩
    ·exact absurd g1 hl'
    ·have hnn:nm b'≠nm b:=fun e=>hne (R.inj b' b l' l hb' hb hl' h0 e)
     rcases List.mem_append.1 g3 with g|g
     ·exact List.mem_append_left _ g
     ·rcases List.mem_cons.1 g with g|g
      ·exact absurd (congrArg Prod.fst g) hnn
      ·exact List.mem_append_right _ g
 obtain⟨W0,Q,hoth⟩:=hx
 have hel:b<els.length:=by rw[R.len];exact hbl
 refine⟨nB,els,W0,e,rfl,R.len,R.one,he,Q,fun h' m V'=>⟨nB,els.set b (.ms m 0 (l.length+1)),(m,.arr 1 (aV (l++[x])))::W0,fun y=>if y=b then m else nm y,by simp,V'.swap,?_⟩⟩
 have hmW:∀s,(m,s)∉W0:=by
  intro s hs
  have:=(Vs.iff.1 V').2
  simp only[List.map_cons,List.nodup_cons,List.map_append,List.mem_cons,List.mem_append,not_or]at this
  exact this.1.2.1 (List.mem_map.2 ⟨(m,s),hs,rfl⟩)
 refine⟨by simp[R.len],fun b' l' hb'=>?_,fun b1 b2 l1 l2 h1 h2 n1 n2 hnm=>?_⟩
 ·rw[List.getElem?_set]at hb' ⊢
  by_cases hbb:b=b'
  ·subst hbb
   simp only[if_true]at hb' ⊢
   rw[if_pos hbl]at hb';cases hb'
   rw[if_pos hel]
   refine Or.inr ⟨by simp,?_,by simp⟩
   simp
  ·rw[if_neg hbb]at hb' ⊢
   rw[if_neg (fun e=>hbb e.symm)]
   rcases R.el b' l' hb' with⟨g1,g2⟩|⟨g1,g2,g3⟩
   ·exact Or.inl ⟨g1,g2⟩
   ·exact Or.inr ⟨g1,g2,List.mem_cons_of_mem _ (hoth b' l' (fun e=>hbb e.symm) hb' g1)⟩
 ·have key:∀(b':Nat) (l':List Nat),b'≠b->(Bs.set b (l++[x]))[b']?=some l'->l'≠[]->nm b'≠m:=fun b' l' hne hb' hn e=>by
   rw[List.getElem?_set,if_neg (fun e=>hne e.symm)]at hb'
   exact hmW _ (e ▸ hoth b' l' hne hb' hn)
  by_cases e1:b1=b
  ·by_cases e2:b2=b
   ·rw[e1,e2]
   ·simp only[e1,if_true,if_neg e2]at hnm
    exact absurd hnm.symm (key b2 l2 e2 h2 n2)
  ·by_cases e2:b2=b
   ·simp only[e2,if_true,if_neg e1]at hnm
    exact absurd hnm (key b1 l1 e1 h1 n1)
   ·simp only[if_neg e1,if_neg e2]at hnm
    rw[List.getElem?_set,if_neg (fun e=>e1 e.symm)]at h1
    rw[List.getElem?_set,if_neg (fun e=>e2 e.symm)]at h2
    exact R.inj b1 b2 l1 l2 h1 h2 n1 n2 hnm
end
end Go.Am
namespace Go.Am
open Go Go.Proofs
theorem RE {c:Code}{h:Heap}{L:LSq}{v:D}{Bs:List (List Nat)}{m n2 pA a im i2 iA:Nat}{row:List D}{S:List Nat}{a13 a17 a26 a28:D}{f:Nat->D}{J:HJq}(R:gh h L v Bs) (hBs:Bs.length=c.b.length) (hm:L[im]?=some (m,.arr 1 row)) (hrow:∀(i b:Nat),S[i]?=some b->row[i]?=some (nD b))
  (h2:L[i2]?=some (n2,.box c.e)) (hA:L[iA]?=some (pA,.box (nD a))) (hS:S.length<=10000) (hlen:∀b,(gL Bs b).length<=10000) (hN:c.b.length<=1000) (hJ:∀h',gh h' L v (S.foldl (gz a) Bs)->J [] h') :
  gg h (.int .i64 (S.length:Int)) (.ptr n2 0 0) v a13 a17 (.ptr pA 0 0) a26 a28 f (.ms m 0 S.length) J:=by
 unfold gg
 refine⟨fun k q h'=>∃i:Nat,q=[nD i]/\i<=S.length/\k=S.length-i/\(∀b,(gL ((S.take i).foldl (gz a) Bs) b).length<=10000+i)/\gh h' L v ((S.take i).foldl (gz a) Bs),_,⟨0,rfl,by omega,rfl,by simpa using hlen,R⟩,?_⟩
 rintro k g h1 ⟨i,hq,hi,hk,hl1,R1⟩
 simp only[List.cons.injEq,and_true]at hq
 simp only[hq,nD]
 by_cases hlt:i<S.length
 ·rw[kN (by omega),ag]
  obtain⟨b,hb⟩:∃b,S[i]?=some b:=⟨S[i],List.getElem?_eq_getElem hlt⟩
  have V1:=R1.vs
  let B1:=(S.take i).foldl (gz a) Bs
  have hB1:B1.length=c.b.length:=by simp only[B1];rw[mj,hBs]
  have htk:(S.take (i+1)).foldl (gz a) Bs=gz a B1 b:=by
   rw[List.take_add_one,hb]
   simp only[Option.toList_some,List.foldl_append,List.foldl_cons,List.foldl_nil]
   rfl
  have hnext:∀y,(gL (gz a B1 b) y).length<=10000+(i+1):=fun y=>by
   by_cases hbN:b<c.b.length
   ·rw[B9 (by rw[hB1];exact hbN)]
    split
    ·have:=hl1 b;simp only[List.length_append,List.length_cons,List.length_nil];simp only[B1];omega
    ·have:=hl1 y;simp only[B1];omega
   ·have:gz a B1 b=B1:=by
     unfold gz
     rw[List.set_eq_of_length_le (by omega)]
    rw[this]
    have:=hl1 y;simp only[B1];omega
  refine⟨fun _ h'=>gh h' L v (gz a B1 b),fun f' h' R'=>?_,?_⟩
  ·rw[cw (by omega) (by omega)]
   simp only[ab,true_and]
   exact⟨_,by omega,i+1,rfl,by omega,rfl,by rw[htk];exact hnext,by rw[htk];exact R'⟩
  rw[V1.ia im hm (by omega) (by omega),Int.toNat_natCast,V1.uV im hm (hrow i b hb) rfl,V1.fa i2 h2,V1.b9 i2 (j:=7) h2 rfl,br,List.length_map,nD]
  by_cases hbN:b<c.b.length
  ·rw[kN (by omega),ag]
   have hget:B1[b]?=some (gL B1 b):=by unfold gL;rw[List.getElem?_eq_getElem (by omega)];rfl
   obtain⟨nB,els,W0,e,rfl,hel,hone,he,Q,fin⟩:=gh.take (x:=a) R1 hget
   have V2:=Q.vs
   have ix:∀{els:List D}{i:Nat}{x:Nat×Slot},L[i]?=some x->((nB,Slot.arr 1 els)::(W0++L))[W0.length+i+1]?=some x:=fun hi=>by
    rw[List.getElem?_cons_succ,List.getElem?_append_right (by omega),Nat.add_sub_cancel_left];exact hi
   have hB1':((S.take i).foldl (gz a) Bs).length=c.b.length:=hB1
   simp only[↓V2.EO 0 rfl (show(0:Int)<=(b:Int) by omega) (show(b:Int)<(((S.take i).foldl (gz a) Bs).length:Int) by omega),Int.toNat_natCast,↓V2.Bu 0 rfl he (hone e (List.mem_of_getElem? he)),↓V2.Db _ (ix hA) rfl]
   refine Ii ?_
   refine Q.PE aO rfl (by rw[aQ];have:=hl1 b;simp only[B1];omega) (by rw[aQ];have:=hl1 b;simp only[B1];omega) fun v' h' Q'=>?_
   have e2:aV (gL B1 b)++[nD a]=aV (gL B1 b++[a]):=by simp[aV]
   rw[e2]at Q'
   rcases Q' with⟨-,h0,-⟩|⟨m',rfl,V'⟩
   ·simp[aV]at h0
   simp only[↓V'.EO 1 rfl (show(0:Int)<=(b:Int) by omega) (show(b:Int)<(((S.take i).foldl (gz a) Bs).length:Int) by omega),Int.toNat_natCast,ab,true_and]
   refine V'.rG 1 rfl (by rw[hel,hB1'];exact hbN) rfl hone fun h3 V3=>?_
   simp only[List.set_cons_succ,List.set_cons_zero]at V3
   simp only[↓V3.EO 1 rfl (show(0:Int)<=(b:Int) by omega) (show(b:Int)<(((S.take i).foldl (gz a) Bs).length:Int) by omega),Int.toNat_natCast,ab,true_and]
   have:=fin h3 m' (by rw[aQ,List.length_append]at V3;exact V3)
   exact this
  ·rw[kp (by omega),af]
   simp only[ab,true_and]
   have:gz a B1 b=B1:=by
    unfold gz
    rw[List.set_eq_of_length_le (by omega)]
   rw[this]
   exact R1
 ·have:i=S.length:=by omega
  subst this
  rw[kp (by omega),af]
  simp only[ab,true_and]
  rw[List.take_length]at R1
  exact hJ h1 R1
end Go.Am
namespace Go.Am
open Go Go.Proofs
section
variable {h:Heap}{L:LSq}{v:D}{T:List D}{KH:HKq}
theorem QD.more (q:QD h L v T){n:Nat}(hn:h n=.free){s:Slot}(hs:s≠.free):QD (au h n s) ((n,s)::L) v T:=by
 rcases q with⟨rfl,rfl,V⟩|⟨m,rfl,V⟩
 ·exact Or.inl ⟨rfl,rfl,V.push hn hs⟩
 ·exact Or.inr ⟨m,rfl,(V.push hn hs).swap⟩
theorem QD.less {x:Nat×Slot}(q:QD h (x::L) v T):QD h L v T:=by
 rcases q with⟨rfl,rfl,V⟩|⟨m,rfl,V⟩
 ·exact Or.inl ⟨rfl,rfl,V.pop⟩
 ·exact Or.inr ⟨m,rfl,V.swap.pop⟩
theorem QD.box (q:QD h L v T){d:D}(hd:d.one=true) (hK:∀n h',QD h' ((n,.box d)::L) v T->KH (.ptr n 0 0) h'):aa PP (.box (.c d)) h KH:=by
 rw[C4]
 exact⟨fun x hx=>by rw[iq hd]at hx;simp at hx;subst hx;exact hd,fun n t=>hK n _ (q.more t.free (by simp))⟩
end
section
variable {h:Heap}{M:LSq}{pl nU n pUv pA iv iU iA a w r:Nat}{U:List Int}{O ts:List Nat}{lv:D}
theorem M8 (hv:M[iv]?=some (pUv,.box (.ms nU 0 n))) (hU:M[iU]?=some (nU,.arr 1 (fp U))) (hA:M[iA]?=some (pA,.box (nD a))) (hUn:U.length=n) (hn:n<=1000) (hw:U[a]?=some (w:Int)) (T:Tr r (tZ O) (· ∈ O) (upF U)) (hr0:tZ O r=0) (hOl:O.length<=400)
  (hts:∀t∈ts,upF U t≠none/\Ch r (upF U) t w) (htl:ts.length<=2) (q:QD h ((pl,.box lv)::M) lv []) {a2 a9 a13 a26 a28:D}{f:Nat->D}{J:HJq}{K:HKq}
  (hJ:∀(lv':D) (l:List Nat) (h':Heap),l.length<=802->(∀x,x∈l ↔ ∃t,t∈ts/\Ch r (upF U) t x/\¬Ch r (upF U) w x)->QD h' ((pl,.box lv')::M) lv' (aV l)->J [] h') :
  jT h (.int .i64 (ts.length:Int)) a2 a9 a13 (.ptr pUv 0 0) (.ptr pA 0 0) (.ptr pl 0 0) a26 a28 f (.sl (aV ts)) J K:=by
 have hplc:∀x,tZ O x<=400:=fun x=>Nat.le_trans List.idxOf_le_length hOl
 unfold jT
 refine⟨fun k q' h'=>∃(j:Nat) (lv:D) (l:List Nat),q'=[nD j]/\j<=ts.length/\k=ts.length-j/\l.length<=401*j/\(∀x,x∈l ↔ ∃t,t∈ts.take j/\Ch r (upF U) t x/\¬Ch r (upF U) w x)/\QD h' ((pl,.box lv)::M) lv (aV l),_,⟨0,lv,[],rfl,by omega,rfl,by simp,by simp,q⟩,?_⟩
 rintro k g h1 ⟨j,lv1,l,hq,hj,hk,hl,hmem,q1⟩
 simp only[List.cons.injEq,and_true]at hq
 simp only[hq,nD]
 by_cases hlt:j<ts.length
 ·rw[kN (by omega),ag]
  obtain⟨to,hto⟩:∃to,ts[j]?=some to:=⟨ts[j],List.getElem?_eq_getElem hlt⟩
  have htoM:=List.mem_of_getElem? hto
  have htk:ts.take (j+1)=ts.take j++[to]:=by rw[List.take_add_one,hto];rfl
  refine⟨fun _ h'=>∃(lv:D) (l:List Nat),l.length<=401*(j+1)/\(∀x,x∈l ↔ ∃t,t∈ts.take (j+1)/\Ch r (upF U) t x/\¬Ch r (upF U) w x)/\QD h' ((pl,.box lv)::M) lv (aV l),?_,?_⟩
  ·rintro f' h' ⟨lv2,l2,b1,b2,b3⟩
   rw[cw (by omega) (by omega)]
   simp only[ab,true_and]
   exact⟨_,by omega,j+1,lv2,l2,rfl,by omega,rfl,b1,b2,b3⟩
  have V1:=q1.vs
  refine TY hto ?_
  rw[V1.B6 (iv+1) (by simpa using hv) rfl]
  refine aL DS (aD _ _ _) rfl (DC _ _ _) ?_
  unfold AT
  refine q1.box rfl fun pu h4 q4=>?_
  refine q4.box rfl fun pb h6 q6=>?_
  rw[GH]
  refine⟨rfl,RP,fun nk B ht he hps _ hlt' hAs hBs=>?_⟩
  have q7:QD (au h6 nk (.lp .ready B)) (WL nk pb pu pl nU n .ready B to lv1 M) lv1 (aV l):=q6.more ht.free (by simp)
  refine R8 hv hU hA hUn hn hw T hr0 (hts to htoM).1 (by omega) (by have:=hplc to;omega) q7 hps hAs hBs hlt' he fun s cur lv' l' h' hseg hs q8=>?_
  have V8:=q8.vs
  have hget:h' nk=.lp s B:=V8.get 0 _ _ rfl
  have q9:QD (au h' nk .dead) ((pl,.box lv')::M) lv' (aV (l++l')):=(q8.bX 0 rfl (by simp)).less.less.less
  have hfin:∃(lv:D) (l:List Nat),l.length<=401*(j+1)/\(∀x,x∈l ↔ ∃t,t∈ts.take (j+1)/\Ch r (upF U) t x/\¬Ch r (upF U) w x)/\QD (au h' nk .dead) ((pl,.box lv)::M) lv (aV l):=by
   refine⟨lv',l++l',?_,fun x=>?_,q9⟩
   ·have h1:=hseg.len T
    have h2:=hplc to
    simp only[List.length_append];omega
   ·rw[List.mem_append,hmem,hseg.mem T (hts to htoM).2,htk]
    constructor
    ·rintro (⟨t,h1,h2⟩|h2)
     ·exact⟨t,by simp[h1],h2⟩
     ·exact⟨to,by simp,h2⟩
    ·rintro⟨t,h1,h2⟩
     rcases List.mem_append.1 h1 with h1|h1
     ·exact Or.inl ⟨t,h1,h2⟩
     ·simp at h1;subst h1;exact Or.inr h2
  show eg _ _ _ _ _
  unfold eg
  rw[hget]
  rcases hs with rfl|rfl
  ·simp only[ab,true_and]
   exact hfin
  ·simp only[ab,true_and,or_false]
   exact hfin
 ·have:j=ts.length:=by omega
  subst this
  rw[kp (by omega),af]
  simp only[ab,true_and]
  rw[List.take_length]at hmem
  exact hJ lv1 l h1 (by omega) hmem q1
end
end Go.Am
namespace Go.Am
open Go Go.Proofs
theorem J4 {t:Term}{x y:Nat}(h:cJ t=[x,y]) (h0:0<=t.to0) (h1:0<=t.to1):x≠y:=by
 unfold cJ at h
 split at h
 ·cases h
 ·split at h
  ·rename_i hk
   simp only[List.cons.injEq,and_true]at h
   rintro rfl
   exact hk.2 (by omega)
  ·cases h
noncomputable def pB (c:Code) (O O':List Nat):Nat->List Nat:=preB (yj (oR (fu c) O c.b.length (cM c O)) O' (c.b.length+1))
structure vW (c:Code) (O O':List Nat) (at' U:List Int):Prop where
 b:Qp c O O' at'
 u:TP c.b.length O' (yj (oR (fu c) O c.b.length (cM c O)) O' (c.b.length+1)) (c.b.length+1) U
def G1 (c:Code) (O O':List Nat) (a b:Nat):Prop:=a∈O/\(edg c a).length=2/\(∃t,t∈edg c a/\Dm c.b.length (pB c O O') b t)/\(b=a\/¬Dm c.b.length (pB c O O') b a)
section
variable {c:Code}{O O':List Nat}{at' U:List Int}
theorem vW.oR (hc:bG c) (D:vW c O O' at' U):∀l,l∈Go.Am.oR (fu c) O c.b.length (cM c O)->(∀x∈l,x<c.b.length+1)/\l.length<=1000 :=
 HP hc D.b.lt D.b.sub (by have:=D.b.len.2;omega) D.b.len.1
theorem vW.mem (hc:bG c) (D:vW c O O' at' U){a:Nat}(ha:a<c.b.length):a∈O'↔a∈O:=by
 refine⟨fun h=>?_,D.b.all a⟩
 have:Path (gL (Go.Am.oR (fu c) O c.b.length (cM c O))) c.b.length a->a=c.b.length\/a∈O:=fun h=>by
  cases h with
  | refl=>exact Or.inl rfl
  | @step x _ _ e =>
   rw[wV]at e
   split at e
   ·rw[jj (gW hc)]at e
    exact Or.inr e.1
   ·split at e
    ·exact Or.inr (D.b.sub _ e)
    ·cases e
 rcases this (D.b.g.path.1 h) with e|h
 ·omega
 ·exact h
theorem vW.pre (hc:bG c) (D:vW c O O' at' U){a t:Nat}(ha:a∈O) (ht:t∈edg c a):t∈pB c O O' a/\t∈O':=by
 have haN:=D.b.lt a ha
 have htO:t∈O:=by
  obtain⟨S,hv⟩:=D.b.ord
  have G:=uL.gr (at':=(List.range c.b.length).map fun x=>if x∈O then((tZ O x:Nat):Int) else -1) (gW hc) bH (by omega) ⟨S,hv⟩ (by simp) (fun i x hx=>?_) (fun x hx hn=>?_)
  ·refine G.cl a t ha ?_
   have:t∈gL (fu c) a:=by rw[jc];exact ht
   exact this
  ·have hxO:=List.mem_of_getElem? hx
   have hxN:=D.b.lt x hxO
   have nd:O.Nodup:=by
    obtain⟨m,h1,e⟩:=hv
    obtain⟨N,e2,F⟩:=h1.spec (n:=c.b.length) (fun p b=>mw (gW hc)) (fun x=>mw (gW hc)) (by simp)
    have e3:O=0::N:=by
     have:=congrArg Prod.snd e
     simp only at this
     rw[this,e2];simp
    rw[e3]
    refine List.nodup_cons.2 ⟨fun h=>?_,F.nd⟩
    have h2:=(F.new 0 h).1
    simp only at h2
    rw[aT (by simp;omega)]at h2
    simp at h2
   rw[List.getElem?_map,List.getElem?_range hxN]
   simp[hxO,wz nd hx]
  ·rw[List.getElem?_map,List.getElem?_range hx]
   simp[hn]
 have htO':=D.b.all t htO
 have htN:=D.b.lt t htO
 refine⟨?_,htO'⟩
 have:t∈gL (yj (Go.Am.oR (fu c) O c.b.length (cM c O)) O' (c.b.length+1)) a:=by
  rw[jj (D.oR hc)]
  refine⟨htO',?_⟩
  rw[wV,if_pos htN,jj (gW hc),jc]
  exact⟨ha,ht⟩
 exact this
theorem vW.up (hc:bG c) (D:vW c O O' at' U){a:Nat}(ha:a∈O):∃w,upF U a=some w/\(∀t,t∈edg c a->upF U t≠none/\Ch c.b.length (upF U) t w)/\∀x,Ch c.b.length (upF U) w x↔Ch c.b.length (upF U) a x/\x≠a:=by
 have haN:=D.b.lt a ha
 have har:a≠c.b.length:=by omega
 have haO':=D.b.all a ha
 obtain⟨w,hw⟩:∃w,upF U a=some w:=by
  cases hy:upF U a with
  | none=>exact absurd hy (D.u.al a haO')
  | some y=>exact⟨y,rfl⟩
 have hlt:=D.u.tr.lt a w hw har
 have hne:w≠a:=by rintro rfl;omega
 have hcw:Ch c.b.length (upF U) a w:=.step har hw (.refl _)
 refine⟨w,hw,fun t ht=>?_,fun x=>?_⟩
 ·obtain⟨h1,h2⟩:=D.pre hc ha ht
  refine⟨D.u.al t h2,(D.u.ch t w h2).2 ?_⟩
  exact Ie ((D.u.ch a w haO').1 hcw) h1 hne.symm
 ·constructor
  ·intro h
   refine⟨.step har hw h,?_⟩
   rintro rfl
   rcases h.le D.u.tr with e|h
   ·exact hne e.symm
   ·omega
  ·rintro⟨h1,h2⟩
   cases h1 with
   | refl _=>exact absurd rfl h2
   | step _ hy k=>rw[hw]at hy;cases hy;exact k
theorem vW.dep (hc:bG c) (D:vW c O O' at' U){a w b:Nat}(ha:a∈O) (h2:(edg c a).length=2) (hw:upF U a=some w):(∃t,t∈edg c a/\Ch c.b.length (upF U) t b/\¬Ch c.b.length (upF U) w b)↔G1 c O O' a b:=by
 obtain⟨w',hw',-,hx⟩:=D.up hc ha
 rw[hw]at hw';cases hw'
 have haO':=D.b.all a ha
 have hch:∀{t:Nat},t∈edg c a->(Ch c.b.length (upF U) t b↔Dm c.b.length (pB c O O') b t):=fun ht=>D.u.ch _ _ (D.pre hc ha ht).2
 have hcw:¬Ch c.b.length (upF U) w b↔(b=a\/¬Dm c.b.length (pB c O O') b a):=by
  rw[hx,D.u.ch a b haO']
  constructor
  ·intro h
   by_cases e:b=a
   ·exact Or.inl e
   ·exact Or.inr fun k=>h ⟨k,e⟩
  ·rintro (e|h) ⟨k1,k2⟩
   ·exact k2 e
   ·exact h k1
 constructor
 ·rintro⟨t,ht,h3,h4⟩
  exact⟨ha,h2,⟨t,ht,(hch ht).1 h3⟩,hcw.1 h4⟩
 ·rintro⟨-,-,⟨t,ht,h3⟩,h4⟩
  exact⟨t,ht,(hch ht).2 h3,hcw.2 h4⟩
end
end Go.Am
namespace Go.Am
open Go Go.Proofs
noncomputable def oH (c:Code) (O O':List Nat) (k:Nat):List (List Nat):=(List.range c.b.length).map fun b=>Jp k fun a=>G1 c O O' a b
theorem gH {c:Code}{O O':List Nat}{k:Nat}:(oH c O O' k).length=c.b.length:=by simp[oH]
theorem ud {c:Code}{O O':List Nat}{k b:Nat}(hb:b<c.b.length):gL (oH c O O' k) b=Jp k fun a=>G1 c O O' a b:=by
 unfold gL oH
 rw[List.getElem?_map,List.getElem?_range hb];rfl
theorem CT {k:Nat}{p:Nat->Prop}:(p k->Jp (k+1) p=Jp k p++[k])/\(¬p k->Jp (k+1) p=Jp k p):=by
 unfold Jp
 rw[List.range_succ,List.filter_append]
 refine⟨fun h=>?_,fun h=>?_⟩
 ·congr 1
  simp[h]
 ·simp[h]
theorem GJ {p b:Nat}:∀{S:List Nat}{Bs:List (List Nat)},S.Nodup->b<Bs.length->gL (S.foldl (gz p) Bs) b=if b∈S then gL Bs b++[p] else gL Bs b
 | [],_,_,_=>by simp
 | s::S,Bs,hn,hb=>by
  rw[List.nodup_cons]at hn
  rw[List.foldl_cons,GJ hn.2 (by rw[yn];exact hb)]
  have e1:gL (gz p Bs s) b=if b=s then gL Bs s++[p] else gL Bs b:=by
   by_cases hs:s<Bs.length
   ·exact B9 hs
   ·unfold gz
    rw[List.set_eq_of_length_le (by omega),if_neg (by omega)]
  rw[e1]
  by_cases hbs:b=s
  ·subst hbs
   rw[if_neg hn.1,if_pos rfl,if_pos (by simp)]
  ·rw[if_neg hbs]
   by_cases hbS:b∈S
   ·rw[if_pos hbS,if_pos (by simp[hbS])]
   ·rw[if_neg hbS,if_neg (by simp[hbS,hbs])]
theorem jb {A B:List (List Nat)}(hl:A.length=B.length) (h:∀b,b<A.length->gL A b=gL B b):A=B:=by
 apply List.ext_getElem hl
 intro i h1 h2
 have:=h i h1
 unfold gL at this
 rwa [List.getElem?_eq_getElem h1,List.getElem?_eq_getElem h2]at this
theorem RF {c:Code}{O O':List Nat}:oH c O O' 0=List.replicate c.b.length []:=by
 refine jb (by simp[gH]) fun b hb=>?_
 rw[gH]at hb
 rw[ud hb]
 unfold gL
 rw[List.getElem?_replicate,if_pos hb];rfl
theorem EP {c:Code}{O O':List Nat}{k:Nat}(h:∀b,¬G1 c O O' k b):oH c O O' (k+1)=oH c O O' k:=by
 refine jb (by simp[gH]) fun b hb=>?_
 rw[gH]at hb
 rw[ud hb,ud hb,(CT (p:=fun a=>G1 c O O' a b)).2 (h b)]
theorem M9 {c:Code}{O O' S:List Nat}{k:Nat}(hS:S.Nodup) (h:∀b,b∈S↔G1 c O O' k b):S.foldl (gz k) (oH c O O' k)=oH c O O' (k+1):=by
 refine jb (by rw[mj,gH,gH]) fun b hb=>?_
 rw[mj,gH]at hb
 rw[GJ hS (by rw[gH];exact hb),ud hb,ud hb]
 by_cases hp:G1 c O O' k b
 ·rw[if_pos ((h b).2 hp),(CT (p:=fun a=>G1 c O O' a b)).1 hp]
 ·rw[if_neg (fun k=>hp ((h b).1 k)),(CT (p:=fun a=>G1 c O O' a b)).2 hp]
theorem Og {l:List Nat}:∃S:List Nat,HT (l.map fun n:Nat=>(n:Int))=S.map (fun n:Nat=>(n:Int))/\S.Pairwise (· < ·)/\∀x,x∈S↔x∈l:=by
 have hm:=fun x=>LZ (ks:=l.map fun n:Nat=>(n:Int)) (x:=x)
 have hi:=L1 (ks:=l.map fun n:Nat=>(n:Int))
 generalize HT (l.map fun n:Nat=>(n:Int))=Z at hm hi
 have hnn:∀x∈Z,0<=x:=fun x hx=>by
  have:=(hm x).1 hx
  simp only[List.mem_map]at this
  obtain⟨n,-,rfl⟩:=this
  omega
 refine⟨Z.map Int.toNat,?_,?_,fun x=>?_⟩
 ·rw[List.map_map]
  have:Z.map ((fun n:Nat=>(n:Int)) ∘ Int.toNat)=Z.map id:=List.map_congr_left fun x hx=>by
   have:=hnn x hx
   simp only[Function.comp_apply,id];omega
  rw[this,List.map_id]
 ·rw[List.pairwise_map]
  refine hi.imp_of_mem fun ha hb hab=>?_
  have:=hnn _ ha
  have:=hnn _ hb
  omega
 ·rw[List.mem_map]
  constructor
  ·rintro⟨z,hz,rfl⟩
   have:=(hm z).1 hz
   simp only[List.mem_map]at this
   obtain⟨n,hn,rfl⟩:=this
   simpa using hn
  ·intro hx
   exact⟨(x:Int),(hm _).2 (List.mem_map.2 ⟨x,hx,rfl⟩),by simp⟩
end Go.Am
namespace Go.Am
open Go Go.Proofs
theorem Lu {P:Program}{A:(D->Prop)->Prop}{K:D->Prop}:av (.bool true) false A K=K gU:=by
 rw[ep];simp
theorem N3 {P:Program}{A:(D->Prop)->Prop}{K:D->Prop}:av (.bool false) false A K=A K:=by
 rw[ep];simp
section
variable {h:Heap}{L:LSq}{v:D}{Bs:List (List Nat)}{KH:HKq}
theorem gh.sub {L':LSq}(s:L'.Sublist L) (q:gh h L v Bs):gh h L' v Bs:=by
 obtain⟨X,V,-,lift⟩:=q.split
 exact lift h L' (V.sub (List.Sublist.append (.refl X) s))
theorem PK {m n:Nat}{l:List Nat}(V:Vs h ((m,.arr 1 (aV l))::L)) (hn:n=l.length) (h0:1<=l.length) (hl:l.length<=100000) (hK:∀h',Vs h' ((m,.arr 1 (fp (nh (l.map fun n:Nat=>(n:Int)))))::L)->KH (.tup []) h'):ah PP cO [.ms m 0 n] h KH:=by
 have hm:=V.get 0 _ _ rfl
 rw[S5]at hm
 have:=Sd (KH:=KH) hm (by rw[List.length_map];exact h0) (by rw[List.length_map];omega) (hK _ (V.bX 0 rfl (by simp)))
 rw[List.length_map]at this
 rw[hn]
 exact this
theorem PN {m n:Nat}{ks:List Int}(V:Vs h ((m,.arr 1 (fp ks))::L)) (hn:n=ks.length) (h0:1<=ks.length) (hl:ks.length<=100000) (hK:∀h',Vs h' ((m,.arr 1 (fp (yf ks)))::L)->KH (.ms m 0 (Lib.compact ks).length) h'):ah PP cq [.ms m 0 n] h KH:=by
 rw[hn]
 exact K8 (V.get 0 _ _ rfl) h0 (by omega) AL (hK _ (V.bX 0 rfl (by simp)))
end
section
variable {c:Code}{O O':List Nat}{at' U:List Int}{h:Heap}{L:LSq}{v:D}{K:HKq}
theorem Pd (hc:bG c){a pl pbk pA n2 i2:Nat}{X:LSq}{tb:D}{lv:D}{l:List Nat}(hl:l.length<=802) (hl0:1<=l.length) (hmem:∀x,x∈l↔G1 c O O' a x) (h2:L[i2]?=some (n2,.box c.e)) (ha:a<=20)
  (q:QD h ((pl,.box lv)::(pbk,.box tb)::(pA,.box (nD a))::(X++L)) lv (aV l)) (lift:∀h' L',Vs h' (X++L')->gh h' L' v (oH c O O' a)) {a13 a17 a26 a28:D}{f:Nat->D}{J:HJq}(hJ:∀h',gh h' L v (oH c O O' (a+1))->J [] h') :
  aa PP (.ld (.c (.ptr pl 0 0)) 1 false) h fun a80 h81 =>
  ah PP cO [a80] h81 fun a82 h83 =>
  aa PP (.ld (.c (.ptr pl 0 0)) 1 false) h83 fun a84 h85 =>
  ah PP cq [a84] h85 fun a86 h87 =>
  aG a86 h87 fun a88 =>
  gg h87 a88 (.ptr n2 0 0) v a13 a17 (.ptr pA 0 0) a26 a28 f a86 J:=by
 have hnb:=hc.nb
 rcases q with⟨-,h0,-⟩|⟨m,rfl,V⟩
 ·have:(aV l).length=0:=by rw[h0];rfl
  rw[aQ]at this;omega
 rw[V.B6 1 rfl rfl]
 refine PK V aQ hl0 (by omega) fun h83 V83=>?_
 rw[V83.B6 1 rfl rfl]
 have hsl:(nh (l.map fun n:Nat=>(n:Int))).length=l.length:=by rw[zt,List.length_map]
 refine PN V83 (by rw[aQ,hsl]) (by omega) (by omega) fun h87 V87=>?_
 obtain⟨S,hS,hinc,hSm⟩:=Og (l:=l)
 have hSl:(Lib.compact (nh (l.map fun n:Nat=>(n:Int)))).length=S.length:=by
  have:(HT (l.map fun n:Nat=>(n:Int))).length=S.length:=by rw[hS,List.length_map]
  exact this
 have hSle:S.length<=l.length:=by
  have:=L0 (ks:=l.map fun n:Nat=>(n:Int))
  rw[hS,List.length_map,List.length_map]at this;exact this
 rw[bb,V87.get 0 _ _ rfl]
 refine⟨rfl,?_⟩
 rw[hSl]
 have R:=lift h87 ((m,.arr 1 (fp (yf (nh (l.map fun n:Nat=>(n:Int))))))::(pl,.box (.ms m 0 (aV l).length))::(pbk,.box tb)::(pA,.box (nD a))::L) (V87.perm (List.perm_append_comm_assoc [_,_,_,_] X L))
 refine RE (im:=0) (i2:=i2+4) (iA:=3) R gH rfl (fun i b hb=>?_) (by simpa using h2) rfl (by omega) (fun b=>?_) (by omega) fun h' R'=>?_
 ·have e:yf (nh (l.map fun n:Nat=>(n:Int)))=(S.map fun n:Nat=>(n:Int))++List.replicate ((nh (l.map fun n:Nat=>(n:Int))).length-(Lib.compact (nh (l.map fun n:Nat=>(n:Int)))).length) 0:=by
   rw[<- hS];rfl
  rw[e]
  have hi:=(List.getElem?_eq_some_iff.1 hb).1
  simp only[fp,List.getElem?_map]
  rw[List.getElem?_append_left (by simpa using hi),List.getElem?_map,hb]
  rfl
 ·by_cases hb:b<c.b.length
  ·rw[ud hb]
   exact Nat.le_trans Jo (by omega)
  ·unfold gL
   rw[List.getElem?_eq_none (by rw[gH];omega)]
   simp
 ·rw[M9 (hinc.imp fun h=>by omega) fun b=>by rw[hSm,hmem]]at R'
  refine hJ h' (R'.sub ?_)
  exact .cons _ (.cons _ (.cons _ (.cons _ (.refl _))))
end
end Go.Am
namespace Go.Am
open Go Go.Proofs
theorem LQ {N:Nat}{R:Int}{t:Term}(h:DZ N R t){x y:Nat}(he:cJ t=[x,y]):x≠y:=by
 cases h with
 | branch o a b ho h1 h2=>exact J4 he (by simp) (by simp)
 | _=>simp[cJ]at he
section
variable {c:Code}{O O':List Nat}{at' U:List Int}{h:Heap}{L:LSq}{v:D}{K:HKq}
theorem Pe (hc:bG c) (G:vW c O O' at' U){n2 nU nA nO ng pUv i2 iU ig iA iv:Nat}{w0:D}(h2:L[i2]?=some (n2,.box c.e)) (hv:L[iv]?=some (pUv,.box (.ms nU 0 (c.b.length+1)))) (hU:L[iU]?=some (nU,.arr 1 (fp U))) (hg:L[ig]?=some (ng,Ju w0 nO O'.length nA (c.b.length+1))) (hA:L[iA]?=some (nA,.arr 1 (fp at')))
  (R:gh h L v (oH c O O' 0)) {J:HJq}(hJ:∀h',gh h' L v (oH c O O' c.b.length)->J [] h') :
  jS h (.int .i64 (c.b.length:Int)) (.ptr n2 0 0) v (.ptr ng 0 0) (.ptr pUv 0 0) (.sl (c.b.map Block.e)) J K:=by
 have hnb:=hc.nb
 unfold jS
 refine⟨fun m q h'=>∃a:Nat,q=[nD a]/\a<=c.b.length/\m=c.b.length-a/\gh h' L v (oH c O O' a),_,⟨0,rfl,by omega,rfl,R⟩,?_⟩
 rintro m f h32 ⟨a,hq,ha,hm,R1⟩
 simp only[List.cons.injEq,and_true]at hq
 simp only[hq,nD]
 by_cases hlt:a<c.b.length
 ·rw[kN (by omega),ag]
  obtain⟨B,hB⟩:∃B,c.b[a]?=some B:=⟨c.b[a],List.getElem?_eq_getElem hlt⟩
  have hTB:=hc.t B (List.mem_of_getElem? hB)
  refine⟨fun _ h'=>gh h' L v (oH c O O' (a+1)),fun f' h' R'=>?_,?_⟩
  ·rw[cw (by omega) (by omega)]
   simp only[ab,true_and]
   exact⟨_,by omega,a+1,rfl,by omega,rfl,R'⟩
  obtain⟨X,V,-,lift⟩:=R1.split
  rw[w9 hB,show B.e=.agg (.sl (B.i.map aP.e)::B.t.cs) from rfl,H2 (s:=14) rfl]
  refine V.alloc fun pA h43 V43=>?_
  refine V43.alloc fun pbk h45 V45=>?_
  refine V45.IW 1 rfl rfl rfl fun h47 V47=>?_
  simp only[List.set_cons_succ,List.set_cons_zero]at V47
  refine V47.pV 0 rfl rfl rfl (fun x hx=>B.db.one x hx) fun h49 V49=>?_
  simp only[List.set_cons_zero]at V49
  rw[V49.fa 0 rfl,Lk (V49.get 0 _ _ rfl) (by show 0+1+13<=14;omega)]
  have eT:((D.sl (B.i.map aP.e)::B.t.cs).drop (0+1)).take 13=B.t.cs:=rfl
  rw[eT]
  refine bT (Iw hTB) (fun d hd=>by simp at hd;subst hd;exact B.t.db.pair) ?_
  rintro _ rfl
  rw[<- jf hB]
  let M:LSq:=(pbk,.box (.agg (.sl (B.i.map aP.e)::B.t.cs)))::(pA,.box (.int .i64 (a:Int)))::(X++L)
  have ix:∀{i:Nat}{x:Nat×Slot},L[i]?=some x->M[X.length+i+2]?=some x:=fun hi=>by
   simp only[M,List.getElem?_cons_succ]
   rw[List.getElem?_append_right (by omega),Nat.add_sub_cancel_left];exact hi
  have VM:Vs h49 M:=V49
  have back:∀h',Vs h' M->gh h' L v (oH c O O' a):=fun h' V'=>lift h' L V'.pop.pop
  obtain⟨k,hk,hk0⟩:∃k:Int,at'[a]?=some k/\(a∈O'->0<=k)/\(a∉O'->k<0):=by
   by_cases haO:a∈O'
   ·obtain⟨i,hi⟩:=List.getElem?_of_mem haO
    exact⟨_,G.b.g.aat i a hi,fun _=>by omega,fun h=>absurd haO h⟩
   ·exact⟨_,G.b.g.ano a (by rw[pZ];omega) haO,fun h=>absurd h haO,fun _=>by omega⟩
  have hal:at'.length=c.b.length+1:=by rw[G.b.g.sX,pZ]
  simp only[VM.mz _ (ix hg),VM.gX _ (j:=2) (ix hg) rfl,VM.Db 1 rfl rfl,VM.EO _ (ix hA) (show(0:Int)<=(a:Int) by omega) (show(a:Int)<((c.b.length+1:Nat):Int) by omega),Int.toNat_natCast,VM.Bu _ (ix hA) (kh hk) rfl]
  by_cases haO:a∈O'
  ·rw[kp (hk0.1 haO)]
   simp only[N3 (P:=PP),CQ,fT,bE,Bool.false_eq_true,if_false,gj]
   have haO2:a∈O:=(G.mem hc hlt).1 haO
   by_cases hlen:(edg c a).length=2
   ·rw[decide_eq_true (by omega)]
    simp only[Bool.not_true]
    rw[af]
    obtain⟨w,hw,hts,hx⟩:=G.up hc haO2
    refine VM.alloc fun pl h76 V76=>?_
    have hmem:∀x,(∃t,t∈edg c a/\Ch c.b.length (upF U) t x/\¬Ch c.b.length (upF U) w x)↔G1 c O O' a x:=fun x=>G.dep hc haO2 hlen hw
    have hne:∀l:List Nat,(∀x,x∈l ↔ ∃t,t∈edg c a/\Ch c.b.length (upF U) t x/\¬Ch c.b.length (upF U) w x)->1<=l.length:=fun l hl=>by
     have he:=jf hB
     match hs:edg c a,hlen with
     | [x,y],_ =>
      rw[hs]at he
      have hxy:=LQ hTB he.symm
      have hxm:x∈edg c a:=by rw[hs];simp
      have hym:y∈edg c a:=by rw[hs];simp
      have:∃t,t∈edg c a/\¬Ch c.b.length (upF U) w t:=by
       by_cases h1:Ch c.b.length (upF U) w x
       ·refine⟨y,hym,fun h2=>hxy ?_⟩
        have e1:=h1.IG G.u.tr (hts x hxm).2
        have e2:=h2.IG G.u.tr (hts y hym).2
        rw[e1,e2]
       ·exact⟨x,hxm,h1⟩
      obtain⟨t,ht,hn⟩:=this
      have:t∈l:=(hl t).2 ⟨t,ht,.refl _,hn⟩
      exact List.length_pos_of_mem this
    refine⟨fun _ h'=>∃(lv:D) (l:List Nat),l.length<=802/\(∀x,x∈l ↔ ∃t,t∈edg c a/\Ch c.b.length (upF U) t x/\¬Ch c.b.length (upF U) w x)/\QD h' ((pl,.box lv)::M) lv (aV l),?_,?_⟩
    ·rintro f2 h79 ⟨lv,l,hl1,hl2,q⟩
     exact Pd hc hl1 (hne l hl2) (fun x=>(hl2 x).trans (hmem x)) h2 (by omega) q lift fun h' R'=>R'
    ·refine M8 (iv:=X.length+iv+2) (iU:=X.length+iU+2) (iA:=1) (r:=c.b.length) (O:=O') (ix hv) (ix hU) rfl G.u.len (by omega) (oX hw) G.u.tr G.b.g.dg.zero ?_ hts (by omega) (Or.inl ⟨rfl,rfl,V76⟩) fun lv' l h' b1 b2 b3=>⟨lv',l,b1,b2,b3⟩
     have:O'.length<=c.b.length+1:=o6 G.b.g.nd fun x hx=>by have:=G.b.g.lt x hx;rwa [pZ]at this
     omega
   ·rw[decide_eq_false (by omega)]
    simp only[Bool.not_false]
    rw[ag]
    simp only[ab,true_and]
    rw[EP fun b hb=>hlen hb.2.1]
    exact back h49 VM
  ·rw[kN (hk0.2 haO)]
   simp only[Lu (P:=PP),fT,bE,if_true]
   rw[ag]
   simp only[ab,true_and]
   rw[EP fun b hb=>haO ((G.mem hc hlt).2 hb.1)]
   exact back h49 VM
 ·have:a=c.b.length:=by omega
  subst this
  rw[kp (by omega),af]
  simp only[ab,true_and]
  exact hJ h32 R1
end
end Go.Am
namespace Go.Am
open Go Go.Proofs
theorem K7 {c:Code}(hc:bG c){h:Heap}{L:LSq}{KH:HKq}(V:Vs h L) (hK:∀v h' O O' at' U,vW c O O' at' U->gh h' L v (oH c O O' c.b.length)->KH v h'):ah PP oC [c.e] h KH:=by
 have hnb:=hc.nb
 refine aL Au (aD _ _ _) rfl (Ah _ _) ?_
 unfold vo
 refine V.box c.db.one fun n2 h3 V1=>?_
 simp only[↓V1.fa 0 rfl,Nat.zero_add,↓V1.b9 0 (j:=7) rfl rfl,br,List.length_map]
 refine V1.Jl (by omega) (by omega) fun nB h10 V10=>?_
 have R10:=gh.Up V10
 obtain⟨X,V11,-,lift⟩:=R10.split
 have ix:((X++(n2,Slot.box c.e)::L))[X.length+0]?=some (n2,.box c.e):=by
  rw[List.getElem?_append_right (by omega),Nat.add_sub_cancel_left];rfl
 rw[show aa PP (.ld (.c (.ptr n2 0 0)) 8 true) h10=fun KH=>KH c.e h10 from funext fun KH=>V11.lu _ ix rfl]
 refine Sb hc V11 fun ng nO nA O O' at' X' w0 h14 BR V14 wE=>?_
 refine TN (ig:=1) (iO:=0) (iA:=2) (HP hc BR.lt BR.sub (by have:=BR.len.2;omega) BR.len.1) V14 rfl rfl rfl (wE.mono fun x hx=>by simp[hx]) pZ (by omega) BR.g fun nU U h16 V16 UR=>?_
 refine V16.alloc fun pUv h18 V18=>?_
 refine V18.IW 0 rfl rfl rfl fun h20 V20=>?_
 simp only[List.set_cons_zero]at V20
 have D0:vW c O O' at' U:=⟨BR,UR⟩
 let L5:LSq:=(pUv,.box (.ms nU 0 (c.b.length+1)))::(nU,.arr 1 (fp U))::(ng,Ju w0 nO O'.length nA (c.b.length+1))::(nA,.arr 1 (fp at'))::(n2,.box c.e)::L
 have V21:Vs h20 ([(pUv,Slot.box (.ms nU 0 (c.b.length+1))),(nU,.arr 1 (fp U)),(ng,Ju w0 nO O'.length nA (c.b.length+1)),(nA,.arr 1 (fp at'))]++(X++(n2,.box c.e)::L)):=by
  refine V20.sub ?_
  exact .cons_cons _ (.cons_cons _ (.cons _ (.cons_cons _ (.cons_cons _ (List.sublist_append_right X' _)))))
 have R:gh h20 L5 (.ms nB 0 c.b.length) (oH c O O' 0):=by
  rw[RF]
  exact lift h20 L5 (V21.perm (List.perm_append_comm_assoc _ X _))
 refine⟨fun _ h'=>gh h' L5 (.ms nB 0 c.b.length) (oH c O O' c.b.length),fun f h' R'=>hK _ h' O O' at' U D0 (R'.sub ?_),?_⟩
 ·exact .cons _ (.cons _ (.cons _ (.cons _ (.cons _ (.refl _)))))
 have VL:=R.vs
 rw[VL.fa 4 rfl,VL.b9 4 (j:=7) rfl rfl,br,List.length_map]
 exact Pe hc D0 (i2:=4) (iv:=0) (iU:=1) (ig:=2) (iA:=3) rfl rfl rfl rfl rfl R fun h' R'=>R'
end Go.Am
namespace Go.Am
open Go Go.Proofs
theorem Pl {h:Heap}{L:LSq}{KH:HKq}{m:Nat}{els:List D}{f:FuncId}{d1 r:D}(V:Vs h ((m,.arr 1 els)::L)) (hv:aU PP f [.sl els,d1] (· = r)) (hd:xo d1) (he:∀x∈els,∀y∈x.cells,y.vone=true) (hfl:r.flat=true) (hK:KH r h):ah PP f [.ms m 0 els.length,d1] h KH:=by
 have hn:=V.get 0 _ _ rfl
 have hrow:(h m).row=some (1,els):=by rw[hn];rfl
 have e0:(D.ms m 0 els.length).fz h=.sl els:=by simp[D.fz,D.fzc,hrow]
 have e1:[D.ms m 0 els.length,d1].map (D.fz h)=[.sl els,d1]:=by rw[List.map_cons,e0,List.map_cons,(sj hd.vd).1];rfl
 refine ah.mono ?_ (dB (K:=(· = r)) (by rw[e1];exact hv) (fun d hdm=>?_))
 ·rintro r' h' ⟨hr',k2,k3⟩
  rw[hr']at k2 ⊢
  rw[k2 (Or.inl hfl)]
  exact hK
 ·simp only[List.mem_cons,List.not_mem_nil,or_false]at hdm
  rcases hdm with rfl|rfl
  ·refine⟨by simp,?_,by rw[e0];rfl⟩
   intro x hx
   simp only[D.cells,List.mem_singleton]at hx
   subst hx
   exact⟨1,els,hrow,by simp,fun x hx y hy=>he x (by simpa using hx) y hy⟩
  ·exact⟨hd.one,(sj hd.vd).2.2,by rw[(sj hd.vd).1];exact hd.vd⟩
theorem QV.three {h:Heap}{L:LSq}(V:Vs h L){z:D}{i j k:Int}{KH:HKq}(hK:∀m h',Vs h' ((m,.arr 1 (fp [i,j,k]))::L)->KH (.ms m 0 3) h'):aa PP (.bldS true 1 3 z [(0,.c (.int .i64 i)),(1,.c (.int .i64 j)),(2,.c (.int .i64 k))]) h KH:=by
 refine⟨fun p hp=>?_,fun hf p hp=>?_,fun n t=>?_⟩
 ·simp[Arg.get]at hp
  rcases hp with rfl|rfl|rfl
  ·exact⟨by show 0<3;omega,rfl,aO.one⟩
  ·exact⟨by show 1<3;omega,rfl,aO.one⟩
  ·exact⟨by show 2<3;omega,rfl,aO.one⟩
 ·simp[Arg.get]at hp
  rcases hp with rfl|rfl|rfl<;>(intro x hx;simp[D.cells]at hx;subst hx;trivial)
 ·have:KH (.ms n 0 3) (au h n (.arr 1 (fp [i,j,k]))):=hK _ _ (V.push t.free (by simp))
  simpa[Arg.get,setEls,D.fz,D.fzc,D.nm,D.jA,fp,Heap.freezeAll,List.replicate] using this
def eZ (x:aP):Bool:= !(decide (x.op=1)||decide (x.op=2)||decide (x.op=3)||decide (x.op=4)||decide (x.op=6)||(decide (x.op=5)&&(decide (x.sub=3)||decide (x.sub=4)||decide (x.sub=5))))
theorem Nn {x:aP}:aU PP jJ [x.e] (· = .bool (eZ x)):=by
 refine bp uM (aD _ _ _) rfl (uG _ _) ?_
 unfold pv
 refine Vs.nil.box x.db.one fun n2 h3 V=>?_
 rw[V.fa 0 rfl,V.b9 0 (j:=0) rfl rfl]
 refine⟨fun q h'=>h'=h3/\∃t:Bool,q=[.bool t]/\t=(decide (x.op=1)||decide (x.op=2)||decide (x.op=3)||decide (x.op=4)||decide (x.op=6)),?_,?_⟩
 ·rintro f h' ⟨e,t,hq,ht⟩
  subst e
  simp only[List.cons.injEq,and_true]at hq
  rw[hq]
  cases t with
  | true =>
   rw[ag,bo]
   unfold eZ
   rw[<- ht];rfl
  | false =>
   rw[af,bY]
   by_cases h5:x.op=5
   ·rw[decide_eq_true h5,ag]
    refine QV.three V fun m h13 V13=>?_
    rw[V13.fa 1 rfl,V13.b9 1 (j:=1) rfl rfl]
    refine Pl V13 (Hg (l:=[3,4,5]) (k:=x.sub) (by simp)) aO (fun y hy w hw=>by simp only[fp,List.mem_map]at hy;obtain⟨k,-,rfl⟩:=hy;simp[D.cells]at hw;subst hw;rfl) rfl ?_
    rw[cD,bo]
    unfold eZ
    rw[<- ht,decide_eq_true h5]
    simp only[Bool.false_or,Bool.true_and]
    congr 2
    simp only[List.mem_cons,List.not_mem_nil,or_false,Bool.decide_or,Bool.or_assoc]
   ·rw[decide_eq_false h5,af,bo]
    unfold eZ
    rw[<- ht,decide_eq_false h5];rfl
 ·simp only[bY,ab,true_and]
  by_cases h1:x.op=1
  ·rw[decide_eq_true h1,ag];exact⟨true,rfl,by simp[h1]⟩
  rw[decide_eq_false h1,af]
  by_cases h2:x.op=2
  ·rw[decide_eq_true h2,ag];exact⟨true,rfl,by simp[h2]⟩
  rw[decide_eq_false h2,af]
  by_cases h3':x.op=3
  ·rw[decide_eq_true h3',ag];exact⟨true,rfl,by simp[h3']⟩
  rw[decide_eq_false h3',af]
  by_cases h4:x.op=4
  ·rw[decide_eq_true h4,ag];exact⟨true,rfl,by simp[h4]⟩
  rw[decide_eq_false h4,af]
  exact⟨_,rfl,by simp[h1,h2,h3',h4]⟩
end Go.Am
namespace Go.Am
open Go Go.Proofs
def QE (esz:Nat) (h:Heap) (L:LSq) (v:D) (T:List D):Prop :=
 (v=.nil/\T=[]/\Vs h L)\/∃m,v=.ms m 0 T.length/\Vs h ((m,.arr esz T)::L)
section
variable {esz:Nat}{h:Heap}{L:LSq}{v:D}{T:List D}{KH:HKq}
theorem QE.vs (q:QE esz h L v T):Vs h L:=by
 rcases q with⟨-,-,V⟩|⟨m,-,V⟩
 ·exact V
 ·exact V.pop
theorem QE.bX (q:QE esz h L v T) (i:Nat){n:Nat}{s s':Slot}(hi:L[i]?=some (n,s)) (hs:s'≠.free):QE esz (au h n s') (L.set i (n,s')) v T:=by
 rcases q with⟨rfl,rfl,V⟩|⟨m,rfl,V⟩
 ·exact Or.inl ⟨rfl,rfl,V.bX i hi hs⟩
 ·exact Or.inr ⟨m,rfl,by have:=V.bX (i+1) (n:=n) (s:=s) (by simpa using hi) hs;simpa using this⟩
theorem QE.more (q:QE esz h L v T){n:Nat}(hn:h n=.free){s:Slot}(hs:s≠.free):QE esz (au h n s) ((n,s)::L) v T:=by
 rcases q with⟨rfl,rfl,V⟩|⟨m,rfl,V⟩
 ·exact Or.inl ⟨rfl,rfl,V.push hn hs⟩
 ·exact Or.inr ⟨m,rfl,(V.push hn hs).swap⟩
theorem QE.less {x:Nat×Slot}(q:QE esz h (x::L) v T):QE esz h L v T:=by
 rcases q with⟨rfl,rfl,V⟩|⟨m,rfl,V⟩
 ·exact Or.inl ⟨rfl,rfl,V.pop⟩
 ·exact Or.inr ⟨m,rfl,V.swap.pop⟩
theorem QE.push (q:QE esz h L v T){d z z':D}{bytes:Nat}(hd:xo d) (hc:d.cells.length=esz) (hb:(T.length+1)*bytes<=140737488355328) (hl:T.length+1<=9223372036854775807)
  (hK:∀v h',QE esz h' L v (T++[d])->KH v h'):aa PP (.bldS true esz 1 z [(0,.c d)]) h fun x h1=>aa PP (.app (.c v) (.c x) esz bytes z') h1 KH:=by
 have hlen:T.length+1=(T++[d]).length:=by simp
 rcases q with⟨rfl,rfl,V⟩|⟨m,rfl,V⟩
 ·refine zQ (els:=[]) (Or.inl ⟨rfl,rfl⟩) hd hc hb hl fun m h' hm hm' hk=>hK _ _ (Or.inr ⟨m,rfl,?_⟩)
  have Vk:=V.CZ (h':=h') fun k s ⟨i,hi⟩=>hk k (fun e=>by subst e;exact V.lv i k s hi ((V.get i k s hi).symm.trans hm)) (by simp[D.jA]) (by rw[V.get i k s hi];exact V.lv i k s hi)
  rw[Vs.iff]at Vk ⊢
  refine⟨fun k s hs=>?_,?_⟩
  ·rcases List.mem_cons.1 hs with e|hs
   ·cases e;exact⟨hm',by simp⟩
   ·exact Vk.1 k s hs
  ·rw[List.map_cons,List.nodup_cons]
   refine⟨fun hmm=>?_,Vk.2⟩
   obtain⟨⟨k,s⟩,hks,rfl⟩:=List.mem_map.1 hmm
   obtain⟨i,hi⟩:=List.getElem?_of_mem hks
   exact V.lv i _ _ hi ((V.get i _ _ hi).symm.trans hm)
 ·refine zQ (els:=T) (Or.inr ⟨m,rfl,V.get 0 _ _ rfl⟩) hd hc hb hl fun m' h' hm hm' hk=>hK _ _ (Or.inr ⟨m',by rw[hlen],?_⟩)
  have V1:=V.pop
  have Vk:=V1.CZ (h':=h') fun k s ⟨i,hi⟩=>hk k (fun e=>by subst e;exact V1.lv i k s hi ((V1.get i k s hi).symm.trans hm)) (fun e=>by
   simp[D.jA]at e
   exact V.ne (i+1) 0 k m s _ (by simpa using hi) rfl (by omega) e) (by rw[V1.get i k s hi];exact V1.lv i k s hi)
  rw[Vs.iff]at Vk ⊢
  refine⟨fun k s hs=>?_,?_⟩
  ·rcases List.mem_cons.1 hs with e|hs
   ·cases e;exact⟨hm',by simp⟩
   ·exact Vk.1 k s hs
  ·rw[List.map_cons,List.nodup_cons]
   refine⟨fun hmm=>?_,Vk.2⟩
   obtain⟨⟨k,s⟩,hks,rfl⟩:=List.mem_map.1 hmm
   obtain⟨i,hi⟩:=List.getElem?_of_mem hks
   exact V1.lv i _ _ hi ((V1.get i _ _ hi).symm.trans hm)
end
section
variable {esz:Nat}{h:Heap}{L:LSq}{v:D}{T:List D}{KH:HKq}
theorem QE.alloc (q:QE esz h L v T){d:D}(hK:∀n h',QE esz h' ((n,.box d)::L) v T->KH (.ptr n 0 0) h'):aa PP (.alloc d) h KH:=by
 rw[fI]
 exact fun n t=>hK n _ (q.more t.free (by simp))
theorem QE.pV {n s:Nat}{cs cs':List D}(q:QE esz h ((n,.box (.agg cs))::L) v T) (hl:cs.length=s) (hl':cs'.length=s) (ho:∀x,x∈cs'->x.one=true) (hK:∀h',QE esz h' ((n,.box (.agg cs'))::L) v T->KH .undef h'):aa PP (.st (.c (.ptr n 0 0)) (.c (.agg cs')) s) h KH:=by
 rcases q with⟨rfl,rfl,V⟩|⟨m,rfl,V⟩
 ·exact V.pV 0 rfl hl hl' ho fun h' V'=>hK h' (Or.inl ⟨rfl,rfl,V'⟩)
 ·exact V.pV 1 rfl hl hl' ho fun h' V'=>hK h' (Or.inr ⟨m,rfl,V'⟩)
theorem Vs.Rh (V:Vs h L) (i:Nat){n j s:Nat}{els cs:List D}(hi:L[i]?=some (n,.arr s els)) (hd:els[j]?=some (.agg cs)) (hl:cs.length=s):aa PP (.ld (.c (.ptr n j 0)) s true) h KH=KH (.agg cs) h:=by
 rw[wT,V.get i _ _ hi]
 obtain⟨h1,he⟩:=List.getElem?_eq_some_iff.1 hd
 subst hl
 simp[jW,h1,he,D.cells]
end
structure Fa where
 nC:Bool
 n:Int
def Fa.e (f:Fa):D:=.agg [.bool f.nC,.int .i64 f.n]
theorem Fa.db (f:Fa):xo f.e:=fJ (by simp)
def bq (l:List cG):List Fa:=(l.filter fun o=>decide (o.kind=2)).map fun o=>⟨false,o.n⟩
theorem NB {n:Int}{h:Heap}{KH:HKq}:aa PP (.bld [(.bool false),(.int .i64 0)] [(1,1,(.c (.int .i64 n)))]) h KH=KH (Fa.e ⟨false,n⟩) h:=by
 rw[nj]
 apply propext
 constructor
 ·exact fun hh=>hh.2
 ·refine fun hk=>⟨fun p hp=>?_,hk⟩
  simp[Arg.get]at hp
  subst hp
  exact⟨rfl,by show 1+1<=2;omega,fun d hd=>by simp[D.cells]at hd;subst hd;rfl⟩
theorem HB {l:List cG}{h:Heap}{L:LSq}{KH:HKq}{m:Nat}(V:Vs h ((m,.arr 3 (l.map cG.e))::L)) (hl:l.length<=100) (hK:∀v h',QE 2 h' ((m,.arr 3 (l.map cG.e))::L) v ((bq l).map Fa.e)->KH v h'):ah PP cK [.ms m 0 l.length] h KH:=by
 refine aL jy (aD _ _ _) rfl (jk _ _) ?_
 unfold gB
 refine⟨fun q h'=>∃v,q=[v]/\QE 2 h' ((m,.arr 3 (l.map cG.e))::L) v ((bq l).map Fa.e),?_,?_⟩
 ·rintro f h' ⟨v,hq,q⟩
  simp only[List.cons.injEq,and_true]at hq
  rw[hq]
  exact hK v h' q
 rw[bb,V.get 0 _ _ rfl]
 refine⟨rfl,?_⟩
 unfold fh
 refine⟨fun k q h'=>∃(i:Nat) (v:D),q=[v,nD i]/\i<=l.length/\k=l.length-i/\QE 2 h' ((m,.arr 3 (l.map cG.e))::L) v ((bq (l.take i)).map Fa.e),_,⟨0,.nil,rfl,by omega,rfl,Or.inl ⟨rfl,rfl,V⟩⟩,?_⟩
 rintro k f h1 ⟨i,v,hq,hi,hk,q⟩
 simp only[List.cons.injEq,and_true]at hq
 obtain⟨q1,q2⟩:=hq
 simp only[q1,q2,nD]
 by_cases hlt:i<l.length
 ·rw[kN (by omega),ag]
  obtain⟨o,ho⟩:∃o,l[i]?=some o:=⟨l[i],List.getElem?_eq_getElem hlt⟩
  have htk:l.take (i+1)=l.take i++[o]:=by rw[List.take_add_one,ho];rfl
  refine⟨fun q' h'=>∃v,q'=[v]/\QE 2 h' ((m,.arr 3 (l.map cG.e))::L) v ((bq (l.take (i+1))).map Fa.e),?_,?_⟩
  ·rintro f' h' ⟨v',hq',q'⟩
   simp only[List.cons.injEq,and_true]at hq'
   rw[hq',cw (by omega) (by omega)]
   simp only[ab,true_and]
   exact⟨_,by omega,i+1,v',rfl,by omega,rfl,q'⟩
  have V1:=q.vs
  rw[V1.ia 0 rfl (by omega) (by omega),Int.toNat_natCast,V1.Rh 0 rfl (j:=i) (cs:=o.cs) (by simp[ho,cG.e]) rfl]
  refine q.alloc fun n19 h20 q20=>?_
  refine q20.pV rfl rfl (fun x hx=>o.db.one x hx) fun h22 q22=>?_
  have V22:=q22.vs
  rw[V22.fa 0 rfl,V22.b9 0 (j:=0) rfl rfl,bY]
  by_cases hk2:o.kind=2
  ·rw[decide_eq_true hk2,ag,V22.fa 0 rfl,V22.b9 0 (j:=1) rfl rfl,NB]
   refine q22.less.push (Fa.db _) rfl ?_ ?_ fun v' h' q'=>?_
   ·have:=List.length_filter_le (fun o:cG=>decide (o.kind=2)) (l.take i)
    rw[List.length_take]at this
    simp only[bq,List.length_map];omega
   ·have:=List.length_filter_le (fun o:cG=>decide (o.kind=2)) (l.take i)
    rw[List.length_take]at this
    simp only[bq,List.length_map];omega
   ·simp only[ab,true_and]
    refine⟨v',rfl,?_⟩
    have:(bq (l.take (i+1))).map Fa.e=(bq (l.take i)).map Fa.e++[Fa.e ⟨false,o.n⟩]:=by
     rw[htk];simp[bq,List.filter_append,hk2]
    rw[this]
    exact q'
  ·rw[decide_eq_false hk2,af]
   simp only[ab,true_and]
   refine⟨v,rfl,?_⟩
   have:(bq (l.take (i+1))).map Fa.e=(bq (l.take i)).map Fa.e:=by
    rw[htk];simp[bq,List.filter_append,hk2]
   rw[this]
   exact q22.less
 ·have:i=l.length:=by omega
  subst this
  rw[kp (by omega),af]
  simp only[ab,true_and]
  rw[List.take_length]at q
  exact⟨v,rfl,q⟩
end Go.Am
namespace Go.Am
open Go Go.Proofs
def cX (o:cG):Int:=if o.kind=2 then o.n else -1
theorem Ns {o:cG}:aU PP qg [o.e] (· = .int .i64 (cX o)):=by
 refine bp Em (aD _ _ _) rfl (Ei _ _) ?_
 unfold DD
 refine Vs.nil.box o.db.one fun n2 h3 V=>?_
 rw[V.fa 0 rfl,V.b9 0 (j:=0) rfl rfl,gj]
 unfold cX
 by_cases hk:o.kind=2
 ·rw[decide_eq_true hk,Bool.not_true,af,V.fa 0 rfl,V.b9 0 (j:=1) rfl rfl,ec,if_pos hk]
 ·rw[decide_eq_false hk,Bool.not_false,ag,ec,if_neg hk]
theorem Us {P:Program}{h:Heap}{KH:HKq}{n:Nat}{x:Term}(a:h n=.box x.e):aa P (.ld (.c (.ptr n 0 2)) 3 true) h KH=KH x.d.e h:=Lk a (by simp[Term.cs])
theorem SZ {P:Program}{h:Heap}{KH:HKq}{n:Nat}{x:aP}(a:h n=.box x.e):aa P (.ld (.c (.ptr n 0 3)) 3 true) h KH=KH x.d.e h:=Lk a (by simp[aP.cs])
theorem RU {x:aP}:aU PP wG [x.e] (· = .int .i64 (cX x.d)):=by
 refine bp En (aD _ _ _) rfl (Ej _ _) ?_
 unfold DG
 refine Vs.nil.box x.db.one fun n2 h3 V=>?_
 rw[V.fa 0 rfl,SZ (V.get 0 _ _ rfl)]
 refine bT Ns (fun d hd=>by simp at hd;subst hd;exact x.d.db.pair) ?_
 rintro _ rfl
 rw[ec]
theorem Pr {x:Term}:aU PP sG [x.e] (· = .int .i64 (cX x.d)):=by
 refine bp DV (aD _ _ _) rfl (DF _ _) ?_
 unfold AV
 refine Vs.nil.box x.db.one fun n2 h3 V=>?_
 rw[V.fa 0 rfl,Us (V.get 0 _ _ rfl)]
 refine bT Ns (fun d hd=>by simp at hd;subst hd;exact x.d.db.pair) ?_
 rintro _ rfl
 rw[ec]
theorem F3 {l:List cG}{h:Heap}{L:LSq}{KH:HKq}(V:Vs h L) (hl:l.length<=100) (hK:∀v h',QE 2 h' L v ((bq l).map Fa.e)->KH v h'):ah PP cK [.sl (l.map cG.e)] h KH:=by
 refine aL jy (aD _ _ _) rfl (jk _ _) ?_
 unfold gB
 refine⟨fun q h'=>∃v,q=[v]/\QE 2 h' L v ((bq l).map Fa.e),?_,?_⟩
 ·rintro f h' ⟨v,hq,q⟩
  simp only[List.cons.injEq,and_true]at hq
  rw[hq]
  exact hK v h' q
 rw[br,List.length_map]
 unfold fh
 refine⟨fun k q h'=>∃(i:Nat) (v:D),q=[v,nD i]/\i<=l.length/\k=l.length-i/\QE 2 h' L v ((bq (l.take i)).map Fa.e),_,⟨0,.nil,rfl,by omega,rfl,Or.inl ⟨rfl,rfl,V⟩⟩,?_⟩
 rintro k f h1 ⟨i,v,hq,hi,hk,q⟩
 simp only[List.cons.injEq,and_true]at hq
 obtain⟨q1,q2⟩:=hq
 simp only[q1,q2,nD]
 by_cases hlt:i<l.length
 ·rw[kN (by omega),ag]
  obtain⟨o,ho⟩:∃o,l[i]?=some o:=⟨l[i],List.getElem?_eq_getElem hlt⟩
  have htk:l.take (i+1)=l.take i++[o]:=by rw[List.take_add_one,ho];rfl
  refine⟨fun q' h'=>∃v,q'=[v]/\QE 2 h' L v ((bq (l.take (i+1))).map Fa.e),?_,?_⟩
  ·rintro f' h' ⟨v',hq',q'⟩
   simp only[List.cons.injEq,and_true]at hq'
   rw[hq',cw (by omega) (by omega)]
   simp only[ab,true_and]
   exact⟨_,by omega,i+1,v',rfl,by omega,rfl,q'⟩
  rw[kM (esz:=3) (d:=o.e) (by omega) (by rw[Int.toNat_natCast,List.getElem?_map,ho];rfl) rfl,show o.e=.agg o.cs from rfl,H2 (s:=3) rfl]
  refine q.alloc fun n19 h20 q20=>?_
  refine q20.pV rfl rfl (fun x hx=>o.db.one x hx) fun h22 q22=>?_
  have V22:=q22.vs
  rw[V22.fa 0 rfl,V22.b9 0 (j:=0) rfl rfl,bY]
  by_cases hk2:o.kind=2
  ·rw[decide_eq_true hk2,ag,V22.fa 0 rfl,V22.b9 0 (j:=1) rfl rfl,NB]
   have hlf:(bq (l.take i)).length<=100:=by
    have:=List.length_filter_le (fun o:cG=>decide (o.kind=2)) (l.take i)
    rw[List.length_take]at this
    simp only[bq,List.length_map];omega
   refine q22.less.push (Fa.db _) rfl (by rw[List.length_map];omega) (by rw[List.length_map];omega) fun v' h' q'=>?_
   ·simp only[ab,true_and]
    refine⟨v',rfl,?_⟩
    have:(bq (l.take (i+1))).map Fa.e=(bq (l.take i)).map Fa.e++[Fa.e ⟨false,o.n⟩]:=by
     rw[htk];simp[bq,List.filter_append,hk2]
    rw[this]
    exact q'
  ·rw[decide_eq_false hk2,af]
   simp only[ab,true_and]
   refine⟨v,rfl,?_⟩
   have:(bq (l.take (i+1))).map Fa.e=(bq (l.take i)).map Fa.e:=by
    rw[htk];simp[bq,List.filter_append,hk2]
   rw[this]
   exact q22.less
 ·have:i=l.length:=by omega
  subst this
  rw[kp (by omega),af]
  simp only[ab,true_and]
  rw[List.take_length]at q
  exact⟨v,rfl,q⟩
structure Ru where
 of:Fa
 needs:List Fa
 never:Bool
def Ru.e (r:Ru) (v:D):D:=.agg [.bool r.of.nC,.int .i64 r.of.n,v,.bool r.never]
def oS (b:Nat):Fa:=⟨true,b⟩
def pW (n:Int):Fa:=⟨false,n⟩
def sQ (b a:Nat) (t:Term):Ru:=⟨oS b,bq [t.a]++[oS a],false⟩
def gF (b:Nat) (x:aP):Ru:=⟨pW (cX x.d),bq [x.a,x.b,x.c]++[oS b],eZ x⟩
def gx (b:Nat) (xs:List aP):List Ru:=(xs.filter fun x=>decide (0<=cX x.d)).map (gF b)
def C8 (t:Term):List Ru:=if 0<=cX t.d then [⟨pW (cX t.d),[],true⟩] else []
def OH (b:Nat):Ru:=⟨oS b,[],true⟩
def nC (c:Code) (b:Nat):Block:=(c.b[b]?).getD default
theorem gy {c:Code}{b:Nat}{B:Block}(h:c.b[b]?=some B):nC c b=B:=by unfold nC;rw[h];rfl
def gG (c:Code) (b:Nat) (dep:List Nat):List Ru:=dep.map fun a=>sQ b a (nC c a).t
def sW (c:Code) (R:List Bool) (Dp:List (List Nat)) (b:Nat):List Ru :=
 if hasB R b then gG c b (gL Dp b)++gx b (nC c b).i++C8 (nC c b).t else [OH b]
def gw (c:Code) (R:List Bool) (Dp:List (List Nat)) (n:Nat):List Ru:=(List.range n).flatMap (sW c R Dp)
def wx (c:Code) (R:List Bool) (Dp:List (List Nat)):List Ru:=gw c R Dp c.b.length
theorem AA {c:Code}{R:List Bool}{Dp:List (List Nat)}{n:Nat}:gw c R Dp (n+1)=gw c R Dp n++sW c R Dp n:=by
 unfold gw;rw[List.range_succ,List.flatMap_append];simp
def Ak (N:Nat) (R:Int) (f:Fa):Prop:=0<=f.n/\(f.nC=true->f.n<(N:Int))/\(f.nC=false->f.n<R)
structure xh (N:Nat) (R:Int) (r:Ru):Prop where
 of:Ak N R r.of
 needs:∀f∈r.needs,Ak N R f
 len:r.needs.length<=10
structure cU (c:Code):Prop where
 g:bG c
 i:∀B∈c.b,∀x∈B.i,DM c.regs x
 len:∀B∈c.b,B.i.length<=100
 rg:1<=c.regs/\c.regs<=100
theorem xp.u {c:Code}(h:xp c):cU c:=by
 refine⟨h.g,fun B hB x hx=>?_,fun B hB=>Nat.le_trans (h.b B hB).len (by omega),?_⟩
 ·obtain⟨k,hk⟩:=List.getElem?_of_mem hx
  exact((h.b B hB).xs k x hk).1
 ·have:=h.regs;have:=h.nl;omega
theorem jH {R:Int}{o:cG}(h:l8 R o):o.kind=2/\0<=o.n/\o.n<R:=by obtain⟨r,h1,h2,rfl⟩:=h;exact⟨rfl,h1,h2⟩
theorem ml {R:Int}{o:cG}(h:qC R o):o.kind=2->0<=o.n/\o.n<R:=by
 rcases h with h|⟨v,-,-,rfl⟩
 ·exact fun _=>(jH h).2
 ·intro h;cases h
def vH (R:Int) (o:cG):Prop:=o.kind=2->0<=o.n/\o.n<R
theorem cR {R:Int}:vH R aj:=fun h=>by cases h
theorem DM.Ov {R:Int}{x:aP}(h:DM R x):vH R x.d/\vH R x.a/\vH R x.b/\vH R x.c:=by
 cases h with
 | mov d a h1 h2=>exact⟨fun _=>(jH h1).2,ml h2,cR,cR⟩
 | un s d a h0 h1 h2=>exact⟨fun _=>(jH h1).2,ml h2,cR,cR⟩
 | bin s d a b h0 h1 h2 h3=>exact⟨fun _=>(jH h1).2,ml h2,ml h3,cR⟩
 | sel d a b c h1 h2 h3 h4=>exact⟨fun _=>(jH h1).2,ml h2,ml h3,ml h4⟩
 | id s d h0 h1=>exact⟨fun _=>(jH h1).2,cR,cR,cR⟩
 | param n d h0 h1=>exact⟨fun _=>(jH h1).2,cR,cR,cR⟩
 | load n d a h0 h1 h2=>exact⟨fun _=>(jH h1).2,fun _=>(jH h2).2,cR,cR⟩
 | store n a b h0 h1 h2=>exact⟨cR,fun _=>(jH h1).2,ml h2,cR⟩
 | atom s n a b hs h0 h1 h2=>exact⟨cR,fun _=>(jH h1).2,ml h2,cR⟩
 | fence s h0=>exact⟨cR,cR,cR,cR⟩
theorem DZ.Ov {N:Nat}{R:Int}{t:Term}(h:DZ N R t):vH R t.d/\vH R t.a/\vH R t.b:=by
 cases h with
 | jump a h=>exact⟨cR,cR,cR⟩
 | branch o a b ho h1 h2=>exact⟨cR,fun _=>(jH ho).2,cR⟩
 | barrier a h=>exact⟨cR,cR,cR⟩
 | collect s d a b t hs hd ha hb h=>exact⟨fun _=>(jH hd).2,ml ha,ml hb⟩
 | exit=>exact⟨cR,cR,cR⟩
theorem Gt {N:Nat}{R:Int}{l:List cG}(h:∀o∈l,vH R o):∀f,f∈bq l->Ak N R f:=by
 intro f hf
 simp only[bq,List.mem_map,List.mem_filter,decide_eq_true_eq]at hf
 obtain⟨o,⟨ho,hk⟩,rfl⟩:=hf
 exact⟨(h o ho hk).1,fun h=>(by cases h),fun _=>(h o ho hk).2⟩
theorem mh {l:List cG}:(bq l).length<=l.length:=by
 unfold bq;rw[List.length_map];exact List.length_filter_le _ _
theorem Hq {N:Nat}{R:Int}{b:Nat}(h:b<N):Ak N R (oS b):=⟨by simp[oS],fun _=>by simp only[oS];omega,fun h=>by cases h⟩
theorem Mx {N:Nat}{R:Int}{b:Nat}(h:b<N):xh N R (OH b):=⟨Hq h,fun f hf=>by simp[OH]at hf,by simp[OH]⟩
theorem JC {N:Nat}{R:Int}{b a:Nat}{t:Term}(hb:b<N) (ha:a<N) (ht:DZ N R t):xh N R (sQ b a t):=by
 refine⟨Hq hb,fun f hf=>?_,?_⟩
 ·rcases List.mem_append.1 hf with hf|hf
  ·exact Gt (fun o ho=>by simp at ho;subst ho;exact ht.Ov.2.1) f hf
  ·simp at hf;subst hf;exact Hq ha
 ·have:(bq [t.a]).length<=1:=mh
  simp[sQ];omega
theorem GC {N:Nat}{R:Int}{b:Nat}{x:aP}(hb:b<N) (hx:DM R x) (h0:0<=cX x.d):xh N R (gF b x):=by
 refine⟨⟨h0,fun h=>(by cases h),fun _=>?_⟩,fun f hf=>?_,?_⟩
 ·unfold gF pW cX at *
  split at h0
  ·rename_i hk
   simp only[if_pos hk]
   exact(hx.Ov.1 hk).2
  ·omega
 ·rcases List.mem_append.1 hf with hf|hf
  ·exact Gt (fun o ho=>by simp at ho;rcases ho with rfl|rfl|rfl;exact hx.Ov.2.1;exact hx.Ov.2.2.1;exact hx.Ov.2.2.2) f hf
  ·simp at hf;subst hf;exact Hq hb
 ·have:(bq [x.a,x.b,x.c]).length<=3:=mh
  simp[gF];omega
theorem JA {N:Nat}{R:Int}{t:Term}(ht:DZ N R t) (h0:0<=cX t.d):xh N R ⟨pW (cX t.d),[],true⟩:=by
 refine⟨⟨h0,fun h=>(by cases h),fun _=>?_⟩,fun f hf=>(by simp at hf),by simp⟩
 unfold pW cX at *
 split at h0
 ·rename_i hk
  simp only[if_pos hk]
  exact(ht.Ov.1 hk).2
 ·omega
end Go.Am
namespace Go.Am
open Go Go.Proofs
section
variable {h:Heap}{L:LSq}{KH:HKq}{K:D->Prop}
theorem Vs.EI (V:Vs h L){n o:Nat}{s:Slot}(hm:(n,s)∈L):aa PP (.fadd (.c (.ptr n 0 0)) o) h KH=KH (.ptr n 0 o) h:=by
 obtain⟨i,hi⟩:=List.getElem?_of_mem hm;exact V.fa i hi
theorem Vs.pe (V:Vs h L){n j:Nat}{cs:List D}{e:D}(hm:(n,Slot.box (.agg cs))∈L) (he:cs[j]?=some e):aa PP (.ld (.c (.ptr n 0 j)) 1 false) h KH=KH e h:=Kk (V.mem hm) he
theorem Vs.Ft (V:Vs h L){n s:Nat}{cs:List D}(hm:(n,Slot.box (.agg cs))∈L) (hl:cs.length=s):aa PP (.ld (.c (.ptr n 0 0)) s true) h KH=KH (.agg cs) h:=by
 obtain⟨i,hi⟩:=List.getElem?_of_mem hm;exact V.lu i hi hl
theorem Vs.S3 (V:Vs h L){n:Nat}{d:D}(hm:(n,Slot.box d)∈L) (h1:d.one=true):aa PP (.ld (.c (.ptr n 0 0)) 1 false) h KH=KH d h:=by
 obtain⟨i,hi⟩:=List.getElem?_of_mem hm;exact V.B6 i hi h1
def BW (L:LSq) (v:D) (T:List Bool):Prop:=v=.sl (bL T)\/∃m,v=.ms m 0 T.length/\(m,.arr 1 (bL T))∈L
def FW (L:LSq) (v:D) (T:List Fa):Prop:=(v=.nil/\T=[])\/v=.sl (T.map Fa.e)\/∃m,v=.ms m 0 T.length/\(m,.arr 2 (T.map Fa.e))∈L
theorem BW.mono {L':LSq}{v:D}{T:List Bool}(hs:∀x∈L,x∈L') (w:BW L v T):BW L' v T:=by
 rcases w with h|⟨m,h1,h2⟩
 ·exact Or.inl h
 ·exact Or.inr ⟨m,h1,hs _ h2⟩
theorem FW.mono {L':LSq}{v:D}{T:List Fa}(hs:∀x∈L,x∈L') (w:FW L v T):FW L' v T:=by
 rcases w with h|h|⟨m,h1,h2⟩
 ·exact Or.inl h
 ·exact Or.inr (Or.inl h)
 ·exact Or.inr (Or.inr ⟨m,h1,hs _ h2⟩)
theorem BW.one {v:D}{T:List Bool}(w:BW L v T):v.one=true:=by rcases w with rfl|⟨m,rfl,-⟩<;>rfl
theorem FW.one {v:D}{T:List Fa}(w:FW L v T):v.one=true:=by rcases w with⟨rfl,-⟩|rfl|⟨m,rfl,-⟩<;>rfl
theorem FW.len (V:Vs h L){v:D}{T:List Fa}(w:FW L v T):aG v h K=K (.int .i64 (T.length:Int)):=by
 rcases w with⟨rfl,rfl⟩|rfl|⟨m,rfl,hm⟩
 ·rw[sm];rfl
 ·rw[br,List.length_map]
 ·rw[bb,V.mem hm]
  apply propext
  exact⟨fun hh=>hh.2,fun hk=>⟨rfl,hk⟩⟩
theorem FW.get (V:Vs h L){v:D}{T:List Fa}(w:FW L v T){i:Nat}{f:Fa}(hf:T[i]?=some f) (hK:KH f.e h):aa PP (.iadd (.c v) (.c (.int .i64 (i:Int))) 2) h fun a h1=>aa PP (.ld (.c a) 2 true) h1 KH:=by
 have hi:=(List.getElem?_eq_some_iff.1 hf).1
 rcases w with⟨-,rfl⟩|rfl|⟨m,rfl,hm⟩
 ·simp at hf
 ·rw[kM (esz:=2) (d:=f.e) (by omega) (by rw[Int.toNat_natCast,List.getElem?_map,hf];rfl) rfl,show f.e=.agg [.bool f.nC,.int .i64 f.n] from rfl,H2 (s:=2) rfl]
  exact hK
 ·obtain⟨k,hk⟩:=List.getElem?_of_mem hm
  rw[V.ia k hk (by omega) (by omega),Int.toNat_natCast,V.Rh k hk (j:=i) (cs:=[.bool f.nC,.int .i64 f.n]) (by rw[List.getElem?_map,hf];rfl) rfl]
  exact hK
theorem BW.len (V:Vs h L){v:D}{T:List Bool}(w:BW L v T):aG v h K=K (.int .i64 (T.length:Int)):=by
 rcases w with rfl|⟨m,rfl,hm⟩
 ·rw[br];simp[bL]
 ·rw[bb,V.mem hm]
  apply propext
  exact⟨fun hh=>hh.2,fun hk=>⟨rfl,hk⟩⟩
def T9 (L:LSq) (v:D) (T:List Bool) (i:Nat) (p:D):Prop:=(v=.sl (bL T)/\p=.vp (.bool (hasB T i)) 0)\/∃m,v=.ms m 0 T.length/\(m,.arr 1 (bL T))∈L/\p=.ptr m i 0
theorem BW.at (V:Vs h L){v:D}{T:List Bool}(w:BW L v T){a:Int}(h0:0<=a) (hi:a<T.length) (hK:∀p,T9 L v T a.toNat p->KH p h):aa PP (.iadd (.c v) (.c (.int .i64 a)) 1) h KH:=by
 rcases w with rfl|⟨m,rfl,hm⟩
 ·rw[kM (esz:=1) (d:=.bool (hasB T a.toNat)) h0 (ca (aR (by omega))) rfl]
  exact hK _ (Or.inl ⟨rfl,rfl⟩)
 ·obtain⟨k,hk⟩:=List.getElem?_of_mem hm
  rw[V.ia k hk h0 hi]
  exact hK _ (Or.inr ⟨m,rfl,hm,rfl⟩)
theorem T9.read (V:Vs h L){v p:D}{T:List Bool}{i:Nat}(w:T9 L v T i p) (hi:i<T.length) (hK:KH (.bool (hasB T i)) h):aa PP (.fadd (.c p) 0) h fun a h1=>aa PP (.ld (.c a) 1 false) h1 KH:=by
 rcases w with⟨-,rfl⟩|⟨m,-,hm,rfl⟩
 ·rw[Ky,rP rfl];exact hK
 ·obtain⟨k,hk⟩:=List.getElem?_of_mem hm
  rw[jN,V.mem hm]
  refine⟨rfl,?_⟩
  rw[Nat.zero_add,V.uV k hk (ca (aR hi)) rfl]
  exact hK
end
def xF (U R:List Bool) (f:Fa):List Bool:=if f.nC then U else R
def fM (U R:List Bool) (f:Fa):Bool:=hasB (xF U R f) f.n.toNat
def cL (U R:List Bool) (r:Ru):Bool:= !fM U R r.of||(!r.never&&r.needs.all (fM U R))
section
variable {h:Heap}{L:LSq}{KH:HKq}{vU vR:D}{U R:List Bool}
theorem Sc (V:Vs h L) (wU:BW L vU U) (wR:BW L vR R){f:Fa}(hf:Ak U.length R.length f) (hK:∀p h',Vs h' L->T9 L (if f.nC then vU else vR) (xF U R f) f.n.toNat p->KH p h'):ah PP iS [.agg [vU,vR],f.e] h KH:=by
 refine aL BH (aD _ _ _) rfl (Bw _ _ _) ?_
 unfold yp
 refine V.box (fun x hx=>?_) fun n3 h4 V4=>?_
 ·simp at hx;rcases hx with rfl|rfl
  ·exact wU.one
  ·exact wR.one
 refine V4.box f.db.one fun n5 h6 V6=>?_
 rw[V6.fa 0 rfl,V6.b9 0 (j:=0) rfl rfl]
 obtain⟨b,n⟩:=f
 cases b
 ·rw[af,V6.fa 1 rfl,V6.b9 1 (j:=1) rfl rfl,V6.fa 0 rfl,V6.b9 0 (j:=1) rfl rfl]
  refine(wR.mono (L':=_::_::L) (fun x hx=>by simp[hx])).at V6 hf.1 (hf.2.2 rfl) fun p hp=>hK p _ V6.pop.pop ?_
  rcases hp with hp|⟨m,h1,h2,h3⟩
  ·exact Or.inl hp
  ·rcases wR with rfl|⟨m',rfl,hm'⟩
   ·cases h1
   ·cases h1;exact Or.inr ⟨_,rfl,hm',h3⟩
 ·rw[ag,V6.fa 1 rfl,V6.b9 1 (j:=0) rfl rfl,V6.fa 0 rfl,V6.b9 0 (j:=1) rfl rfl]
  refine(wU.mono (L':=_::_::L) (fun x hx=>by simp[hx])).at V6 hf.1 (hf.2.1 rfl) fun p hp=>hK p _ V6.pop.pop ?_
  rcases hp with hp|⟨m,h1,h2,h3⟩
  ·exact Or.inl hp
  ·rcases wU with rfl|⟨m',rfl,hm'⟩
   ·cases h1
   ·cases h1;exact Or.inr ⟨_,rfl,hm',h3⟩
theorem HF {v cl:D}{T:List Fa}{p:Fa->Bool}(V:Vs h L) (w:FW L v T) (hl:T.length<=1000000)
  (hp:∀y∈T,∀h' (KH:HKq),Vs h' L->(∀h'',Vs h'' L->KH (.bool (p y)) h'')->aa PP (.callv (.c cl) [.c y.e]) h' KH) (hK:∀h',Vs h' L->KH (.bool (T.any p)) h'):ah PP aY [v,cl] h KH:=by
 refine aL da (aD _ _ _) rfl (cY _ _ _) ?_
 unfold bA
 have key:∀KH:HKq,(∀(i:Int) h',Vs h' L->(0<=i↔T.any p=true)->KH (.int .i64 i) h')->ah PP bj [v,cl] h KH:=by
  intro KH hk
  refine aL dJ (aD _ _ _) rfl (dH _ _ _) ?_
  unfold bJ
  refine⟨fun _ h'=>Vs h' L/\T.any p=false,?_,?_⟩
  ·rintro f h' ⟨V',hn⟩
   exact hk (-1) h' V' (by simp[hn])
  rw[w.len V]
  unfold bx
  refine⟨fun m q h'=>Vs h' L/\∃i:Nat,i<=T.length/\m=T.length-i/\q=[.int .i64 (i:Int)]/\(T.take i).any p=false,_,⟨V,0,by omega,rfl,rfl,by simp⟩,?_⟩
  rintro m f h1 ⟨V1,i,hi,hm,hq,hn⟩
  simp only[List.cons.injEq,and_true]at hq
  rw[hq]
  by_cases hlt:i<T.length
  ·obtain⟨y,hy⟩:∃y,T[i]?=some y:=⟨T[i],List.getElem?_eq_getElem hlt⟩
   have hyT:=List.mem_of_getElem? hy
   rw[kN (by omega),ag]
   refine w.get V1 hy ?_
   refine hp y hyT _ _ V1 fun h2 V2=>?_
   cases hpy:p y
   ·rw[af,cw (by omega) (by omega)]
    simp only[ab,true_and]
    refine⟨_,by omega,V2,i+1,by omega,rfl,by simp,?_⟩
    rw[List.take_add_one,hy]
    simp[hn,hpy]
   ·rw[ag]
    exact hk i _ V2 (by simp only[Int.natCast_nonneg,true_iff,List.any_eq_true];exact⟨y,hyT,hpy⟩)
  ·have:i=T.length:=by omega
   subst this
   rw[kp (by omega),af]
   simp only[ab,true_and]
   rw[List.take_length]at hn
   exact⟨V1,hn⟩
 refine key _ fun i h' V' hi=>?_
 rw[Ax]
 have:decide ((0:Int)<=i)=T.any p:=by
  cases ht:T.any p
  ·rw[ht]at hi;simpa using hi
  ·rw[ht]at hi;simpa using hi
 rw[this]
 exact hK h' V'
theorem Nl:eb PP iQ=true:=by kernel_rfl
theorem Rg {n off len:Nat}{cs:List D}{h:Heap}{KH:HKq}{d:D}(a:h n=.box (.agg cs)) (hl:off+len<=cs.length) (hd:.agg ((cs.drop off).take len)=d):aa PP (.ld (.c (.ptr n 0 off)) len true) h KH=KH d h:=by rw[Lk a hl,hd]
theorem NQ (V:Vs h L) (wU:BW L vU U) (wR:BW L vR R){r:Ru}(hr:xh U.length R.length r){nd:D}(wn:FW L nd r.needs) (hK:∀h',Vs h' L->KH (.bool (cL U R r)) h'):ah PP fP [.agg [vU,vR],r.e nd] h KH:=by
 refine aL yS (aD _ _ _) rfl (yo _ _ _) ?_
 unfold sZ
 have hsel:∀f:Fa,Ak U.length R.length f->f.n.toNat<(xF U R f).length:=fun f hf=>by
  obtain⟨b,n⟩:=f
  obtain⟨h1,h2,h3⟩:=hf
  cases b
  ·have g1:n<(R.length:Int):=h3 rfl
   have g2:0<=n:=h1
   show n.toNat<R.length;omega
  ·have g1:n<(U.length:Int):=h2 rfl
   have g2:0<=n:=h1
   show n.toNat<U.length;omega
 refine V.box (fun x hx=>?_) fun n3 h4 V4=>?_
 ·simp at hx;rcases hx with rfl|rfl
  ·exact wU.one
  ·exact wR.one
 refine V4.box (fun x hx=>?_) fun n5 h6 V6=>?_
 ·simp[Ru.e]at hx;rcases hx with rfl|rfl|rfl|rfl
  ·rfl
  ·rfl
  ·exact wn.one
  ·rfl
 have sub:∀x∈L,x∈(n5,Slot.box (r.e nd))::(n3,.box (.agg [vU,vR]))::L:=fun x hx=>by simp[hx]
 rw[V6.lu 1 (s:=2) rfl rfl,V6.fa 0 rfl,Rg (d:=r.of.e) (V6.get 0 _ _ rfl) (by simp) rfl]
 refine Sc V6 (wU.mono sub) (wR.mono sub) hr.of fun p h14 V14 hp=>?_
 refine hp.read V14 (hsel _ hr.of) ?_
 rw[show hasB (xF U R r.of) r.of.n.toNat=fM U R r.of from rfl]
 have hk:cL U R r=(!fM U R r.of||(!r.never&&r.needs.all (fM U R))):=rfl
 cases ho:fM U R r.of
 ·simp only[↓gS]
  rw[ho]at hk
  have:=hK _ V14.pop.pop
  rw[hk]at this
  exact this
 ·simp only[↓gS]
  rw[ho]at hk
  rw[V14.fa 0 rfl,V14.b9 0 (j:=3) rfl rfl]
  cases hn:r.never
  ·simp only[↓gS]
   rw[hn]at hk
   rw[V14.fa 0 rfl,V14.b9 0 (j:=2) rfl rfl,GH]
   refine HF (p:=fun f=> !fM U R f) V14 (wn.mono sub) (by have:=hr.len;omega) (fun y hy h' KH' V' hk'=>?_) fun h44 V44=>?_
   ·refine⟨Nl,?_⟩
    refine aL tH (aD _ _ _) rfl (sY _ _ _) ?_
    unfold nG
    refine V'.box y.db.one fun n3' h4' V4'=>?_
    show aa PP (.ld (.c (.ptr n3 0 0)) 2 true) h4' _
    rw[V4'.lu 2 (s:=2) rfl rfl,V4'.lu 0 (s:=2) rfl rfl]
    have sub':∀x∈L,x∈(n3',Slot.box y.e)::(n5,Slot.box (r.e nd))::(n3,.box (.agg [vU,vR]))::L:=fun x hx=>by simp[hx]
    refine Sc V4' (wU.mono sub') (wR.mono sub') (hr.needs y hy) fun p h8 V8 hp'=>?_
    refine hp'.read V8 (hsel _ (hr.needs y hy)) ?_
    rw[cD]
    exact hk' _ V8.pop
   ·have:=hK _ V44.pop.pop
    rw[hk]at this
    have e:r.needs.all (fM U R) = !r.needs.any fun f=> !fM U R f:=by
     rw[List.not_any_eq_all_not];simp
    rw[e]at this
    cases hany:r.needs.any fun f=> !fM U R f<;>(rw[hany]at this;simp only[↓gS];exact this)
  ·simp only[↓gS]
   rw[hn]at hk
   have:=hK _ V14.pop.pop
   rw[hk]at this
   exact this
end
end Go.Am
namespace Go.Am
open Go Go.Proofs
section
variable {esz:Nat}{h:Heap}{L L':LSq}{v:D}{T:List D}{KH:HKq}
theorem QE.perm (p:L.Perm L') (q:QE esz h L v T):QE esz h L' v T:=by
 rcases q with⟨rfl,rfl,V⟩|⟨m,rfl,V⟩
 ·exact Or.inl ⟨rfl,rfl,V.perm p⟩
 ·exact Or.inr ⟨m,rfl,V.perm (p.cons _)⟩
theorem QE.Ud (s:L'.Sublist L) (q:QE esz h L v T):QE esz h L' v T:=by
 rcases q with⟨rfl,rfl,V⟩|⟨m,rfl,V⟩
 ·exact Or.inl ⟨rfl,rfl,V.sub s⟩
 ·exact Or.inr ⟨m,rfl,V.sub (s.cons_cons _)⟩
theorem QE.one (q:QE esz h L v T):v.one=true:=by rcases q with⟨rfl,-⟩|⟨m,rfl,-⟩<;>rfl
theorem QE.PE (q:QE esz h L v T){d z':D}{bytes:Nat}(hd:xo d) (hc:d.cells.length=esz) (hb:(T.length+1)*bytes<=140737488355328) (hl:T.length+1<=9223372036854775807)
  (hK:∀v h',QE esz h' L v (T++[d])->KH v h'):aa PP (.app (.c v) (.c (.sl [d])) esz bytes z') h KH:=by
 rcases q with⟨rfl,rfl,V⟩|⟨m,rfl,V⟩
 ·rw[GI]
  refine⟨fun e he=>by simp at he;subst he;exact hc,fun y hy=>by simp at hy;subst hy;exact hd.one,⟨by simpa using hb,by simp⟩,fun n t=>?_⟩
  exact hK _ _ (Or.inr ⟨n,by simp,V.push t.free (by simp)⟩)
 ·refine V.FZ (ys:=[d]) (fun {K} hk=>⟨fun e he=>by simp at he;subst he;exact hc,hk⟩) (fun y hy=>by simp at hy;subst hy;exact hd.one) (by simpa using hb) (by simpa using hl) fun n h' V'=>?_
  exact hK _ _ (Or.inr ⟨n,by simp,V'⟩)
theorem Vs.TI (V:Vs h L){d z:D}(hd:xo d) (hc:d.cells.length=esz) (hK:∀m h',Vs h' ((m,.arr esz [d])::L)->KH (.ms m 0 1) h'):aa PP (.bldS true esz 1 z [(0,.c d)]) h KH :=
 FA hd.vd hd.one hc fun n t=>hK n _ (V.push t.free (by simp))
theorem cG.vone (o:cG):∀y∈o.e.cells,y.vone=true:=fun y hy=>by
 simp[cG.e,cG.cs,D.cells]at hy;rcases hy with rfl|rfl|rfl<;>rfl
theorem Fa.vone (f:Fa):∀y∈f.e.cells,y.vone=true:=fun y hy=>by
 simp[Fa.e,D.cells]at hy;rcases hy with rfl|rfl<;>rfl
theorem Pj {K:D->Prop}{a b c:cG}{h:Heap}(hk:K (.sl ([a,b,c].map cG.e))):ae PP (.bldS false 3 3 (.agg [(.int .i64 0),(.int .i64 0),(.int .i32 0)]) [(0,.c a.e),(1,.c b.e),(2,.c c.e)]) h K:=by
 refine⟨fun p hp=>?_,fun p hp=>?_,fun y hy=>by simp[D.cells]at hy;rcases hy with rfl|rfl<;>rfl,?_⟩
 ·simp[Arg.get]at hp
  rcases hp with rfl|rfl|rfl
  ·exact⟨by show 0<3;omega,rfl,a.db.one⟩
  ·exact⟨by show 1<3;omega,rfl,b.db.one⟩
  ·exact⟨by show 2<3;omega,rfl,c.db.one⟩
 ·simp[Arg.get]at hp
  rcases hp with rfl|rfl|rfl
  ·exact a.vone
  ·exact b.vone
  ·exact c.vone
 ·simpa[Arg.get,setEls,List.replicate] using hk
end
def Yl (nk:Nat) (G:Ru->Prop) (S:List Ru->LSq->Prop) (St:LSq->Prop):Prop :=
 ∀(done:List Ru) (ru:Ru) (Lc:LSq) (h:Heap) (N:LSq) (nd:D) (KH:HKq),S done Lc->done.length<=100000->G ru->QE 2 h (Lc++N) nd (ru.needs.map Fa.e) ->
  (∀Lc' h',S (done++[ru]) Lc'->Vs h' (Lc'++N)->KH (.bool true) h')->(∀Lc' h',St Lc'->Vs h' (Lc'++N)->KH (.bool false) h')->aa PP (.callv (.c (.yld nk)) [.c (ru.e nd)]) h KH
section
variable {c:Code}{nk:Nat}{S:List Ru->LSq->Prop}{St:LSq->Prop}{h:Heap}{W M Lc:LSq}{done:List Ru}{KH:HKq}
theorem TG {P:Program}{B:Block}:aa P (.ld (.c (.vp B.e 6)) 3 true) h KH=KH B.t.a.e h:=by
 rw[uW,jW]
 apply propext
 exact⟨fun hh=>hh.2,fun hk=>⟨by show 6+3<=14;omega,hk⟩⟩
theorem U4 {P:Program}{d:D}{o o':Nat}:aa P (.fadd (.c (.vp d o)) o') h KH=KH (.vp d (o+o')) h:=Fz
theorem Qk {n:Int}{KH:HKq}:aa PP (.bld [(.bool false),(.int .i64 0)] [(0,1,(.c (.bool true))),(1,1,(.c (.int .i64 n)))]) h KH=KH (Fa.e ⟨true,n⟩) h:=fS rfl
theorem TH {f:Fa}{v:D}(hv:v.one=true){KH:HKq}:aa PP (.bld [(.bool false),(.int .i64 0),.nil,(.bool false)] [(0,2,(.c f.e)),(2,1,(.c v))]) h KH=KH (.agg [.bool f.nC,.int .i64 f.n,v,.bool false]) h:=by
 cases v<;>first|exact fS rfl|cases hv
theorem On {all:List Ru}(Y:Yl nk (fun r=>xh c.b.length c.regs r/\r∈all) S St) (hc:cU c){n2 n29 b:Nat}{dv:D}{dep:List Nat}(hS:S done Lc) (V:Vs h (W++(Lc++M))) (h2:(n2,.box c.e)∈M) (h29:(n29,.box (oS b).e)∈W) (hb:b<c.b.length) (wd:BG M dv dep) (hd:∀a∈dep,a<c.b.length) (hdl:dep.length<=1000) (hdn:done.length<=90000) (hall:∀r,r∈gG c b dep->r∈all)
  {a2 a3 a23 a7 a9:D}{f:Nat->D}{J:HJq}(hJ:∀Lc' h',S (done++gG c b dep) Lc'->Vs h' (W++(Lc'++M))->J [] h') (hK:∀Lc' h',St Lc'->Vs h' (Lc'++M)->KH (.tup []) h') :
  dC h (.int .i64 (dep.length:Int)) dv (.ptr n2 0 0) (.ptr n29 0 0) (.yld nk) a2 a3 a23 a7 a9 f J KH:=by
 unfold dC
 refine⟨fun m q h'=>∃(j:Nat) (Lc:LSq),q=[nD j]/\j<=dep.length/\m=dep.length-j/\S (done++gG c b (dep.take j)) Lc/\Vs h' (W++(Lc++M)),_,⟨0,Lc,rfl,by omega,rfl,by simpa[gG] using hS,V⟩,?_⟩
 rintro m f' h1 ⟨j,Lc1,hq,hj,hm,hS1,V1⟩
 simp only[List.cons.injEq,and_true]at hq
 simp only[hq,nD]
 have hM:∀x∈M,x∈W++(Lc1++M):=fun x hx=>by simp[hx]
 have hW:∀x∈W,x∈W++(Lc1++M):=fun x hx=>by simp[hx]
 by_cases hlt:j<dep.length
 ·rw[kN (by omega),ag]
  obtain⟨a,ha⟩:∃a,dep[j]?=some a:=⟨dep[j],List.getElem?_eq_getElem hlt⟩
  have haN:=hd a (List.mem_of_getElem? ha)
  obtain⟨B,hB⟩:∃B,c.b[a]?=some B:=⟨c.b[a],List.getElem?_eq_getElem haN⟩
  have hTB:=hc.g.t B (List.mem_of_getElem? hB)
  have htk:gG c b (dep.take (j+1))=gG c b (dep.take j)++[sQ b a B.t]:=by
   rw[List.take_add_one,ha]
   simp[gG,gy hB]
  rw[BG.get V1 (wd.mono hM) ha,nD,V1.EI (hM _ h2),V1.pe (hM _ h2) (j:=7) rfl,w9 hB,Ky,U4,TG]
  refine V1.TI B.t.a.db rfl fun m1 h2' V2=>?_
  refine HB (l:=[B.t.a]) V2 (by simp) fun v h3 q3=>?_
  rw[Qk]
  refine q3.push (Fa.db _) rfl ?_ ?_ fun v' h4 q4=>?_
  ·have:(bq [B.t.a]).length<=1:=mh
   rw[List.length_map];omega
  ·have:(bq [B.t.a]).length<=1:=mh
   rw[List.length_map];omega
  rw[q4.vs.Ft (s:=2) (cs:=[.bool true,.int .i64 (b:Int)]) (by simp only[List.mem_cons];exact Or.inr (hW _ h29)) rfl,show D.agg [.bool true,.int .i64 (b:Int)]=(oS b).e from rfl,TH q4.one]
  have q5:QE 2 h4 (Lc1++(W++M)) v' ((sQ b a B.t).needs.map Fa.e):=by
   have q5:=(q4.Ud (List.sublist_cons_self _ _)).perm (List.perm_append_comm_assoc W Lc1 M)
   have:(sQ b a B.t).needs.map Fa.e=(bq [B.t.a]).map Fa.e++[Fa.e ⟨true,(a:Int)⟩]:=by simp[sQ,oS]
   rw[this];exact q5
  refine Y _ (sQ b a B.t) Lc1 h4 (W++M) v' _ hS1 (by simp[gG];omega) ⟨JC hb haN hTB,hall _ (by rw[<- List.take_append_drop (j+1) dep];unfold gG at htk ⊢;rw[List.map_append,htk];simp)⟩ q5 (fun Lc' h5 hS5 V5=>?_) fun Lc' h5 hS5 V5=>?_
  ·rw[cD,Bool.not_true,af,cw (by omega) (by omega)]
   simp only[ab,true_and]
   refine⟨_,by omega,j+1,Lc',rfl,by omega,rfl,?_,V5.perm (List.perm_append_comm_assoc Lc' W M)⟩
   rw[htk, <- List.append_assoc];exact hS5
  ·rw[cD,Bool.not_false,ag]
   exact hK Lc' h5 hS5 (V5.sub (List.Sublist.append (.refl _) (List.sublist_append_right W M)))
 ·have:j=dep.length:=by omega
  subst this
  rw[kp (by omega),af]
  simp only[ab,true_and]
  rw[List.take_length]at hS1
  exact hJ Lc1 h1 hS1 V1
end
section
variable {c:Code}{nk:Nat}{S:List Ru->LSq->Prop}{St:LSq->Prop}{h:Heap}{W M Lc:LSq}{done:List Ru}{KH:HKq}{K:D->Prop}
structure Lg (h:Heap) (n m:Nat) (x:aP) (f:Fa):Prop where
 x:h n=.box x.e
 f:h m=.box f.e
section
variable {n m:Nat}{x:aP}{f:Fa}
theorem Lg.ld (I:Lg h n m x f):ae PP (.ld (.c (.ptr n 0 0)) 15 true) h K=K x.e:=by
 rw[oJ,show(15:Nat)=x.cs.length from rfl,lu I.x];rfl
theorem Lg.fa (I:Lg h n m x f){o:Nat}:ae PP (.fadd (.c (.ptr n 0 0)) o) h K=K (.ptr n 0 o):=by
 rw[show ae PP (.fadd (.c (.ptr n 0 0)) o) h K=aa PP (.fadd (.c (.ptr n 0 0)) o) h (fun d _=>K d) from rfl,jN,I.x]
 apply propext
 exact⟨fun hh=>by simpa using hh.2,fun hk=>⟨rfl,by simpa using hk⟩⟩
theorem Lg.oa (I:Lg h n m x f):ae PP (.ld (.c (.ptr n 0 6)) 3 true) h K=K x.a.e:=by rw[oJ];exact Lk I.x (by simp[aP.cs])
theorem Lg.ob (I:Lg h n m x f):ae PP (.ld (.c (.ptr n 0 9)) 3 true) h K=K x.b.e:=by rw[oJ];exact Lk I.x (by simp[aP.cs])
theorem Lg.oc (I:Lg h n m x f):ae PP (.ld (.c (.ptr n 0 12)) 3 true) h K=K x.c.e:=by rw[oJ];exact Lk I.x (by simp[aP.cs])
theorem Lg.at (I:Lg h n m x f):ae PP (.ld (.c (.ptr m 0 0)) 2 true) h K=K f.e:=by
 rw[oJ,show(2:Nat)=[D.bool f.nC,.int .i64 f.n].length from rfl,lu I.f];rfl
end
theorem RJ {n:Int}{K:D->Prop}:ae PP (.bld [(.bool false),(.int .i64 0)] [(1,1,(.c (.int .i64 n)))]) h K=K (Fa.e ⟨false,n⟩):=dq rfl
theorem RH {f:Fa}{v:D}{t:Bool}(hv:v.one=true){K:D->Prop}:ae PP (.bld [(.bool false),(.int .i64 0),.nil,(.bool false)] [(0,2,(.c f.e)),(2,1,(.c v)),(3,1,(.c (.bool t)))]) h K=K (.agg [.bool f.nC,.int .i64 f.n,v,.bool t]):=by
 cases v<;>first|exact dq rfl|cases hv
theorem AI {b k:Nat}{xs:List aP}{x:aP}(hx:xs[k]?=some x):gx b (xs.take (k+1))=gx b (xs.take k)++if 0<=cX x.d then [gF b x] else []:=by
 rw[List.take_add_one,hx]
 unfold gx
 simp only[Option.toList_some,List.filter_append,List.map_append]
 congr 1
 by_cases h:0<=cX x.d<;>simp[h]
theorem wS {b:Nat}{xs:List aP}:(gx b xs).length<=xs.length:=by
 unfold gx;rw[List.length_map];exact List.length_filter_le _ _
theorem Mc {all:List Ru}(Y:Yl nk (fun r=>xh c.b.length c.regs r/\r∈all) S St){n29 b:Nat}{xs:List aP}(hx:∀x∈xs,DM c.regs x) (hxl:xs.length<=100) (hdn:done.length<=99000) (hall:∀r,r∈gx b xs->r∈all) (hS:S done Lc) (V:Vs h (W++(Lc++M))) (h29:(n29,.box (oS b).e)∈W) (hb:b<c.b.length)
  {a1 a2 a3 a23 a7 a9:D}{f:Nat->D}{J:HJq}(hJ:∀Lc' h',S (done++gx b xs) Lc'->Vs h' (W++(Lc'++M))->J [] h') (hK:∀Lc' h',St Lc'->Vs h' (Lc'++M)->KH (.tup []) h') :
  fC h (.int .i64 (xs.length:Int)) (.sl (xs.map aP.e)) (.ptr n29 0 0) (.yld nk) a1 a2 a3 a23 a7 a9 f J KH:=by
 unfold fC
 refine⟨fun m q h'=>∃(j:Nat) (Lc:LSq),q=[nD j]/\j<=xs.length/\m=xs.length-j/\S (done++gx b (xs.take j)) Lc/\Vs h' (W++(Lc++M)),_,⟨0,Lc,rfl,by omega,rfl,by simpa[gx] using hS,V⟩,?_⟩
 rintro m f' h1 ⟨j,Lc1,hq,hj,hm,hS1,V1⟩
 simp only[List.cons.injEq,and_true]at hq
 simp only[hq,nD]
 by_cases hlt:j<xs.length
 ·rw[kN (by omega),ag]
  obtain⟨x,hxj⟩:∃x,xs[j]?=some x:=⟨xs[j],List.getElem?_eq_getElem hlt⟩
  have hIx:=hx x (List.mem_of_getElem? hxj)
  rw[kM (esz:=15) (d:=x.e) (by omega) (by rw[Int.toNat_natCast,List.getElem?_map,hxj];rfl) rfl,show x.e=.agg x.cs from rfl,H2 (s:=15) rfl]
  refine V1.alloc fun n101 h102 V102=>?_
  refine V102.pV 0 rfl rfl rfl (fun y hy=>x.db.one y hy) fun h104 V104=>?_
  simp only[List.set_cons_zero]at V104
  rw[show D.agg x.cs=x.e from rfl]at V104
  have inb:∀{h':Heap}{X:LSq},Vs h' X->(∀y,y∈(n101,Slot.box x.e)::(W++(Lc1++M))->y∈X)->Lg h' n101 n29 x (oS b):=fun V' hs=>⟨V'.mem (hs _ (by simp)),V'.mem (hs _ (by simp[h29]))⟩
  have I:=inb V104 fun _ h=>h
  simp only[↓I.ld,↓I.fa,↓I.oa,↓I.ob,↓I.oc,↓I.at]
  refine Pj ?_
  refine Ij (d:=(oS b).e) (Fa.db _).one rfl (Fa.vone _) (fun y hy=>by simp[D.cells]at hy;rcases hy with rfl|rfl<;>rfl) ?_
  refine bT RU (fun d hd=>by simp at hd;subst hd;exact x.db.pair) ?_
  rintro _ rfl
  refine⟨by simp only[↓I.ld,↓I.fa,↓I.oa,↓I.ob,↓I.oc,↓I.at,ab,and_self],?_⟩
  rw[RJ]
  refine F3 (l:=[x.a,x.b,x.c]) V104 (by simp) fun v h128 q=>?_
  have I2:=inb q.vs fun _ h=>h
  refine⟨by simp only[↓I2.ld,↓I2.at,ab,and_self],?_⟩
  refine q.PE (Fa.db _) rfl ?_ ?_ fun v' h132 q132=>?_
  ·have:(bq [x.a,x.b,x.c]).length<=3:=mh
   rw[List.length_map];omega
  ·have:(bq [x.a,x.b,x.c]).length<=3:=mh
   rw[List.length_map];omega
  have I3:=inb q132.vs fun _ h=>h
  refine⟨by simp only[↓I3.ld,ab,and_self],?_⟩
  refine bT Nn (fun d hd=>by simp at hd;subst hd;exact x.db.pair) ?_
  rintro _ rfl
  rw[show(⟨false,cX x.d⟩:Fa)=pW (cX x.d) from rfl,RH q132.one]
  refine q132.alloc fun n137 h138 q138=>?_
  have I4:=inb q138.vs fun y h=>List.mem_cons_of_mem _ h
  refine⟨by simp only[↓I4.ld,↓I4.fa,↓I4.oa,↓I4.ob,↓I4.oc,↓I4.at,ab,and_self],?_⟩
  refine q138.pV rfl rfl (fun y hy=>?_) fun h149 q149=>?_
  ·simp only[List.mem_cons,List.not_mem_nil,or_false]at hy
   rcases hy with rfl|rfl|rfl|rfl
   ·rfl
   ·rfl
   ·exact q132.one
   ·rfl
  have V149:=q149.vs
  rw[V149.fa 0 rfl,V149.fa 0 rfl,V149.b9 0 (j:=1) rfl rfl,Ax]
  by_cases h0:0<=cX x.d
  ·rw[show(pW (cX x.d)).n=cX x.d from rfl,decide_eq_true h0]
   simp only[↓gS]
   rw[V149.lu 0 (s:=4) rfl rfl]
   have q5:QE 2 h149 (Lc1++(((n137,Slot.box (.agg [.bool (pW (cX x.d)).nC,.int .i64 (pW (cX x.d)).n,v',.bool (eZ x)]))::(n101,.box x.e)::W)++M)) v' ((gF b x).needs.map Fa.e):=by
    have q5:=q149.perm (List.perm_append_comm_assoc ((n137,Slot.box (.agg [.bool (pW (cX x.d)).nC,.int .i64 (pW (cX x.d)).n,v',.bool (eZ x)]))::(n101,.box x.e)::W) Lc1 M)
    have:(gF b x).needs.map Fa.e=(bq [x.a,x.b,x.c]).map Fa.e++[(oS b).e]:=by simp[gF]
    rw[this];exact q5
   refine Y _ (gF b x) Lc1 h149 _ v' _ hS1 (by have:=wS (b:=b) (xs:=xs.take j);rw[List.length_take]at this;rw[List.length_append];omega) ⟨GC hb hIx h0,hall _ (List.mem_map.2 ⟨x,List.mem_filter.2 ⟨List.mem_of_getElem? hxj,by simpa using h0⟩,rfl⟩)⟩ q5 (fun Lc' h5 hS5 V5=>?_) fun Lc' h5 hS5 V5=>?_
   ·simp only[↓gS]
    rw[cw (by omega) (by omega)]
    simp only[ab,true_and]
    refine⟨_,by omega,j+1,Lc',rfl,by omega,rfl,?_,?_⟩
    ·rw[AI hxj,if_pos h0, <- List.append_assoc];exact hS5
    ·exact(V5.sub (List.Sublist.append (.refl _) (List.Sublist.append (.cons _ (.cons _ (.refl _))) (.refl _)))).perm (List.perm_append_comm_assoc Lc' W M)
   ·simp only[↓gS]
    exact hK Lc' h5 hS5 (V5.sub (List.Sublist.append (.refl _) (List.sublist_append_right _ M)))
  ·rw[show(pW (cX x.d)).n=cX x.d from rfl,decide_eq_false h0]
   simp only[↓gS]
   rw[cw (by omega) (by omega)]
   simp only[ab,true_and]
   refine⟨_,by omega,j+1,Lc1,rfl,by omega,rfl,?_,V149.pop.pop⟩
   rw[AI hxj,if_neg h0,List.append_nil];exact hS1
 ·have:j=xs.length:=by omega
  subst this
  rw[kp (by omega),af]
  simp only[ab,true_and]
  rw[List.take_length]at hS1
  exact hJ Lc1 h1 hS1 V1
end
section
variable {c:Code}{nk:Nat}{S:List Ru->LSq->Prop}{St:LSq->Prop}{h:Heap}{M Lc:LSq}{KH:HKq}
theorem Qj {f:Fa}{KH:HKq}:aa PP (.bld [(.bool false),(.int .i64 0),.nil,(.bool false)] [(0,2,(.c f.e)),(3,1,(.c (.bool true)))]) h KH=KH (.agg [.bool f.nC,.int .i64 f.n,.nil,.bool true]) h:=fS rfl
theorem Nz {R:List Bool}{Dp:List (List Nat)}{b:Nat}(hc:cU c) (hD:∀l∈Dp,(∀a∈l,a<c.b.length)/\l.length<=1000):(sW c R Dp b).length<=1200:=by
 unfold sW
 split
 ·have h1:(gG c b (gL Dp b)).length<=1000:=by
   unfold gG gL;rw[List.length_map]
   cases hl:Dp[b]? with
   | none=>simp
   | some l=>exact(hD l (List.mem_of_getElem? hl)).2
  have h2:(gx b (nC c b).i).length<=100:=by
   refine Nat.le_trans wS ?_
   unfold nC
   cases hB:c.b[b]? with
   | none=>exact Nat.zero_le _
   | some B=>exact hc.len B (List.mem_of_getElem? hB)
  have h3:(C8 (nC c b).t).length<=1:=by unfold C8;split<;>simp
  simp only[List.length_append];omega
 ·simp
theorem wv {R:List Bool}{Dp:List (List Nat)}(hc:cU c) (hD:∀l∈Dp,(∀a∈l,a<c.b.length)/\l.length<=1000):∀n,(gw c R Dp n).length<=1200*n
 | 0=>by simp[gw]
 | n+1=>by
  rw[AA,List.length_append]
  have:=wv (R:=R) hc hD n
  have:=Nz (R:=R) (b:=n) hc hD
  omega
theorem E4 {R:List Bool}{Dp:List (List Nat)}(Y:Yl nk (fun r=>xh c.b.length c.regs r/\r∈wx c R Dp) S St) (hc:cU c){n2 pr pd:Nat}{dv:D}(hS:S [] Lc) (V:Vs h (Lc++M)) (h2:(n2,.box c.e)∈M) (hr:(pr,.box (.sl (bL R)))∈M) (hR:R.length=c.b.length)
  (hd:(pd,.box dv)∈M) (wd:LR M dv Dp) (hDl:Dp.length=c.b.length) (hD:∀l∈Dp,(∀a∈l,a<c.b.length)/\l.length<=1000)
  (hJ:∀Lc' h',S (wx c R Dp) Lc'->Vs h' (Lc'++M)->KH (.tup []) h') (hK:∀Lc' h',St Lc'->Vs h' (Lc'++M)->KH (.tup []) h') :
  ah PP bS [.yld nk,.ptr n2 0 0,.ptr pr 0 0,.ptr pd 0 0] h KH:=by
 have hnb:=hc.g.nb
 refine aL rX (aD _ _ _) rfl (rQ _ _ _ _ _) ?_
 unfold mC
 have inM:∀{Lc:LSq} x,x∈M->x∈Lc++M:=fun x hx=>by simp[hx]
 rw[V.EI (inM _ h2),V.pe (inM _ h2) (j:=7) rfl,br,List.length_map]
 unfold jD
 refine⟨fun m q h'=>∃(b:Nat) (Lc:LSq),q=[nD b]/\b<=c.b.length/\m=c.b.length-b/\S (gw c R Dp b) Lc/\Vs h' (Lc++M),_,⟨0,Lc,rfl,by omega,rfl,by simpa[gw] using hS,V⟩,?_⟩
 rintro m f h1 ⟨b,Lc1,hq,hb,hm,hS1,V1⟩
 simp only[List.cons.injEq,and_true]at hq
 simp only[hq,nD]
 by_cases hlt:b<c.b.length
 ·rw[kN (by omega),ag]
  obtain⟨B,hB⟩:∃B,c.b[b]?=some B:=⟨c.b[b],List.getElem?_eq_getElem hlt⟩
  have hBm:=List.mem_of_getElem? hB
  have hTB:=hc.g.t B hBm
  refine⟨fun _ h'=>∃Lc,S (gw c R Dp (b+1)) Lc/\Vs h' (Lc++M),?_,?_⟩
  ·rintro f' h' ⟨Lc',hS',V'⟩
   rw[cw (by omega) (by omega)]
   simp only[ab,true_and]
   exact⟨_,by omega,b+1,Lc',rfl,by omega,rfl,hS',V'⟩
  rw[w9 hB,show B.e=.agg (.sl (B.i.map aP.e)::B.t.cs) from rfl,H2 (s:=14) rfl]
  refine V1.alloc fun n23 h24 V24=>?_
  refine V24.pV 0 rfl rfl rfl (fun x hx=>B.db.one x hx) fun h26 V26=>?_
  simp only[List.set_cons_zero]at V26
  rw[Qk,show Fa.e ⟨true,(b:Int)⟩=.agg [.bool true,.int .i64 (b:Int)] from rfl]
  refine V26.alloc fun n29 h30 V30=>?_
  refine V30.pV 0 rfl rfl rfl (fun x hx=>(oS b).db.one x hx) fun h32 V32=>?_
  simp only[List.set_cons_zero]at V32
  let W:LSq:=[(n29,.box (oS b).e),(n23,.box B.e)]
  have VW:Vs h32 (W++(Lc1++M)):=V32
  have inW:∀{Lc:LSq} x,x∈M->x∈W++(Lc++M):=fun x hx=>by simp[hx]
  have hRb:R[b]?=some (hasB R b):=aR (by omega)
  have hln:=wv (R:=R) hc hD b
  have hin:∀r,r∈sW c R Dp b->r∈wx c R Dp:=fun r hr=>List.mem_flatMap.2 ⟨b,List.mem_range.2 hlt,hr⟩
  rw[V32.S3 (inW _ hr) rfl,kM (esz:=1) (d:=.bool (hasB R b)) (by omega) (by rw[Int.toNat_natCast];exact ca hRb) rfl,rP rfl]
  have hsucc:gw c R Dp (b+1)=gw c R Dp b++sW c R Dp b:=AA
  have drop:∀{h':Heap}{Lc':LSq},Vs h' (Lc'++(W++M))->Vs h' (Lc'++M):=fun V5=>V5.sub (List.Sublist.append (.refl _) (List.sublist_append_right W M))
  cases hRv:hasB R b
  ·have hbk:sW c R Dp b=[OH b]:=by unfold sW;rw[hRv];rfl
   simp only[↓gS]
   rw[V32.lu 0 (s:=2) rfl rfl,show D.agg [.bool true,.int .i64 (b:Int)]=(oS b).e from rfl,Qj]
   refine Y _ (OH b) Lc1 h32 (W++M) .nil _ hS1 (by omega) ⟨Mx hlt,hin _ (by rw[hbk];simp)⟩ (Or.inl ⟨rfl,rfl,VW.perm (List.perm_append_comm_assoc W Lc1 M)⟩) (fun Lc' h5 hS5 V5=>?_) fun Lc' h5 hS5 V5=>?_
   ·rw[cD,Bool.not_true,af]
    simp only[ab,true_and]
    exact⟨Lc',by rw[hsucc,hbk];exact hS5,drop V5⟩
   ·rw[cD,Bool.not_false,ag]
    exact hK Lc' h5 hS5 (drop V5)
  ·have hd1:(gG c b (gL Dp b)).length<=1000:=by
    unfold gG gL;rw[List.length_map]
    cases hl:Dp[b]? with
    | none=>simp
    | some l=>exact(hD l (List.mem_of_getElem? hl)).2
   have hi1:(gx b B.i).length<=100:=Nat.le_trans wS (hc.len B hBm)
   have hbk:sW c R Dp b=gG c b (gL Dp b)++gx b B.i++C8 B.t:=by unfold sW;rw[hRv,if_pos rfl,gy hB]
   simp only[↓gS]
   refine⟨fun _ h'=>∃Lc,S (gw c R Dp b++gG c b (gL Dp b)) Lc/\Vs h' (W++(Lc++M)),?_,?_⟩
   ·rintro f2 h49 ⟨Lc2,hS2,V2⟩
    refine⟨fun _ h'=>∃Lc,S (gw c R Dp b++gG c b (gL Dp b)++gx b B.i) Lc/\Vs h' (W++(Lc++M)),?_,?_⟩
    ·rintro f3 h52 ⟨Lc3,hS3,V3⟩
     rw[V3.fa 1 rfl,Rg (d:=B.t.e) (V3.get 1 _ _ rfl) (by show 0+1+13<=14;omega) rfl]
     refine bT Pr (fun d hd=>by simp at hd;subst hd;exact B.t.db.pair) ?_
     rintro _ rfl
     rw[Ax]
     by_cases h0:0<=cX B.t.d
     ·have he:C8 B.t=[⟨pW (cX B.t.d),[],true⟩]:=by unfold C8;rw[if_pos h0]
      rw[decide_eq_true h0]
      simp only[↓gS]
      rw[NB,show(⟨false,cX B.t.d⟩:Fa)=pW (cX B.t.d) from rfl,Qj]
      refine Y _ ⟨pW (cX B.t.d),[],true⟩ Lc3 h52 (W++M) .nil _ hS3 (by rw[List.length_append,List.length_append];omega) ⟨JA hTB h0,hin _ (by rw[hbk,he];simp)⟩ (Or.inl ⟨rfl,rfl,V3.perm (List.perm_append_comm_assoc W Lc3 M)⟩) (fun Lc' h5 hS5 V5=>?_) fun Lc' h5 hS5 V5=>?_
      ·simp only[↓gS]
       simp only[ab,true_and]
       exact⟨Lc',by rw[hsucc,hbk,he, <- List.append_assoc, <- List.append_assoc];exact hS5,drop V5⟩
      ·simp only[↓gS]
       exact hK Lc' h5 hS5 (drop V5)
     ·have he:C8 B.t=[]:=by unfold C8;rw[if_neg h0]
      rw[decide_eq_false h0]
      simp only[↓gS]
      simp only[ab,true_and]
      refine⟨Lc3,?_,V3.pop.pop⟩
      rw[hsucc,hbk,he,List.append_nil, <- List.append_assoc];exact hS3
    ·rw[V2.fa 1 rfl,V2.b9 1 (j:=0) rfl rfl,br,List.length_map]
     exact Mc Y (hc.i B hBm) (hc.len B hBm) (by rw[List.length_append];omega) (fun r hr=>hin r (by rw[hbk];simp[hr])) hS2 V2 (by simp[W]) hlt (fun Lc' h' hS' V'=>⟨Lc',hS',V'⟩) hK
   ·rw[V32.S3 (inW _ hd) wd.one]
    obtain⟨l,hl⟩:∃l,Dp[b]?=some l:=⟨Dp[b]'(by omega),List.getElem?_eq_getElem _⟩
    have hgl:gL Dp b=l:=by unfold gL;rw[hl];rfl
    obtain⟨hl1,hl2⟩:=hD l (List.mem_of_getElem? hl)
    have hlr:∀e,BG M e l->aG e h32 (fun a183=>dC h32 a183 e (.ptr n2 0 0) (.ptr n29 0 0) (.yld nk) (.ptr pr 0 0) (.ptr pd 0 0) (.ptr n23 0 0) (.sl (c.b.map Block.e)) (.int .i64 (c.b.length:Int)) f (fun _ h'=>∃Lc,S (gw c R Dp b++gG c b (gL Dp b)) Lc/\Vs h' (W++(Lc++M))) KH):=fun e we=>by
     rw[BG.len VW (we.mono inW)]
     refine On Y hc hS1 VW h2 (by simp[W]) hlt we hl1 hl2 (by omega) (fun r hr=>hin r (by rw[hbk,hgl];simp[hr])) (fun Lc' h' hS' V'=>⟨Lc',by rw[hgl];exact hS',V'⟩) hK
    exact LR.OT VW inW wd hl hlr
 ·have:b=c.b.length:=by omega
  subst this
  rw[kp (by omega),af]
  exact hJ Lc1 h1 hS1 V1
end
end Go.Am
namespace Go.Am
open Go Go.Proofs
theorem Pv.cg {pre pre':Nat->List Nat}{bad:Nat->Prop}{s x:Nat}(h:∀a b,a∈pre b↔a∈pre' b) (k:Pv pre bad s x):Pv pre' bad s x:=by
 induction k with
 | refl h=>exact .refl h
 | step _ e hb ih=>exact .step ih ((h _ _).1 e) hb
theorem Dm.cg {pre pre':Nat->List Nat}{r d x:Nat}(h:∀a b,a∈pre b↔a∈pre' b):Dm r pre d x↔Dm r pre' d x :=
 not_congr ⟨Pv.cg h,Pv.cg fun a b=>(h a b).symm⟩
structure HH (c d:Code):Prop where
 len:c.b.length=d.b.length
 e:∀b,edg c b=edg d b
 x:∀b,qq c b=qq d b
theorem HH.refl (c:Code):HH c c:=⟨rfl,fun _=>rfl,fun _=>rfl⟩
section
variable {c d:Code}{O O' P P':List Nat}{at1 at2 U1 U2:List Int}
theorem HH.dp (s:HH c d) (hc:bG c) (hd:bG d) (D1:vW c O O' at1 U1) (D2:vW d P P' at2 U2) (a b:Nat):G1 c O O' a b↔G1 d P P' a b:=by
 have eE:fu c=fu d:=by
  unfold fu;rw[s.len]
  exact List.map_congr_left fun b _=>s.e b
 have h1:=D1.b.ord
 have h2:=D2.b.ord
 rw[eE,s.len]at h1
 have eO:O=P:=h1.Sp h2
 subst eO
 have eX:qq c=qq d:=funext s.x
 have eF:cM c O=cM d O:=by unfold cM;rw[eE,eX]
 have eT:oR (fu c) O c.b.length (cM c O)=oR (fu d) O d.b.length (cM d O):=by rw[eE,eF,s.len]
 have mem:∀x,x∈O'↔x∈P':=fun x=>by rw[D1.b.g.path,D2.b.g.path,eT,s.len]
 have pre:∀q x,q∈pB c O O' x↔q∈pB d O P' x:=fun q x=>by
  show q∈gL (yj (oR (fu c) O c.b.length (cM c O)) O' (c.b.length+1)) x↔q∈gL (yj (oR (fu d) O d.b.length (cM d O)) P' (d.b.length+1)) x
  rw[jj (D1.oR hc),jj (D2.oR hd),mem,eT]
 have eD:∀y x,Dm c.b.length (pB c O O') y x↔Dm d.b.length (pB d O P') y x:=fun y x=>by rw[s.len];exact Dm.cg pre
 unfold G1
 rw[s.e a,eD b a]
 refine and_congr_right fun _=>and_congr_right fun _=>and_congr_left fun _=>?_
 exact exists_congr fun t=>and_congr_right fun _=>eD b t
end
def RD (c:Code) (a b:Nat):Prop:=∃O O' at' U,vW c O O' at' U/\G1 c O O' a b
theorem JB {c:Code}(hc:bG c){O O':List Nat}{at' U:List Int}(D:vW c O O' at' U){a b:Nat}:RD c a b↔G1 c O O' a b :=
 ⟨fun ⟨_,_,_,_,D',h⟩=>((HH.refl c).dp hc hc D' D a b).1 h,fun h=>⟨_,_,_,_,D,h⟩⟩
noncomputable def gY (c:Code):List (List Nat):=(List.range c.b.length).map fun b=>Jp c.b.length fun a=>RD c a b
theorem Pf {c:Code}(hc:bG c){O O':List Nat}{at' U:List Int}(D:vW c O O' at' U):oH c O O' c.b.length=gY c:=by
 unfold oH gY
 refine List.map_congr_left fun b _=>?_
 congr 1
 funext a
 exact propext (JB hc D).symm
theorem sR {c:Code}:(gY c).length=c.b.length:=by simp[gY]
theorem ya {c:Code}{b:Nat}(hb:b<c.b.length):gL (gY c) b=Jp c.b.length fun a=>RD c a b:=by
 unfold gL gY
 rw[List.getElem?_map,List.getElem?_range hb];rfl
theorem ye {c:Code}(hc:bG c):∀l,l∈gY c->(∀a∈l,a<c.b.length)/\l.length<=1000:=fun l hl=>by
 simp only[gY,List.mem_map]at hl
 obtain⟨b,-,rfl⟩:=hl
 have:=hc.nb
 exact⟨fun a ha=>(ua.1 ha).1,Nat.le_trans Jo (by omega)⟩
noncomputable def cH (c:Code):List Bool:=(List.range c.b.length).map fun k=>@decide (Path (edg c) 0 k) (Classical.propDecidable _)
theorem kn {c:Code}:(cH c).length=c.b.length:=by simp[cH]
theorem cr {c:Code}{k:Nat}(hk:k<c.b.length):hasB (cH c) k=true↔Path (edg c) 0 k:=by
 unfold hasB cH
 rw[List.getElem?_map,List.getElem?_range hk]
 simp
theorem B4 {c:Code}{S:List Bool}(hl:S.length=c.b.length) (h:∀k,hasB S k=true↔Path (edg c) 0 k):S=cH c:=by
 apply List.ext_getElem (by rw[hl,kn])
 intro i h1 h2
 have e1:=aR h1
 have e2:=aR h2
 rw[List.getElem?_eq_getElem h1]at e1
 rw[List.getElem?_eq_getElem h2]at e2
 have e1:=Option.some.inj e1
 have e2:=Option.some.inj e2
 rw[e1,e2,Bool.eq_iff_iff,h,cr (by omega)]
noncomputable def fo (c:Code):List Ru:=wx c (cH c) (gY c)
theorem zv {c:Code}(hc:cU c):∀r,r∈fo c->xh c.b.length c.regs r:=by
 intro r hr
 simp only[fo,wx,gw,List.mem_flatMap,List.mem_range]at hr
 obtain⟨b,hb,hr⟩:=hr
 obtain⟨B,hB⟩:∃B,c.b[b]?=some B:=⟨c.b[b],List.getElem?_eq_getElem hb⟩
 have hBm:=List.mem_of_getElem? hB
 unfold sW at hr
 split at hr
 ·rw[gy hB]at hr
  rcases List.mem_append.1 hr with hr|hr
  ·rcases List.mem_append.1 hr with hr|hr
   ·simp only[gG,List.mem_map]at hr
    obtain⟨a,ha,rfl⟩:=hr
    rw[ya hb]at ha
    have haN:=(ua.1 ha).1
    refine JC hb haN ?_
    obtain⟨A,hA⟩:∃A,c.b[a]?=some A:=⟨c.b[a],List.getElem?_eq_getElem haN⟩
    rw[gy hA]
    exact hc.g.t A (List.mem_of_getElem? hA)
   ·simp only[gx,List.mem_map,List.mem_filter,decide_eq_true_eq]at hr
    obtain⟨x,⟨hx,h0⟩,rfl⟩:=hr
    exact GC hb (hc.i B hBm x hx) h0
  ·unfold C8 at hr
   split at hr
   ·rename_i h0
    simp at hr;subst hr
    exact JA (hc.g.t B hBm) h0
   ·cases hr
 ·simp at hr;subst hr;exact Mx hb
section
variable {c:Code}{h:Heap}{L:LSq}{KH:HKq}
structure Sq (c:Code) (W:LSq) (n2 pr pd:Nat) (dv:D):Prop where
 h2:(n2,.box c.e)∈W
 hr:(pr,.box (.sl (bL (cH c))))∈W
 hd:(pd,.box dv)∈W
 wd:LR W dv (gY c)
theorem EV:eb PP bS=true:=by kernel_rfl
theorem JL (hc:cU c) (V:Vs h L) (hK:∀W n2 pr pd dv h',Sq c W n2 pr pd dv->(∃O O' at' U,vW c O O' at' U)->Vs h' (W++L)->KH (.fn bS [] [.ptr n2 0 0,.ptr pr 0 0,.ptr pd 0 0]) h'):ah PP gO [c.e] h KH:=by
 refine aL xi (aD _ _ _) rfl (xa _ _) ?_
 unfold qL
 refine V.box c.db.one fun n2 h3 V3=>?_
 have ld:∀{h':Heap}{K:D->Prop},h' n2=.box c.e->ae PP (.ld (.c (.ptr n2 0 0)) 8 true) h' K=K c.e:=fun hn=>by
  rw[oJ,show c.e=.agg [.int .i64 c.group,.int .i64 c.sub,.int .i64 c.regs,.int .i64 c.slots,.int .i64 c.params,.sl (c.arrays.map uQ.e),.sl (c.loops.map Loop.e),.sl (c.b.map Block.e)] from rfl]at *
  rw[show(8:Nat)=[D.int .i64 c.group,.int .i64 c.sub,.int .i64 c.regs,.int .i64 c.slots,.int .i64 c.params,.sl (c.arrays.map uQ.e),.sl (c.loops.map Loop.e),.sl (c.b.map Block.e)].length from rfl,lu hn]
 have g3:=V3.get 0 _ _ rfl
 simp only[↓ld g3]
 refine bT (Po hc.g) (fun d hd=>by simp at hd;subst hd;exact c.db.pair) ?_
 rintro _ ⟨R,rfl,hRl,hRi⟩
 have eR:=B4 hRl hRi
 subst eR
 refine⟨by simp only[↓ld g3,ab,and_self],?_⟩
 refine K7 hc.g V3 fun v h10 O O' at' U G R10=>?_
 obtain⟨X,V10,wd⟩:=R10.lr
 rw[Pf hc.g G]at wd
 refine V10.alloc fun n11 h12 V12=>?_
 have g12:h12 n2=.box c.e:=V12.mem (by simp)
 refine⟨by simp only[↓ld g12,ab,and_self],?_⟩
 refine V12.alloc fun n15 h16 V16=>?_
 have g16:h16 n2=.box c.e:=V16.mem (by simp)
 refine⟨by simp only[↓ld g16,ab,and_self],?_⟩
 refine V16.IW 1 rfl rfl rfl fun h20 V20=>?_
 simp only[List.set_cons_succ,List.set_cons_zero]at V20
 refine V20.IW 0 rfl rfl wd.one fun h22 V22=>?_
 simp only[List.set_cons_zero]at V22
 rw[GH]
 refine hK ((n15,.box v)::(n11,.box (.sl (bL (cH c))))::(X++[(n2,.box c.e)])) n2 n11 n15 v h22 ⟨by simp,by simp,by simp,wd.mono fun x hx=>by simp[hx]⟩ ⟨O,O',at',U,G⟩ ?_
 have e:(n15,Slot.box v)::(n11,.box (.sl (bL (cH c))))::(X++(n2,.box c.e)::L)=((n15,.box v)::(n11,.box (.sl (bL (cH c))))::(X++[(n2,.box c.e)]))++L:=by simp
 rw[<- e];exact V22
end
end Go.Am
namespace Go.Am
open Go Go.Proofs
def EX (esz:Nat) (v:D) (T:List D) (A:LSq):Prop:=(v=.nil/\T=[]/\A=[])\/∃m,v=.ms m 0 T.length/\A=[(m,.arr esz T)]
section
variable {esz:Nat}{h:Heap}{L A:LSq}{v:D}{T:List D}{KH:HKq}{K:D->Prop}
theorem EX.qe (x:EX esz v T A) (V:Vs h (A++L)):QE esz h L v T:=by
 rcases x with⟨rfl,rfl,rfl⟩|⟨m,rfl,rfl⟩
 ·exact Or.inl ⟨rfl,rfl,V⟩
 ·exact Or.inr ⟨m,rfl,V⟩
theorem QE.ex (q:QE esz h L v T):∃A,EX esz v T A/\Vs h (A++L):=by
 rcases q with⟨rfl,rfl,V⟩|⟨m,rfl,V⟩
 ·exact⟨[],Or.inl ⟨rfl,rfl,rfl⟩,V⟩
 ·exact⟨_,Or.inr ⟨m,rfl,rfl⟩,V⟩
theorem EX.one (x:EX esz v T A):v.one=true:=by rcases x with⟨rfl,-⟩|⟨m,rfl,-⟩<;>rfl
theorem EX.len {L:LSq}(x:EX esz v T A) (hs:∀y∈A,y∈L) (V:Vs h L):aG v h K=K (.int .i64 (T.length:Int)):=by
 rcases x with⟨rfl,rfl,rfl⟩|⟨m,rfl,rfl⟩
 ·rw[sm];rfl
 ·rw[bb,V.mem (hs (m,.arr esz T) (by simp))]
  apply propext
  exact⟨fun hh=>hh.2,fun hk=>⟨rfl,hk⟩⟩
theorem EX.get {L:LSq}(x:EX esz v T A) (hs:∀y∈A,y∈L) (V:Vs h L){i:Nat}{cs:List D}(hd:T[i]?=some (.agg cs)) (hc:cs.length=esz) (hK:KH (.agg cs) h):aa PP (.iadd (.c v) (.c (.int .i64 (i:Int))) esz) h fun a h1=>aa PP (.ld (.c a) esz true) h1 KH:=by
 have hi:=(List.getElem?_eq_some_iff.1 hd).1
 rcases x with⟨rfl,rfl,rfl⟩|⟨m,rfl,rfl⟩
 ·simp at hd
 ·obtain⟨k,hk⟩:=List.getElem?_of_mem (hs _ (List.mem_singleton.2 rfl))
  rw[V.ia k hk (by omega) (by omega),Int.toNat_natCast,V.Rh k hk (j:=i) hd hc]
  exact hK
theorem QE.UL (q:QE esz h L v T){d x z':D}{bytes:Nat}(hx:∀{K:List D->Prop},K [d]->velems esz x h K) (hd:aH d) (hb:(T.length+1)*bytes<=140737488355328) (hl:T.length+1<=9223372036854775807)
  (hK:∀m h',Vs h' ((m,.arr esz (T++[d]))::L)->KH (.ms m 0 (T.length+1)) h'):aa PP (.app (.c v) (.c x) esz bytes z') h KH:=by
 rcases q with⟨rfl,rfl,V⟩|⟨m,rfl,V⟩
 ·rw[GI]
  refine hx ⟨fun y hy=>by simp at hy;subst hy;exact hd,⟨by simpa using hb,by simp⟩,fun n t=>?_⟩
  exact hK n _ (V.push t.free (by simp))
 ·refine V.FZ (ys:=[d]) hx (fun y hy=>by simp at hy;subst hy;exact hd) (by simpa using hb) (by simpa using hl) fun n h' V'=>?_
  exact hK _ _ V'
def U7 (r:Ru) (d:D):Prop:=∃nv,d=r.e nv/\FW [] nv r.needs
structure DI (rs:List Ru) (ds:List D):Prop where
 len:ds.length=rs.length
 el:∀(i:Nat) (r:Ru) (d:D),rs[i]?=some r->ds[i]?=some d->U7 r d
theorem DI.nil:DI [] []:=⟨rfl,fun i r d h=>by simp at h⟩
theorem DI.snoc {rs:List Ru}{ds:List D}(h:DI rs ds){r:Ru}{d:D}(k:U7 r d):DI (rs++[r]) (ds++[d]):=by
 refine⟨by simp[h.len],fun i r' d' h1 h2=>?_⟩
 have hl:=h.len
 by_cases hi:i<rs.length
 ·rw[List.getElem?_append_left hi]at h1
  rw[List.getElem?_append_left (by omega)]at h2
  exact h.el i r' d' h1 h2
 ·have hi1:=(List.getElem?_eq_some_iff.1 h1).1
  simp at hi1
  have:i=rs.length:=by omega
  subst this
  simp at h1
  rw[<- hl]at h2
  simp at h2
  subst h1;subst h2;exact k
theorem Ru.one {r:Ru}{v:D}(h:v.one=true):aH (r.e v):=fun x hx=>by
 simp[Ru.e]at hx;rcases hx with rfl|rfl|rfl|rfl
 ·rfl
 ·rfl
 ·exact h
 ·rfl
theorem Py {r:Ru}{nd z:D}(q:QE 2 h L nd (r.needs.map Fa.e)) (hK:∀n nv h',FW [] nv r.needs->Vs h' ((n,.arr 4 [r.e nv])::L)->KH (.ms n 0 1) h'):aa PP (.bldS true 4 1 z [(0,.c (r.e nd))]) h KH:=by
 have ho:=q.one
 refine⟨fun p hp=>?_,fun _ p hp=>?_,fun n t=>?_⟩
 ·simp[Arg.get]at hp;subst hp
  exact⟨by show 0<1;omega,rfl,Ru.one ho⟩
 ·simp[Arg.get]at hp;subst hp
  intro x hx
  simp[Ru.e,D.cells]at hx
  rcases hx with rfl|rfl|rfl|rfl
  ·trivial
  ·trivial
  ·rcases q with⟨rfl,-,-⟩|⟨m,rfl,V⟩
   ·trivial
   ·refine⟨2,_,by rw[V.get 0 _ _ rfl];rfl,by simp,fun y hy w hw=>?_⟩
    have hy:=List.mem_of_mem_drop (List.mem_of_mem_take hy)
    obtain⟨f,-,rfl⟩:=List.mem_map.1 hy
    exact f.vone w hw
  ·trivial
 ·rcases q with⟨rfl,h0,V⟩|⟨m,rfl,V⟩
  ·have:KH (.ms n 0 1) (au h n (.arr 4 [r.e .nil])):=hK n .nil _ (Or.inl ⟨rfl,by simpa using h0⟩) (V.push t.free (by simp))
   simpa[Arg.get,setEls,D.fz,D.fzc,D.nm,D.jA,Ru.e,Heap.freezeAll,List.replicate] using this
  ·have hm:=V.get 0 _ _ rfl
   have hrow:(h m).row=some (2,r.needs.map Fa.e):=by rw[hm];rfl
   have hmf:h m≠.free:=by rw[hm];simp
   have hne:n≠m:=by rintro rfl;exact hmf t.free
   have V1:Vs (h.freezeAll [m]) L:=V.pop.CZ fun k s ⟨i,hi⟩=>gQ [m] (by
    simp only[List.mem_singleton]
    exact V.ne (i+1) 0 k m s _ (by simpa using hi) rfl (by omega))
   have hnf:(h.freezeAll [m]) n=.free:=my [m] t.free
   have:KH (.ms n 0 1) (au (h.freezeAll [m]) n (.arr 4 [r.e (.sl (r.needs.map Fa.e))])):=hK n (.sl (r.needs.map Fa.e)) _ (Or.inr (Or.inl rfl)) (V1.push hnf (by simp))
   have e1:(r.e (.ms m 0 (r.needs.map Fa.e).length)).fz h=r.e (.sl (r.needs.map Fa.e)):=by
    simp only[Ru.e,D.fz,List.map_cons,List.map_nil,D.fzc,hrow,List.drop_zero,List.take_length]
   have e2:(r.e (.ms m 0 (r.needs.map Fa.e).length)).nm=[m]:=by simp[Ru.e,D.nm,D.jA]
   simp only[Arg.get,setEls,List.map_cons,List.map_nil,List.flatMap_cons,List.flatMap_nil,List.append_nil,if_true,e1,e2,List.replicate,List.set_cons_zero]
   exact this
def Vq (nk pa:Nat) (B:cC) (done:List Ru) (Lc:LSq):Prop:=∃v els A,DI done els/\EX 4 v els A/\Lc=(nk,.lp .ready B)::(pa,.box v)::A
theorem HK {nk pa:Nat}{B:cC}{G:Ru->Prop}(hps:B.ps=[7]) (hlt:∀p,p∈[7]->p<B.nt) (he:B.env=LEnv.get [(2,.ptr pa 0 0)]) (hAs:Ek PP ba B.nt B.assign) (hBs:Ek PP aZ B.nt B.body) :
  Yl nk G (Vq nk pa B) (fun _=>False):=by
 rintro done ru Lc h N nd KH ⟨v,els,A,hv,hx,rfl⟩ hdn-q hT -
 have q0:QE 2 h ((nk,.lp .ready B)::(pa,.box v)::(A++N)) nd (ru.needs.map Fa.e):=q
 have V0:=q0.vs
 have hel:=hv.len
 rw[Jt]
 refine⟨⟨_,_,V0.get 0 _ _ rfl⟩,?_⟩
 refine qw (e:=[(2,.ptr pa 0 0)]) (V0.get 0 _ _ rfl) hps hAs hBs (by simp) hlt rfl he ?_
 rw[show([Arg.c (ru.e nd)].map fun x=>x.get [])=[ru.e nd] from rfl, <- cZ]
 unfold bB
 refine q0.alloc fun n1 h1 q1=>?_
 refine q1.pV (cs':=[.bool ru.of.nC,.int .i64 ru.of.n,nd,.bool ru.never]) rfl rfl (fun x hx=>Ru.one q.one x hx) fun h2 q2=>?_
 refine⟨rfl,q2.vs.get 1 _ _ rfl,?_⟩
 have q3:=q2.bX 1 rfl (s':=.lp .busy B) (by simp)
 simp only[List.set_cons_succ,List.set_cons_zero]at q3
 rw[q3.vs.B6 2 rfl hx.one,q3.vs.lu 0 (s:=4) rfl rfl]
 rw[show D.agg [.bool ru.of.nC,.int .i64 ru.of.n,nd,.bool ru.never]=ru.e nd from rfl]
 refine Py q3 fun n nv h5 hnv V5=>?_
 have qa:QE 4 h5 ((n,.arr 4 [ru.e nv])::(n1,.box (ru.e nd))::(nk,.lp .busy B)::(pa,.box v)::N) v els:=hx.qe (V5.perm (List.perm_append_comm_assoc [_,_,_,_] A N))
 refine qa.UL (d:=ru.e nv) (fun {K} hk=>⟨[ru.e nv],by rw[V5.get 0 _ _ rfl];rfl,by simp,by simpa using hk⟩) (Ru.one hnv.one) (by omega) (by omega) fun m h6 V6=>?_
 refine V6.IW 4 rfl hx.one rfl fun h7 V7=>?_
 simp only[List.set_cons_succ,List.set_cons_zero]at V7
 refine⟨V7.get 3 _ _ rfl,?_⟩
 have V8:=V7.bX 3 rfl (s':=.lp .ready B) (by simp)
 simp only[List.set_cons_succ,List.set_cons_zero]at V8
 refine hT ((nk,.lp .ready B)::(pa,.box (.ms m 0 (els.length+1)))::[(m,.arr 4 (els++[ru.e nv]))]) _ ⟨.ms m 0 (els.length+1),els++[ru.e nv],_,hv.snoc ⟨nv,rfl,hnv⟩,Or.inr ⟨m,by simp,rfl⟩,rfl⟩ ?_
 have V9:Vs _ ((m,Slot.arr 4 (els++[ru.e nv]))::(nk,.lp .ready B)::(pa,.box (.ms m 0 (els.length+1)))::N):=V8.sub (.cons_cons _ (.cons _ (.cons _ (.refl _))))
 exact V9.perm (List.perm_append_comm_assoc [_] [_,_] N)
theorem HG {c:Code}(hc:cU c){W:LSq}{n2 pr pd:Nat}{dv:D}(rm:Sq c W n2 pr pd dv) (V:Vs h W){KH:HKq}(hK:∀v els A h',DI (fo c) els->EX 4 v els A->Vs h' (A++W)->KH v h') :
  ah PP bk [.nil,.fn bS [] [.ptr n2 0 0,.ptr pr 0 0,.ptr pd 0 0]] h KH:=by
 refine aL dK (aD _ _ _) rfl (dI _ _ _) ?_
 unfold bK
 refine V.box (fun x hx=>by simp at hx;subst hx;rfl) fun pa h4 V4=>?_
 refine⟨fun _ h'=>∃v els A,DI (fo c) els/\EX 4 v els A/\Vs h' ((pa,.box v)::(A++W)),?_,?_⟩
 ·rintro f h7 ⟨v,els,A,hv,hx,V7⟩
  rw[V7.B6 0 rfl hx.one]
  exact hK v els A h7 hv hx V7.pop
 refine⟨rfl,EV,fun nk B ht he hps _ hlt hAs hBs=>?_⟩
 have V5:Vs (au h4 nk (.lp .ready B)) ([(nk,.lp .ready B),(pa,.box .nil)]++W):=V4.push ht.free (by simp)
 refine E4 (R:=cH c) (Dp:=gY c) (HK hps hlt he hAs hBs) hc ⟨.nil,[],[],.nil,Or.inl ⟨rfl,rfl,rfl⟩,rfl⟩ V5 rm.h2 rm.hr kn rm.hd rm.wd sR (ye hc.g) (fun Lc' h' hS V'=>?_) fun Lc' h' hS V'=>hS.elim
 obtain⟨v,els,A,hv,hx,rfl⟩:=hS
 have V6:Vs h' ((nk,.lp .ready B)::(pa,.box v)::(A++W)):=V'
 have hget:h' nk=.lp .ready B:=V6.get 0 _ _ rfl
 show eg _ _ _ _ _
 unfold eg
 rw[hget]
 simp only[ab,true_and]
 exact⟨v,els,A,hv,hx,(V6.bX 0 rfl (s':=.dead) (by simp)).pop⟩
theorem K9 {c:Code}(hc:cU c){W:LSq}{n2 pr pd:Nat}{dv:D}(rm:Sq c W n2 pr pd dv) (V:Vs h W){KH:HKq}(hK:∀v els A h',DI (fo c) els->EX 4 v els A->Vs h' (A++W)->KH v h') :
  ah PP cy [.fn bS [] [.ptr n2 0 0,.ptr pr 0 0,.ptr pd 0 0]] h KH:=by
 refine aL jz (aD _ _ _) rfl (jr _ _) ?_
 unfold eV
 exact HG hc rm V hK
end
end Go.Am
namespace Go.Am
open Go Go.Proofs
def F8 (rs:List Ru) (s:Fa->Prop):Prop:=∀r∈rs,s r.of->r.never=false/\∀f∈r.needs,s f
def Gf (rs:List Ru) (f:Fa):Prop:=∃s,F8 rs s/\s f
theorem Gf.closed (rs:List Ru):F8 rs (Gf rs):=by
 rintro r hr ⟨s,hs,h⟩
 obtain⟨h1,h2⟩:=hs r hr h
 exact⟨h1,fun f hf=>⟨s,hs,h2 f hf⟩⟩
def ox (U R:List Bool) (f:Fa):List Bool×List Bool:=if f.nC then(U.set f.n.toNat false,R) else(U,R.set f.n.toNat false)
def oK (U R:List Bool):Nat:=U.count true+R.count true
theorem count_set {L:List Bool}:∀{i:Nat},hasB L i=true->(L.set i false).count true+1=L.count true:=by
 induction L with
 | nil=>intro i h;simp[hasB]at h
 | cons b L ih =>
  intro i h
  cases i with
  | zero =>
   simp[hasB]at h;subst h
   simp
  | succ i =>
   have h:hasB L i=true:=by simpa[hasB] using h
   have:=ih h
   rw[List.set_cons_succ,List.count_cons,List.count_cons]
   omega
theorem Kr {L:List Bool}{i k:Nat}:hasB (L.set i false) k=(hasB L k && !decide (k=i)):=by
 unfold hasB
 rw[List.getElem?_set]
 by_cases h:i=k
 ·subst h
  rw[if_pos rfl]
  by_cases hl:i<L.length
  ·rw[if_pos hl];simp
  ·rw[if_neg hl,List.getElem?_eq_none (by omega)];simp
 ·rw[if_neg h]
  simp[Ne.symm h]
theorem G7 {U R:List Bool}{f:Fa}(h:fM U R f=true):oK (ox U R f).1 (ox U R f).2+1=oK U R:=by
 obtain⟨b,n⟩:=f
 cases b
 ·have:=count_set (L:=R) (i:=n.toNat) h
  simp only[ox,oK,Bool.false_eq_true,if_false];omega
 ·have:=count_set (L:=U) (i:=n.toNat) h
  simp only[ox,oK,if_true];omega
theorem Ks {U R:List Bool}{f g:Fa}(hf:0<=f.n) (hg:0<=g.n):fM (ox U R f).1 (ox U R f).2 g=true↔fM U R g=true/\g≠f:=by
 obtain⟨b,n⟩:=f
 obtain⟨b',n'⟩:=g
 have hne:(n'.toNat=n.toNat)↔n'=n:=by
  simp only at hf hg;omega
 cases b<;>cases b'<;>simp[fM,xF,ox,Kr,hne]
structure UV (c:Code) (rs:List Ru) (U R:List Bool):Prop where
 ul:U.length=c.b.length
 rl:R.length=c.regs.toNat
 up:∀f,Ak c.b.length c.regs f->Gf rs f->fM U R f=true
theorem dM {U R:List Bool}{r:Ru}:cL U R r=true↔(fM U R r.of=true->r.never=false/\∀f∈r.needs,fM U R f=true):=by
 unfold cL
 cases h1:fM U R r.of<;>cases h2:r.never<;>simp[h1,h2]
theorem UV.drop {c:Code}{rs:List Ru}{U R:List Bool}(u:UV c rs U R){r:Ru}(hr:r∈rs) (ok:xh c.b.length c.regs r) (hk:cL U R r=false):fM U R r.of=true/\UV c rs (ox U R r.of).1 (ox U R r.of).2:=by
 have hg:fM U R r.of=true:=by
  cases h:fM U R r.of
  ·exfalso
   have:cL U R r=true:=dM.2 fun h'=>by rw[h]at h';cases h'
   rw[hk]at this;cases this
  ·rfl
 have hng:¬Gf rs r.of:=by
  intro hG
  obtain⟨h1,h2⟩:=Gf.closed rs r hr hG
  have:cL U R r=true:=dM.2 fun _=>⟨h1,fun f hf=>u.up f (ok.needs f hf) (h2 f hf)⟩
  rw[hk]at this;cases this
 refine⟨hg,⟨?_,?_,fun f hf hG=>?_⟩⟩
 ·unfold ox;split
  ·rw[List.length_set];exact u.ul
  ·exact u.ul
 ·unfold ox;split
  ·exact u.rl
  ·rw[List.length_set];exact u.rl
 ·rw[Ks ok.of.1 hf.1]
  refine⟨u.up f hf hG,?_⟩
  rintro rfl
  exact hng hG
noncomputable def zg (c:Code) (rs:List Ru):List Bool:=(List.range c.b.length).map fun b=>@decide (Gf rs (oS b)) (Classical.propDecidable _)
noncomputable def xr (c:Code) (rs:List Ru):List Bool:=(List.range c.regs.toNat).map fun k:Nat=>@decide (Gf rs (pW (k:Int))) (Classical.propDecidable _)
theorem lW {c:Code}{rs:List Ru}:(zg c rs).length=c.b.length:=by simp[zg]
theorem lX {c:Code}{rs:List Ru}:(xr c rs).length=c.regs.toNat:=by simp[xr]
theorem B7 {c:Code}{rs:List Ru}{b:Nat}(h:b<c.b.length):hasB (zg c rs) b=true↔Gf rs (oS b):=by
 unfold hasB zg
 rw[List.getElem?_map,List.getElem?_range h];simp
theorem B8 {c:Code}{rs:List Ru}{k:Nat}(h:k<c.regs.toNat):hasB (xr c rs) k=true↔Gf rs (pW (k:Int)):=by
 unfold hasB xr
 rw[List.getElem?_map,List.getElem?_range h];simp
theorem ML {c:Code}{rs:List Ru}{f:Fa}(hf:Ak c.b.length c.regs f):fM (zg c rs) (xr c rs) f=true↔Gf rs f:=by
 obtain⟨b,n⟩:=f
 obtain⟨h0,h1,h2⟩:=hf
 have hn:((n.toNat:Nat):Int)=n:=by simp only at h0;omega
 cases b
 ·have h2:n<c.regs:=h2 rfl
  have:=B8 (c:=c) (rs:=rs) (k:=n.toNat) (by simp only at h0;omega)
  unfold pW at this
  rw[hn]at this;exact this
 ·have h1:n<c.b.length:=h1 rfl
  have:=B7 (c:=c) (rs:=rs) (b:=n.toNat) (by simp only at h0;omega)
  unfold oS at this
  rw[hn]at this;exact this
theorem pf {A B:List Bool}(hl:A.length=B.length) (h:∀k,k<A.length->(hasB A k=true↔hasB B k=true)):A=B:=by
 apply List.ext_getElem hl
 intro i h1 h2
 have e1:=aR h1
 have e2:=aR h2
 rw[List.getElem?_eq_getElem h1]at e1
 rw[List.getElem?_eq_getElem h2]at e2
 rw[Option.some.inj e1,Option.some.inj e2,Bool.eq_iff_iff]
 exact h i h1
theorem UV.fin {c:Code}{rs:List Ru}{U R:List Bool}(u:UV c rs U R) (ok:∀r∈rs,xh c.b.length c.regs r) (hk:∀r∈rs,cL U R r=true):U=zg c rs/\R=xr c rs:=by
 have hcl:F8 rs fun f=>Ak c.b.length c.regs f/\fM U R f=true:=by
  rintro r hr ⟨-,hg⟩
  obtain⟨h1,h2⟩:=dM.1 (hk r hr) hg
  exact⟨h1,fun f hf=>⟨(ok r hr).needs f hf,h2 f hf⟩⟩
 have key:∀f,Ak c.b.length c.regs f->(fM U R f=true↔Gf rs f):=fun f hf=>⟨fun h=>⟨_,hcl,hf,h⟩,u.up f hf⟩
 constructor
 ·refine pf (by rw[u.ul,lW]) fun k hkl=>?_
  have hkl:k<c.b.length:=by rw[<- u.ul];exact hkl
  rw[B7 hkl, <- key (oS k) (Hq hkl)];rfl
 ·refine pf (by rw[u.rl,lX]) fun k hkl=>?_
  have hkl:k<c.regs.toNat:=by rw[<- u.rl];exact hkl
  have:=key (pW (k:Int)) ⟨by simp[pW],fun h=>(by cases h),fun _=>by simp only[pW];omega⟩
  rw[B8 hkl, <- this];rfl
theorem UV.start {c:Code}{rs:List Ru}(hr:0<=c.regs):UV c rs (List.replicate c.b.length true) (List.replicate c.regs.toNat true):=by
 refine⟨by simp,by simp,fun f hf _=>?_⟩
 obtain⟨b,n⟩:=f
 obtain⟨h0,h1,h2⟩:=hf
 cases b
 ·have h2:n<c.regs:=h2 rfl
  simp only at h0
  simp[fM,xF,hasB,show n.toNat<c.regs.toNat by omega]
 ·have h1:n<c.b.length:=h1 rfl
  simp only at h0
  simp[fM,xF,hasB,show n.toNat<c.b.length by omega]
def uE (U R:List Bool):D:=.agg [.sl (bL U),.sl (bL R)]
noncomputable def uF (c:Code):D:=uE (zg c (fo c)) (xr c (fo c))
end Go.Am
namespace Go.Am
open Go Go.Proofs
def ku (n i:Nat):List Bool:=(List.range n).map fun k=>decide (k<i)
theorem GL {n i:Nat}:(ku n i).length=n:=by simp[ku]
theorem MO {n:Nat}:ku n 0=List.replicate n false:=by
 apply List.ext_getElem (by simp[ku]);intro i h1 h2;simp[ku]
theorem MN {n:Nat}:ku n n=List.replicate n true:=by
 apply List.ext_getElem (by simp[ku]);intro i h1 h2;simp[ku]at h1 ⊢;omega
theorem GK {n i:Nat}:(ku n i).set i true=ku n (i+1):=by
 apply List.ext_getElem (by simp[ku])
 intro k h1 h2
 rw[List.getElem_set]
 simp only[ku,List.getElem_map,List.getElem_range]
 by_cases h:i=k
 ·subst h;simp
 ·rw[if_neg h]
  exact decide_eq_decide.2 (by omega)
section
variable {c:Code}{h:Heap}{KH:HKq}
theorem Jv {P:Program}{bytes l:Nat}{h:Heap}{KH:HKq}(hb:l*bytes<=140737488355328) (hl:l<=9223372036854775807) (hK:KH .undef h):aa P (.mkc bytes (.c (.int .i64 (l:Int))) (.c (.int .i64 (l:Int)))) h KH :=
 ⟨by omega,by omega,by have:=Int.ofNat_le.2 hb;simpa using this,by omega,hK⟩
def aS (c:Code) (nU nR nu n4 n2 nr:Nat) (U R:List Bool) (X:LSq):LSq :=
 (nu,.box (.agg [.ms nU 0 c.b.length,.ms nR 0 nr]))::(nR,.arr 1 (bL R))::(nU,.arr 1 (bL U))::(n4,.box (.agg [.nil,.nil]))::(n2,.box c.e)::X
section
variable {nU nR nu n4 n2 nr:Nat}{U R:List Bool}{X A:LSq}
theorem MZ (hn:c.b.length<=1000) (V:Vs h (aS c nU nR nu n4 n2 nr (ku c.b.length 0) R X)){J:HJq}(hJ:∀h',Vs h' (aS c nU nR nu n4 n2 nr (ku c.b.length c.b.length) R X)->J [] h') :
  jl h (.int .i64 (c.b.length:Int)) (.ptr nu 0 0) (.ptr n2 0 0) (.ptr n4 0 0) J:=by
 unfold jl
 refine⟨fun m q h'=>∃i:Nat,q=[nD i]/\i<=c.b.length/\m=c.b.length-i/\Vs h' (aS c nU nR nu n4 n2 nr (ku c.b.length i) R X),_,⟨0,rfl,by omega,rfl,V⟩,?_⟩
 rintro m f h1 ⟨i,hq,hi,hm,V1⟩
 simp only[List.cons.injEq,and_true]at hq
 simp only[hq,nD]
 by_cases hlt:i<c.b.length
 ·rw[kN (by omega),ag,V1.fa 0 rfl,V1.b9 0 (j:=0) rfl rfl,V1.ia 2 rfl (by omega) (by omega),Int.toNat_natCast]
  refine V1.rG 2 rfl (by rw[bL,List.length_map,GL];exact hlt) rfl (dw _) fun h2 V2=>?_
  rw[du,GK]at V2
  rw[cw (by omega) (by omega)]
  simp only[ab,true_and]
  exact⟨_,by omega,i+1,rfl,by omega,rfl,V2⟩
 ·have:i=c.b.length:=by omega
  subst this
  rw[kp (by omega),af]
  simp only[ab,true_and]
  exact hJ h1 V1
theorem M0 (hn:nr<=1000) (V:Vs h (aS c nU nR nu n4 n2 nr U (ku nr 0) X)){J:HJq}(hJ:∀h',Vs h' (aS c nU nR nu n4 n2 nr U (ku nr nr) X)->J [] h') :
  jn h (.int .i64 (nr:Int)) (.ptr nu 0 0) (.ptr n2 0 0) (.ptr n4 0 0) J:=by
 unfold jn
 refine⟨fun m q h'=>∃i:Nat,q=[nD i]/\i<=nr/\m=nr-i/\Vs h' (aS c nU nR nu n4 n2 nr U (ku nr i) X),_,⟨0,rfl,by omega,rfl,V⟩,?_⟩
 rintro m f h1 ⟨i,hq,hi,hm,V1⟩
 simp only[List.cons.injEq,and_true]at hq
 simp only[hq,nD]
 by_cases hlt:i<nr
 ·rw[kN (by omega),ag,V1.fa 0 rfl,V1.b9 0 (j:=1) rfl rfl,V1.ia 1 rfl (by omega) (by omega),Int.toNat_natCast]
  refine V1.rG 1 rfl (by rw[bL,List.length_map,GL];exact hlt) rfl (dw _) fun h2 V2=>?_
  rw[du,GK]at V2
  rw[cw (by omega) (by omega)]
  simp only[ab,true_and]
  exact⟨_,by omega,i+1,rfl,by omega,rfl,V2⟩
 ·have:i=nr:=by omega
  subst this
  rw[kp (by omega),af]
  simp only[ab,true_and]
  exact hJ h1 V1
theorem O1 {rs:List Ru}{els:List D}{v:D}(hr:c.regs=(nr:Int)) (hrl:rs.length<=1000000) (hv:DI rs els) (hx:EX 4 v els A) (hA:∀y∈A,y∈X) (ok:∀r∈rs,xh c.b.length c.regs r) (u:UV c rs U R) (V:Vs h (aS c nU nR nu n4 n2 nr U R X)){m0:Nat}{I:Nat->HJq}
  (hI:∀ch U' R' h',UV c rs U' R'->(ch=true->oK U' R'<oK U R)->(ch=false->U'=U/\R'=R/\∀r∈rs,cL U R r=true)->Vs h' (aS c nU nR nu n4 n2 nr U' R' X)->∃m,m<m0/\I m [.bool ch] h') :
  jq h (.int .i64 (els.length:Int)) (.ptr n4 0 0) (.ptr nu 0 0) v m0 I:=by
 have hel:=hv.len
 unfold jq
 refine⟨fun m q h'=>∃(i:Nat) (ch:Bool) (U' R':List Bool),q=[.bool ch,nD i]/\i<=els.length/\m=els.length-i/\UV c rs U' R'/\(ch=true->oK U' R'<oK U R)/\(ch=false->U'=U/\R'=R/\∀r,r∈rs.take i->cL U R r=true)/\Vs h' (aS c nU nR nu n4 n2 nr U' R' X),_,
  ⟨0,false,U,R,rfl,by omega,rfl,u,fun h=>(by cases h),fun _=>⟨rfl,rfl,fun r hr=>(by simp at hr)⟩,V⟩,?_⟩
 rintro m f h1 ⟨i,ch,U1,R1,hq,hi,hm,u1,hc1,hc2,V1⟩
 simp only[List.cons.injEq,and_true]at hq
 obtain⟨q1,q2⟩:=hq
 simp only[q1,q2,nD]
 by_cases hlt:i<els.length
 ·rw[kN (by omega),ag]
  obtain⟨r,hri⟩:∃r,rs[i]?=some r:=⟨rs[i]'(by omega),List.getElem?_eq_getElem _⟩
  obtain⟨d,hdi⟩:∃d,els[i]?=some d:=⟨els[i],List.getElem?_eq_getElem hlt⟩
  obtain⟨nv,rfl,wn⟩:=hv.el i r d hri hdi
  have hrm:=List.mem_of_getElem? hri
  have okr:=ok r hrm
  have htk:rs.take (i+1)=rs.take i++[r]:=by rw[List.take_add_one,hri];rfl
  refine⟨fun q h'=>∃(ch:Bool) (U' R':List Bool),q=[.bool ch]/\UV c rs U' R'/\(ch=true->oK U' R'<oK U R)/\(ch=false->U'=U/\R'=R/\∀r,r∈rs.take (i+1)->cL U R r=true)/\Vs h' (aS c nU nR nu n4 n2 nr U' R' X),?_,?_⟩
  ·rintro f' h' ⟨ch',U2,R2,hq',u2,g1,g2,V2⟩
   simp only[List.cons.injEq,and_true]at hq'
   rw[hq',cw (by omega) (by omega)]
   simp only[ab,true_and]
   exact⟨_,by omega,i+1,ch',U2,R2,rfl,by omega,rfl,u2,g1,g2,V2⟩
  refine hx.get (fun y hy=>by have:=hA y hy;simp[aS,this]) V1 hdi rfl ?_
  refine V1.alloc fun n72 h73 V73=>?_
  refine V73.pV 0 rfl rfl rfl (fun x hx=>Ru.one wn.one x hx) fun h75 V75=>?_
  simp only[List.set_cons_zero]at V75
  have V75:Vs h75 ((n72,.box (r.e nv))::aS c nU nR nu n4 n2 nr U1 R1 X):=V75
  have hUl:U1.length=c.b.length:=u1.ul
  have hRl:R1.length=nr:=by rw[u1.rl,hr];rfl
  have wU:∀{L:LSq},(∀x,x∈aS c nU nR nu n4 n2 nr U1 R1 X->x∈L)->BW L (.ms nU 0 c.b.length) U1:=fun hs=>Or.inr ⟨nU,by rw[hUl],hs _ (by simp[aS])⟩
  have wR:∀{L:LSq},(∀x,x∈aS c nU nR nu n4 n2 nr U1 R1 X->x∈L)->BW L (.ms nR 0 nr) R1:=fun hs=>Or.inr ⟨nR,by rw[hRl],hs _ (by simp[aS])⟩
  have sub1:∀x,x∈aS c nU nR nu n4 n2 nr U1 R1 X->x∈(n72,Slot.box (r.e nv))::aS c nU nR nu n4 n2 nr U1 R1 X:=fun x hx=>List.mem_cons_of_mem _ hx
  have okr':xh U1.length R1.length r:=by rw[hUl,hRl, <- hr];exact okr
  rw[V75.lu 1 (s:=2) rfl rfl,V75.lu 0 (s:=4) rfl rfl]
  refine NQ V75 (wU sub1) (wR sub1) okr' (wn.mono fun x hx=>by simp at hx) fun h81 V81=>?_
  rw[cD]
  cases hk:cL U1 R1 r
  ·rw[Bool.not_false,ag,V81.lu 1 (s:=2) rfl rfl,V81.fa 0 rfl,Rg (d:=r.of.e) (V81.get 0 _ _ rfl) (by simp) rfl]
   obtain⟨hg,u2⟩:=u1.drop hrm okr hk
   have hcnt:=G7 hg
   refine Sc V81 (wU sub1) (wR sub1) okr'.of fun p h90 V90 hp=>?_
   have hfin:∀h',Vs h' (aS c nU nR nu n4 n2 nr (ox U1 R1 r.of).1 (ox U1 R1 r.of).2 X)->∃(ch:Bool) (U' R':List Bool),[D.bool true]=[.bool ch]/\UV c rs U' R'/\(ch=true->oK U' R'<oK U R)/\(ch=false->U'=U/\R'=R/\∀r,r∈rs.take (i+1)->cL U R r=true)/\Vs h' (aS c nU nR nu n4 n2 nr U' R' X):=fun h' V'=>by
    refine⟨true,_,_,rfl,u2,fun _=>?_,fun h=>(by cases h),V'⟩
    cases ch with
    | true=>have:=hc1 rfl;omega
    | false=>obtain⟨rfl,rfl,-⟩:=hc2 rfl;omega
   have hb:∀f:Fa,Ak U1.length R1.length f->f.n.toNat<(xF U1 R1 f).length:=fun f hf=>by
    obtain⟨b,n⟩:=f
    obtain⟨h1,h2,h3⟩:=hf
    cases b
    ·have g1:n<(R1.length:Int):=h3 rfl
     have g2:0<=n:=h1
     show n.toNat<R1.length;omega
    ·have g1:n<(U1.length:Int):=h2 rfl
     have g2:0<=n:=h1
     show n.toNat<U1.length;omega
   have hbl:=hb _ okr'.of
   have eset:∀b,b=r.of.nC->(ox U1 R1 r.of)=if b then(U1.set r.of.n.toNat false,R1) else(U1,R1.set r.of.n.toNat false):=fun b hb=>by subst hb;rfl
   cases hblk:r.of.nC
   ·have e1:xF U1 R1 r.of=R1:=by unfold xF;rw[hblk];rfl
    rw[e1]at hp hbl
    rw[hblk]at hp
    rcases hp with⟨hp,-⟩|⟨m',hp,-,rfl⟩
    ·cases hp
    ·cases hp
     rw[jN,V90.get 2 _ _ rfl]
     refine⟨rfl,?_⟩
     rw[Nat.zero_add]
     refine V90.rG 2 rfl (by simpa[bL] using hbl) rfl (dw _) fun h94 V94=>?_
     rw[du]at V94
     simp only[ab,true_and]
     refine hfin h94 ?_
     rw[eset false hblk.symm]
     exact V94.pop
   ·have e1:xF U1 R1 r.of=U1:=by unfold xF;rw[hblk];rfl
    rw[e1]at hp hbl
    rw[hblk]at hp
    rcases hp with⟨hp,-⟩|⟨m',hp,-,rfl⟩
    ·cases hp
    ·simp only[if_true,D.ms.injEq]at hp
     obtain⟨rfl,-,-⟩:=hp
     rw[jN,V90.get 3 _ _ rfl]
     refine⟨rfl,?_⟩
     rw[Nat.zero_add]
     refine V90.rG 3 rfl (by simpa[bL] using hbl) rfl (dw _) fun h94 V94=>?_
     rw[du]at V94
     simp only[ab,true_and]
     refine hfin h94 ?_
     rw[eset true hblk.symm]
     exact V94.pop
  ·rw[Bool.not_true,af]
   simp only[ab,true_and]
   refine⟨ch,U1,R1,rfl,u1,hc1,fun h0=>?_,V81.pop⟩
   obtain⟨rfl,rfl,h3⟩:=hc2 h0
   refine⟨rfl,rfl,fun r' hr'=>?_⟩
   rw[htk]at hr'
   rcases List.mem_append.1 hr' with hr'|hr'
   ·exact h3 r' hr'
   ·simp at hr';subst hr';exact hk
 ·have:i=els.length:=by omega
  subst this
  rw[kp (by omega),af]
  simp only[ab,true_and]
  refine hI ch U1 R1 h1 u1 hc1 (fun h0=>?_) V1
  obtain⟨e1,e2,h3⟩:=hc2 h0
  rw[hel,List.take_length]at h3
  exact⟨e1,e2,h3⟩
theorem O2 {rs:List Ru}{els:List D}{v:D}(hr:c.regs=(nr:Int)) (hrl:rs.length<=1000000) (hv:DI rs els) (hx:EX 4 v els A) (hA:∀y∈A,y∈X) (ok:∀r∈rs,xh c.b.length c.regs r) (u:UV c rs U R) (V:Vs h (aS c nU nR nu n4 n2 nr U R X)){J:HJq}
  (hJ:∀h',Vs h' (aS c nU nR nu n4 n2 nr (zg c rs) (xr c rs) X)->J [] h'):jo h v (.ptr n4 0 0) (.ptr nu 0 0) J:=by
 unfold jo
 refine⟨fun m q h'=>∃(ch:Bool) (U R:List Bool),q=[.bool ch]/\m=2*oK U R+(if ch then 1 else 0)/\UV c rs U R/\(ch=false->∀r∈rs,cL U R r=true)/\Vs h' (aS c nU nR nu n4 n2 nr U R X),_,⟨true,U,R,rfl,rfl,u,fun h=>(by cases h),V⟩,?_⟩
 rintro m f h1 ⟨ch,U1,R1,hq,hm,u1,hk,V1⟩
 simp only[List.cons.injEq,and_true]at hq
 rw[hq]
 cases ch with
 | true =>
  rw[ag,hx.len (fun y hy=>by have:=hA y hy;simp[aS,this]) V1]
  refine O1 hr hrl hv hx hA ok u1 V1 fun ch' U2 R2 h2 u2 g1 g2 V2=>?_
  refine⟨2*oK U2 R2+(if ch' then 1 else 0),?_,ch',U2,R2,rfl,rfl,u2,fun h0=>?_,V2⟩
  ·subst hm
   cases ch' with
   | true=>have:=g1 rfl;simp;omega
   | false=>obtain⟨rfl,rfl,-⟩:=g2 rfl;simp
  ·obtain⟨rfl,rfl,h3⟩:=g2 h0;exact h3
 | false =>
  rw[af]
  simp only[ab,true_and]
  obtain⟨rfl,rfl⟩:=u1.fin ok (hk rfl)
  exact hJ h1 V1
end
end
end Go.Am
namespace Go.Am
open Go Go.Proofs
theorem FM {d:D}{h:Heap}{K:D->Prop}:ae PP (.len (.c d)) h K=aG d h K:=rfl
theorem Sq.mono {c:Code}{W W':LSq}{n2 pr pd:Nat}{dv:D}(hs:∀x∈W,x∈W') (r:Sq c W n2 pr pd dv):Sq c W' n2 pr pd dv:=⟨hs _ r.h2,hs _ r.hr,hs _ r.hd,r.wd.mono hs⟩
def F6 (c:Code):Prop:=∃O O' at' U,vW c O O' at' U
theorem Oo {c:Code}(hc:cU c):(fo c).length<=1000000:=by
 have:=wv (R:=cH c) hc (ye hc.g) c.b.length
 have:=hc.g.nb
 unfold fo wx;omega
theorem FY {n:Nat}{b:Bool}:bL (List.replicate n b)=List.replicate n (.bool b):=by simp[bL]
theorem Nv {c:Code}(hc:cU c):aU PP iT [c.e] (fun r=>r=uF c/\F6 c):=by
 have hnb:=hc.g.nb
 obtain⟨nr,hr⟩:∃nr:Nat,c.regs=(nr:Int):=⟨c.regs.toNat,by have:=hc.rg;omega⟩
 have hr1:=hc.rg
 refine bp yU (aD _ _ _) rfl (yq _ _) ?_
 unfold s7
 refine Vs.nil.box c.db.one fun n2 h3 V3=>?_
 refine V3.alloc fun n4 h5 V5=>?_
 rw[V5.mz 1 rfl,V5.gX 1 (j:=7) rfl rfl,br,List.length_map,V5.mz 1 rfl,V5.gX 1 (j:=2) rfl rfl,hr]
 refine Jv (by omega) (by omega) ?_
 refine Jv (by omega) (by omega) ?_
 refine V5.Jl (by omega) (by omega) fun nU h16 V16=>?_
 refine⟨by simp only[↓V16.mz 2 rfl,↓V16.gX 2 (j:=0+2) rfl rfl,hr,ab,and_self],?_⟩
 refine V16.Jl (by omega) (by omega) fun nR h20 V20=>?_
 refine⟨by simp only[↓V20.mz 3 rfl,↓V20.gX 3 (j:=0+7) rfl rfl,FM,br,List.length_map,ab,and_self],?_⟩
 rw[dq rfl]
 refine V20.alloc fun nu h26 V26=>?_
 refine⟨by simp only[↓V26.mz 4 rfl,↓V26.gX 4 (j:=0+7) rfl rfl,↓V26.gX 4 (j:=0+2) rfl rfl,FM,br,List.length_map,hr,ab,and_self],?_⟩
 refine V26.pV 0 (cs':=[.ms nU 0 c.b.length,.ms nR 0 nr]) rfl rfl rfl (fun x hx=>by simp at hx;rcases hx with rfl|rfl<;>rfl) fun h33 V33=>?_
 simp only[List.set_cons_zero]at V33
 have V33:Vs h33 (aS c nU nR nu n4 n2 nr (ku c.b.length 0) (ku nr 0) []):=by
  unfold aS;rw[MO,MO,FY,FY];exact V33
 refine⟨fun _ h'=>Vs h' (aS c nU nR nu n4 n2 nr (ku c.b.length c.b.length) (ku nr 0) []),?_,?_⟩
 ·rintro f h36 V36
  refine⟨fun _ h'=>Vs h' (aS c nU nR nu n4 n2 nr (ku c.b.length c.b.length) (ku nr nr) []),?_,?_⟩
  ·rintro f2 h39 V39
   rw[V39.lu 4 (s:=8) rfl rfl]
   refine JL hc V39 fun W m2 pr pd dv h43 rm hD V43=>?_
   refine K9 hc (rm.mono (W':=W++aS c nU nR nu n4 n2 nr (ku c.b.length c.b.length) (ku nr nr) []) fun x hx=>by simp[hx]) V43 fun v els A h45 hv hx V45=>?_
   have V45':Vs h45 (aS c nU nR nu n4 n2 nr (List.replicate c.b.length true) (List.replicate c.regs.toNat true) (A++W)):=by
    rw[MN,MN, <- List.append_assoc]at V45
    have e:c.regs.toNat=nr:=by omega
    rw[e]
    exact V45.perm List.perm_append_comm
   refine⟨fun _ h'=>Vs h' (aS c nU nR nu n4 n2 nr (zg c (fo c)) (xr c (fo c)) (A++W)),?_,O2 hr (Oo hc) hv hx (fun y hy=>by simp[hy]) (zv hc) (UV.start (by omega)) V45' fun h' V'=>V'⟩
   rintro f3 h48 V48
   rw[V48.lu 0 (s:=2) rfl rfl]
   refine V48.pV 3 rfl rfl rfl (fun x hx=>by simp at hx;rcases hx with rfl|rfl<;>rfl) fun h52 V52=>?_
   simp only[aS,List.set_cons_succ,List.set_cons_zero]at V52
   rw[V52.lu 3 (s:=2) rfl rfl]
   have e1:(h52 nU).row=some (1,bL (zg c (fo c))):=by rw[V52.get 2 _ _ rfl];rfl
   have e2:(h52 nR).row=some (1,bL (xr c (fo c))):=by rw[V52.get 1 _ _ rfl];rfl
   have l1:(bL (zg c (fo c))).length=c.b.length:=by rw[bL,List.length_map,lW]
   have l2:(bL (xr c (fo c))).length=nr:=by rw[bL,List.length_map,lX];omega
   have bv:∀(S:List Bool) x,x∈bL S->∀y∈x.cells,y.vone=true:=fun S x hx y hy=>by
    simp only[bL,List.mem_map]at hx;obtain⟨b,-,rfl⟩:=hx
    simp[D.cells]at hy;subst hy;rfl
   have ef:(D.agg [.ms nU 0 c.b.length,.ms nR 0 nr]).fzt h52=uF c:=by
    simp only[D.fzt,D.fz,D.fzc,List.map_cons,List.map_nil,e1,e2,List.drop_zero]
    rw[List.take_of_length_le (by omega),List.take_of_length_le (by omega)];rfl
   refine⟨fun x hx=>?_,fun x hx=>?_,?_,?_⟩
   ·simp[D.cells]at hx;rcases hx with rfl|rfl<;>rfl
   ·simp[D.cells]at hx
    rcases hx with rfl|rfl
    ·exact⟨1,_,e1,by omega,fun x hx y hy=>bv _ x (List.mem_of_mem_drop (List.mem_of_mem_take hx)) y hy⟩
    ·exact⟨1,_,e2,by omega,fun x hx y hy=>bv _ x (List.mem_of_mem_drop (List.mem_of_mem_take hx)) y hy⟩
   ·rw[ef];rfl
   ·rw[ef];exact⟨rfl,hD⟩
  ·rw[V36.fa 0 rfl,V36.b9 0 (j:=0+1) rfl rfl,bb,V36.get 1 _ _ rfl]
   exact⟨rfl,M0 (by omega) V36 fun h' V'=>V'⟩
 ·rw[V33.fa 0 rfl,V33.b9 0 (j:=0+0) rfl rfl,bb,V33.get 2 _ _ rfl]
  exact⟨rfl,MZ (by omega) V33 fun h' V'=>V'⟩
end Go.Am
namespace Go.Am
open Go Go.Proofs
def CD (v:D) (T:List Bool):Prop:=v=.sl (bL T)\/(v=.nil/\T=[])
theorem CD.one {v:D}{T:List Bool}(w:CD v T):v.one=true:=by rcases w with rfl|⟨rfl,-⟩<;>rfl
theorem CD.len {v:D}{T:List Bool}(w:CD v T){h:Heap}{K:D->Prop}:aG v h K=K (.int .i64 (T.length:Int)):=by
 rcases w with rfl|⟨rfl,rfl⟩
 ·rw[br];simp[bL]
 ·rw[sm];rfl
theorem CD.sl {v:D}{T:List Bool}(w:CD v T) (h:1<=T.length):v=.sl (bL T):=by
 rcases w with h|⟨-,rfl⟩
 ·exact h
 ·simp at h
noncomputable def jh (c:Code) (U R:List Bool):Bool:=decide (U.length=c.b.length)&&decide ((R.length:Int)=c.regs)&&(fo c).all (cL U R)
section
variable {h:Heap}{L:LSq}{KH:HKq}
theorem QE.fw {v:D}{T:List Fa}(q:QE 2 h L v (T.map Fa.e)):∃X,Vs h (X++L)/\FW (X++L) v T:=by
 rcases q with⟨rfl,h0,V⟩|⟨m,rfl,V⟩
 ·exact⟨[],V,Or.inl ⟨rfl,by simpa using h0⟩⟩
 ·exact⟨[(m,.arr 2 (T.map Fa.e))],V,Or.inr (Or.inr ⟨m,by simp,by simp⟩)⟩
def T7 (nk n7 n5:Nat) (s:LSt) (B:cC) (e:Int) (vU vR:D):LSq:=[(nk,.lp s B),(n7,.box (.int .i64 e)),(n5,.box (.agg [vU,vR]))]
theorem Ln {c:Code}{U R:List Bool}{rs:List Ru}{nk n7 n5:Nat}{B:cC}(hul:U.length=c.b.length) (hrl:(R.length:Int)=c.regs) (hps:B.ps=[23]) (hlt:∀p,p∈[23]->p<B.nt) (he:B.env=LEnv.get [(3,.ptr n5 0 0),(4,.ptr n7 0 0)]) (hAs:Ek PP ic B.nt B.assign) (hBs:Ek PP hZ B.nt B.body) :
  Yl nk (fun r=>xh c.b.length c.regs r/\r∈rs) (fun done Lc=>Lc=T7 nk n7 n5 .ready B 0 (.sl (bL U)) (.sl (bL R))/\∀r∈done,cL U R r=true) (fun Lc=>Lc=T7 nk n7 n5 (.done .ret) B 100 (.sl (bL U)) (.sl (bL R))/\∃r,r∈rs/\cL U R r=false):=by
 rintro done ru Lc h N nd KH ⟨rfl,hdone⟩-⟨hok,hrs⟩ q hT hF
 have V0:=q.vs
 rw[Jt]
 refine⟨⟨_,_,V0.get 0 _ _ rfl⟩,?_⟩
 refine qw (e:=[(3,.ptr n5 0 0),(4,.ptr n7 0 0)]) (V0.get 0 _ _ rfl) hps hAs hBs (by simp) hlt rfl he ?_
 rw[show([Arg.c (ru.e nd)].map fun x=>x.get [])=[ru.e nd] from rfl, <- rR]
 unfold mD
 refine q.alloc fun n1 h1 q1=>?_
 refine q1.pV (cs':=[.bool ru.of.nC,.int .i64 ru.of.n,nd,.bool ru.never]) rfl rfl (fun x hx=>Ru.one q.one x hx) fun h2 q2=>?_
 refine⟨rfl,q2.vs.get 1 _ _ rfl,?_⟩
 have q3:=q2.bX 1 rfl (s':=.lp .busy B) (by simp)
 simp only[T7,List.set_cons_succ,List.set_cons_zero,List.cons_append,List.nil_append]at q3
 rw[q3.vs.lu 3 (s:=2) rfl rfl,q3.vs.lu 0 (s:=4) rfl rfl,show D.agg [.bool ru.of.nC,.int .i64 ru.of.n,nd,.bool ru.never]=ru.e nd from rfl]
 obtain⟨X,V3,wn⟩:=q3.fw
 refine NQ (U:=U) (R:=R) V3 (Or.inl rfl) (Or.inl rfl) (by rw[hul,hrl];exact hok) wn fun h4 V4=>?_
 have V4:=V4.Hw
 rw[cD]
 cases hk:cL U R ru
 ·rw[Bool.not_false,ag]
  refine V4.IW 2 rfl rfl rfl fun h5 V5=>?_
  simp only[List.set_cons_succ,List.set_cons_zero]at V5
  refine⟨V5.get 1 _ _ rfl,?_⟩
  exact hF _ _ ⟨rfl,ru,hrs,hk⟩ (V5.bX 1 rfl (s':=.lp (.done .ret) B) (by simp)).pop
 ·rw[Bool.not_true,af]
  refine⟨V4.get 1 _ _ rfl,?_⟩
  refine hT _ _ ⟨rfl,fun r hr=>?_⟩ (V4.bX 1 rfl (s':=.lp .ready B) (by simp)).pop
  rcases List.mem_append.1 hr with hr|hr
  ·exact hdone r hr
  ·simp at hr;subst hr;exact hk
theorem FQ {c:Code}(hc:cU c){vU vR:D}{U R:List Bool}(wU:CD vU U) (wR:CD vR R):aU PP bn [c.e,.agg [vU,vR]] (· = .int .i64 (if jh c U R then 0 else 100)):=by
 have hnb:=hc.g.nb
 have hr1:=hc.rg
 refine bp xj (aD _ _ _) rfl (xb _ _ _) ?_
 unfold qM
 refine Vs.nil.box c.db.one fun n3 h4 V4=>?_
 refine V4.box (fun x hx=>by simp at hx;rcases hx with rfl|rfl;exact wU.one;exact wR.one) fun n5 h6 V6=>?_
 refine V6.alloc fun n7 h8 V8=>?_
 rw[V8.fa 1 rfl,V8.b9 1 (j:=0+0) rfl rfl,wU.len,V8.fa 2 rfl,V8.b9 2 (j:=0+7) rfl rfl,br,List.length_map,gj]
 have bad:∀(h51:Heap),Vs h51 [(n7,.box (.int .i64 100)),(n5,.box (.agg [vU,vR])),(n3,.box c.e)]->jh c U R=false->aa PP (.ld (.c (.ptr n7 0 0)) 1 false) h51 fun a52 _=>sh (· = .int .i64 (if jh c U R then 0 else 100)) a52 h51:=fun h51 V51 hb=>by
  rw[V51.B6 0 rfl rfl,ec,hb];rfl
 by_cases hul:U.length=c.b.length
 ·rw[decide_eq_true (by omega)]
  simp only[Bool.not_true]
  simp only[↓gS]
  rw[V8.fa 1 rfl,V8.b9 1 (j:=0+1) rfl rfl,wR.len,V8.fa 2 rfl,V8.b9 2 (j:=0+2) rfl rfl,gj]
  by_cases hrl:(R.length:Int)=c.regs
  ·rw[decide_eq_true hrl]
   simp only[Bool.not_true]
   simp only[↓gS]
   have eU:=wU.sl (by omega)
   have eR:=wR.sl (by omega)
   subst eU;subst eR
   refine⟨fun _ h'=>Vs h' [(n7,.box (.int .i64 0)),(n5,.box (.agg [.sl (bL U),.sl (bL R)])),(n3,.box c.e)]/\jh c U R=true,?_,?_⟩
   ·rintro f h55 ⟨V55,hb⟩
    refine V55.IW 0 rfl rfl rfl fun h57 V57=>?_
    simp only[List.set_cons_zero]at V57
    rw[V57.B6 0 rfl rfl,ec,hb];rfl
   rw[V8.lu 2 (s:=8) rfl rfl]
   refine JL hc V8 fun W m2 pr pd dv h62 rm hD V62=>?_
   refine⟨rfl,EV,fun nk B ht he hps _ hlt hAs hBs=>?_⟩
   have V63:=V62.push ht.free (s:=.lp .ready B) (by simp)
   have V64:Vs (au h62 nk (.lp .ready B)) (T7 nk n7 n5 .ready B 0 (.sl (bL U)) (.sl (bL R))++(W++[(n3,.box c.e)])):=by
    refine V63.perm (.cons _ ?_)
    exact List.perm_append_comm_assoc W [_,_] [_]
   refine E4 (R:=cH c) (Dp:=gY c) (Ln (rs:=fo c) hul hrl hps hlt he hAs hBs) hc ⟨rfl,fun r hr=>(by cases hr)⟩ V64 (by simp[rm.h2]) (by simp[rm.hr]) kn (by simp[rm.hd]) (rm.wd.mono fun x hx=>by simp[hx]) sR (ye hc.g) (fun Lc' h' hS V'=>?_) fun Lc' h' hS V'=>?_
   ·obtain⟨rfl,hk⟩:=hS
    have hget:h' nk=.lp .ready B:=V'.get 0 _ _ rfl
    show eg _ _ _ _ _
    unfold eg
    rw[hget]
    simp only[ab,true_and]
    have V9:=(V'.bX 0 rfl (s':=.dead) (by simp)).pop
    refine⟨V9.sub (.cons_cons _ (.cons_cons _ (List.sublist_append_right W _))),?_⟩
    unfold jh
    rw[decide_eq_true hul,decide_eq_true hrl]
    simp only[Bool.true_and,List.all_eq_true]
    exact hk
   ·obtain⟨rfl,r,hr,hk⟩:=hS
    have hget:h' nk=.lp (.done .ret) B:=V'.get 0 _ _ rfl
    show eg _ _ _ _ _
    unfold eg
    rw[hget]
    have V9:=(V'.bX 0 rfl (s':=.dead) (by simp)).pop
    refine Or.inl ⟨trivial,bad _ (V9.sub (.cons_cons _ (.cons_cons _ (List.sublist_append_right W _)))) ?_⟩
    cases hb:jh c U R
    ·rfl
    ·exfalso
     unfold jh at hb
     simp only[Bool.and_eq_true,List.all_eq_true]at hb
     have:=hb.2 r hr
     rw[hk]at this;cases this
  ·rw[decide_eq_false hrl]
   simp only[Bool.not_false]
   simp only[↓gS]
   refine V8.IW 0 rfl rfl rfl fun h51 V51=>?_
   simp only[List.set_cons_zero]at V51
   exact bad h51 V51 (by unfold jh;rw[decide_eq_false hrl];simp)
 ·rw[decide_eq_false (by omega)]
  simp only[Bool.not_false]
  simp only[↓gS]
  refine V8.IW 0 rfl rfl rfl fun h51 V51=>?_
  simp only[List.set_cons_zero]at V51
  exact bad h51 V51 (by unfold jh;rw[decide_eq_false hul];simp)
end
end Go.Am
namespace Go.Am
open Go Go.Proofs
theorem Ix {N:Nat}{R:Int}{t:Term}(h:DZ N R t):aU PP iV [t.e] (· = .sl (aV (cJ t))):=by
 refine bp BL (aD _ _ _) rfl (BA _ _) ?_
 unfold yx
 refine Vs.nil.box t.db.one fun n2 h3 V=>?_
 have i0:∀{KH:HKq},aa PP (.iadda (.c (.ptr n2 0 11)) (.c (.int .i64 0)) 2 1) h3 KH=KH (.ptr n2 0 11) h3:=fun {KH}=>V.Sm 0 (a:=0) rfl (by omega)
 have i1:∀{KH:HKq},aa PP (.iadda (.c (.ptr n2 0 11)) (.c (.int .i64 1)) 2 1) h3 KH=KH (.ptr n2 0 12) h3:=fun {KH}=>V.Sm 0 (a:=1) rfl (by omega)
 have one:∀(a:Nat),aa PP (.bldS true 1 1 (.int .i64 0) [(0,.c (.int .i64 (a:Int)))]) h3 fun a60 h61=>sh (fun r=>r=.sl (aV [a])) a60 h61:=fun a=>by
  exact QV.one (k:=a) V fun v h' q=>q.ret rfl (by simp)
 cases h with
 | jump a ha =>
  simp (disch:=omega) only[↓V.fa 0 rfl,Nat.zero_add,↓V.b9 0 (j:=0) rfl rfl,↓cS,↓gS,↓i0,↓V.b9 0 (j:=11) rfl rfl]
  exact one a
 | barrier a ha =>
  simp (disch:=omega) only[↓V.fa 0 rfl,Nat.zero_add,↓V.b9 0 (j:=0) rfl rfl,↓cS,↓gS,↓i0,↓V.b9 0 (j:=11) rfl rfl]
  exact one a
 | collect s d a b t hs hd ha hb ht =>
  simp (disch:=omega) only[↓V.fa 0 rfl,Nat.zero_add,↓V.b9 0 (j:=0) rfl rfl,↓cS,↓gS,↓i0,↓V.b9 0 (j:=11) rfl rfl]
  exact one t
 | exit =>
  simp (disch:=omega) only[↓V.fa 0 rfl,Nat.zero_add,↓V.b9 0 (j:=0) rfl rfl,↓cS,↓gS]
  refine V.IB fun n11 h12 V1=>?_
  exact tW (esz:=1) (els:=[]) (by rw[V1.get 0 _ _ rfl];rfl) (by simp) rfl
 | branch o a b ho ha hb =>
  simp (disch:=omega) only[↓V.fa 0 rfl,Nat.zero_add,↓V.b9 0 (j:=0) rfl rfl,↓cS,↓gS,↓i0,↓i1,↓V.b9 0 (j:=11) rfl rfl,↓V.b9 0 (j:=12) rfl rfl]
  by_cases hab:a=b
  ·subst hab
   simp (disch:=omega) only[↓cS,↓gS,↓V.fa 0 rfl,Nat.zero_add,↓i0,↓V.b9 0 (j:=11) rfl rfl]
   have e:cJ ⟨2,0,aj,o,aj,(a:Int),(a:Int)⟩=[a]:=by simp[cJ]
   rw[e]
   exact one a
  ·simp (disch:=omega) only[↓cS,↓gS,↓V.fa 0 rfl,Nat.zero_add,↓i0,↓i1,↓V.b9 0 (j:=11) rfl rfl,↓V.b9 0 (j:=12) rfl rfl]
   have e:cJ ⟨2,0,aj,o,aj,(a:Int),(b:Int)⟩=[a,b]:=by simp[cJ];omega
   rw[e]
   exact QV.two (j:=a) (k:=b) V fun v h' q=>q.ret rfl (by simp)
end Go.Am
namespace Go.Am
open Go Go.Proofs
section
variable {h:Heap}{L:LSq}{v:D}{T:List D}{KH:HKq}
theorem QD.alloc (q:QD h L v T){d:D}(hK:∀n h',QD h' ((n,.box d)::L) v T->KH (.ptr n 0 0) h'):aa PP (.alloc d) h KH:=by
 rw[fI]
 exact fun n t=>hK n _ (q.more t.free (by simp))
theorem QD.TF (q:QD h L v T){d:D}(hd:aH d) (hK:∀n h',QD h' ((n,.box d)::L) v T->KH (.ptr n 0 0) h'):aa PP (.box (.c d)) h KH:=by
 rw[C4]
 exact⟨hd,fun n t=>hK n _ (q.more t.free (by simp))⟩
theorem QD.pV (q:QD h L v T) (i:Nat){n s:Nat}{cs cs':List D}(hi:L[i]?=some (n,.box (.agg cs))) (hl:cs.length=s) (hl':cs'.length=s) (ho:∀x,x∈cs'->x.one=true) (hK:∀h',QD h' (L.set i (n,.box (.agg cs'))) v T->KH .undef h'):aa PP (.st (.c (.ptr n 0 0)) (.c (.agg cs')) s) h KH:=by
 rcases q with⟨rfl,rfl,V⟩|⟨m,rfl,V⟩
 ·exact V.pV i hi hl hl' ho fun h' V'=>hK h' (Or.inl ⟨rfl,rfl,V'⟩)
 ·exact V.pV (i+1) (by simpa using hi) hl hl' ho fun h' V'=>hK h' (Or.inr ⟨m,rfl,by simpa using V'⟩)
theorem QD.rG (q:QD h L v T) (i:Nat){n j:Nat}{els:List D}{d:D}(hi:L[i]?=some (n,.arr 1 els)) (hj:j<els.length) (ho:d.one=true) (h1:∀x∈els,x.one=true) (hK:∀h',QD h' (L.set i (n,.arr 1 (els.set j d))) v T->KH .undef h'):aa PP (.st (.c (.ptr n j 0)) (.c d) 1) h KH:=by
 rcases q with⟨rfl,rfl,V⟩|⟨m,rfl,V⟩
 ·exact V.rG i hi hj ho h1 fun h' V'=>hK h' (Or.inl ⟨rfl,rfl,V'⟩)
 ·exact V.rG (i+1) (by simpa using hi) hj ho h1 fun h' V'=>hK h' (Or.inr ⟨m,rfl,by simpa using V'⟩)
theorem QD.one (q:QD h L v T):v.one=true:=by rcases q with⟨rfl,-⟩|⟨m,rfl,-⟩<;>rfl
end
theorem NP {c:Code}(hc:bG c){nR n:Nat}(hn:n=c.b.length):∀(k cap:Nat) (S:List Bool) (T:List Nat) (b:Nat) (h:Heap) (L:LSq) (iR:Nat) (lv:D) (KH:HKq),S.length=n->km (hasB S) n<=k->T.length+km (hasB S) n<=cap->cap<=1000->b<n->hasB S b=false->L[iR]?=some (nR,.arr 1 (bL S))->QD h L lv (aV T) ->
  (∀S' T' lv' h',Qm (fu c) (S,T) b (S',T')->S'.length=n->T'.length+km (hasB S') n<=cap->(∀x,hasB S x=true->hasB S' x=true)->QD h' (L.set iR (nR,.arr 1 (bL S'))) lv' (aV T')->KH (.agg [.ms nR 0 n,lv']) h') ->
  ah PP jZ [c.e,.agg [.ms nR 0 n,lv],nD b] h KH:=by
 have hnb:=hc.nb
 intro k
 induction k with
 | zero =>
  intro cap S T b h L iR lv KH hS hk hT hcap hb hs hR q hK
  exfalso
  have:km (hasB (S.set b true)) n+1<=km (hasB S) n:=lK (x:=b) (fun x hx=>by rw[aT (by omega),hx];simp) hb hs (by rw[aT (by omega)];simp)
  omega
 | succ k ih =>
  intro cap S T b h L iR lv KH hS hk hT hcap hb hs hR q hK
  have hun:km (hasB (S.set b true)) n+1<=km (hasB S) n:=lK (x:=b) (fun x hx=>by rw[aT (by omega),hx];simp) hb hs (by rw[aT (by omega)];simp)
  have hbl:∀{S:List Bool},S.length=n->(bL S).length=n:=fun e=>by simp[bL,e]
  have hRl:=(List.getElem?_eq_some_iff.1 hR).1
  refine aL An (aD _ _ _) rfl (Ab _ _ _ _) ?_
  unfold u7
  refine q.TF c.db.one fun n4 h5 q5=>?_
  refine q5.TF (fun x hx=>by
   simp[D.cells]at hx
   rcases hx with rfl|rfl
   ·rfl
   ·exact q.one) fun n6 h7 q7=>?_
  refine q7.alloc fun n8 h9 q9=>?_
  have V9:=q9.vs
  obtain⟨B,hB⟩:∃B,c.b[b]?=some B:=⟨c.b[b]'(by omega),List.getElem?_eq_getElem _⟩
  have hl:edg c b=cJ B.t:=jf hB
  rw[V9.fa 1 rfl,V9.b9 1 (j:=0) rfl rfl,nD,V9.ia (iR+3) (by simpa using hR) (by omega) (by omega),Int.toNat_natCast]
  refine q9.rG (iR+3) (by simpa using hR) (by rw[hbl hS];exact hb) rfl (dw _) fun h17 q17=>?_
  rw[du]at q17
  simp only[List.set_cons_succ]at q17
  have V17:=q17.vs
  rw[V17.fa 2 rfl,V17.b9 2 (j:=7) rfl rfl,w9 hB,Ky,KX]
  refine bT (Ix (hc.t B (List.mem_of_getElem? hB))) (fun d hd=>by simp at hd;subst hd;exact B.t.db.pair) ?_
  rintro _ rfl
  rw[<- hl]
  let LL:List Bool->D->LSq:=fun S lv=>(n8,.box (.agg [.nil,.nil]))::(n6,.box (.agg [.ms nR 0 n,lv]))::(n4,.box c.e)::L.set iR (nR,.arr 1 (bL S))
  have iRx:∀{S:List Bool}{lv:D},(LL S lv)[iR+3]?=some (nR,.arr 1 (bL S)):=fun {S lv}=>by
   simp only[LL,List.getElem?_cons_succ,List.getElem?_set,if_true,hRl]
  refine⟨fun _ h'=>∃S1 T1 lv1,jC (fu c) (edg c b) (S.set b true,T) (S1,T1)/\S1.length=n/\T1.length+km (hasB S1) n+1<=cap/\(∀x,hasB (S.set b true) x=true->hasB S1 x=true)/\QD h' (LL S1 lv1) lv1 (aV T1),?_,?_⟩
  ·rintro f h32 ⟨S1,T1,lv1,hv,hS1,hT1,hm1,q1⟩
   have hlo:=q1.one
   have key:∀X:LSq,Vs h32 (X++LL S1 lv1)->(∀(h':Heap) (y:Nat×Slot),Vs h' (y::(X++LL S1 lv1))->∀{K:List D->Prop},K (aV T1)->velems 1 lv1 h' K) ->
     aa PP (.bldS true 1 1 (.int .i64 0) [(0,(.c (.int .i64 (b:Int))))]) h32 fun a33 h34 =>
     aa PP (.fadd (.c (.ptr n6 0 0)) 1) h34 fun a35 h36 =>
     aa PP (.ld (.c a35) 1 false) h36 fun a37 h38 =>
     aa PP (.app (.c a33) (.c a37) 1 8 (.int .i64 0)) h38 fun a39 h40 =>
     aa PP (.fadd (.c (.ptr n6 0 0)) 1) h40 fun a41 h42 =>
     aa PP (.st (.c a41) (.c a39) 1) h42 fun a43 h44 =>
     aa PP (.ld (.c (.ptr n6 0 0)) 2 true) h44 fun a45 h46 =>
     aa PP (.st (.c (.ptr n8 0 0)) (.c a45) 2) h46 fun a47 h48 =>
     aa PP (.ld (.c (.ptr n8 0 0)) 2 true) h48 fun a49 _ =>
     KH a49 h48:=by
    intro X VX hx
    refine FA rfl (aO (k:=.i64) (n:=(b:Int))).one rfl fun n33 t33=>?_
    have V34:=VX.push (s:=.arr 1 [.int .i64 (b:Int)]) t33.free (by simp)
    have ix:∀{S:List Bool}{lv:D}{y:Nat×Slot}{i:Nat}{x:Nat×Slot},(LL S lv)[i]?=some x->(y::(X++LL S lv))[X.length+i+1]?=some x:=fun hi=>by
     rw[List.getElem?_cons_succ,List.getElem?_append_right (by omega),Nat.add_sub_cancel_left];exact hi
    rw[V34.fa _ (ix (i:=1) rfl),V34.b9 _ (j:=1) (ix (i:=1) rfl) rfl]
    refine V34.FZ (ys:=aV T1) (fun {K} hk=>hx _ _ V34 hk) qi (by rw[aQ];simp only[List.length_cons,List.length_nil];omega) (by rw[aQ];simp only[List.length_cons,List.length_nil];omega) fun n39 h40 V40=>?_
    have e1:[D.int .i64 (b:Int)]++aV T1=aV (b::T1):=rfl
    rw[e1]at V40
    rw[V40.fa _ (ix (i:=1) rfl)]
    have el:[D.int .i64 (b:Int)].length+(aV T1).length=(aV (b::T1)).length:=by simp[aV];omega
    rw[el]
    refine V40.UU _ (ix (i:=1) rfl) (j:=1) (by simp) rfl fun h44 V44=>?_
    have V44':Vs h44 ((n39,.arr 1 (aV (b::T1)))::(X++LL S1 (.ms n39 0 (aV (b::T1)).length))):=by
     have e2:((n39,Slot.arr 1 (aV (b::T1)))::(X++LL S1 lv1)).set (X.length+1+1) (n6,.box (.agg ([D.ms nR 0 n,lv1].set 1 (.ms n39 0 (aV (b::T1)).length))))=(n39,.arr 1 (aV (b::T1)))::(X++LL S1 (.ms n39 0 (aV (b::T1)).length)):=by
      rw[List.set_cons_succ,List.set_append_right _ _ (by omega),Nat.add_sub_cancel_left]
      rfl
     rw[<- e2];exact V44
    rw[V44'.lu (s:=2) _ (ix (i:=1) rfl) rfl]
    have q44:QD h44 (LL S1 (.ms n39 0 (aV (b::T1)).length)) (.ms n39 0 (aV (b::T1)).length) (aV (b::T1)):=Or.inr ⟨n39,rfl,V44'.sub (.cons_cons _ (List.sublist_append_right X _))⟩
    refine q44.pV 0 rfl rfl rfl (fun x hx=>by simp at hx;rcases hx with rfl|rfl<;>rfl) fun h48 q48=>?_
    have V48:=q48.vs
    rw[V48.lu (s:=2) 0 rfl rfl]
    refine hK S1 (b::T1) _ h48 ⟨(S1,T1),by rw[jc];exact hv,rfl⟩ hS1 (by simp only[List.length_cons];omega) (fun x hx=>hm1 x ?_) ?_
    ·rw[aT (by omega),hx];simp
    ·exact q48.less.less.less
   rcases q1 with⟨e1,e2,V1⟩|⟨m,e1,V1⟩
   ·refine key [] V1 fun h' y V' {K} hk=>?_
    rw[e1];rw[e2]at hk;exact hk
   ·refine key [(m,.arr 1 (aV T1))] V1 fun h' y V' {K} hk=>?_
    rw[e1]
    exact zh (V'.get 1 _ _ rfl) (by simp) (by simpa using hk)
  ·unfold pD
   refine⟨fun m q h'=>∃(j:Nat) (S1:List Bool) (T1:List Nat) (lv1:D),q=[nD j]/\j<=(edg c b).length/\m=(edg c b).length-j/\jC (fu c) ((edg c b).take j) (S.set b true,T) (S1,T1)/\S1.length=n/\T1.length+km (hasB S1) n+1<=cap/\(∀x,hasB (S.set b true) x=true->hasB S1 x=true)/\QD h' (LL S1 lv1) lv1 (aV T1),_,
    ⟨0,S.set b true,T,lv,rfl,by omega,rfl,.nil _,by rw[List.length_set];exact hS,by omega,fun x hx=>hx,q17⟩,?_⟩
   rintro m f h53 ⟨j,S1,T1,lv1,hq,hj,hm,hv,hS1,hT1,hm1,q1⟩
   simp only[List.cons.injEq,and_true]at hq
   simp only[hq,nD,CQ]
   by_cases hlj:j<(edg c b).length
   ·rw[kN (by omega),ag]
    obtain⟨to,hto⟩:∃to,(edg c b)[j]?=some to:=⟨(edg c b)[j],List.getElem?_eq_getElem hlj⟩
    have htn:to<n:=by rw[hn];exact dn hc (List.mem_of_getElem? hto)
    have htk:(edg c b).take (j+1)=(edg c b).take j++[to]:=by rw[List.take_add_one,hto];rfl
    refine⟨fun _ h'=>∃S1 T1 lv1,jC (fu c) ((edg c b).take (j+1)) (S.set b true,T) (S1,T1)/\S1.length=n/\T1.length+km (hasB S1) n+1<=cap/\(∀x,hasB (S.set b true) x=true->hasB S1 x=true)/\QD h' (LL S1 lv1) lv1 (aV T1),?_,?_⟩
    ·rintro f' h' ⟨S2,T2,lv2,a1,a2,a3,a4,a5⟩
     rw[cw (by omega) (by have:=nw (c:=c) (a:=b);omega)]
     simp only[ab,true_and]
     exact⟨_,by omega,j+1,S2,T2,lv2,rfl,by omega,rfl,a1,a2,a3,a4,a5⟩
    have V1:=q1.vs
    have e4:∀K:D->Prop,ae PP (.ld (.c (.ptr n4 0 0)) 8 true) h53 K=K c.e:=fun K=>V1.yd 2 rfl rfl
    have e6:∀K:D->Prop,ae PP (.ld (.c (.ptr n6 0 0)) 2 true) h53 K=K (.agg [.ms nR 0 n,lv1]):=fun K=>V1.yd 1 rfl rfl
    have es:∀K:D->Prop,ae PP (.iadd (.c (.sl (aV (edg c b)))) (.c (.int .i64 (j:Int))) 1) h53 K=K (.vp (nD to) 0):=fun K=>KD (by omega) (by rw[Int.toNat_natCast];exact fH hto) rfl
    have ev:∀K:D->Prop,ae PP (.ld (.c (.vp (nD to) 0)) 1 false) h53 K=K (.int .i64 (to:Int)):=fun K=>EN rfl
    simp only[↓V1.mz 1 rfl,Nat.zero_add,↓V1.gX 1 (j:=0) rfl rfl,es,ev,↓V1.EO (iR+3) iRx (show(0:Int)<=(to:Int) by omega) (show(to:Int)<(n:Int) by omega),Int.toNat_natCast,↓V1.Bu (iR+3) iRx (ca (aR (S:=S1) (k:=to) (by omega))) rfl,cD,e4,e6]
    cases hs1:hasB S1 to with
    | true =>
     simp only[Bool.not_true]
     rw[af]
     simp only[ab,true_and]
     exact⟨S1,T1,lv1,by rw[htk];exact hv.Es hs1,hS1,hT1,hm1,q1⟩
    | false =>
     simp only[Bool.not_false]
     rw[ag]
     have hu1:km (hasB S1) n<=km (hasB (S.set b true)) n:=xx hm1
     refine ih (cap-1) S1 T1 to h53 (LL S1 lv1) (iR+3) lv1 _ hS1 (by omega) (by omega) (by omega) htn hs1 iRx q1 fun S2 T2 lv2 h2 w1 w2 w3 w4 w5=>?_
     have e7:(LL S1 lv1).set (iR+3) (nR,.arr 1 (bL S2))=LL S2 lv1:=by
      simp only[LL,List.set_cons_succ,List.set_set]
     rw[e7]at w5
     have ho:=w5.one
     refine w5.pV 1 rfl rfl rfl (fun x hx=>by
      simp at hx
      rcases hx with rfl|rfl
      ·rfl
      ·exact ho) fun h3 q3=>?_
     simp only[ab,true_and]
     exact⟨S2,T2,lv2,by rw[htk];exact hv.IY hs1 w1,w2,by omega,fun x hx=>w4 x (hm1 x hx),q3⟩
   ·have:j=(edg c b).length:=by omega
    subst this
    rw[kp (by omega),af]
    simp only[ab,true_and]
    rw[List.take_length]at hv
    exact⟨S1,T1,lv1,hv,hS1,hT1,hm1,q1⟩
end Go.Am
namespace Go.Am
open Go Go.Proofs
theorem Tx {v:D}{h:Heap}{K:D->Prop}(hv:v.one=true/\v.cells=[v]) (hK:K (.agg [v,.nil])):ae PP (.bld [.nil,.nil] [(0,1,(.c v))]) h K:=by
 rw[ES,nj]
 refine⟨fun p hp=>?_,?_⟩
 ·simp[Arg.get]at hp
  subst hp
  exact⟨by rw[hv.2];rfl,by show 0+1<=2;omega,fun d hd=>by rw[hv.2]at hd;simp at hd;subst hd;exact hv.1⟩
 ·have:(fillD [D.nil,.nil] ([(0,1,Arg.c v)].map fun p=>(p.1,p.2.1,(p.2.2.get []).cells)))=[v,.nil]:=by
   simp[fillD,Arg.get,hv.2]
  rw[this]
  exact hK
theorem Me {h:Heap}{L:LSq}{v:D}{T:List Nat}{K:D->Prop}(q:QD h L v (aV T)) (hT:T≠[]) (hK:K (.sl (aV T))):sh K v h:=by
 rcases q with⟨-,h0,-⟩|⟨m,rfl,V⟩
 ·exact absurd (by simpa[aV] using h0) hT
 ·exact tW (esz:=1) (by rw[V.get 0 _ _ rfl];rfl) (fun x hx y hy=>by simp only[aV,List.mem_map]at hx;obtain⟨k,-,rfl⟩:=hx;simp[nD,D.cells]at hy;subst hy;rfl) hK
theorem Pp {c:Code}(hc:bG c):aU PP oz [c.e] (fun r=>∃O,uL (fu c) c.b.length 0 O/\r=.sl (aV O)):=by
 have hnb:=hc.nb
 refine bp Ao (aD _ _ _) rfl (Ac _ _) ?_
 unfold u9
 refine Vs.nil.box c.db.one fun n2 h3 V=>?_
 have e4:∀K:D->Prop,ae PP (.ld (.c (.ptr n2 0 0)) 8 true) h3 K=K c.e:=fun K=>V.yd 0 rfl rfl
 simp only[e4,↓V.mz 0 rfl,Nat.zero_add,↓V.gX 0 (j:=7) rfl rfl,br,List.length_map]
 refine V.Jl (by omega) (by omega) fun nR h9 V9=>?_
 rw[show List.replicate c.b.length (D.bool false)=bL (List.replicate c.b.length false) by simp[bL]]at V9
 have e9:∀K:D->Prop,ae PP (.ld (.c (.ptr n2 0 0)) 8 true) h9 K=K c.e:=fun K=>V9.yd 1 rfl rfl
 simp only[e9,ab,true_and]
 refine Tx ⟨rfl,rfl⟩ ?_
 have u0:=zi (hasB (List.replicate c.b.length false)) c.b.length
 have q0:QD h9 [(nR,.arr 1 (bL (List.replicate c.b.length false))),(n2,.box c.e)] .nil (aV []):=Or.inl ⟨rfl,rfl,V9⟩
 refine NP hc (n:=c.b.length) rfl c.b.length c.b.length (List.replicate c.b.length false) [] 0 h9 _ 0 .nil _ (by simp) u0 (by simpa using u0) (by omega) (by omega) ub rfl q0 fun S' T' lv' h' hv _ _ _ q'=>?_
 rw[show ae PP (.fld (.c (.agg [.ms nR 0 c.b.length,lv'])) 1 1 false) h'=fun K=>K lv' from rfl]
 exact Me q' (Lt hv) ⟨T',⟨S',hv⟩,rfl⟩
end Go.Am
namespace Go.Am
open Go Go.Proofs
def FI (E:List (List Nat)) (w:Int) (a:Nat):List Nat:=(gL E a).filter fun b:Nat=>decide ((b:Int)≠w)
theorem Ca {w:Int}{N:Nat}:∀{l:List Nat}{S:List Bool}{T:List Nat},(∀b∈l,b<N)->S.length=N ->
  (l.foldl (cA w) (S,T)).1.length=N/\(∀k,hasB (l.foldl (cA w) (S,T)).1 k=true↔hasB S k=true\/(k∈l/\(k:Int)≠w)) /\
  (∀k∈T,k∈(l.foldl (cA w) (S,T)).2)/\(∀k,k∈(l.foldl (cA w) (S,T)).2->k∈T\/(k∈l/\(k:Int)≠w))/\(∀k,hasB (l.foldl (cA w) (S,T)).1 k=true->hasB S k=true\/k∈(l.foldl (cA w) (S,T)).2) /\
  2*km (hasB (l.foldl (cA w) (S,T)).1) N+(l.foldl (cA w) (S,T)).2.length<=2*km (hasB S) N+T.length
 | [],S,T,_,hS=>⟨hS,fun k=>by simp,fun k h=>h,fun k h=>Or.inl h,fun k h=>Or.inl h,Nat.le_refl _⟩
 | b::l,S,T,hl,hS=>by
  rw[List.foldl_cons]
  by_cases hc:(!hasB S b&&decide ((b:Int)≠w))=true
  ·have hst:cA w (S,T) b=(S.set b true,T++[b]):=by unfold cA;rw[if_pos hc]
   rw[hst]
   simp only[Bool.and_eq_true,Bool.not_eq_true',decide_eq_true_eq]at hc
   have hbN:=hl b (by simp)
   obtain⟨g1,g2,g3,g4,g5,g6⟩:=Ca (w:=w) (l:=l) (S:=S.set b true) (T:=T++[b]) (fun x hx=>hl x (by simp[hx])) (by rw[List.length_set];exact hS)
   have hset:∀k,hasB (S.set b true) k=true↔k=b\/hasB S k=true:=fun k=>by rw[aT (by omega)];simp
   refine⟨g1,fun k=>?_,fun k hk=>g3 k (by simp[hk]),fun k hk=>?_,fun k hk=>?_,?_⟩
   ·rw[g2,hset,List.mem_cons]
    constructor
    ·rintro ((rfl|h)|⟨h1,h2⟩)
     ·exact Or.inr ⟨Or.inl rfl,hc.2⟩
     ·exact Or.inl h
     ·exact Or.inr ⟨Or.inr h1,h2⟩
    ·rintro (h|⟨rfl|h1,h2⟩)
     ·exact Or.inl (Or.inr h)
     ·exact Or.inl (Or.inl rfl)
     ·exact Or.inr ⟨h1,h2⟩
   ·rcases g4 k hk with h|⟨h1,h2⟩
    ·rcases List.mem_append.1 h with h|h
     ·exact Or.inl h
     ·simp at h;subst h;exact Or.inr ⟨by simp,hc.2⟩
    ·exact Or.inr ⟨by simp[h1],h2⟩
   ·rcases g5 k hk with h|h
    ·rcases (hset k).1 h with rfl|h
     ·exact Or.inr (g3 k (by simp))
     ·exact Or.inl h
    ·exact Or.inr h
   ·have:=lK (p:=hasB S) (p':=hasB (S.set b true)) (N:=N) (x:=b) (fun x hx=>(hset x).2 (Or.inr hx)) hbN hc.1 ((hset b).2 (Or.inl rfl))
    simp only[List.length_append,List.length_cons,List.length_nil]at g6
    omega
  ·have hst:cA w (S,T) b=(S,T):=by unfold cA;rw[if_neg hc]
   rw[hst]
   obtain⟨g1,g2,g3,g4,g5,g6⟩:=Ca (w:=w) (l:=l) (S:=S) (T:=T) (fun x hx=>hl x (by simp[hx])) hS
   have hb:(b:Int)≠w->hasB S b=true:=fun h=>by
    cases hs:hasB S b with
    | true=>rfl
    | false=>exact absurd (by rw[hs];simp[h]) hc
   refine⟨g1,fun k=>?_,g3,fun k hk=>?_,g5,g6⟩
   ·rw[g2,List.mem_cons]
    constructor
    ·rintro (h|⟨h1,h2⟩)
     ·exact Or.inl h
     ·exact Or.inr ⟨Or.inr h1,h2⟩
    ·rintro (h|⟨rfl|h1,h2⟩)
     ·exact Or.inl h
     ·exact Or.inl (hb h2)
     ·exact Or.inr ⟨h1,h2⟩
   ·rcases g4 k hk with h|⟨h1,h2⟩
    ·exact Or.inl h
    ·exact Or.inr ⟨by simp[h1],h2⟩
theorem MQ {E:List (List Nat)}{w:Int}{s N:Nat}(hE:∀a b,b∈gL E a->b<N):∀{n:Nat}{S:List Bool}{T:List Nat},S.length=N->2*km (hasB S) N+T.length<=n->hasB S s=true->(∀k,hasB S k=true->Path (FI E w) s k)->(∀k∈T,hasB S k=true) ->
  (∀a,hasB S a=true->a∈T\/∀b,b∈FI E w a->hasB S b=true)->∀k,hasB (frRun E w n S T) k=true↔Path (FI E w) s k
 | n,S,[],hS,hn,hs,hp,hT,hcl=>fun k=>by
  rw[EF]
  refine⟨hp k,fun h=>?_⟩
  induction h with
  | refl=>exact hs
  | step _ e ih =>
   rcases hcl _ ih with h|h
   ·cases h
   ·exact h _ e
 | 0,S,a::T,hS,hn,_,_,_,_=>by simp at hn
 | n+1,S,a::T,hS,hn,hs,hp,hT,hcl=>by
  have hfold:=Ca (w:=w) (N:=N) (l:=gL E a) (S:=S) (T:=T) (fun b hb=>hE a b hb) hS
  obtain⟨g1,g2,g3,g4,g5,g6⟩:=hfold
  have hrun:frRun E w (n+1) S (a::T)=frRun E w n ((gL E a).foldl (cA w) (S,T)).1 ((gL E a).foldl (cA w) (S,T)).2:=rfl
  rw[hrun]
  have haS:=hT a (by simp)
  have hex:∀b,b∈FI E w a↔b∈gL E a/\(b:Int)≠w:=fun b=>by simp[FI]
  refine MQ hE g1 ?_ ((g2 s).2 (Or.inl hs)) (fun k hk=>?_) (fun k hk=>?_) (fun x hx=>?_)
  ·simp only[List.length_cons]at hn;omega
  ·rcases (g2 k).1 hk with h|h
   ·exact hp k h
   ·exact .step (hp a haS) ((hex k).2 h)
  ·rcases g4 k hk with h|h
   ·exact(g2 k).2 (Or.inl (hT k (by simp[h])))
   ·exact(g2 k).2 (Or.inr h)
  ·rcases g5 x hx with h|h
   ·rcases hcl x h with h1|h1
    ·rcases List.mem_cons.1 h1 with rfl|h1
     ·exact Or.inr fun b hb=>(g2 b).2 (Or.inr ((hex b).1 hb))
     ·exact Or.inl (g3 x h1)
    ·exact Or.inr fun b hb=>(g2 b).2 (Or.inl (h1 b hb))
   ·exact Or.inl h
theorem zS {E:List (List Nat)}{w:Int}{s:Nat}(hE:∀a b,b∈gL E a->b<E.length) (hs:s<E.length) (hw:(s:Int)≠w) (k:Nat):hasB (jd E s w) k=true↔Path (FI E w) s k:=by
 unfold jd
 rw[if_neg hw]
 have hset:∀k,hasB ((List.replicate E.length false).set s true) k=true↔k=s:=fun k=>by rw[aT (by simp[hs]),ub];simp
 refine MQ (N:=E.length) hE (by simp) ?_ ((hset s).2 rfl) (fun k hk=>by rw[(hset k).1 hk];exact .refl) (fun k hk=>by simp at hk;exact(hset k).2 hk) (fun a ha=>Or.inl (by rw[(hset a).1 ha];simp)) k
 have:=zi (hasB ((List.replicate E.length false).set s true)) E.length
 simp only[List.length_singleton];omega
end Go.Am
namespace Go.Am
open Go Go.Proofs
structure TV (c:Code) (O:List Nat) (l:List Nat) (F:List (List Nat)):Prop where
 len:F.length=c.b.length+1
 lt:∀a b,b∈gL F a->b<c.b.length+1
 mem:∀a x,a∈O->(x∈gL F a↔x∈edg c a\/(x=c.b.length/\a∈l))
 last:gL F c.b.length=[]
section
variable {c:Code}{O O':List Nat}{at' U:List Int}{F:List (List Nat)}
theorem HW (hc:bG c) (D:vW c O O' at' U){a p:Nat}(ha:a∈O):p∈pB c O O' a↔(p=c.b.length/\a∈cM c O)\/(p∈edg c a):=by
 have e:p∈pB c O O' a↔p∈gL (yj (oR (fu c) O c.b.length (cM c O)) O' (c.b.length+1)) a:=Iff.rfl
 rw[e,jj (D.oR hc)]
 constructor
 ·rintro⟨h1,h2⟩
  rw[wV]at h2
  split at h2
  ·rw[jj (gW hc),jc]at h2
   exact Or.inr h2.2
  ·split at h2
   ·rename_i h;exact Or.inl ⟨h,h2⟩
   ·cases h2
 ·rintro (⟨rfl,h⟩|h)
  ·refine⟨List.mem_of_getElem? D.b.g.hd,?_⟩
   rw[wV,if_neg (by omega),if_pos rfl];exact h
  ·obtain⟨h1,h2⟩:=D.pre hc ha h
   rw[e,jj (D.oR hc)]at h1
   exact h1
theorem K5 (hc:bG c) (D:vW c O O' at' U) (G:TV c O (cM c O) F){a b:Nat}(ha:a∈O) (hb:b<c.b.length):(a=b\/¬Path (FI F (b:Int)) a c.b.length)↔Dm c.b.length (pB c O O') b a:=by
 have hex:∀x y,y∈FI F (b:Int) x↔y∈gL F x/\y≠b:=fun x y=>by simp only[FI,List.mem_filter,decide_eq_true_eq];exact⟨fun h=>⟨h.1,fun e=>h.2 (by rw[e])⟩,fun h=>⟨h.1,fun e=>h.2 (by omega)⟩⟩
 have inO:∀{x y},x∈O->y∈edg c x->y∈O:=fun hx hy=>(D.mem hc (dn hc hy)).1 (D.pre hc hx hy).2
 have key:∀x∈O,(Pv (pB c O O') (· = b) c.b.length x↔x≠b/\Path (FI F (b:Int)) x c.b.length):=by
  intro x hx
  constructor
  ·have:∀{x:Nat},Pv (pB c O O') (· = b) c.b.length x->(x=c.b.length\/x∈O)->x≠b/\Path (FI F (b:Int)) x c.b.length:=by
    intro x h
    induction h with
    | refl h=>exact fun _=>⟨by omega,.refl⟩
    | @step y x h e hbad ih =>
     rintro (rfl|hx)
     ·exact⟨hbad,.refl⟩
     ·rcases (HW hc D hx).1 e with⟨rfl,h1⟩|h1
      ·exact⟨hbad,.step .refl ((hex _ _).2 ⟨(G.mem x _ hx).2 (Or.inr ⟨rfl,h1⟩),by omega⟩)⟩
      ·have hy:=inO hx h1
       have h2:=ih (Or.inr hy)
       exact⟨hbad,Gu ((hex _ _).2 ⟨(G.mem x _ hx).2 (Or.inl h1),h2.1⟩) h2.2⟩
   exact fun h=>this h (Or.inr hx)
  ·rintro⟨hxb,hp⟩
   have:∀{z:Nat},Path (FI F (b:Int)) x z->(z=c.b.length\/(z∈O/\z≠b))/\(Pv (pB c O O') (· = b) c.b.length z->Pv (pB c O O') (· = b) c.b.length x):=by
    intro z h
    induction h with
    | refl=>exact⟨Or.inr ⟨hx,hxb⟩,id⟩
    | @step y z h e ih =>
     have h1:=(hex _ _).1 e
     rcases ih.1 with rfl|⟨hy,hyb⟩
     ·rw[G.last]at h1;cases h1.1
     ·rcases (G.mem y z hy).1 h1.1 with h2|⟨rfl,h2⟩
      ·exact⟨Or.inr ⟨inO hy h2,h1.2⟩,fun hz=>ih.2 (.step hz ((HW hc D hy).2 (Or.inr h2)) hyb)⟩
      ·exact⟨Or.inl rfl,fun hz=>ih.2 (.step hz ((HW hc D hy).2 (Or.inl ⟨rfl,h2⟩)) hyb)⟩
   exact(this hp).2 (.refl (by omega))
 show(a=b\/¬Path (FI F (b:Int)) a c.b.length) ↔ ¬Pv (pB c O O') (· = b) c.b.length a
 rw[key a ha]
 constructor
 ·rintro (h|h) ⟨h1,h2⟩
  ·exact h1 h
  ·exact h h2
 ·intro h
  by_cases e:a=b
  ·exact Or.inl e
  ·exact Or.inr fun k=>h ⟨e,k⟩
end
end Go.Am
namespace Go.Am
open Go Go.Proofs
theorem pX {P:Program}{h:Heap}{A:(HKq)->Prop}{KH:HKq}:vguard (.bool true) false A h KH=KH gU h:=by
 rw[iM];simp
theorem xt {P:Program}{h:Heap}{A:(HKq)->Prop}{KH:HKq}:vguard (.bool false) false A h KH=A KH:=by
 rw[iM];simp
def oN (F:List (List Nat)) (a b:Nat):Bool:=decide (a=b) || !hasB (jd F a (b:Int)) (F.length-1)
theorem zR {E:List (List Nat)}{w:Int}{s:Nat}(hE:∀a b,b∈gL E a->b<E.length):(jd E s w).length=E.length:=by
 unfold jd
 split
 ·simp
 ·have:∀(n:Nat) (S:List Bool) (T:List Nat),S.length=E.length->(frRun E w n S T).length=E.length:=by
   intro n
   induction n with
   | zero=>intro S T h;exact h
   | succ n ih =>
    intro S T h
    cases T with
    | nil=>exact h
    | cons a T=>exact ih _ _ (Ca (w:=w) (N:=E.length) (l:=gL E a) (S:=S) (T:=T) (fun b hb=>hE a b hb) h).1
  exact this _ _ _ (by simp)
end Go.Am
namespace Go.Am
open Go Go.Proofs
theorem C9 {E:List (List Nat)}{x:Nat}:∀{T l:List Nat},x∈l->x∈endF E T l
 | [],_,h=>h
 | b::T,l,h=>by
  unfold endF
  split
  ·exact C9 h
  ·exact C9 (by simp[h])
open Classical in
noncomputable def cB (c:Code) (l:List Nat):List (List Nat):=((List.range c.b.length).map fun b=>if qq c b then [c.b.length] else if b∈l then edg c b++[c.b.length] else edg c b)++[[]]
theorem bu {c:Code}{l:List Nat}:(cB c l).length=c.b.length+1:=by simp[cB]
open Classical in
theorem ff {c:Code}{l:List Nat}{b:Nat}:gL (cB c l) b=if b<c.b.length then(if qq c b then [c.b.length] else if b∈l then edg c b++[c.b.length] else edg c b) else []:=by
 unfold gL cB
 by_cases h:b<c.b.length
 ·rw[List.getElem?_append_left (by simpa using h),List.getElem?_map,List.getElem?_range h,if_pos h];rfl
 ·rw[if_neg h,List.getElem?_append_right (by simpa using (by omega:c.b.length<=b))]
  simp only[List.length_map,List.length_range]
  cases hk:b-c.b.length with
  | zero=>rfl
  | succ k=>rfl
theorem Jz {c:Code}{b:Nat}(h:qq c b=true):edg c b=[]:=by
 unfold qq at h
 unfold edg
 cases hB:c.b[b]? with
 | none=>rfl
 | some B =>
  rw[hB]at h
  simp only[decide_eq_true_eq]at h
  simp only[cJ,h,if_true]
theorem RA {c:Code}(hc:bG c){O:List Nat}(hO:∀x∈O,x<c.b.length):TV c O (cM c O) (cB c (cM c O)):=by
 refine⟨bu,fun a b h=>?_,fun a x ha=>?_,by rw[ff,if_neg (by omega)]⟩
 ·rw[ff]at h
  split at h
  ·split at h
   ·simp at h;omega
   ·split at h
    ·rcases List.mem_append.1 h with h|h
     ·have:=dn hc h;omega
     ·simp at h;omega
    ·have:=dn hc h;omega
  ·cases h
 ·rw[ff,if_pos (hO a ha)]
  by_cases hx:qq c a=true
  ·rw[if_pos hx,Jz hx]
   have:a∈cM c O:=C9 (List.mem_filter.2 ⟨ha,hx⟩)
   simp[this]
  ·rw[if_neg hx]
   by_cases hl:a∈cM c O
   ·rw[if_pos hl];simp[hl]
   ·rw[if_neg hl];simp[hl]
theorem FK {c:Code}(hc:bG c){O O':List Nat}{at' U:List Int}(D:vW c O O' at' U){a b:Nat}(ha:a∈O) (hb:b<c.b.length):oN (cB c (cM c O)) a b=true↔Dm c.b.length (pB c O O') b a:=by
 have haN:=D.b.lt a ha
 have G:=RA hc D.b.lt
 rw[<- K5 hc D G ha hb]
 unfold oN
 rw[Bool.or_eq_true,decide_eq_true_eq,Bool.not_eq_true',bu,Nat.add_sub_cancel]
 by_cases hab:a=b
 ·simp[hab]
 ·have:=zS (E:=cB c (cM c O)) (w:=(b:Int)) (s:=a) (fun x y h=>by rw[bu];exact G.lt x y h) (by rw[bu];omega) (by omega) c.b.length
  constructor
  ·rintro (h|h)
   ·exact Or.inl h
   ·refine Or.inr fun k=>?_
    rw[this.2 k]at h;cases h
  ·rintro (h|h)
   ·exact Or.inl h
   ·right
    cases hh:hasB (jd (cB c (cM c O)) a (b:Int)) c.b.length with
    | false=>rfl
    | true=>exact absurd (this.1 hh) h
end Go.Am
namespace Go.Am
open Go Go.Proofs
end Go.Am
namespace Go.Am
open Go Go.Proofs
theorem JO {c:Code}(hc:bG c){h:Heap}{L:LSq}{KH:HKq}(V0:Vs h L) (hK:∀m h',Vs h' ((m,.arr 1 ((fu c).map fun l=>.sl (aV l)))::L)->KH (.ms m 0 c.b.length) h'):ah PP kd [c.e] h KH:=by
 have hnb:=hc.nb
 refine aL Ap (aD _ _ _) rfl (Ad _ _) ?_
 unfold vc
 refine V0.box c.db.one fun n2 h3 V1=>?_
 refine V1.IB fun n4 h5 V5=>?_
 refine⟨fun q h'=>∃v,q=[v]/\QD h' ((n2,.box c.e)::L) v ((fu c).map fun l=>.sl (aV l)),?_,?_⟩
 ·rintro f h' ⟨v,hq,q⟩
  simp only[List.cons.injEq,and_true]at hq
  rw[hq]
  rcases q with⟨-,h0,-⟩|⟨m,rfl,V⟩
  ·have:=congrArg List.length h0
   rw[List.length_map,bH]at this
   have h1:=hnb.1
   simp only[List.length_nil]at this
   omega
  ·rw[List.length_map,bH]
   exact hK m h' V.swap.pop
 unfold pE
 refine⟨fun k q h'=>∃(i:Nat) (v:D),q=[v,nD i]/\i<=c.b.length/\k=c.b.length-i/\QD h' ((n2,.box c.e)::L) v (((fu c).take i).map fun l=>.sl (aV l)),_,⟨0,_,rfl,by omega,rfl,Or.inr ⟨n4,rfl,V5⟩⟩,?_⟩
 rintro k f h1 ⟨i,v,hq,hi,hk,q⟩
 simp only[List.cons.injEq,and_true]at hq
 obtain⟨q1,q2⟩:=hq
 have V:=q.vs
 simp only[q1,q2,nD,↓V.fa 0 rfl,Nat.zero_add,↓V.b9 0 (j:=7) rfl rfl,br,List.length_map]
 by_cases hlt:i<c.b.length
 ·rw[kN (by omega),ag]
  obtain⟨B,hB⟩:∃B,c.b[i]?=some B:=⟨c.b[i],List.getElem?_eq_getElem hlt⟩
  rw[w9 hB,Ky,KX]
  refine bT (Ix (hc.t B (List.mem_of_getElem? hB))) (fun d hd=>by simp at hd;subst hd;exact B.t.db.pair) ?_
  rintro _ rfl
  refine q.push kT rfl (by simp only[List.length_map,List.length_take];omega) (by simp only[List.length_map,List.length_take];omega) fun v' h' q'=>?_
  rw[cw (by omega) (by omega)]
  simp only[ab,true_and]
  refine⟨_,?_,i+1,v',rfl,by omega,rfl,?_⟩
  ·omega
  ·rw[List.take_add_one,Cd hlt]
   simp only[Option.toList_some,List.map_append,List.map_cons,List.map_nil]
   rw[jf hB]
   exact q'
 ·have:i=c.b.length:=by omega
  subst this
  rw[kp (by omega),af]
  simp only[ab,true_and]
  rw[<- bH,List.take_length]at q
  exact⟨v,rfl,q⟩
end Go.Am
namespace Go.Am
open Go Go.Proofs
theorem IJ {E:List (List Nat)}{s:Nat}{w:Int}{h:Heap}{L:LSq}{vE:D}{KH:HKq}(V0:Vs h L) (wE:LR L vE E) (hN:E.length<=1000) (hE:∀l∈E,∀b∈l,b<E.length) (hs:s<E.length) (hEl:∀l∈E,l.length<=1000)
  (hK:∀n h',Vs h' ((n,.arr 1 (bL (jd E s w)))::L)->KH (.ms n 0 E.length) h'):ah PP iW [vE,nD s,.int .i64 w] h KH:=by
 refine aL BM (aD _ _ _) rfl (BB _ _ _ _) ?_
 unfold yy
 rw[LR.len V0 wE]
 refine V0.Jl (by omega) (by omega) fun n5 h6 V1=>?_
 rw[show List.replicate E.length (D.bool false)=bL (List.replicate E.length false) by simp[bL]]at V1
 have ret:∀(h:Heap) (S:List Bool),Vs h ((n5,.arr 1 (bL S))::L)->S=jd E s w->KH (.ms n5 0 E.length) h:=fun h S V he=>by
  subst he;exact hK n5 h V
 have hsub:∀{S:List Bool} x,x∈L->x∈(n5,Slot.arr 1 (bL S))::L:=fun x hx=>List.mem_cons_of_mem _ hx
 simp only[nD,bY]
 by_cases hw:(s:Int)=w
 ·simp only[hw,decide_true,↓ag]
  exact ret _ _ V1 (by unfold jd;rw[if_pos hw])
 simp only[hw,decide_false,↓af]
 rw[V1.ia 0 rfl (by omega) (by omega),Int.toNat_natCast]
 refine V1.rG 0 rfl (by simp[bL];exact hs) rfl (dw _) fun h11 V2=>?_
 rw[du]at V2
 replace V2:Vs h11 ((n5,.arr 1 (bL ((List.replicate E.length false).set s true)))::L):=V2
 refine QV.one (k:=s) V2 fun v h13 q0=>?_
 refine⟨fun _ h=>∃S:List Bool,S.length=E.length/\Vs h ((n5,.arr 1 (bL S))::L)/\S=jd E s w,fun f h ⟨S,hS,V,he⟩=>ret h S V he,?_⟩
 unfold qN
 refine⟨fun m l h=>∃(S:List Bool) (T:List Nat) (v:D),l=[v]/\S.length=E.length/\(∀k∈T,k<E.length)/\QV h ((n5,.arr 1 (bL S))::L) v T/\frRun E w m S T=jd E s w/\2*km (hasB S) E.length+T.length<=m/\m<=3*E.length+3,3*E.length+3,
  ⟨_,[s],v,rfl,by simp,fun k hk=>by simp at hk;omega,q0,by unfold jd;rw[if_neg hw],by have:=zi (hasB ((List.replicate E.length false).set s true)) E.length;simp only[List.length_singleton];omega,by omega⟩,?_⟩
 rintro m f h1 ⟨S,T,v,hl,hS,hT,q,hR,hm,hmb⟩
 simp only[List.cons.injEq,and_true]at hl
 simp only[hl,q.len,uS]
 cases T with
 | nil =>
  simp only[List.length_nil,show((0:Nat):Int)=0 from rfl,Int.lt_irrefl,decide_false,↓af,ab,true_and]
  exact⟨S,hS,q.vs,by rw[<- hR,EF]⟩
 | cons a T' =>
  cases m with
  | zero=>simp at hm
  | succ m =>
  have haN:=hT a (by simp)
  have hEa:E[a]?=some E[a]:=List.getElem?_eq_getElem haN
  have hEm:=List.mem_of_getElem? hEa
  rw[frRun,hEa]at hR
  simp only[Option.getD_some]at hR
  generalize E[a]=es at hEa hEm hR
  simp only[show((0:Int)<((a::T').length:Int))=True from eq_true (by simp only[List.length_cons];omega),decide_true,↓ag]
  refine q.get (i:=0) (k:=a) rfl ?_
  refine q.zf (lo:=some 1) (hi:=none) (a:=1) (b:=(a::T').length) rfl rfl (by simp) (Nat.le_refl _) (by simp) fun v' q'=>?_
  have e1:((a::T').drop 1).take ((a::T').length-1)=T':=by simp
  rw[e1]at q'
  unfold qO
  refine⟨fun k l h=>∃(i:Nat) (S:List Bool) (T:List Nat) (v:D),l=[v,.int .i64 (i:Int)]/\i<=es.length/\k=es.length-i/\S.length=E.length/\(∀k∈T,k<E.length)/\QV h ((n5,.arr 1 (bL S))::L) v T /\
   frRun E w m ((es.drop i).foldl (cA w) (S,T)).1 ((es.drop i).foldl (cA w) (S,T)).2=jd E s w/\2*km (hasB S) E.length+T.length<=m,_,
   ⟨0,S,T',v',rfl,by omega,rfl,hS,fun k hk=>hT k (by simp[hk]),q',hR,by simp only[List.length_cons]at hm;omega⟩,?_⟩
  clear hR hm q' q hS hT hl
  rintro k f2 h2 ⟨i,S,T,v,hl2,hi,hk,hS,hT,q,hR,hm⟩
  simp only[List.cons.injEq,and_true]at hl2
  obtain⟨e8,e10⟩:=hl2
  have hel:=hEl es hEm
  simp only[e8,e10]
  refine LR.OT q.vs hsub wE hEa fun e we=>?_
  rw[BG.len q.vs (we.mono hsub),xv]
  by_cases hlt:i<es.length
  ·have hb:es[i]?=some es[i]:=List.getElem?_eq_getElem hlt
   have hdrop:es.drop i=es[i]::es.drop (i+1):=List.drop_eq_getElem_cons hlt
   rw[hdrop,List.foldl_cons]at hR
   generalize es[i]=b at hb hR
   have hbN:b<E.length:=hE es hEm b (List.mem_of_getElem? hb)
   simp only[show((i:Int)<(es.length:Int))=True from eq_true (by omega),decide_true,↓ag]
   refine⟨fun l h=>∃(S:List Bool) (T:List Nat) (v:D),l=[v]/\S.length=E.length/\(∀k∈T,k<E.length)/\QV h ((n5,.arr 1 (bL S))::L) v T /\
    frRun E w m ((es.drop (i+1)).foldl (cA w) (S,T)).1 ((es.drop (i+1)).foldl (cA w) (S,T)).2=jd E s w/\2*km (hasB S) E.length+T.length<=m,?_,?_⟩
   ·rintro f3 h3 ⟨S,T,v,hl3,g1,g2,g3,g4,g5⟩
    simp only[List.cons.injEq,and_true]at hl3
    rw[hl3,cw (by omega) (by omega)]
    simp only[ab,true_and]
    exact⟨_,by omega,i+1,S,T,v,by simp,by omega,rfl,g1,g2,g3,g4,g5⟩
   have V:=q.vs
   refine LR.OT q.vs hsub wE hEa fun e' we'=>?_
   rw[BG.get q.vs (we'.mono hsub) hb]
   simp only[nD,↓V.ia 0 rfl (show(0:Int)<=(b:Int) by omega) (show(b:Int)<(E.length:Nat) by omega),Int.toNat_natCast,↓V.uV 0 rfl (ca (aR (S:=S) (k:=b) (by omega))) rfl]
   cases hbS:hasB S b
   ·by_cases hbw:(b:Int)=w
    ·have hst:cA w (S,T) b=(S,T):=by unfold cA;rw[if_neg (by simp[hbw])]
     rw[hst]at hR
     rw[OG]
     simp only[↓gS,gj,hbw,decide_true,Bool.not_true,ab,true_and]
     exact⟨S,T,v,rfl,hS,hT,q,hR,hm⟩
    ·have hst:cA w (S,T) b=(S.set b true,T++[b]):=by unfold cA;rw[if_pos (by simp[hbS,hbw])]
     rw[hst]at hR
     rw[OG]
     simp only[↓gS,gj,hbw,decide_false,Bool.not_false]
     simp only[↓gS,↓V.ia 0 rfl (show(0:Int)<=(b:Int) by omega) (show(b:Int)<(E.length:Nat) by omega),Int.toNat_natCast]
     have hun:km (hasB (S.set b true)) E.length+1<=km (hasB S) E.length:=lK (x:=b) (fun k hk=>by rw[aT (by omega),hk];simp) hbN hbS (by rw[aT (by omega)];simp)
     refine q.rG 0 rfl (by simp[bL];omega) rfl (dw _) fun h4 q4=>?_
     rw[du]at q4
     replace q4:QV h4 ((n5,.arr 1 (bL (S.set b true)))::L) v T:=q4
     refine q4.push (k:=b) (by omega) (by omega) fun v5 h5 q5=>?_
     simp only[ab,true_and]
     exact⟨_,_,v5,rfl,by simp[hS],fun k hk=>by rcases List.mem_append.1 hk with hk|hk;exact hT k hk;simp at hk;omega,q5,hR,by rw[List.length_append,List.length_singleton];omega⟩
   ·have hst:cA w (S,T) b=(S,T):=by unfold cA;rw[if_neg (by simp[hbS])]
    rw[hst]at hR
    rw[Q6]
    simp only[↓gS,ab,true_and]
    exact⟨S,T,v,rfl,hS,hT,q,hR,hm⟩
  ·have hi':es.length<=i:=by omega
   simp only[show((i:Int)<(es.length:Int))=False from eq_false (by omega),decide_false,↓af,ab,true_and]
   rw[List.drop_of_length_le hi']at hR
   exact⟨m,by omega,S,T,v,rfl,hS,hT,q,hR,hm,by omega⟩
end Go.Am
namespace Go.Am
open Go Go.Proofs
theorem BW.Qt {h:Heap}{L:LSq}{v:D}{T:List Bool}(V:Vs h L) (w:BW L v T){K:List D->Prop}(hk:K (bL T)):velems 1 v h K:=by
 rcases w with rfl|⟨m,rfl,hm⟩
 ·exact⟨fun e he=>by simp only[bL,List.mem_map]at he;obtain⟨k,-,rfl⟩:=he;rfl,hk⟩
 ·exact⟨bL T,by rw[V.mem hm];rfl,by simp[bL],by rw[List.drop_zero,List.take_of_length_le (by simp[bL])];exact hk⟩
theorem EZ {T:List Bool}:∀y,y∈bL T->aH y:=fun y hy=>by
 simp only[bL,List.mem_map]at hy;obtain⟨k,-,rfl⟩:=hy;intro x hx;simp[D.cells]at hx;subst hx;rfl
theorem dA {T:List Bool}:(bL T).length=T.length:=by simp[bL]
theorem PM {h:Heap}{L:LSq}{KH:HKq}{vU vR:D}{U R:List Bool}(V:Vs h L) (wU:BW L vU U) (wR:BW L vR R) (hU:U.length<=1000000) (hR:R.length<=1000000)
  (hK:∀nU nR h',Vs h' ((nR,.arr 1 (bL R))::(nU,.arr 1 (bL U))::L)->KH (.agg [.ms nU 0 U.length,.ms nR 0 R.length]) h'):ah PP qb [.agg [vU,vR]] h KH:=by
 refine aL BK (aD _ _ _) rfl (Bz _ _) ?_
 unfold yw
 refine V.box (fun x hx=>by simp at hx;rcases hx with rfl|rfl;exact wU.one;exact wR.one) fun n2 h3 V3=>?_
 refine V3.alloc fun n4 h5 V5=>?_
 rw[V5.mz 1 rfl,V5.gX 1 (j:=0+0) rfl rfl,V5.mz 1 rfl,V5.gX 1 (j:=0+1) rfl rfl]
 refine V5.IB fun n10 h11 V11=>?_
 refine⟨by simp only[↓V11.mz 2 rfl,↓V11.gX 2 (j:=0+0) rfl rfl,↓V11.gX 2 (j:=0+1) rfl rfl,ab,and_self],?_⟩
 have s1:∀{y z w:Nat×Slot} x,x∈L->x∈y::z::w::L:=fun x hx=>by simp[hx]
 have s2:∀{y z w v:Nat×Slot} x,x∈L->x∈y::z::w::v::L:=fun x hx=>by simp[hx]
 refine V11.FZ (els:=[]) (ys:=bL U) (fun {K} hk=>(wU.mono s1).Qt V11 hk) EZ (by rw[dA];simp;omega) (by rw[dA];simp;omega) fun nU h17 V17=>?_
 simp only[List.nil_append,List.length_nil,Nat.zero_add,dA]at V17 ⊢
 refine⟨by simp only[↓V17.mz 2 rfl,↓V17.gX 2 (j:=1) rfl rfl,ab,and_self],?_⟩
 refine V17.IB fun n20 h21 V21=>?_
 refine⟨by simp only[↓V21.mz 3 rfl,↓V21.gX 3 (j:=0) rfl rfl,↓V21.gX 3 (j:=1) rfl rfl,ab,and_self],?_⟩
 refine V21.FZ (els:=[]) (ys:=bL R) (fun {K} hk=>(wR.mono s2).Qt V21 hk) EZ (by rw[dA];simp;omega) (by rw[dA];simp;omega) fun nR h27 V27=>?_
 simp only[List.nil_append,List.length_nil,Nat.zero_add,dA]at V27 ⊢
 rw[dq rfl]
 refine V27.pV 2 (cs':=[.ms nU 0 U.length,.ms nR 0 R.length]) rfl rfl rfl (fun x hx=>by simp at hx;rcases hx with rfl|rfl<;>rfl) fun h30 V30=>?_
 simp only[List.set_cons_succ,List.set_cons_zero]at V30
 rw[V30.lu 2 (s:=2) rfl rfl]
 exact hK nU nR h30 (V30.sub (.cons_cons _ (.cons_cons _ (.cons _ (.cons _ (.refl _))))))
end Go.Am
namespace Go.Am
open Go Go.Proofs
def O5 (p:Nat×Block):D:=.agg (.ms p.1 0 p.2.i.length::p.2.t.cs)
def Sk (p:Nat×Block):Nat×Slot:=(p.1,.arr 15 (p.2.i.map aP.e))
section
variable {h:Heap}{L:LSq}{KH:HKq}
end
end Go.Am
namespace Go.Am
open Go Go.Proofs
theorem Vm {a b:Bool}{h:Heap}{K:D->Prop}:ae PP (.eqv true false [.b] (.c (.bool a)) (.c (.bool b))) h K=K (.bool (!decide (a=b))):=by
 rw[Qi,MK]
 apply propext
 have e:veqv true [.b] (.bool a) (.bool b) (fun d=>K d)=K (.bool (!decide (a=b))):=by
  cases a<;>cases b<;>rfl
 constructor
 ·exact fun hh=>by have:=hh.2.2;rw[<- e];exact this
 ·exact fun hk=>⟨rfl,rfl,by rw[<- e]at hk;exact hk⟩
theorem U5 {T:List Bool}{i:Nat}{h:Heap}{K:D->Prop}(hi:i<T.length):ae PP (.iadd (.c (.sl (bL T))) (.c (.int .i64 (i:Int))) 1) h (fun a=>ae PP (.ld (.c a) 1 false) h K)=K (.bool (hasB T i)):=by
 rw[KD (esz:=1) (d:=.bool (hasB T i)) (by omega) (by rw[Int.toNat_natCast];exact ca (aR hi)) rfl,EN rfl]
theorem NG {T:List Bool}{h:Heap}{K:D->Prop}:aG (.sl (bL T)) h K=K (.int .i64 (T.length:Int)):=by rw[br];simp[bL]
theorem He {A B:List Bool}(hl:A.length<=1000000):aU PP dS [.sl (bL A),.sl (bL B)] (· = .bool (decide (A=B))):=by
 refine bp tM (aD _ _ _) rfl (tc _ _ _) ?_
 unfold nI
 rw[NG,NG,gj]
 by_cases hAB:A.length=B.length
 ·rw[decide_eq_true (by omega),Bool.not_true,af]
  refine⟨fun _ _=>A=B,?_,?_⟩
  ·rintro f h' e
   rw[bo,decide_eq_true e]
  unfold kA
  refine⟨fun m q h'=>h'=gT/\∃i:Nat,q=[nD i]/\i<=A.length/\m=A.length-i/\∀k,k<i->hasB A k=hasB B k,_,⟨rfl,0,rfl,by omega,rfl,fun k hk=>(by omega)⟩,?_⟩
  rintro m f h1 ⟨rfl,i,hq,hi,hm,hk⟩
  simp only[List.cons.injEq,and_true]at hq
  rw[hq,NG]
  by_cases hlt:i<A.length
  ·rw[nD,kN (by omega),ag,U5 hlt,U5 (by omega),Vm]
   by_cases he:hasB A i=hasB B i
   ·rw[decide_eq_true he,Bool.not_true,af,cw (by omega) (by omega)]
    simp only[ab,true_and]
    refine⟨_,by omega,i+1,rfl,by omega,rfl,fun k hk'=>?_⟩
    by_cases e:k=i
    ·subst e;exact he
    ·exact hk k (by omega)
   ·rw[decide_eq_false he,Bool.not_false,ag,bo]
    rw[decide_eq_false (fun e=>he (by rw[e]))]
  ·have:i=A.length:=by omega
   subst this
   rw[nD,kp (by omega),af]
   simp only[ab,true_and]
   exact pf hAB fun k hk'=>by rw[hk k hk']
 ·rw[decide_eq_false (by omega),Bool.not_false,ag,bo,decide_eq_false (fun e=>hAB (by rw[e]))]
def OB (h:Heap) (nB:Nat) (A:List (Nat×Block)) (F:LSq):Prop:=Vs h ((nB,.arr 14 (A.map O5))::(A.map Sk++F))
section
variable {h:Heap}{F:LSq}{KH:HKq}{K:D->Prop}{nB b w k:Nat}{A:List (Nat×Block)}{B:Block}{x:aP}
theorem OB.mem (V:OB h nB A F){y:Nat×Slot}(hy:y∈F):y∈(nB,Slot.arr 14 (A.map O5))::(A.map Sk++F):=by simp[hy]
theorem OB.vs (V:OB h nB A F):Vs h ((nB,.arr 14 (A.map O5))::(A.map Sk++F)):=V
theorem OB.hB (V:OB h nB A F):h nB=.arr 14 (A.map O5):=Vs.get V 0 _ _ rfl
theorem OB.len (V:OB h nB A F){n:Nat}:aG (.ms nB 0 n) h K=K (.int .i64 (n:Int)):=by
 rw[bb,V.hB];apply propext;exact⟨fun hh=>hh.2,fun hk=>⟨rfl,hk⟩⟩
theorem OB.ia (V:OB h nB A F){n:Nat}(hb:b<n):aa PP (.iadd (.c (.ms nB 0 n)) (.c (.int .i64 (b:Int))) 14) h KH=KH (.ptr nB b 0) h:=by
 rw[Vs.ia V 0 rfl (by omega) (by omega),Int.toNat_natCast]
theorem OB.EO (V:OB h nB A F){n:Nat}(hb:b<n):ae PP (.iadd (.c (.ms nB 0 n)) (.c (.int .i64 (b:Int))) 14) h K=K (.ptr nB b 0):=by rw[mA,V.ia hb]
theorem OB.fa (V:OB h nB A F){o:Nat}:aa PP (.fadd (.c (.ptr nB b 0)) o) h KH=KH (.ptr nB b o) h:=by
 rw[jN,V.hB];apply propext;exact⟨fun hh=>by simpa using hh.2,fun hk=>⟨rfl,by simpa using hk⟩⟩
theorem OB.mz (V:OB h nB A F){o:Nat}:ae PP (.fadd (.c (.ptr nB b 0)) o) h K=K (.ptr nB b o):=V.fa (KH:=fun d _=>K d)
theorem OB.el (hA:A[b]?=some (w,B)):(A.map O5)[b]?=some (O5 (w,B)):=by rw[List.getElem?_map,hA];rfl
end
structure CO (c:Code) (nA nL nB:Nat) (sA sL sB:Slot):Prop where
 a:sA.row=some (4,c.arrays.map uQ.e)
 l:sL.row=some (3,c.loops.map Loop.e)
 b:sB.row=some (14,c.b.map Block.e)
end Go.Am
namespace Go.Am
open Go Go.Proofs
theorem vW.path {c:Code}{O O':List Nat}{at' U:List Int}(hc:bG c) (D:vW c O O' at' U){x:Nat}:x∈O↔Path (edg c) 0 x:=by
 have hnb:=hc.nb
 obtain⟨S,hv⟩:=D.b.ord
 have nd:O.Nodup:=by
  obtain⟨m,h1,e⟩:=hv
  obtain⟨N,e2,F⟩:=h1.spec (n:=c.b.length) (fun p b=>mw (gW hc)) (fun x=>mw (gW hc)) (by simp)
  have e3:O=0::N:=by
   have:=congrArg Prod.snd e
   simp only at this
   rw[this,e2];simp
  rw[e3]
  refine List.nodup_cons.2 ⟨fun h=>?_,F.nd⟩
  have h2:=(F.new 0 h).1
  simp only at h2
  rw[aT (by simp;omega)]at h2
  simp at h2
 have G:=uL.gr (at':=(List.range c.b.length).map fun x=>if x∈O then((tZ O x:Nat):Int) else -1) (gW hc) bH (by omega) ⟨S,hv⟩ (by simp) (fun i x hx=>by
  have hxO:=List.mem_of_getElem? hx
  have hxN:=D.b.lt x hxO
  rw[List.getElem?_map,List.getElem?_range hxN]
  simp[hxO,wz nd hx]) (fun x hx hn=>by
  rw[List.getElem?_map,List.getElem?_range hx]
  simp[hn])
 have e:gL (fu c)=edg c:=funext fun b=>jc
 rw[G.path,e]
inductive TT (c:Code):Ru->Prop
 | no {b:Nat}(hb:b<c.b.length) (hp:¬Path (edg c) 0 b):TT c (OH b)
 | dep {b a:Nat}{A:Block}(hb:b<c.b.length) (hp:Path (edg c) 0 b) (hd:RD c a b) (hA:c.b[a]?=some A):TT c (sQ b a A.t)
 | inst {b:Nat}{B:Block}{x:aP}(hB:c.b[b]?=some B) (hp:Path (edg c) 0 b) (hx:x∈B.i) (h0:0<=cX x.d):TT c (gF b x)
 | fin {b:Nat}{B:Block}(hB:c.b[b]?=some B) (hp:Path (edg c) 0 b) (h0:0<=cX B.t.d):TT c ⟨pW (cX B.t.d),[],true⟩
theorem jX {c:Code}{r:Ru}:r∈fo c↔TT c r:=by
 constructor
 ·intro hr
  simp only[fo,wx,gw,List.mem_flatMap,List.mem_range]at hr
  obtain⟨b,hb,hr⟩:=hr
  obtain⟨B,hB⟩:∃B,c.b[b]?=some B:=⟨c.b[b],List.getElem?_eq_getElem hb⟩
  unfold sW at hr
  cases hp:hasB (cH c) b
  ·rw[hp]at hr
   simp at hr;subst hr
   exact .no hb fun k=>by rw[(cr hb).2 k]at hp;cases hp
  ·have hp':=(cr hb).1 hp
   rw[hp,if_pos rfl,gy hB]at hr
   rcases List.mem_append.1 hr with hr|hr
   ·rcases List.mem_append.1 hr with hr|hr
    ·simp only[gG,List.mem_map]at hr
     obtain⟨a,ha,rfl⟩:=hr
     rw[ya hb]at ha
     obtain⟨haN,hd⟩:=ua.1 ha
     obtain⟨A,hA⟩:∃A,c.b[a]?=some A:=⟨c.b[a],List.getElem?_eq_getElem haN⟩
     rw[gy hA]
     exact .dep hb hp' hd hA
    ·simp only[gx,List.mem_map,List.mem_filter,decide_eq_true_eq]at hr
     obtain⟨x,⟨hx,h0⟩,rfl⟩:=hr
     exact .inst hB hp' hx h0
   ·unfold C8 at hr
    split at hr
    ·rename_i h0
     simp at hr;subst hr
     exact .fin hB hp' h0
    ·cases hr
 ·intro h
  have key:∀{b:Nat},b<c.b.length->r∈sW c (cH c) (gY c) b->r∈fo c:=fun hb hr=>List.mem_flatMap.2 ⟨_,List.mem_range.2 hb,hr⟩
  cases h with
  | @no b hb hp =>
   refine key hb ?_
   unfold sW
   have:hasB (cH c) b=false:=by
    cases h:hasB (cH c) b
    ·rfl
    ·exact absurd ((cr hb).1 h) hp
   rw[this];simp
  | @dep b a A hb hp hd hA =>
   refine key hb ?_
   unfold sW
   rw[(cr hb).2 hp,if_pos rfl]
   refine List.mem_append_left _ (List.mem_append_left _ ?_)
   simp only[gG,List.mem_map]
   refine⟨a,?_,by rw[gy hA]⟩
   rw[ya hb]
   exact ua.2 ⟨(List.getElem?_eq_some_iff.1 hA).1,hd⟩
  | @inst b B x hB hp hx h0 =>
   have hb:=(List.getElem?_eq_some_iff.1 hB).1
   refine key hb ?_
   unfold sW
   rw[(cr hb).2 hp,if_pos rfl,gy hB]
   refine List.mem_append_left _ (List.mem_append_right _ ?_)
   exact List.mem_map.2 ⟨x,List.mem_filter.2 ⟨hx,by simpa using h0⟩,rfl⟩
  | @fin b B hB hp h0 =>
   have hb:=(List.getElem?_eq_some_iff.1 hB).1
   refine key hb ?_
   unfold sW
   rw[(cr hb).2 hp,if_pos rfl,gy hB]
   refine List.mem_append_right _ ?_
   unfold C8;rw[if_pos h0];simp
end Go.Am
namespace Go.Am
open Go Go.Proofs
theorem Ez {c:Code}{O:List Nat}(hc:bG c) (ho:uL (fu c) c.b.length 0 O):O.Nodup/\∀{x:Nat},x∈O↔Path (edg c) 0 x:=by
 have hnb:=hc.nb
 obtain⟨S,hv⟩:=ho
 have hsp:O.Nodup/\∀x∈O,x<c.b.length:=by
  obtain⟨m,h1,e⟩:=hv
  obtain⟨N,e2,F⟩:=h1.spec (n:=c.b.length) (fun p b=>mw (gW hc)) (fun x=>mw (gW hc)) (by simp)
  have e3:O=0::N:=by
   have:=congrArg Prod.snd e
   simp only at this
   rw[this,e2];simp
  rw[e3]
  refine⟨List.nodup_cons.2 ⟨fun h=>?_,F.nd⟩,fun x hx=>?_⟩
  ·have h2:=(F.new 0 h).1
   simp only at h2
   rw[aT (by simp;omega)]at h2
   simp at h2
  ·rcases List.mem_cons.1 hx with rfl|hx
   ·omega
   ·exact(F.new x hx).2
 obtain⟨nd,hlt⟩:=hsp
 have G:=uL.gr (at':=(List.range c.b.length).map fun x=>if x∈O then((tZ O x:Nat):Int) else -1) (gW hc) bH (by omega) ⟨S,hv⟩ (by simp) (fun i x hx=>by
  have hxO:=List.mem_of_getElem? hx
  have hxN:=hlt x hxO
  rw[List.getElem?_map,List.getElem?_range hxN]
  simp[hxO,wz nd hx]) (fun x hx hn=>by
  rw[List.getElem?_map,List.getElem?_range hx]
  simp[hn])
 have e:gL (fu c)=edg c:=funext fun b=>jc
 exact⟨nd,fun {x}=>by rw[G.path,e]⟩
theorem FH {E:List (List Nat)}{a b:Nat}:b∈FI E (-1) a↔b∈gL E a:=by
 simp[FI]
theorem M1 {c:Code}(hc:bG c){l:List Nat}{b:Nat}(hb:b<c.b.length) (hbp:Path (edg c) 0 b) (hl:∀x∈l,x<c.b.length) (hx:∀x,Path (edg c) 0 x->qq c x=true->x∈l):hasB (jd (cB c l) b (-1)) c.b.length=true↔zx (fu c) l b:=by
 have hE:∀a t,t∈gL (cB c l) a->t<(cB c l).length:=fun a t h=>by
  rw[bu]
  rw[ff]at h
  split at h
  ·split at h
   ·simp at h;omega
   ·split at h
    ·rcases List.mem_append.1 h with h|h
     ·have:=dn hc h;omega
     ·simp at h;omega
    ·have:=dn hc h;omega
  ·cases h
 have eG:gL (fu c)=edg c:=funext fun b=>jc
 rw[zS hE (by rw[bu];omega) (by omega)]
 unfold zx
 rw[eG]
 constructor
 ·intro h
  have key:∀k,Path (FI (cB c l) (-1)) b k->(k<c.b.length/\Path (edg c) b k)\/(k=c.b.length/\∃x,x∈l/\Path (edg c) b x):=by
   intro k hk
   induction hk with
   | refl=>exact Or.inl ⟨hb,.refl⟩
   | @step a t _ e ih =>
    rw[FH,ff]at e
    rcases ih with⟨h1,h2⟩|⟨rfl,-⟩
    ·rw[if_pos h1]at e
     split at e
     ·rename_i hex
      simp at e;subst e
      exact Or.inr ⟨rfl,a,hx a (Ey hbp h2) hex,h2⟩
     ·split at e
      ·rename_i hal
       rcases List.mem_append.1 e with e|e
       ·exact Or.inl ⟨dn hc e,.step h2 e⟩
       ·simp at e;subst e
        exact Or.inr ⟨rfl,a,hal,h2⟩
      ·exact Or.inl ⟨dn hc e,.step h2 e⟩
    ·rw[if_neg (by omega)]at e;cases e
  rcases key _ h with⟨h1,-⟩|⟨-,h⟩
  ·omega
  ·exact h
 ·rintro⟨x,hxl,hp⟩
  have key:∀k,Path (edg c) b k->Path (FI (cB c l) (-1)) b k:=by
   intro k hk
   induction hk with
   | refl=>exact .refl
   | @step a t h e ih =>
    refine .step ih (FH.2 ?_)
    have ha:a<c.b.length:=by
     unfold edg at e
     cases hB:c.b[a]? with
     | none=>rw[hB]at e;cases e
     | some B=>exact(List.getElem?_eq_some_iff.1 hB).1
    rw[ff,if_pos ha]
    split
    ·rename_i hex;rw[Jz hex]at e;cases e
    ·split
     ·exact List.mem_append_left _ e
     ·exact e
  refine .step (key x hp) (FH.2 ?_)
  rw[ff,if_pos (hl x hxl)]
  split
  ·simp
  ·first|(rw[if_pos hxl];simp)|simp
open Classical in
noncomputable def oG (c:Code) (i:Nat):List (List Nat):=((List.range c.b.length).map fun b=>if qq c b=true/\b<i then [c.b.length] else edg c b)++[[]]
theorem sO {c:Code}{i:Nat}:(oG c i).length=c.b.length+1:=by simp[oG]
theorem uc {c:Code}{i b:Nat}(h:b<c.b.length):gL (oG c i) b=if qq c b=true/\b<i then [c.b.length] else edg c b:=by
 unfold gL oG
 rw[List.getElem?_append_left (by simpa using h),List.getElem?_map,List.getElem?_range h]
 simp
theorem pg {c:Code}{i b:Nat}(h:¬b<c.b.length):gL (oG c i) b=[]:=by
 unfold gL oG
 rw[List.getElem?_append_right (by simpa using (by omega:c.b.length<=b))]
 simp only[List.length_map,List.length_range]
 cases hk:b-c.b.length with
 | zero=>rfl
 | succ k=>rfl
theorem FB {E:List (List Nat)}{i b:Nat}{l:List Nat}(hi:i<E.length):gL (E.set i l) b=if b=i then l else gL E b:=by
 unfold gL
 rw[List.getElem?_set]
 by_cases h:i=b
 ·subst h;simp[hi]
 ·rw[if_neg h,if_neg (fun e=>h e.symm)]
theorem RB {c:Code}:oG c 0=fu c++[[]]:=by
 refine jb (by simp[oG,fu]) fun b hb=>?_
 by_cases h:b<c.b.length
 ·rw[uc h,if_neg (by omega)]
  unfold gL
  rw[List.getElem?_append_left (by rw[bH];exact h),Cd h];rfl
 ·rw[pg h]
  unfold gL
  rw[List.getElem?_append_right (by rw[bH];omega),bH]
  rw[sO]at hb
  have:b-c.b.length=0:=by omega
  rw[this];rfl
theorem Kz {c:Code}{i:Nat}(h:qq c i≠true):oG c (i+1)=oG c i:=by
 refine jb (by simp[oG]) fun b hb=>?_
 by_cases hb':b<c.b.length
 ·rw[uc hb',uc hb']
  by_cases e:b=i
  ·subst e;rw[if_neg (fun k=>h k.1),if_neg (fun k=>h k.1)]
  ·by_cases k:qq c b=true/\b<i
   ·rw[if_pos k,if_pos ⟨k.1,by omega⟩]
   ·rw[if_neg k,if_neg fun q=>k ⟨q.1,by omega⟩]
 ·rw[pg hb',pg hb']
theorem M4 {c:Code}{i:Nat}(hi:i<c.b.length) (h:qq c i=true):(oG c i).set i [c.b.length]=oG c (i+1):=by
 refine jb (by simp[oG]) fun b hb=>?_
 rw[FB (by rw[sO];omega)]
 by_cases hb':b<c.b.length
 ·rw[uc hb',uc hb']
  by_cases e:b=i
  ·subst e;rw[if_pos rfl,if_pos ⟨h,by omega⟩]
  ·rw[if_neg e]
   by_cases k:qq c b=true/\b<i
   ·rw[if_pos k,if_pos ⟨k.1,by omega⟩]
   ·rw[if_neg k,if_neg fun q=>k ⟨q.1,by omega⟩]
 ·rw[if_neg (by omega),pg hb',pg hb']
theorem KA {c:Code}{O:List Nat}:oG c c.b.length=cB c (O.filter (qq c)):=by
 refine jb (by rw[sO,bu]) fun b hb=>?_
 by_cases hb':b<c.b.length
 ·rw[uc hb',ff,if_pos hb']
  by_cases h:qq c b=true
  ·rw[if_pos ⟨h,hb'⟩,if_pos h]
  ·rw[if_neg (fun k=>h k.1),if_neg h,if_neg (fun k=>h (List.mem_filter.1 k).2)]
 ·rw[pg hb',ff,if_neg hb']
theorem M3 {c:Code}{l:List Nat}{b:Nat}(hb:b<c.b.length) (h:qq c b≠true):(cB c l).set b (edg c b++[c.b.length])=cB c (l++[b]):=by
 refine jb (by simp[cB]) fun k hk=>?_
 rw[FB (by rw[bu];omega),ff,ff]
 by_cases e:k=b
 ·subst e
  rw[if_pos rfl,if_pos hb,if_neg h,if_pos (by simp)]
 ·rw[if_neg e]
  have:k∈l++[b]↔k∈l:=by simp[e]
  simp only[this]
end Go.Am
namespace Go.Am
open Go Go.Proofs
structure LM (E:List (List Nat)) (els:List D) (W:LSq):Prop where
 len:els.length=E.length
 el:∀(b:Nat) (e:D) (l:List Nat),els[b]?=some e->E[b]?=some l->e.one=true/\BG W e l
section
variable {h:Heap}{L W:LSq}{E:List (List Nat)}{els:List D}{m:Nat}{KH:HKq}
theorem LM.lr (x:LM E els W):LR ((m,.arr 1 els)::W) (.ms m 0 E.length) E :=
 Or.inr ⟨m,els,rfl,by simp,x.len,fun b e l h1 h2=>by
  obtain⟨h3,h4⟩:=x.el b e l h1 h2
  exact⟨h3,h4.mono fun y hy=>by simp[hy]⟩⟩
theorem LM.one (x:LM E els W):∀y∈els,y.one=true:=fun y hy=>by
 obtain⟨b,hb⟩:=List.getElem?_of_mem hy
 have hl:=(List.getElem?_eq_some_iff.1 hb).1
 exact(x.el b y (E[b]'(by rw[<- x.len];exact hl)) hb (List.getElem?_eq_getElem _)).1
theorem LM.data:LM E (E.map fun l=>.sl (aV l)) []:=by
 refine⟨by simp,fun b e l h1 h2=>?_⟩
 rw[List.getElem?_map,h2]at h1
 cases h1
 exact⟨rfl,Or.inr (Or.inl rfl)⟩
theorem LM.set (x:LM E els W){b n:Nat}{l:List Nat}(hb:b<E.length):LM (E.set b l) (els.set b (.ms n 0 l.length)) ((n,.arr 1 (aV l))::W):=by
 refine⟨by simp[x.len],fun k e l' h1 h2=>?_⟩
 rw[List.getElem?_set]at h1 h2
 by_cases hk:b=k
 ·subst hk
  rw[if_pos rfl,if_pos (by rw[x.len];exact hb)]at h1
  rw[if_pos rfl,if_pos hb]at h2
  cases h1;cases h2
  exact⟨rfl,Or.inr (Or.inr ⟨n,rfl,by simp⟩)⟩
 ·rw[if_neg hk]at h1 h2
  obtain⟨h3,h4⟩:=x.el k e l' h1 h2
  exact⟨h3,h4.mono fun y hy=>by simp[hy]⟩
theorem BG.Qt {v:D}{l:List Nat}(V:Vs h L) (w:BG L v l){K:List D->Prop}(hk:K (aV l)):velems 1 v h K:=by
 rcases w with⟨rfl,rfl⟩|rfl|⟨n,rfl,hn⟩
 ·exact hk
 ·exact Lv hk
 ·exact⟨aV l,by rw[V.mem hn];rfl,by rw[aQ];omega,by rw[List.drop_zero,List.take_of_length_le (by rw[aQ];omega)];exact hk⟩
theorem Vs.UI {w:Nat}{z:D}(V:Vs h ((w,.arr 1 [])::L)) (hK:∀n h',Vs h' ((n,.arr 1 [.sl []])::L)->KH (.ms n 0 1) h'):aa PP (.bldS true 1 1 z [(0,.c (.ms w 0 0))]) h KH:=by
 have hw:=V.get 0 _ _ rfl
 have hrow:(h w).row=some (1,[]):=by rw[hw];rfl
 refine⟨fun p hp=>by
  simp[Arg.get]at hp;subst hp
  exact⟨Nat.one_pos,rfl,fun x hx=>by simp[D.cells]at hx;subst hx;rfl⟩,fun _ p hp=>?_,fun n t0=>?_⟩
 ·simp[Arg.get]at hp;subst hp
  intro x hx
  simp only[D.cells,List.mem_singleton]at hx;subst hx
  exact⟨1,[],hrow,by simp,fun x hx=>by simp at hx⟩
 ·have gk:(au h w (.frz 1 [])) n=.free:=by
   have:n≠w:=by rintro rfl;rw[t0.free]at hw;cases hw
   rw[ai _ _ this];exact t0.free
  have V1:=(V.bX 0 (s':=.frz 1 []) rfl (by simp)).pop
  have:=hK n _ (V1.push gk (s:=.arr 1 [.sl []]) (by simp))
  simpa[Arg.get,Heap.freezeAll,Heap.freeze,hw,setEls,D.fz,D.fzc,D.nm,D.jA,Slot.row] using this
end
section
variable {c:Code}{O:List Nat}{h:Heap}{L W:LSq}{els:List D}{m n2:Nat}
theorem M5 (hc:bG c) (h2:(n2,.box c.e)∈L) (x:LM (oG c 0) els W) (V:Vs h ((m,.arr 1 els)::(W++L))){J:HJq}(hJ:∀h' els' W',LM (oG c c.b.length) els' W'->Vs h' ((m,.arr 1 els')::(W'++L))->J [] h'){a21:D} :
  js h (.int .i64 (c.b.length:Int)) (.ptr n2 0 0) (.ms m 0 (c.b.length+1)) a21 J:=by
 have hnb:=hc.nb
 unfold js
 refine⟨fun k q h'=>∃(i:Nat) (els:List D) (W:LSq),q=[nD i]/\i<=c.b.length/\k=c.b.length-i/\LM (oG c i) els W/\Vs h' ((m,.arr 1 els)::(W++L)),_,⟨0,els,W,rfl,by omega,rfl,x,V⟩,?_⟩
 rintro k f h1 ⟨i,els1,W1,hq,hi,hk,x1,V1⟩
 simp only[List.cons.injEq,and_true]at hq
 simp only[hq,nD]
 by_cases hlt:i<c.b.length
 ·rw[kN (by omega),ag]
  obtain⟨B,hB⟩:∃B,c.b[i]?=some B:=⟨c.b[i],List.getElem?_eq_getElem hlt⟩
  have hex:qq c i=decide (B.t.kind=5):=FJ hB
  refine⟨fun _ h'=>∃(els:List D) (W:LSq),LM (oG c (i+1)) els W/\Vs h' ((m,.arr 1 els)::(W++L)),?_,?_⟩
  ·rintro f' h' ⟨els2,W2,x2,V2⟩
   rw[cw (by omega) (by omega)]
   simp only[ab,true_and]
   exact⟨_,by omega,i+1,els2,W2,rfl,by omega,rfl,x2,V2⟩
  rw[V1.EI (s:=.box c.e) (by simp[h2]),V1.pe (cs:=[.int .i64 c.group,.int .i64 c.sub,.int .i64 c.regs,.int .i64 c.slots,.int .i64 c.params,.sl (c.arrays.map uQ.e),.sl (c.loops.map Loop.e),.sl (c.b.map Block.e)]) (j:=0+7) (by simp only[List.mem_cons,List.mem_append];exact Or.inr (Or.inr h2)) rfl,w9 hB,Ky,U4,show B.e=.agg (.sl (B.i.map aP.e)::B.t.cs) from rfl,Rf (e:=.int .i64 B.t.kind) rfl,bY]
  by_cases h5:B.t.kind=5
  ·rw[decide_eq_true h5,ag]
   rw[decide_eq_true h5]at hex
   refine V1.TI (d:=nD c.b.length) aO rfl fun n97 h98 V98=>?_
   have V98':Vs h98 ((m,.arr 1 els1)::(n97,.arr 1 [nD c.b.length])::(W1++L)):=V98.swap
   rw[V98'.ia 0 rfl (by omega) (by omega),Int.toNat_natCast]
   refine V98'.rG 0 rfl (by rw[x1.len,sO];omega) rfl x1.one fun h102 V102=>?_
   simp only[List.set_cons_zero]at V102
   simp only[ab,true_and]
   refine⟨_,(n97,.arr 1 (aV [c.b.length]))::W1,?_,V102⟩
   have:=x1.set (b:=i) (n:=n97) (l:=[c.b.length]) (by rw[sO];omega)
   rw[M4 hlt hex]at this
   exact this
  ·rw[decide_eq_false h5,af]
   rw[decide_eq_false h5]at hex
   simp only[ab,true_and]
   exact⟨els1,W1,by rw[Kz (by rw[hex];simp)];exact x1,V1⟩
 ·have:i=c.b.length:=by omega
  subst this
  rw[kp (by omega),af]
  simp only[ab,true_and]
  exact hJ h1 els1 W1 x1 V1
theorem O4 (hc:bG c) (ho:uL (fu c) c.b.length 0 O) (x:LM (cB c (O.filter (qq c))) els W) (V:Vs h ((m,.arr 1 els)::(W++L))){J:HJq}(hJ:∀h' els' W',LM (cB c (cM c O)) els' W'->Vs h' ((m,.arr 1 els')::(W'++L))->J [] h') :
  jt (.int .i64 ((O.length:Int)-1)) h (.ms m 0 (c.b.length+1)) (.int .i64 (c.b.length:Int)) (.sl (aV O)) J:=by
 have hnb:=hc.nb
 obtain⟨hnd,hpath⟩:=Ez hc ho
 have hOlt:∀x∈O,x<c.b.length:=fun x hx=>by
  have:=hpath.1 hx
  clear hx
  induction this with
  | refl=>omega
  | step _ e _=>exact dn hc e
 have hOl:O.length<=20:=Nat.le_trans (o6 hnd hOlt) hnb.2
 unfold jt
 refine⟨fun k q h'=>∃(l:List Nat) (els:List D) (W:LSq),q=[.int .i64 ((k:Int)-1)]/\k<=O.length/\(∀x,x∈O.filter (qq c)->x∈l)/\(∀x∈l,x∈O)/\endF (fu c) (O.take k).reverse l=cM c O/\LM (cB c l) els W/\Vs h' ((m,.arr 1 els)::(W++L)),O.length,
  ⟨O.filter (qq c),els,W,rfl,by omega,fun x hx=>hx,fun x hx=>(List.mem_filter.1 hx).1,by rw[List.take_length];rfl,x,V⟩,?_⟩
 rintro k f h1 ⟨l,els1,W1,hq,hk,hl1,hl2,hend,x1,V1⟩
 simp only[List.cons.injEq,and_true]at hq
 simp only[hq]
 cases k with
 | zero =>
  rw[UZ (by omega),af]
  simp only[ab,true_and]
  simp only[List.take_zero,List.reverse_nil,endF]at hend
  subst hend
  exact hJ h1 els1 W1 x1 V1
 | succ k =>
  have ek:((k+1:Nat):Int)-1=(k:Int):=by omega
  rw[ek,UY (by omega),ag]
  obtain⟨b,hb⟩:∃b,O[k]?=some b:=⟨O[k]'(by omega),List.getElem?_eq_getElem _⟩
  have hbO:=List.mem_of_getElem? hb
  have hbN:=hOlt b hbO
  have htk:(O.take (k+1)).reverse=b::(O.take k).reverse:=by rw[List.take_add_one,hb];simp
  rw[htk]at hend
  refine⟨fun _ h'=>∃(l:List Nat) (els:List D) (W:LSq),(∀x,x∈O.filter (qq c)->x∈l)/\(∀x∈l,x∈O)/\endF (fu c) (O.take k).reverse l=cM c O/\LM (cB c l) els W/\Vs h' ((m,.arr 1 els)::(W++L)),?_,?_⟩
  ·rintro f' h' ⟨l2,els2,W2,g1,g2,g3,g4,g5⟩
   rw[Ea (by omega) (by omega)]
   simp only[ab,true_and]
   exact⟨k,by omega,l2,els2,W2,rfl,by omega,g1,g2,g3,g4,g5⟩
  refine TY hb ?_
  have hEl:∀e,e∈cB c l->(∀y∈e,y<(cB c l).length)/\e.length<=1000:=fun e he=>by
   obtain⟨a,ha⟩:=List.getElem?_of_mem he
   have ea:gL (cB c l) a=e:=by unfold gL;rw[ha];rfl
   rw[ff]at ea
   rw[bu]
   have e2:(edg c a).length<=2:=nw
   split at ea
   ·split at ea
    ·subst ea;exact⟨fun y hy=>by simp at hy;omega,by simp⟩
    ·split at ea
     ·subst ea
      refine⟨fun y hy=>?_,by simp;omega⟩
      rcases List.mem_append.1 hy with hy|hy
      ·have:=dn hc hy;omega
      ·simp at hy;omega
     ·subst ea
      exact⟨fun y hy=>by have:=dn hc hy;omega,by omega⟩
   ·subst ea;exact⟨fun y hy=>(by cases hy),by simp⟩
  have V1':Vs h1 ((((m,.arr 1 els1)::W1))++L):=V1
  have wE:LR (((m,.arr 1 els1)::W1)++L) (.ms m 0 (c.b.length+1)) (cB c l):=by
   have:=x1.lr (m:=m)
   rw[bu]at this
   exact this.mono fun y hy=>List.mem_append_left _ hy
  refine IJ V1' wE (by rw[bu];omega) (fun e he=>(hEl e he).1) (by rw[bu];omega) (fun e he=>(hEl e he).2) fun n5 h45 V45=>?_
  have hfl:(jd (cB c l) b (-1)).length=c.b.length+1:=by
   rw[zR fun x y hxy=>?_,bu]
   have:gL (cB c l) x∈cB c l\/gL (cB c l) x=[]:=by
    unfold gL
    cases h:(cB c l)[x]? with
    | none=>exact Or.inr rfl
    | some e=>exact Or.inl (List.mem_of_getElem? h)
   rcases this with h|h
   ·exact(hEl _ h).1 y hxy
   ·rw[h]at hxy;cases hxy
  rw[bu,V45.ia 0 rfl (by omega) (by omega),Int.toNat_natCast,V45.uV 0 rfl (ca (aR (by rw[hfl];omega))) rfl]
  have V46:Vs h45 ((m,.arr 1 els1)::(W1++L)):=V45.pop
  have hiff:=M1 hc hbN (hpath.1 hbO) (fun x hx=>hOlt x (hl2 x hx)) (fun x hx he=>hl1 x (List.mem_filter.2 ⟨hpath.2 hx,he⟩))
  rw[cD]
  cases hr:hasB (jd (cB c l) b (-1)) c.b.length
  ·rw[Bool.not_false,ag]
   have hnr:¬zx (fu c) l b:=fun k=>by rw[hiff.2 k]at hr;cases hr
   have hbl:b∉l:=fun h=>hnr ⟨b,h,.refl⟩
   have hbx:qq c b≠true:=fun h=>hbl (hl1 b (List.mem_filter.2 ⟨hbO,h⟩))
   rw[GY hnr]at hend
   have hEb:(cB c l)[b]?=some (edg c b):=by
    have:b<(cB c l).length:=by rw[bu];omega
    have e:=ff (c:=c) (l:=l) (b:=b)
    rw[if_pos hbN,if_neg hbx,if_neg hbl]at e
    unfold gL at e
    rw[List.getElem?_eq_getElem this]at e ⊢
    simp only[Option.getD_some]at e
    rw[e]
   have hel:b<els1.length:=by rw[x1.len,bu];omega
   obtain⟨e,he⟩:∃e,els1[b]?=some e:=⟨els1[b],List.getElem?_eq_getElem hel⟩
   obtain⟨he1,hew⟩:=x1.el b e _ he hEb
   have dO:∀{h:Heap}{K:D->Prop},ae PP (.iadd (.c (.sl (aV O))) (.c (.int .i64 (k:Int))) 1) h K=K (.vp (nD b) 0):=fun {h K}=>KD (by omega) (by rw[Int.toNat_natCast];exact fH hb) rfl
   have dm:∀{h:Heap}{X:LSq}{K:D->Prop},Vs h (X++(m,.arr 1 els1)::(W1++L))->ae PP (.iadd (.c (.ms m 0 (c.b.length+1))) (.c (nD b)) 1) h K=K (.ptr m b 0):=fun {h X K} V=>by
    have ix:(X++(m,Slot.arr 1 els1)::(W1++L))[X.length]?=some (m,.arr 1 els1):=by rw[List.getElem?_append_right (Nat.le_refl _),Nat.sub_self];rfl
    rw[nD,V.EO _ ix (by omega) (by omega),Int.toNat_natCast]
   have dl:∀{h:Heap}{X:LSq}{K:D->Prop},Vs h (X++(m,.arr 1 els1)::(W1++L))->ae PP (.ld (.c (.ptr m b 0)) 1 false) h K=K e:=fun {h X K} V=>by
    have ix:(X++(m,Slot.arr 1 els1)::(W1++L))[X.length]?=some (m,.arr 1 els1):=by rw[List.getElem?_append_right (Nat.le_refl _),Nat.sub_self];rfl
    rw[V.Bu _ ix he he1]
   have V46':Vs h45 ([]++(m,.arr 1 els1)::(W1++L)):=V46
   have ldn:∀{h:Heap}{K:D->Prop},ae PP (.ld (.c (.vp (nD b) 0)) 1 false) h K=K (nD b):=fun {h K}=>EN rfl
   simp only[↓dO,↓ldn,↓dm V46',↓dl V46']
   refine Ii ?_
   have e2:(edg c b).length<=2:=nw
   refine V46.IB fun n58 h59 V59=>?_
   have V59':Vs h59 ([(n58,.arr 1 [])]++(m,.arr 1 els1)::(W1++L)):=V59
   refine⟨by simp only[↓dO,↓ldn,↓dm V59',↓dl V59',ab,and_self],?_⟩
   refine V59.FZ (els:=[]) (ys:=aV (edg c b)) (fun {K} hk=>BG.Qt V59 (hew.mono fun y hy=>by simp[hy]) hk) (fun y hy=>qi y hy) (by rw[aQ];simp;omega) (by rw[aQ];simp;omega) fun n66 h67 V67=>?_
   simp only[List.nil_append,List.length_nil,Nat.zero_add]at V67 ⊢
   have V67':Vs h67 ([(n66,.arr 1 (aV (edg c b)))]++(m,.arr 1 els1)::(W1++L)):=V67
   refine⟨by simp only[↓dO,↓ldn,↓dm V67',↓dl V67',ab,and_self],?_⟩
   refine V67.FZ (ys:=aV [c.b.length]) (fun {K} hk=>Lv hk) (fun y hy=>qi y hy) (by rw[aQ,aQ];simp;omega) (by rw[aQ,aQ];simp;omega) fun n70 h71 V71=>?_
   have V71':Vs h71 ([(n70,.arr 1 (aV (edg c b)++aV [c.b.length]))]++(m,.arr 1 els1)::(W1++L)):=V71
   refine⟨by simp only[↓dO,↓ldn,↓dm V71',↓dl V71',ab,and_self],?_⟩
   rw[dm V71']
   have V72:=V71.swap
   refine V72.rG 0 rfl hel rfl x1.one fun h76 V76=>?_
   simp only[List.set_cons_zero]at V76
   simp only[ab,true_and]
   have eN:aV (edg c b)++aV [c.b.length]=aV (edg c b++[c.b.length]):=by simp[aV]
   have eL:(aV (edg c b)).length+(aV [c.b.length]).length=(edg c b++[c.b.length]).length:=by simp[aV]
   rw[eN,eL]at V76
   refine⟨l++[b],_,(n70,.arr 1 (aV (edg c b++[c.b.length])))::W1,fun x hx=>by simp[hl1 x hx],fun x hx=>?_,hend,?_,V76⟩
   ·rcases List.mem_append.1 hx with hx|hx
    ·exact hl2 x hx
    ·simp at hx;subst hx;exact hbO
   ·have:=x1.set (b:=b) (n:=n70) (l:=edg c b++[c.b.length]) (by rw[bu];omega)
    rw[M3 hbN hbx]at this
    exact this
  ·rw[Bool.not_true,af]
   simp only[ab,true_and]
   have hyr:=hiff.1 hr
   refine⟨l,els1,W1,hl1,hl2,?_,x1,V46⟩
   rw[<- hend,endF,if_pos (by simpa using hyr)]
end
theorem PL {c:Code}(hc:bG c){h:Heap}{L:LSq}{KH:HKq}(V0:Vs h L) (hK:∀O m X h',uL (fu c) c.b.length 0 O->Vs h' (X++L)->LR X (.ms m 0 (c.b.length+1)) (cB c (cM c O))->KH (.ms m 0 (c.b.length+1)) h'):ah PP oA [c.e] h KH:=by
 have hnb:=hc.nb
 refine aL y4 (aD _ _ _) rfl (yz _ _) ?_
 unfold tg
 refine V0.box c.db.one fun n2 h3 V3=>?_
 rw[show aa PP (.ld (.c (.ptr n2 0 0)) 8 true) h3=fun KH=>KH c.e h3 from funext fun KH=>V3.lu 0 rfl rfl]
 refine JO hc V3 fun m0 h7 V7=>?_
 refine V7.IB fun n8 h9 V9=>?_
 refine V9.UI fun n10 h11 V11=>?_
 have r10:=V11.get 0 _ _ rfl
 have hlen:((fu c).map fun l=>D.sl (aV l)).length=c.b.length:=by rw[List.length_map,bH]
 rw[show D.ms m0 0 c.b.length=.ms m0 0 ((fu c).map fun l=>D.sl (aV l)).length by rw[hlen]]
 refine Vs.FZ (ys:=[.sl []]) V11.swap (fun hk=>⟨[.sl []],by rw[r10];rfl,by simp,hk⟩) (fun y hy=>by simp at hy;subst hy;intro z hz;simp[D.cells]at hz;subst hz;rfl) (by rw[hlen];simp;omega) (by rw[hlen];simp;omega) fun m h13 V13=>?_
 rw[hlen]
 have V13':Vs h13 ((m,.arr 1 ((oG c 0).map fun l=>.sl (aV l)))::(([]:LSq)++(n2,.box c.e)::L)):=by
  have:=V13.erase 1
  simp only[List.eraseIdx_cons_succ,List.eraseIdx_cons_zero]at this
  rw[RB]
  simpa[aV] using this
 rw[V13'.EI (s:=.box c.e) (by simp),V13'.pe (cs:=[.int .i64 c.group,.int .i64 c.sub,.int .i64 c.regs,.int .i64 c.slots,.int .i64 c.params,.sl (c.arrays.map uQ.e),.sl (c.loops.map Loop.e),.sl (c.b.map Block.e)]) (j:=0+7) (by simp only[List.mem_cons,List.mem_append];exact Or.inr (Or.inr (Or.inl rfl))) rfl,br,List.length_map,V13'.lu 1 (s:=8) rfl rfl,show D.agg [.int .i64 c.group,.int .i64 c.sub,.int .i64 c.regs,.int .i64 c.slots,.int .i64 c.params,.sl (c.arrays.map uQ.e),.sl (c.loops.map Loop.e),.sl (c.b.map Block.e)]=c.e from rfl]
 refine bT (Pp hc) (fun d hd=>by simp at hd;subst hd;exact c.db.pair) ?_
 rintro _ ⟨O,ho,rfl⟩
 refine⟨fun _ h'=>∃els W,LM (oG c c.b.length) els W/\Vs h' ((m,.arr 1 els)::(W++(n2,.box c.e)::L)),?_,M5 hc (by simp) LM.data V13' fun h' els W x V=>⟨els,W,x,V⟩⟩
 rintro f h25 ⟨els,W,x,V25⟩
 refine⟨fun _ h'=>∃els W,LM (cB c (cM c O)) els W/\Vs h' ((m,.arr 1 els)::(W++(n2,.box c.e)::L)),?_,?_⟩
 ·rintro f2 h28 ⟨els2,W2,x2,V28⟩
  have wl:=x2.lr (m:=m)
  rw[bu]at wl
  refine hK O m ((m,.arr 1 els2)::W2) h28 ho ?_ wl
  exact V28.sub (.cons_cons _ (List.Sublist.append (.refl _) (List.sublist_cons_self _ _)))
 rw[CQ]
 have hO1:O.length<=1000000:=by
  obtain⟨hnd,hpath⟩:=Ez hc ho
  have:O.length<=c.b.length:=o6 hnd fun x hx=>by
   have:=hpath.1 hx
   clear hx
   induction this with
   | refl=>omega
   | step _ e _=>exact dn hc e
  omega
 rw[Ea (by omega) (by omega)]
 rw[KA (O:=O)]at x
 exact O4 hc ho x V25 fun h' els W x V=>⟨els,W,x,V⟩
end Go.Am
namespace Go.Am
open Go Go.Proofs
theorem PO {F:List (List Nat)}{a b:Nat}{h:Heap}{L:LSq}{vF:D}{KH:HKq}(V:Vs h L) (wF:LR L vF F) (hF:1<=F.length/\F.length<=1000) (hE:∀l∈F,(∀x∈l,x<F.length)/\l.length<=1000) (ha:a<F.length)
  (hK:∀h',Vs h' L->KH (.bool (oN F a b)) h'):ah PP cT [vF,nD a,nD b] h KH:=by
 have hgE:∀x y,y∈gL F x->y<F.length:=fun x y=>mw hE
 refine aL Aq (aD _ _ _) rfl (Ae _ _ _ _) ?_
 unfold ve
 rw[nD,nD,bY]
 by_cases hab:a=b
 ·rw[decide_eq_true (by omega)]
  simp only[pX (P:=PP),bE,if_true]
  have:=hK h V
  unfold oN at this;rw[decide_eq_true hab]at this
  exact this
 ·rw[decide_eq_false (by omega)]
  simp only[xt (P:=PP)]
  refine IJ (s:=a) (w:=(b:Int)) V wF hF.2 (fun l hl=>(hE l hl).1) ha (fun l hl=>(hE l hl).2) fun n h' V'=>?_
  have hlt:F.length-1<(jd F a (b:Int)).length:=by rw[zR hgE];omega
  rw[LR.len V' (wF.mono fun x hx=>List.mem_cons_of_mem _ hx),Ea (by omega) (by omega),show((F.length:Int)-1)=((F.length-1:Nat):Int) by omega,V'.ia 0 rfl (by omega) (by omega),Int.toNat_natCast,V'.uV 0 rfl (ca (aR hlt)) rfl,cD,bE]
  simp only[Bool.false_eq_true,if_false]
  have:=hK h' V'.pop
  unfold oN at this;rw[decide_eq_false hab,Bool.false_or]at this
  exact this
noncomputable def uC (c:Code) (O:List Nat) (a b:Nat):Bool:=hasB (cH c) a&&hasB (cH c) b&&decide ((edg c a).length=2)&&(decide (a=b) || !oN (cB c (cM c O)) a b)&&(edg c a).any fun t=>oN (cB c (cM c O)) t b
theorem G2 {c:Code}(hc:bG c){O O':List Nat}{at' U:List Int}(D:vW c O O' at' U){a b:Nat}(ha:a<c.b.length) (hb:b<c.b.length):uC c O a b=true↔RD c a b:=by
 rw[JB hc D]
 unfold uC G1
 simp only[Bool.and_eq_true,Bool.or_eq_true,decide_eq_true_eq,List.any_eq_true,Bool.not_eq_true']
 rw[cr ha,cr hb]
 have key:∀{t:Nat},t∈edg c a->Path (edg c) 0 a->(oN (cB c (cM c O)) t b=true↔Dm c.b.length (pB c O O') b t):=fun ht hp=>FK hc D ((D.path hc).2 (.step hp ht)) hb
 constructor
 ·rintro⟨⟨⟨⟨h1,h2⟩,h3⟩,h4⟩,t,ht,h5⟩
  refine⟨(D.path hc).2 h1,h3,⟨t,ht,(key ht h1).1 h5⟩,?_⟩
  rcases h4 with h4|h4
  ·exact Or.inl h4.symm
  ·refine Or.inr fun k=>?_
   rw[(FK hc D ((D.path hc).2 h1) hb).2 k]at h4;cases h4
 ·rintro⟨h1,h3,⟨t,ht,h5⟩,h4⟩
  have hp:=(D.path hc).1 h1
  have htO:t∈O:=(D.path hc).2 (.step hp ht)
  have hbO:Path (edg c) 0 b:=by
   by_cases hbO:b∈O
   ·exact(D.path hc).1 hbO
   ·exfalso
    have hch:=(D.u.ch t b (D.b.all t htO)).2 h5
    have key:∀{x y:Nat},Ch c.b.length (upF U) x y->upF U x≠none->upF U y≠none:=fun h=>by
     induction h with
     | refl _=>exact id
     | step _ hy _ ih=>exact fun _=>ih (D.u.tr.nd _ _ hy).2
    have hub:=key hch (D.u.al t (D.b.all t htO))
    obtain⟨z,hz⟩:∃z,upF U b=some z:=by
     cases hu:upF U b with
     | none=>exact absurd hu hub
     | some z=>exact⟨z,rfl⟩
    exact hbO ((D.mem hc hb).1 (D.u.tr.nd b z hz).1)
  refine⟨⟨⟨⟨hp,hbO⟩,h3⟩,?_⟩,t,ht,(key ht hp).2 h5⟩
  rcases h4 with h4|h4
  ·exact Or.inl h4.symm
  ·refine Or.inr ?_
   cases hh:oN (cB c (cM c O)) a b
   ·rfl
   ·exact absurd ((FK hc D h1 hb).1 hh) h4
noncomputable def zX (c:Code) (O:List Nat) (b k:Nat):List Nat:=(List.range k).filter fun a=>uC c O a b
theorem ER {c:Code}{O:List Nat}{b k:Nat}:zX c O b (k+1)=if uC c O k b=true then zX c O b k++[k] else zX c O b k:=by
 unfold zX
 rw[List.range_succ,List.filter_append]
 cases h:uC c O k b<;>simp[h]
theorem KF {c:Code}(hc:bG c){O O':List Nat}{at' U:List Int}(D:vW c O O' at' U){b:Nat}(hb:b<c.b.length):zX c O b c.b.length=gL (gY c) b:=by
 rw[ya hb]
 unfold zX Jp
 refine List.filter_congr fun a ha=>?_
 have:=G2 hc D (List.mem_range.1 ha) hb
 rw[Bool.eq_iff_iff,this];simp
noncomputable def iJ (c:Code) (O:List Nat) (i k:Nat):List (List Nat):=(List.range c.b.length).map fun b=>if b<i then gL (gY c) b else if b=i then zX c O b k else []
theorem kx {c:Code}{O:List Nat}{i k:Nat}:(iJ c O i k).length=c.b.length:=by simp[iJ]
theorem lY {c:Code}{O:List Nat}{i k b:Nat}(hb:b<c.b.length):gL (iJ c O i k) b=if b<i then gL (gY c) b else if b=i then zX c O b k else []:=by
 unfold gL iJ
 rw[List.getElem?_map,List.getElem?_range hb];rfl
theorem RG {c:Code}{O:List Nat}:iJ c O 0 0=List.replicate c.b.length []:=by
 refine jb (by simp[iJ]) fun b hb=>?_
 rw[kx]at hb
 rw[lY hb,if_neg (by omega)]
 have:gL (List.replicate c.b.length ([]:List Nat)) b=[]:=by unfold gL;rw[List.getElem?_replicate,if_pos hb];rfl
 rw[this]
 split
 ·simp[zX]
 ·rfl
theorem KI {c:Code}(hc:bG c){O O':List Nat}{at' U:List Int}(D:vW c O O' at' U){i:Nat}:iJ c O i c.b.length=iJ c O (i+1) 0:=by
 refine jb (by simp[iJ]) fun b hb=>?_
 rw[kx]at hb
 rw[lY hb,lY hb]
 by_cases h1:b<i
 ·rw[if_pos h1,if_pos (by omega)]
 ·rw[if_neg h1]
  by_cases h2:b=i
  ·subst h2;rw[if_pos rfl,if_pos (by omega),KF hc D hb]
  ·rw[if_neg h2,if_neg (by omega)]
   split
   ·simp[zX]
   ·rfl
theorem KJ {c:Code}{O:List Nat}:iJ c O c.b.length 0=gY c:=by
 refine jb (by rw[kx,sR]) fun b hb=>?_
 rw[kx]at hb
 rw[lY hb,if_pos hb]
theorem KG {c:Code}{O:List Nat}{i k:Nat}(h:uC c O k i=false):iJ c O i (k+1)=iJ c O i k:=by
 refine jb (by simp[iJ]) fun b hb=>?_
 rw[kx]at hb
 rw[lY hb,lY hb]
 by_cases h2:b=i
 ·subst h2;simp[ER,h]
 ·rw[if_neg h2,if_neg h2]
theorem Nb {c:Code}{O:List Nat}{i k:Nat}(hi:i<c.b.length) (h:uC c O k i=true):(iJ c O i k).set i (zX c O i k++[k])=iJ c O i (k+1):=by
 refine jb (by simp[iJ]) fun b hb=>?_
 rw[FB (by rw[kx];exact hi)]
 rw[List.length_set,kx]at hb
 rw[lY hb,lY hb]
 by_cases h2:b=i
 ·subst h2;simp[ER,h]
 ·rw[if_neg h2,if_neg h2,if_neg h2]
end Go.Am
namespace Go.Am
open Go Go.Proofs
theorem PX {P:Program}{h:Heap}{A:(HKq)->Prop}{KH:HKq}:vguard (.bool true) true A h KH=A KH:=by rw[iM];simp
theorem PY {P:Program}{h:Heap}{A:(HKq)->Prop}{KH:HKq}:vguard (.bool false) true A h KH=KH gU h:=by rw[iM];simp
theorem Gi {P:Program}{h:Heap}{w:Bool}{A:(HKq)->Prop}{KH:HKq}:vguard gU w A h KH=KH gU h:=xw
theorem O3 {c:Code}(hc:bG c){l:List Nat}:∀e,e∈cB c l->(∀y∈e,y<(cB c l).length)/\e.length<=1000:=fun e he=>by
 obtain⟨a,ha⟩:=List.getElem?_of_mem he
 have ea:gL (cB c l) a=e:=by unfold gL;rw[ha];rfl
 rw[ff]at ea
 rw[bu]
 have e2:(edg c a).length<=2:=nw
 split at ea
 ·split at ea
  ·subst ea;exact⟨fun y hy=>by simp at hy;omega,by simp⟩
  ·split at ea
   ·subst ea
    refine⟨fun y hy=>?_,by simp;omega⟩
    rcases List.mem_append.1 hy with hy|hy
    ·have:=dn hc hy;omega
    ·simp at hy;omega
   ·subst ea
    exact⟨fun y hy=>by have:=dn hc hy;omega,by omega⟩
 ·subst ea;exact⟨fun y hy=>(by cases hy),by simp⟩
theorem MP {c:Code}(hc:bG c):jd (fu c) 0 (-1)=cH c:=by
 have hnb:=hc.nb
 have hE:∀a b,b∈gL (fu c) a->b<(fu c).length:=fun a b h=>by rw[jc]at h;rw[bH];exact dn hc h
 refine B4 (by rw[zR hE,bH]) fun k=>?_
 rw[zS hE (by rw[bH];omega) (by omega)]
 have e:FI (fu c) (-1)=edg c:=funext fun a=>by
  unfold FI
  rw[jc,List.filter_eq_self.2 fun b _=>by simp]
 rw[e]
section
variable {c:Code}{O O':List Nat}{at' U:List Int}{h:Heap}{L:LSq}{v vF:D}{n2 nr i:Nat}{J:HJq}
theorem Na {b k:Nat}:(zX c O b k).length<=k:=by
 have:=List.length_filter_le (fun a=>uC c O a b) (List.range k)
 rw[List.length_range]at this
 exact this
theorem RN (hc:bG c) (h2:(n2,.box c.e)∈L) (hr:(nr,.arr 1 (bL (cH c)))∈L) (wF:LR L vF (cB c (cM c O))) (hi:i<c.b.length) (R:gh h L v (iJ c O i 0)){f:Nat->D}(hf:f 6=nD i) (hJ:∀h',gh h' L v (iJ c O i c.b.length)->J [] h') :
  gZ h (.ptr n2 0 0) (.ms nr 0 c.b.length) vF v f J:=by
 have hnb:=hc.nb
 unfold gZ
 refine⟨fun m q h'=>∃k:Nat,q=[nD k]/\k<=c.b.length/\m=c.b.length-k/\gh h' L v (iJ c O i k),_,⟨0,rfl,by omega,rfl,R⟩,?_⟩
 rintro m f1 h1 ⟨k,hq,hk,hm,R1⟩
 simp only[List.cons.injEq,and_true]at hq
 obtain⟨X,V,w,back⟩:=R1.lift
 have hM:∀x∈L,x∈X++L:=fun x hx=>List.mem_append_right _ hx
 have hbk:∀{KH:HKq}{h:Heap},Vs h (X++L)->aa PP (.fadd (.c (.ptr n2 0 0)) 7) h (fun a h1=>aa PP (.ld (.c a) 1 false) h1 KH)=KH (.sl (c.b.map Block.e)) h:=fun {KH h} V=>by
  rw[V.EI (s:=.box c.e) (hM _ h2),V.pe (cs:=[.int .i64 c.group,.int .i64 c.sub,.int .i64 c.regs,.int .i64 c.slots,.int .i64 c.params,.sl (c.arrays.map uQ.e),.sl (c.loops.map Loop.e),.sl (c.b.map Block.e)]) (hM _ h2) rfl]
 rw[hf,hq,hbk V,br,List.length_map]
 by_cases hlt:k<c.b.length
 ·rw[nD,kN (by omega),ag]
  refine⟨fun _ h'=>gh h' L v (iJ c O i (k+1)),fun f' h' R'=>?_,?_⟩
  ·rw[cw (by omega) (by omega)]
   simp only[ab,true_and]
   exact⟨_,by omega,k+1,rfl,by omega,rfl,R'⟩
  obtain⟨B,hB⟩:∃B,c.b[k]?=some B:=⟨c.b[k],List.getElem?_eq_getElem hlt⟩
  have skip:∀h',Vs h' (X++L)->uC c O k i=false->gh h' L v (iJ c O i (k+1)):=fun h' V' hd=>by rw[KG hd];exact back h' V'
  rw[hbk V,w9 hB,Ky,KX]
  refine bT (Ix (hc.t B (List.mem_of_getElem? hB))) (fun d hd=>by simp at hd;subst hd;exact B.t.db.pair) ?_
  rintro _ rfl
  rw[<- jf hB]
  obtain⟨ir,hir⟩:=List.getElem?_of_mem (hM _ hr)
  have iar:∀{x:Nat}{KH:HKq}{h:Heap},x<c.b.length->Vs h (X++L)->aa PP (.iadd (.c (.ms nr 0 c.b.length)) (.c (nD x)) 1) h KH=KH (.ptr nr x 0) h:=fun {x KH h} hx V=>by rw[nD,V.ia ir hir (by omega) (by omega),Int.toNat_natCast]
  have ldr:∀{x:Nat}{KH:HKq}{h:Heap},x<c.b.length->Vs h (X++L)->aa PP (.ld (.c (.ptr nr x 0)) 1 false) h KH=KH (.bool (hasB (cH c) x)) h:=fun {x KH h} hx V=>V.uV ir hir (ca (aR (by rw[kn];exact hx))) rfl
  rw[show D.int .i64 (k:Int)=nD k from rfl,iar hlt V,ldr hlt V,cD]
  cases g1:hasB (cH c) k
  ·simp only[Bool.not_false,pX (P:=PP),Gi (P:=PP),bE,if_true,ag,ab,true_and]
   exact skip h1 V (by unfold uC;rw[g1];simp)
  simp only[Bool.not_true,xt (P:=PP)]
  rw[iar hi V,ldr hi V,cD,bE]
  cases g2:hasB (cH c) i
  ·simp only[Bool.not_false,Bool.false_eq_true,if_false,pX (P:=PP),Gi (P:=PP),bE,if_true,ag,ab,true_and]
   exact skip h1 V (by unfold uC;rw[g2];simp)
  simp only[Bool.not_true,Bool.false_eq_true,if_false,xt (P:=PP)]
  rw[CQ,gj,bE]
  by_cases g3:(edg c k).length≠2
  ·rw[decide_eq_false (by omega)]
   simp only[Bool.not_false,Bool.false_eq_true,if_false,pX (P:=PP),Gi (P:=PP),bE,if_true,ag,ab,true_and]
   exact skip h1 V (by unfold uC;rw[decide_eq_false g3];simp)
  replace g3:(edg c k).length=2:=Decidable.not_not.1 g3
  rw[decide_eq_true (by omega)]
  simp only[Bool.not_true,Bool.false_eq_true,if_false,xt (P:=PP)]
  rw[show ∀K:D->Prop,vbin .neq (nD k) (nD i) K=K (.bool !decide ((k:Int)=(i:Int))) from fun K=>gj]
  obtain⟨t0,t1,ht⟩:∃t0 t1,edg c k=[t0,t1]:=by
   match e:edg c k,g3 with
   | [a,b],_=>exact⟨a,b,rfl⟩
  have h0:t0<c.b.length:=dn hc (a:=k) (by rw[ht];simp)
  have h1':t1<c.b.length:=dn hc (a:=k) (by rw[ht];simp)
  have aft:∀{x:Nat}{KH:HKq}{h:Heap},x<c.b.length->Vs h (X++L)->(∀h',Vs h' (X++L)->KH (.bool (oN (cB c (cM c O)) x i)) h')->ah PP cT [vF,nD x,nD i] h KH:=fun {x KH h} hx V hK =>
   PO V (wF.mono hM) (by rw[bu];omega) (O3 hc) (by rw[bu];omega) hK
  have d0:uC c O k i=((decide (k=i) || !oN (cB c (cM c O)) k i)&&(oN (cB c (cM c O)) t0 i||oN (cB c (cM c O)) t1 i)):=by
   unfold uC;rw[g1,g2,decide_eq_true g3,ht];simp
  have eN:(aV (edg c k))=[nD t0,nD t1]:=by rw[ht];rfl
  have fin:∀h',Vs h' (X++L)->uC c O k i=true->aa PP (.iadd (.c v) (.c (nD i)) 1) h' fun a170 h171 =>
    aa PP (.ld (.c a170) 1 false) h171 fun a172 h173 =>
    aa PP (.bldS true 1 1 (.int .i64 0) [(0,(.c (nD k)))]) h173 fun a174 h175 =>
    aa PP (.app (.c a172) (.c a174) 1 8 (.int .i64 0)) h175 fun a176 h177 =>
    aa PP (.iadd (.c v) (.c (nD i)) 1) h177 fun a178 h179 =>
    aa PP (.st (.c a178) (.c a176) 1) h179 fun a180 h181=>gh h181 L v (iJ c O i (k+1)):=fun h' V' hd=>by
   have hget:(iJ c O i k)[i]?=some (zX c O i k):=by
    have e:=lY (c:=c) (O:=O) (i:=i) (k:=k) hi
    rw[if_neg (Nat.lt_irrefl i),if_pos rfl]at e
    have hl:i<(iJ c O i k).length:=by rw[kx];exact hi
    unfold gL at e
    rw[List.getElem?_eq_getElem hl]at e ⊢
    simp only[Option.getD_some]at e;rw[e]
   refine(back h' V').app hget (by have:=Na (c:=c) (O:=O) (b:=i) (k:=k);omega) fun h2' R2=>?_
   rw[Nb hi hd]at R2
   exact R2
  have rest:∀h',Vs h' (X++L)->(decide (k=i) || !oN (cB c (cM c O)) k i)=true->aa PP (.iadd (.c (.sl (aV (edg c k)))) (.c (.int .i64 0)) 1) h' fun a138 h139 =>
    aa PP (.ld (.c a138) 1 false) h139 fun a140 h141 =>
    ah PP cT [vF,a140,nD i] h141 fun a142 h143 =>
    vguard a142 false (fun G144=>G144 vF h143) h143 fun a145 h146 =>
    vguard a142 false (fun G147=>G147 (.sl (aV (edg c k))) h146) h146 fun a148 h149 =>
    vguard a142 false (fun G150=>aa PP (.iadd (.c a148) (.c (.int .i64 1)) 1) h149 fun a153 h154=>G150 a153 h154) h149 fun a151 h152 =>
    vguard a142 false (fun G155=>aa PP (.ld (.c a151) 1 false) h152 fun a158 h159=>G155 a158 h159) h152 fun a156 h157 =>
    vguard a142 false (fun G160=>G160 (nD i) h157) h157 fun a161 h162 =>
    vguard a142 false (fun G163=>ah PP cT [a145,a156,a161] h162 fun a166 h167=>G163 a166 h167) h162 fun a164 h165 =>
    aa PP (.pick (.c a142) (.c (.bool true)) (.c a164)) h165 fun a168 h169 =>
    vcond a168 (aa PP (.iadd (.c v) (.c (nD i)) 1) h169 fun a170 h171 =>
     aa PP (.ld (.c a170) 1 false) h171 fun a172 h173 =>
     aa PP (.bldS true 1 1 (.int .i64 0) [(0,(.c (nD k)))]) h173 fun a174 h175 =>
     aa PP (.app (.c a172) (.c a174) 1 8 (.int .i64 0)) h175 fun a176 h177 =>
     aa PP (.iadd (.c v) (.c (nD i)) 1) h177 fun a178 h179 =>
     aa PP (.st (.c a178) (.c a176) 1) h179 fun a180 h181=>gh h181 L v (iJ c O i (k+1))) (gh h169 L v (iJ c O i (k+1))):=fun h' V' g4=>by
   rw[g4,Bool.true_and]at d0
   rw[eN,kM (d:=nD t0) (esz:=1) (by omega) rfl rfl,rP rfl]
   refine aft h0 V' fun h2' V2=>?_
   cases g5:oN (cB c (cM c O)) t0 i
   ·simp only[xt (P:=PP)]
    rw[kM (d:=nD t1) (esz:=1) (by omega) rfl rfl,rP rfl]
    refine aft h1' V2 fun h3' V3=>?_
    rw[bE]
    simp only[Bool.false_eq_true,if_false]
    rw[g5,Bool.false_or]at d0
    cases g6:oN (cB c (cM c O)) t1 i
    ·rw[af];exact skip h3' V3 (by rw[d0,g6])
    ·rw[ag];exact fin h3' V3 (by rw[d0,g6])
   ·simp only[pX (P:=PP),bE,if_true,ag]
    exact fin h2' V2 (by rw[d0,g5];rfl)
  by_cases g4:k=i
  ·rw[decide_eq_true (p:=(k:Int)=(i:Int)) (by omega)]
   simp only[Bool.not_true,Bool.false_eq_true,if_false,PY (P:=PP),Gi (P:=PP),bE,af,ab,true_and]
   exact rest h1 V (by rw[decide_eq_true g4];rfl)
  ·rw[decide_eq_false (p:=(k:Int)=(i:Int)) (by omega)]
   simp only[Bool.not_false,Bool.false_eq_true,if_false,PX (P:=PP),bE,ab,true_and]
   refine aft hlt V fun h2' V2=>?_
   simp only[if_true]
   cases g5:oN (cB c (cM c O)) k i
   ·rw[af]
    exact rest h2' V2 (by rw[g5,decide_eq_false g4];rfl)
   ·rw[ag]
    exact skip h2' V2 (by rw[d0,g5,decide_eq_false g4];rfl)
 ·have:k=c.b.length:=by omega
  subst this
  rw[nD,kp (by omega),af]
  simp only[ab,true_and]
  exact hJ h1 (back h1 V)
end
theorem AO {c:Code}(hc:bG c){O0 O0':List Nat}{at' U:List Int}(D0:vW c O0 O0' at' U){h:Heap}{L:LSq}{KH:HKq}(V:Vs h L) (hK:∀v X h',Vs h' (X++L)->LR X v (gY c)->KH v h'):ah PP gP [c.e] h KH:=by
 have hnb:=hc.nb
 refine aL xk (aD _ _ _) rfl (xc _ _) ?_
 unfold qP
 refine V.box c.db.one fun n2 h3 V1=>?_
 rw[V1.yd 0 (s:=8) rfl rfl,V1.yd 0 (s:=8) rfl rfl]
 refine JO hc V1 fun m0 h7 V7=>?_
 refine⟨⟨by rw[V7.yd 1 (s:=8) rfl rfl,ab];trivial,trivial⟩,?_⟩
 have wE:LR ((m0,.arr 1 ((fu c).map fun l=>.sl (aV l)))::(n2,.box c.e)::L) (.ms m0 0 c.b.length) (fu c):=by
  have:=(LM.data (E:=fu c)).lr (m:=m0)
  rw[bH]at this
  exact this.mono fun x hx=>by simp at hx;subst hx;simp
 refine IJ (s:=0) (w:=-1) V7 wE (by rw[bH];omega) (fun l hl b hb=>?_) (by rw[bH];omega) (fun l hl=>?_) fun nr h10 V10=>?_
 ·obtain⟨a,ha⟩:=List.getElem?_of_mem hl
  have:gL (fu c) a=l:=by unfold gL;rw[ha];rfl
  rw[jc]at this;subst this
  rw[bH];exact dn hc hb
 ·obtain⟨a,ha⟩:=List.getElem?_of_mem hl
  have:gL (fu c) a=l:=by unfold gL;rw[ha];rfl
  rw[jc]at this;subst this
  have e2:(edg c a).length<=2:=nw
  omega
 rw[bH]
 rw[MP hc]at V10
 refine⟨⟨by rw[V10.yd 2 (s:=8) rfl rfl,ab];trivial,trivial⟩,?_⟩
 rw[show D.agg [.int .i64 c.group,.int .i64 c.sub,.int .i64 c.regs,.int .i64 c.slots,.int .i64 c.params,.sl (c.arrays.map uQ.e),.sl (c.loops.map Loop.e),.sl (c.b.map Block.e)]=c.e from rfl]
 refine PL hc V10 fun O m X h13 hO V13 wF=>?_
 obtain⟨O',hO',D1⟩:∃O',O'=O0/\vW c O' O0' at' U:=⟨O0,rfl,D0⟩
 have eO:O=O0:=uL.Sp hO D0.b.ord
 subst eO
 have hbk:∀{KH:HKq}{h:Heap}{M:LSq},Vs h M->(n2,.box c.e)∈M->aa PP (.fadd (.c (.ptr n2 0 0)) 7) h (fun a h1=>aa PP (.ld (.c a) 1 false) h1 KH)=KH (.sl (c.b.map Block.e)) h:=fun {KH h M} V h2=>by
  rw[V.EI (s:=.box c.e) h2,V.pe (cs:=[.int .i64 c.group,.int .i64 c.sub,.int .i64 c.regs,.int .i64 c.slots,.int .i64 c.params,.sl (c.arrays.map uQ.e),.sl (c.loops.map Loop.e),.sl (c.b.map Block.e)]) h2 rfl]
 rw[hbk V13 (by simp),br,List.length_map]
 refine V13.Jl (by omega) (by omega) fun nB h20 V20=>?_
 have R0:=gh.Up V20
 rw[<- RG (c:=c) (O:=O)]at R0
 let M:LSq:=X++(nr,.arr 1 (bL (cH c)))::(m0,.arr 1 ((fu c).map fun l=>.sl (aV l)))::(n2,.box c.e)::L
 have h2M:(n2,Slot.box c.e)∈M:=by simp[M]
 have hrM:(nr,Slot.arr 1 (bL (cH c)))∈M:=by simp[M]
 have wFM:LR M (.ms m 0 (c.b.length+1)) (cB c (cM c O)):=wF.mono fun x hx=>by simp[M,hx]
 replace R0:gh h20 M (.ms nB 0 c.b.length) (iJ c O 0 0):=R0
 refine⟨fun _ h'=>gh h' M (.ms nB 0 c.b.length) (iJ c O c.b.length 0),?_,?_⟩
 ·rintro f h23 R23
  rw[KJ]at R23
  obtain⟨Y,V',w',-⟩:=R23.lift
  refine hK _ Y h23 (V'.sub (.append (.refl _) ?_)) w'
  exact(((List.sublist_cons_self _ _).trans (List.sublist_cons_self _ _)).trans (List.sublist_cons_self _ _)).trans (List.sublist_append_right X _)
 unfold mH
 refine⟨fun k q h'=>∃i:Nat,q=[nD i]/\i<=c.b.length/\k=c.b.length-i/\gh h' M (.ms nB 0 c.b.length) (iJ c O i 0),_,⟨0,rfl,by omega,rfl,R0⟩,?_⟩
 rintro k f h1 ⟨i,hq,hi,hk,R1⟩
 simp only[List.cons.injEq,and_true]at hq
 have h2X:∀{X:LSq},(n2,Slot.box c.e)∈X++M:=fun {X}=>List.mem_append_right _ h2M
 obtain⟨X1,Vx,-,back⟩:=R1.lift
 rw[hbk Vx h2X,br,List.length_map,hq]
 by_cases hlt:i<c.b.length
 ·rw[nD,kN (by omega),ag]
  refine⟨fun _ h'=>gh h' M (.ms nB 0 c.b.length) (iJ c O i c.b.length),fun f' h' R'=>?_,?_⟩
  ·rw[cw (by omega) (by omega)]
   simp only[ab,true_and]
   rw[KI hc D0]at R'
   exact⟨_,by omega,i+1,rfl,by omega,rfl,R'⟩
  ·exact RN hc h2M hrM wFM hlt R1 hq fun h' R'=>R'
 ·have:i=c.b.length:=by omega
  subst this
  rw[nD,kp (by omega),af]
  simp only[ab,true_and]
  exact R1
end Go.Am
namespace Go.Am
open Go Go.Proofs
def De (R:List Bool) (o:cG):Bool:= !decide (o.kind=2)||hasB R o.n.toNat
theorem FL {U R:List Bool}:xo (uE U R):=fJ (by simp[D.vone])
theorem Di {U R:List Bool}{o:cG}(ho:o.kind=2->0<=o.n/\o.n<R.length):aU PP bW [uE U R,o.e] (· = .bool (De R o)):=by
 refine bp uO (aD _ _ _) rfl (uI _ _ _) ?_
 unfold pz
 refine Vs.nil.box FL.one fun n3 h4 V4=>?_
 refine V4.box o.db.one fun n5 h6 V6=>?_
 rw[V6.fa 0 rfl,V6.b9 0 (j:=0) rfl rfl,gj]
 unfold De
 by_cases hk:o.kind=2
 ·rw[decide_eq_true hk]
  obtain⟨h1,h2⟩:=ho hk
  simp only[Bool.not_true,xt (P:=PP)]
  rw[V6.fa 1 rfl,V6.b9 1 (j:=1) rfl rfl,V6.fa 0 rfl,V6.b9 0 (j:=1) rfl rfl,kM (d:=.bool (hasB R o.n.toNat)) (esz:=1) h1 (ca (aR (by omega))) rfl,rP rfl,bE]
  simp only[Bool.false_eq_true,if_false,Bool.false_or]
  rw[bo]
 ·rw[decide_eq_false hk]
  simp only[Bool.not_false,pX (P:=PP),Gi (P:=PP),bE,if_true,Bool.true_or]
  rw[bo]
theorem Nq {x:aP}:aU PP mq [x.e] (· = .bool (!eZ x)):=by
 refine bp yV (aD _ _ _) rfl (yr _ _) ?_
 unfold s8
 refine Vs.nil.box x.db.one fun n2 h3 V=>?_
 rw[V.fa 0 rfl,V.b9 0 (j:=0) rfl rfl]
 refine⟨fun q h'=>h'=h3/\∃t:Bool,q=[.bool t]/\t=(decide (x.op=1)||decide (x.op=2)||decide (x.op=3)||decide (x.op=4)||decide (x.op=6)),?_,?_⟩
 ·rintro f h' ⟨e,t,hq,ht⟩
  subst e
  simp only[List.cons.injEq,and_true]at hq
  rw[hq]
  cases t with
  | true =>
   rw[ag,bo]
   unfold eZ
   rw[<- ht];rfl
  | false =>
   rw[af,bY]
   by_cases h5:x.op=5
   ·rw[decide_eq_true h5,ag]
    unfold eZ
    rw[<- ht,decide_eq_true h5,V.fa 0 rfl,V.b9 0 (j:=0+1) rfl rfl,bY]
    by_cases g3:x.sub=3
    ·rw[decide_eq_true g3]
     simp only[pX (P:=PP),Gi (P:=PP),bE,if_true]
     rw[bo];simp
    rw[decide_eq_false g3]
    simp only[xt (P:=PP)]
    rw[V.fa 0 rfl,V.b9 0 (j:=0+1) rfl rfl,bY,bE]
    by_cases g4:x.sub=4
    ·rw[decide_eq_true g4]
     simp only[pX (P:=PP),Gi (P:=PP),bE,if_true,Bool.false_eq_true,if_false]
     rw[bo];simp
    rw[decide_eq_false g4]
    simp only[xt (P:=PP),Bool.false_eq_true,if_false]
    rw[V.fa 0 rfl,V.b9 0 (j:=0+1) rfl rfl,bY,bE]
    simp only[Bool.false_eq_true,if_false]
    rw[bo];simp
   ·rw[decide_eq_false h5,af,bo]
    unfold eZ
    rw[<- ht,decide_eq_false h5];rfl
 ·simp only[bY,ab,true_and]
  by_cases h1:x.op=1
  ·rw[decide_eq_true h1,ag];exact⟨true,rfl,by simp⟩
  rw[decide_eq_false h1,af]
  by_cases h2:x.op=2
  ·rw[decide_eq_true h2,ag];exact⟨true,rfl,by simp⟩
  rw[decide_eq_false h2,af]
  by_cases h3:x.op=3
  ·rw[decide_eq_true h3,ag];exact⟨true,rfl,by simp⟩
  rw[decide_eq_false h3,af]
  by_cases h4:x.op=4
  ·rw[decide_eq_true h4,ag];exact⟨true,rfl,by simp⟩
  rw[decide_eq_false h4,af]
  exact⟨_,rfl,by simp⟩
theorem Vs.T5 {h:Heap}{L:LSq}{KH:HKq}(V:Vs h L) (i:Nat){n j o:Nat}{s:Slot}(hi:L[i]?=some (n,s)):aa PP (.fadd (.c (.ptr n 0 j)) o) h KH=KH (.ptr n 0 (j+o)) h:=by
 have:=V.fa (P:=PP) (o:=o) (KH:=fun _ _=>True) i hi
 rw[jN]at this ⊢
 have hu:(h n).used=true:=by
  have e:((h n).used=true/\True)=True:=this
  exact(of_eq_true e).1
 exact propext ⟨fun hh=>hh.2,fun hk=>⟨hu,hk⟩⟩
theorem RW {x:aP}:aU PP sE [x.e] (· = .int .i64 (cX x.d)):=by
 refine bp DP (aD _ _ _) rfl (Dz _ _) ?_
 unfold AR
 refine Vs.nil.box x.db.one fun n2 h3 V=>?_
 rw[V.fa 0 rfl,V.T5 0 rfl,V.b9 0 (j:=0+3+0) rfl rfl,bY]
 unfold cX
 by_cases hk:x.d.kind=2
 ·rw[decide_eq_true hk,ag,V.fa 0 rfl,V.T5 0 rfl,V.b9 0 (j:=0+3+1) rfl rfl,ec,if_pos hk]
 ·rw[decide_eq_false hk,af,ec,if_neg hk]
theorem Ps {x:Term}:aU PP qf [x.e] (· = .int .i64 (cX x.d)):=by
 refine bp BP (aD _ _ _) rfl (BE _ _) ?_
 unfold yC
 refine Vs.nil.box x.db.one fun n2 h3 V=>?_
 rw[V.fa 0 rfl,V.T5 0 rfl,V.b9 0 (j:=0+2+0) rfl rfl,bY]
 unfold cX
 by_cases hk:x.d.kind=2
 ·rw[decide_eq_true hk,ag,V.fa 0 rfl,V.T5 0 rfl,V.b9 0 (j:=0+2+1) rfl rfl,ec,if_pos hk]
 ·rw[decide_eq_false hk,af,ec,if_neg hk]
theorem T4 {h:Heap}{L:LSq}{vU vR:D}{U R:List Bool}(V:Vs h L) (wU:BW L vU U) (wR:BW L vR R):(D.agg [vU,vR]).fz h=uE U R/\aH (.agg [vU,vR])/\l9 h (.agg [vU,vR]):=by
 have one:∀{v:D}{T:List Bool},BW L v T->v.fzc h=.sl (bL T)/\oh h v:=fun {v T} w=>by
  rcases w with rfl|⟨m,rfl,hm⟩
  ·exact⟨rfl,trivial⟩
  ·have hr:(h m).row=some (1,bL T):=by rw[V.mem hm];rfl
   refine⟨?_,1,_,hr,by simp[bL],fun x hx y hy=>?_⟩
   ·simp only[D.fzc,hr,List.drop_zero]
    rw[List.take_of_length_le (by simp[bL])]
   ·have:=List.mem_of_mem_drop (List.mem_of_mem_take hx)
    simp only[bL,List.mem_map]at this
    obtain⟨b,-,rfl⟩:=this
    simp[D.cells]at hy;subst hy;rfl
 obtain⟨a1,a2⟩:=one wU
 obtain⟨b1,b2⟩:=one wR
 refine⟨?_,fun x hx=>?_,fun x hx=>?_⟩
 ·simp only[D.fz,List.map_cons,List.map_nil,a1,b1];rfl
 ·simp[D.cells]at hx
  rcases hx with rfl|rfl
  ·exact wU.one
  ·exact wR.one
 ·simp[D.cells]at hx
  rcases hx with rfl|rfl
  ·exact a2
  ·exact b2
theorem Ih {h:Heap}{L:LSq}{vU vR:D}{U R:List Bool}(V:Vs h L) (wU:BW L vU U) (wR:BW L vR R){o:cG}(ho:o.kind=2->0<=o.n/\o.n<R.length){K:D->Prop}(hK:K (.bool (De R o))):ae PP (.call bW [.c (.agg [vU,vR]),.c o.e]) h K:=by
 obtain⟨f1,f2,f3⟩:=T4 V wU wR
 obtain⟨o1,o2⟩:=o.db.pair
 obtain⟨g1,g2,g3⟩:=sj (h:=h) o1
 refine⟨.bool (De R o),?_,fun d hd=>?_,Or.inl rfl,hK⟩
 ·have:(([Arg.c (.agg [vU,vR]),Arg.c o.e]:List Arg).map fun x=>(x.get []).fz h)=[uE U R,o.e]:=by
   simp only[List.map_cons,List.map_nil,Arg.get,f1,g1]
  rw[this]
  exact Di ho
 ·simp[Arg.get]at hd
  rcases hd with rfl|rfl
  ·exact⟨f2,f3,by rw[f1];exact FL.pair.1⟩
  ·exact⟨o2,g3,by rw[g1];exact o1⟩
end Go.Am
namespace Go.Am
open Go Go.Proofs
theorem IQ {A:(D->Prop)->Prop}{K:D->Prop}:av (.bool false) false A K=A K:=by rw[ep];simp
theorem Qq {A:(D->Prop)->Prop}{K:D->Prop}:av (.bool true) false A K=K gU:=by rw[ep];simp
theorem Qr {w:Bool}{A:(D->Prop)->Prop}{K:D->Prop}:av gU w A K=K gU:=tY
theorem BW.get {h:Heap}{L:LSq}{KH:HKq}{v:D}{T:List Bool}(V:Vs h L) (w:BW L v T){i:Nat}(hi:i<T.length):aa PP (.iadd (.c v) (.c (nD i)) 1) h (fun a h1=>aa PP (.ld (.c a) 1 false) h1 KH)=KH (.bool (hasB T i)) h:=by
 rcases w with rfl|⟨m,rfl,hm⟩
 ·rw[nD,kM (esz:=1) (d:=.bool (hasB T i)) (by omega) (by rw[Int.toNat_natCast];exact ca (aR hi)) rfl,rP rfl]
 ·obtain⟨k,hk⟩:=List.getElem?_of_mem hm
  rw[nD,V.ia k hk (by omega) (by omega),Int.toNat_natCast,V.uV k hk (ca (aR hi)) rfl]
theorem BW.Ts {h:Heap}{L:LSq}{K:D->Prop}{v:D}{T:List Bool}(V:Vs h L) (w:BW L v T){i:Nat}(hi:i<T.length):ae PP (.iadd (.c v) (.c (nD i)) 1) h (fun a=>ae PP (.ld (.c a) 1 false) h K)=K (.bool (hasB T i)):=by
 rcases w with rfl|⟨m,rfl,hm⟩
 ·rw[nD,KD (esz:=1) (d:=.bool (hasB T i)) (by omega) (by rw[Int.toNat_natCast];exact ca (aR hi)) rfl,EN rfl]
 ·obtain⟨k,hk⟩:=List.getElem?_of_mem hm
  rw[nD,V.EO k hk (by omega) (by omega),Int.toNat_natCast,V.Bu k hk (ca (aR hi)) rfl]
def Ll (c:Code) (Rc:List Bool) (Dp:List (List Nat)) (U R:List Bool) (b:Nat):Bool:=hasB Rc b&&(gL Dp b).all fun a=>hasB U a&&De R (nC c a).t.a
theorem JM {c:Code}(hc:cU c){h:Heap}{L:LSq}{KH:HKq}{vU vR vD:D}{U R Rc:List Bool}{Dp:List (List Nat)}{b:Nat}(hD:∀l∈Dp,(∀a∈l,a<c.b.length)/\l.length<=1000) (hDl:Dp.length=c.b.length) (V:Vs h L) (wU:BW L vU U) (wR:BW L vR R) (wD:LR L vD Dp) (hU:U.length=c.b.length) (hR:(R.length:Int)=c.regs) (hb:b<c.b.length) (hRc:Rc.length=c.b.length)
  (hK:∀h',Vs h' L->KH (.bool (Ll c Rc Dp U R b)) h'):ah PP jY [c.e,.sl (bL Rc),vD,.agg [vU,vR],nD b] h KH:=by
 have hnb:=hc.g.nb
 refine aL Al (aD _ _ _) rfl (Aa _ _ _ _ _ _) ?_
 unfold u6
 refine V.box c.db.one fun n6 h7 V7=>?_
 refine V7.box (T4 V wU wR).2.1 fun n8 h9 V9=>?_
 rw[BW.get V9 (Or.inl rfl) (by omega),cD]
 unfold Ll at hK
 cases hr:hasB Rc b
 ·rw[Bool.not_false,ag]
  rw[hr]at hK
  exact hK h9 V9.pop.pop
 rw[Bool.not_true,af]
 rw[hr,Bool.true_and]at hK
 obtain⟨l,hl,hgl⟩:∃l,Dp[b]?=some l/\gL Dp b=l:=⟨Dp[b]'(by omega),List.getElem?_eq_getElem _,by unfold gL;rw[List.getElem?_eq_getElem];rfl⟩
 rw[hgl]at hK
 obtain⟨hlt,hll⟩:=hD l (List.mem_of_getElem? hl)
 have hs:∀x∈L,x∈(n8,Slot.box (.agg [vU,vR]))::(n6,.box c.e)::L:=fun x hx=>by simp[hx]
 refine⟨fun _ h'=>Vs h' ((n8,Slot.box (.agg [vU,vR]))::(n6,.box c.e)::L)/\(l.all fun a=>hasB U a&&De R (nC c a).t.a)=true,?_,?_⟩
 ·rintro f h' ⟨V',ha⟩
  rw[ha]at hK
  exact hK h' V'.pop.pop
 unfold pC
 refine⟨fun m q h'=>∃k:Nat,q=[nD k]/\k<=l.length/\m=l.length-k/\Vs h' ((n8,Slot.box (.agg [vU,vR]))::(n6,.box c.e)::L)/\((l.take k).all fun a=>hasB U a&&De R (nC c a).t.a)=true,_,⟨0,rfl,by omega,rfl,V9,by simp⟩,?_⟩
 rintro m f h1 ⟨k,hq,hk,hm,V1,hall⟩
 simp only[List.cons.injEq,and_true]at hq
 rw[hq]
 refine LR.get V1 (wD.mono hs) hl fun e we=>?_
 rw[BG.len V1 we]
 by_cases hkl:¬k<l.length
 ·have:k=l.length:=by omega
  subst this
  rw[nD,kp (by omega),af]
  rw[List.take_length]at hall
  simp only[ab,true_and]
  exact⟨V1,hall⟩
 replace hkl:k<l.length:=Decidable.not_not.1 hkl
 rw[nD,kN (by omega),ag]
 obtain⟨a,ha⟩:∃a,l[k]?=some a:=⟨l[k],List.getElem?_eq_getElem hkl⟩
 have haN:=hlt a (List.mem_of_getElem? ha)
 obtain⟨A,hA⟩:∃A,c.b[a]?=some A:=⟨c.b[a],List.getElem?_eq_getElem haN⟩
 refine LR.get V1 (wD.mono hs) hl fun e2 we2=>?_
 rw[BG.get V1 we2 ha]
 rw[V1.mz 0 rfl,V1.gX 0 (j:=0+0) rfl rfl,BW.Ts V1 (wU.mono hs) (by omega),cD]
 have htk:l.take (k+1)=l.take k++[a]:=by rw[List.take_add_one,ha];rfl
 have no:(hasB U a&&De R (nC c a).t.a)=false->(l.all fun a=>hasB U a&&De R (nC c a).t.a)=false:=fun h=>by
  cases h2:l.all fun a=>hasB U a&&De R (nC c a).t.a
  ·rfl
  ·rw[List.all_eq_true.1 h2 a (List.mem_of_getElem? ha)]at h;cases h
 cases hu:hasB U a
 ·simp only[Bool.not_false,Qq,Qr]
  rw[fT,bE,if_pos rfl,ag]
  rw[no (by rw[hu];rfl)]at hK
  exact hK h1 V1.pop.pop
 simp only[Bool.not_true,IQ]
 rw[V1.yd 0 (s:=2) rfl rfl,V1.mz 1 rfl,V1.gX 1 (j:=0+7) rfl rfl,nD,Tv hA,UE,JE,oJ,TG]
 refine Ih V1 (wU.mono hs) (wR.mono hs) (fun h2=>?_) ?_
 ·have:=(hc.g.t A (List.mem_of_getElem? hA)).Ov.2.1 h2
  omega
 rw[cD,fT,bE]
 simp only[Bool.false_eq_true,if_false]
 have hbl:(nC c a).t.a=A.t.a:=by rw[gy hA]
 cases hcn:De R A.t.a
 ·rw[Bool.not_false,ag]
  rw[no (by rw[hbl,hcn,Bool.and_false])]at hK
  exact hK h1 V1.pop.pop
 ·rw[Bool.not_true,af,cw (by omega) (by omega)]
  simp only[ab,true_and]
  refine⟨_,by omega,k+1,rfl,by omega,rfl,V1,?_⟩
  rw[htk,List.all_append,hall]
  simp[hu,hbl,hcn]
end Go.Am
namespace Go.Am
open Go Go.Proofs
def NF (U R:List Bool) (b:Nat) (r:Int) (x:aP):Bool:=decide (cX x.d=r)&&(!hasB U b||(eZ x||(!De R x.a||(!De R x.b || !De R x.c))))
def HU (Rc U R:List Bool) (r:Int) (b:Nat) (B:Block):Bool:= !hasB Rc b||(!decide (cX B.t.d=r)&&B.i.all fun x=> !NF U R b r x)
def HJ (c:Code) (Rc U R:List Bool) (r:Int):Bool:=(List.range c.b.length).all fun b=>HU Rc U R r b (nC c b)
def gD:=And.intro (@PX PP)<|And.intro (@PY PP)<|And.intro (@xt PP)<|And.intro (@pX PP)<|And.intro (@Gi PP) (@bE)
section
variable {c:Code}{U R Rc:List Bool}{r:Int}{n5 n7 b:Nat}{B:Block}{h:Heap}{L:LSq}{J:HJq}{KH:HKq}
theorem SU (hc:cU c) (h5:(n5,Slot.box c.e)∈L) (h7:(n7,Slot.box (uE U R))∈L) (V:Vs h L) (hU:U.length=c.b.length) (hR:(R.length:Int)=c.regs) (hB:c.b[b]?=some B){f:Nat->D}(hf:f 9=nD b)
  (hJ:∀h',Vs h' L->(B.i.all fun x=> !NF U R b r x)=true->J [] h') (hK:∀h',Vs h' L->(B.i.all fun x=> !NF U R b r x)=false->KH (.bool false) h') :
  gC h (.ptr n5 0 0) f (.int .i64 r) (.ptr n7 0 0) (.sl (bL Rc)) J KH:=by
 have hnb:=hc.g.nb
 have hBm:=List.mem_of_getElem? hB
 have hbN:=(List.getElem?_eq_some_iff.1 hB).1
 have hil:=hc.len B hBm
 unfold gC
 refine⟨fun m q h'=>∃k:Nat,q=[nD k]/\k<=B.i.length/\m=B.i.length-k/\Vs h' L/\((B.i.take k).all fun x=> !NF U R b r x)=true,_,⟨0,rfl,by omega,rfl,V,by simp⟩,?_⟩
 rintro m f1 h1 ⟨k,hq,hk,hm,V1,hall⟩
 simp only[List.cons.injEq,and_true]at hq
 have hbk:∀{KH:HKq},aa PP (.fadd (.c (.ptr n5 0 0)) 7) h1 (fun a h2=>aa PP (.ld (.c a) 1 false) h2 KH)=KH (.sl (c.b.map Block.e)) h1:=fun {KH}=>by
  rw[V1.EI (s:=.box c.e) h5,V1.pe (cs:=[.int .i64 c.group,.int .i64 c.sub,.int .i64 c.regs,.int .i64 c.slots,.int .i64 c.params,.sl (c.arrays.map uQ.e),.sl (c.loops.map Loop.e),.sl (c.b.map Block.e)]) h5 rfl]
 have hin:∀{KH:HKq},aa PP (.ld (.c (.vp B.e 0)) 1 false) h1 KH=KH (.sl (B.i.map aP.e)) h1:=fun {KH}=>by
  rw[show B.e=.agg (.sl (B.i.map aP.e)::B.t.cs) from rfl,Rf (e:=.sl (B.i.map aP.e)) rfl]
 rw[hq,hbk,hf,nD,w9 hB,Ky,hin,br,List.length_map]
 by_cases hlt:¬k<B.i.length
 ·have:k=B.i.length:=by omega
  subst this
  rw[nD,kp (by omega),af]
  rw[List.take_length]at hall
  simp only[ab,true_and]
  exact hJ h1 V1 hall
 replace hlt:k<B.i.length:=Decidable.not_not.1 hlt
 obtain⟨x,hx⟩:∃x,B.i[k]?=some x:=⟨B.i[k],List.getElem?_eq_getElem hlt⟩
 have hxm:=List.mem_of_getElem? hx
 obtain⟨-,oa,ob,oc⟩:=(hc.i B hBm x hxm).Ov
 rw[nD,kN (by omega),ag,hbk,w9 hB,Ky,hin,kM (esz:=15) (d:=x.e) (by omega) (by rw[Int.toNat_natCast,List.getElem?_map,hx];rfl) rfl]
 rw[show aa PP (.ld (.c (.vp x.e 0)) 15 true) h1=fun KH=>KH x.e h1 from funext fun KH=>H2 rfl]
 refine V1.alloc fun n74 h75 V75=>?_
 refine V75.pV 0 (cs':=x.cs) rfl rfl rfl (fun y hy=>x.db.one y hy) fun h77 V77=>?_
 simp only[List.set_cons_zero]at V77
 rw[V77.lu 0 (s:=15) rfl rfl,show D.agg x.cs=x.e from rfl]
 refine bT RW (fun d hd=>by simp at hd;subst hd;exact x.db.pair) ?_
 rintro _ rfl
 rw[bY]
 have htk:B.i.take (k+1)=B.i.take k++[x]:=by rw[List.take_add_one,hx];rfl
 have go:NF U R b r x=false->∃m',m'<m/\∃k':Nat,[D.int .i64 ((k:Int)+1)]=[nD k']/\k'<=B.i.length/\m'=B.i.length-k'/\Vs h77 L/\((B.i.take k').all fun x=> !NF U R b r x)=true:=fun hn =>
  ⟨_,by omega,k+1,rfl,by omega,rfl,V77.pop,by rw[htk,List.all_append,hall];simp[hn]⟩
 have stop:NF U R b r x=true->KH (.bool false) h77:=fun hy=>hK h77 V77.pop (by
  cases h2:B.i.all fun x=> !NF U R b r x
  ·rfl
  ·have:=List.all_eq_true.1 h2 x hxm;rw[hy]at this;cases this)
 unfold NF at go stop
 by_cases hd:¬cX x.d=r
 ·rw[decide_eq_false hd]at go ⊢
  simp only[gD,Bool.not_false,Bool.not_true,Bool.false_eq_true,if_true,if_false]
  rw[af,cw (by omega) (by omega)]
  simp only[ab,true_and]
  exact go rfl
 replace hd:cX x.d=r:=Decidable.not_not.1 hd
 rw[decide_eq_true hd]at go stop ⊢
 have h7':(n7,Slot.box (uE U R))∈(n74,Slot.box x.e)::L:=by simp[h7]
 have ldU:∀{KH:HKq},aa PP (.ld (.c (.ptr n7 0 0)) 1 false) h77 KH=KH (.sl (bL U)) h77:=fun {KH}=>V77.pe (cs:=[.sl (bL U),.sl (bL R)]) h7' rfl
 have ldE:∀{KH:HKq},aa PP (.ld (.c (.ptr n7 0 0)) 2 true) h77 KH=KH (uE U R) h77:=fun {KH}=>V77.Ft (cs:=[.sl (bL U),.sl (bL R)]) h7' rfl
 have g0:=V77.get 0 _ _ rfl
 have la:∀{KH:HKq},aa PP (.ld (.c (.ptr n74 0 6)) 3 true) h77 KH=KH x.a.e h77:=fun {KH}=>Lk g0 (by simp[aP.cs])
 have lb:∀{KH:HKq},aa PP (.ld (.c (.ptr n74 0 9)) 3 true) h77 KH=KH x.b.e h77:=fun {KH}=>Lk g0 (by simp[aP.cs])
 have lc:∀{KH:HKq},aa PP (.ld (.c (.ptr n74 0 12)) 3 true) h77 KH=KH x.c.e h77:=fun {KH}=>Lk g0 (by simp[aP.cs])
 have cn:∀{o:cG}{KH:HKq},vH c.regs o->KH (.bool (De R o)) h77->ah PP bW [uE U R,o.e] h77 KH:=fun {o KH} ho hk=>by
  refine bT (Di fun h2=>by have:=ho h2;omega) (fun d hd=>by simp at hd;rcases hd with rfl|rfl;exact FL.pair;exact o.db.pair) ?_
  rintro _ rfl;exact hk
 simp only[gD,Bool.not_false,Bool.not_true,Bool.false_eq_true,if_true,if_false]
 rw[V77.EI h7',ldU,kM (esz:=1) (d:=.bool (hasB U b)) (by omega) (by rw[Int.toNat_natCast];exact ca (aR (by omega))) rfl,rP rfl,cD]
 cases g1:hasB U b
 ·simp only[gD,Bool.not_false,Bool.not_true,Bool.false_eq_true,if_true,if_false];rw[ag];exact stop (by rw[g1];rfl)
 simp only[gD,Bool.not_false,Bool.not_true,Bool.false_eq_true,if_true,if_false]
 rw[V77.lu 0 (s:=15) rfl rfl,show D.agg x.cs=x.e from rfl]
 refine bT Nq (fun d hd=>by simp at hd;subst hd;exact x.db.pair) ?_
 rintro _ rfl
 rw[cD,Bool.not_not]
 by_cases g2':eZ x=true
 ·rw[g2'];simp only[gD,Bool.not_false,Bool.not_true,Bool.false_eq_true,if_true,if_false];rw[ag];exact stop (by rw[g1,g2'];rfl)
 have g2:eZ x=false:=by simpa using g2'
 rw[g2]
 simp only[gD,Bool.not_false,Bool.not_true,Bool.false_eq_true,if_true,if_false]
 rw[ldE,V77.fa 0 rfl,la]
 refine cn oa ?_
 rw[cD]
 cases g3:De R x.a
 ·simp only[gD,Bool.not_false,Bool.not_true,Bool.false_eq_true,if_true,if_false];rw[ag];exact stop (by rw[g1,g2,g3];rfl)
 simp only[gD,Bool.not_false,Bool.not_true,Bool.false_eq_true,if_true,if_false]
 rw[ldE,V77.fa 0 rfl,lb]
 refine cn ob ?_
 rw[cD]
 cases g4:De R x.b
 ·simp only[gD,Bool.not_false,Bool.not_true,Bool.false_eq_true,if_true,if_false];rw[ag];exact stop (by rw[g1,g2,g3,g4];rfl)
 simp only[gD,Bool.not_false,Bool.not_true,Bool.false_eq_true,if_true,if_false]
 rw[ldE,V77.fa 0 rfl,lc]
 refine cn oc ?_
 rw[cD]
 cases g5:De R x.c
 ·simp only[gD,Bool.not_false,Bool.not_true,Bool.false_eq_true,if_true,if_false];rw[ag];exact stop (by rw[g1,g2,g3,g4,g5];rfl)
 simp only[gD,Bool.not_false,Bool.not_true,Bool.false_eq_true,if_true,if_false]
 rw[af,cw (by omega) (by omega)]
 simp only[ab,true_and]
 exact go (by rw[g1,g2,g3,g4,g5];rfl)
end
theorem Iu {c:Code}(hc:cU c){U R Rc:List Bool}{r:Int}(hU:U.length=c.b.length) (hR:(R.length:Int)=c.regs) (hRc:Rc.length=c.b.length):aU PP ew [c.e,.sl (bL Rc),uE U R,.int .i64 r] (· = .bool (HJ c Rc U R r)):=by
 have hnb:=hc.g.nb
 refine bp uN (aD _ _ _) rfl (uH _ _ _ _ _) ?_
 unfold pw
 refine Vs.nil.box c.db.one fun n5 h6 V6=>?_
 refine V6.box FL.one fun n7 h8 V8=>?_
 obtain⟨L,hL⟩:∃L,L=[(n7,Slot.box (uE U R)),(n5,.box c.e)]:=⟨_,rfl⟩
 rw[<- hL]at V8
 have h5:(n5,Slot.box c.e)∈L:=by simp[hL]
 have h7:(n7,Slot.box (uE U R))∈L:=by simp[hL]
 refine⟨fun _ h'=>((List.range c.b.length).all fun b=>HU Rc U R r b (nC c b))=true,?_,?_⟩
 ·rintro f h' ha
  rw[bo];unfold HJ;rw[ha]
 unfold lx
 refine⟨fun m q h'=>∃b:Nat,q=[nD b]/\b<=c.b.length/\m=c.b.length-b/\Vs h' L/\((List.range b).all fun b=>HU Rc U R r b (nC c b))=true,_,⟨0,rfl,by omega,rfl,V8,by simp⟩,?_⟩
 rintro m f h1 ⟨b,hq,hb,hm,V1,hall⟩
 simp only[List.cons.injEq,and_true]at hq
 have hbk:∀{KH:HKq},aa PP (.fadd (.c (.ptr n5 0 0)) 7) h1 (fun a h2=>aa PP (.ld (.c a) 1 false) h2 KH)=KH (.sl (c.b.map Block.e)) h1:=fun {KH}=>by
  rw[V1.EI (s:=.box c.e) h5,V1.pe (cs:=[.int .i64 c.group,.int .i64 c.sub,.int .i64 c.regs,.int .i64 c.slots,.int .i64 c.params,.sl (c.arrays.map uQ.e),.sl (c.loops.map Loop.e),.sl (c.b.map Block.e)]) h5 rfl]
 rw[hbk,br,List.length_map,hq]
 by_cases hlt:¬b<c.b.length
 ·have:b=c.b.length:=by omega
  subst this
  rw[nD,kp (by omega),af]
  simp only[ab,true_and]
  exact hall
 replace hlt:b<c.b.length:=Decidable.not_not.1 hlt
 obtain⟨B,hB⟩:∃B,c.b[b]?=some B:=⟨c.b[b],List.getElem?_eq_getElem hlt⟩
 have eB:=gy hB
 have nx:∀h',Vs h' L->HU Rc U R r b B=true->∃m',m'<m/\∃b':Nat,[D.int .i64 ((b:Int)+1)]=[nD b']/\b'<=c.b.length/\m'=c.b.length-b'/\Vs h' L/\((List.range b').all fun b=>HU Rc U R r b (nC c b))=true:=fun h' V' hr =>
  ⟨_,by omega,b+1,rfl,by omega,rfl,V',by rw[List.range_succ,List.all_append,hall];simp[eB,hr]⟩
 have no:HU Rc U R r b B=false->HJ c Rc U R r=false:=fun hr=>by
  unfold HJ
  cases h2:(List.range c.b.length).all fun b=>HU Rc U R r b (nC c b)
  ·rfl
  ·have:=List.all_eq_true.1 h2 b (List.mem_range.2 hlt);rw[eB,hr]at this;cases this
 rw[nD,kN (by omega),ag]
 refine⟨fun _ h'=>Vs h' L/\HU Rc U R r b B=true,?_,?_⟩
 ·rintro f' h' ⟨V',hr⟩
  rw[cw (by omega) (by omega)]
  simp only[ab,true_and]
  exact nx h' V' hr
 rw[kM (esz:=1) (d:=.bool (hasB Rc b)) (by omega) (by rw[Int.toNat_natCast];exact ca (aR (by omega))) rfl,rP rfl,cD]
 cases g1:hasB Rc b
 ·rw[Bool.not_false,ag]
  simp only[ab,true_and]
  exact⟨V1,by unfold HU;rw[g1];rfl⟩
 rw[Bool.not_true,af,hbk,w9 hB,Ky,KX]
 refine bT Ps (fun d hd=>by simp at hd;subst hd;exact B.t.db.pair) ?_
 rintro _ rfl
 rw[bY]
 by_cases g2:cX B.t.d=r
 ·rw[decide_eq_true g2,ag,bo,no (by unfold HU;rw[g1,decide_eq_true g2];rfl)]
 ·rw[decide_eq_false g2,af]
  refine SU hc h5 h7 V1 hU hR hB hq (fun h' V' ha=>⟨V',?_⟩) fun h' V' ha=>?_
  ·unfold HU;rw[g1,decide_eq_false g2,ha];rfl
  ·rw[bo,no (by unfold HU;rw[g1,decide_eq_false g2,ha];rfl)]
theorem Dv {c:Code}(hc:cU c){h:Heap}{L:LSq}{KH:HKq}{vU vR:D}{U R Rc:List Bool}{r:Int}(V:Vs h L) (wU:BW L vU U) (wR:BW L vR R) (hU:U.length=c.b.length) (hR:(R.length:Int)=c.regs) (hRc:Rc.length=c.b.length) (hK:KH (.bool (HJ c Rc U R r)) h):ah PP ew [c.e,.sl (bL Rc),.agg [vU,vR],.int .i64 r] h KH:=by
 obtain⟨f1,f2,f3⟩:=T4 V wU wR
 have pr:∀{d:D},d.vd=true/\aH d->d.fz h=d/\aH d/\l9 h d/\(d.fz h).vd=true:=fun {d} p=>by
  obtain⟨g1,g2,g3⟩:=sj (h:=h) p.1
  exact⟨g1,p.2,g3,by rw[g1];exact p.1⟩
 obtain⟨a1,a2⟩:=pr c.db.pair
 obtain⟨b1,b2⟩:=pr (d:=.sl (bL Rc)) kT.pair
 obtain⟨c1,c2⟩:=pr (d:=.int .i64 r) aO.pair
 refine ah.mono ?_ (dB (K:=(· = .bool (HJ c Rc U R r))) ?_ ?_)
 ·rintro d h' ⟨rfl,h2,-⟩
  rw[h2 (Or.inl rfl)];exact hK
 ·simp only[List.map_cons,List.map_nil,f1,a1,b1,c1]
  exact Iu hc hU hR hRc
 ·intro d hd
  simp at hd
  rcases hd with rfl|rfl|rfl|rfl
  ·exact a2
  ·exact b2
  ·exact⟨f2,f3,by rw[f1];exact FL.pair.1⟩
  ·exact c2
end Go.Am
namespace Go.Am
open Go Go.Proofs
section
variable {c:Code}{U R:List Bool}
theorem xL {o:cG}:(∀f,f∈bq [o]->fM U R f=true)↔De R o=true:=by
 unfold bq De
 by_cases h:o.kind=2
 ·simp[h,fM,xF]
 ·simp[h]
theorem Jd {x y z:cG}:(∀f,f∈bq [x,y,z]->fM U R f=true)↔De R x=true/\De R y=true/\De R z=true:=by
 rw[<- xL (U:=U) (R:=R) (o:=x), <- xL (U:=U) (R:=R) (o:=y), <- xL (U:=U) (R:=R) (o:=z)]
 have e:bq [x,y,z]=bq [x]++(bq [y]++bq [z]):=by
  unfold bq
  rw[show [x,y,z]=[x]++([y]++[z]) from rfl]
  simp only[List.filter_append,List.map_append]
 rw[e]
 simp only[List.mem_append]
 exact⟨fun h=>⟨fun f hf=>h f (Or.inl hf),fun f hf=>h f (Or.inr (Or.inl hf)),fun f hf=>h f (Or.inr (Or.inr hf))⟩,fun ⟨h1,h2,h3⟩ f hf=>by
  rcases hf with hf|hf|hf
  ·exact h1 f hf
  ·exact h2 f hf
  ·exact h3 f hf⟩
def UW (U R:List Bool) (r:Ru):Prop:=r.never=false/\∀f∈r.needs,fM U R f=true
theorem OU {b:Nat}:fM U R (oS b)=hasB U b:=rfl
theorem FV {b:Nat}(hb:b<c.b.length):Ll c (cH c) (gY c) U R b=true ↔ ∀r,r∈fo c->r.of=oS b->UW U R r:=by
 unfold Ll
 rw[Bool.and_eq_true,cr hb,List.all_eq_true,ya hb]
 constructor
 ·rintro⟨hp,ha⟩ r hr ho
  have hi:=jX.1 hr
  cases hi with
  | @no b' hb' hp' =>
   have:b'=b:=by simp only[OH,oS,Fa.mk.injEq,true_and]at ho;omega
   subst this;exact absurd hp hp'
  | @dep b' a A hb' hp' hd hA =>
   have:b'=b:=by simp only[sQ,oS,Fa.mk.injEq,true_and]at ho;omega
   subst this
   have:=ha a (ua.2 ⟨(List.getElem?_eq_some_iff.1 hA).1,hd⟩)
   rw[Bool.and_eq_true,gy hA]at this
   refine⟨rfl,fun f hf=>?_⟩
   simp only[sQ,List.mem_append]at hf
   rcases hf with hf|hf
   ·exact xL.2 this.2 f hf
   ·simp at hf;subst hf;exact this.1
  | inst=>simp[gF,pW,oS]at ho
  | fin=>simp[pW,oS]at ho
 ·intro h
  have hp:Path (edg c) 0 b:=by
   by_cases hp:Path (edg c) 0 b
   ·exact hp
   ·have:=(h _ (jX.2 (.no hb hp)) rfl).1;cases this
  refine⟨hp,fun a ha=>?_⟩
  obtain⟨haN,hd⟩:=ua.1 ha
  obtain⟨A,hA⟩:∃A,c.b[a]?=some A:=⟨c.b[a],List.getElem?_eq_getElem haN⟩
  have:=(h _ (jX.2 (.dep hb hp hd hA)) rfl).2
  rw[Bool.and_eq_true,gy hA]
  exact⟨this (oS a) (by simp[sQ]),(xL (U:=U)).1 fun f hf=>this f (by simp only[sQ,List.mem_append];exact Or.inl hf)⟩
theorem Fh {r:Int}(h0:0<=r):HJ c (cH c) U R r=true ↔ ∀ru,ru∈fo c->ru.of=pW r->UW U R ru:=by
 unfold HJ
 rw[List.all_eq_true]
 constructor
 ·intro h ru hr ho
  have hi:=jX.1 hr
  cases hi with
  | no=>simp[OH,pW,oS]at ho
  | dep=>simp[sQ,pW,oS]at ho
  | @inst b B x hB hp hx hx0 =>
   have hb:=(List.getElem?_eq_some_iff.1 hB).1
   have:=h b (List.mem_range.2 hb)
   unfold HU at this
   rw[(cr hb).2 hp,gy hB,Bool.not_true,Bool.false_or,Bool.and_eq_true,List.all_eq_true]at this
   have hx':=this.2 x hx
   simp only[gF,pW,Fa.mk.injEq,true_and]at ho
   unfold NF at hx'
   rw[decide_eq_true ho]at hx'
   simp only[Bool.true_and,Bool.not_eq_true',Bool.or_eq_false_iff,Bool.not_eq_false']at hx'
   obtain⟨h1,h2,h3,h4,h5⟩:=hx'
   refine⟨h2,fun f hf=>?_⟩
   simp only[gF,List.mem_append]at hf
   rcases hf with hf|hf
   ·exact Jd.2 ⟨h3,h4,h5⟩ f hf
   ·simp at hf;subst hf;exact h1
  | @fin b B hB hp hx0 =>
   have hb:=(List.getElem?_eq_some_iff.1 hB).1
   have:=h b (List.mem_range.2 hb)
   unfold HU at this
   rw[(cr hb).2 hp,gy hB,Bool.not_true,Bool.false_or,Bool.and_eq_true]at this
   simp only[pW,Fa.mk.injEq,true_and]at ho
   have h1:=this.1
   rw[decide_eq_true ho]at h1;cases h1
 ·intro h b hb
  have hb:=List.mem_range.1 hb
  obtain⟨B,hB⟩:∃B,c.b[b]?=some B:=⟨c.b[b],List.getElem?_eq_getElem hb⟩
  unfold HU
  rw[gy hB]
  cases hp:hasB (cH c) b
  ·rfl
  have hp':=(cr hb).1 hp
  rw[Bool.not_true,Bool.false_or,Bool.and_eq_true,List.all_eq_true]
  constructor
  ·by_cases hd:cX B.t.d=r
   ·have:=(h _ (jX.2 (.fin hB hp' (by omega))) (by simp[hd])).1;cases this
   ·rw[decide_eq_false hd];rfl
  ·intro x hx
   unfold NF
   by_cases hd:cX x.d=r
   ·have:=h _ (jX.2 (.inst hB hp' hx (by omega))) (by simp[gF,hd])
    have h3:=(Jd (U:=U) (R:=R) (x:=x.a) (y:=x.b) (z:=x.c)).1 fun f hf=>this.2 f (by simp only[gF,List.mem_append];exact Or.inl hf)
    have h4:=this.2 (oS b) (by simp[gF])
    have h5:eZ x=false:=this.1
    rw[OU]at h4
    rw[decide_eq_true hd,h4,h5,h3.1,h3.2.1,h3.2.2];rfl
   ·rw[decide_eq_false hd];rfl
theorem ND {b:Nat}(hb:b<c.b.length) (h:Ll c (cH c) (gY c) U R b=false) (hu:hasB U b=true):∃r,r∈fo c/\r.of=oS b/\cL U R r=false:=by
 apply Classical.byContradiction
 intro hn
 have:Ll c (cH c) (gY c) U R b=true:=(FV hb).2 fun r hr ho=>by
  cases hk:cL U R r
  ·exact absurd ⟨r,hr,ho,hk⟩ hn
  ·exact dM.1 hk (by rw[ho];exact hu)
 rw[h]at this;cases this
theorem Md {n:Nat}(h:HJ c (cH c) U R (n:Int)=false) (hu:hasB R n=true):∃r,r∈fo c/\r.of=pW (n:Int)/\cL U R r=false:=by
 apply Classical.byContradiction
 intro hn
 have:HJ c (cH c) U R (n:Int)=true:=(Fh (by omega)).2 fun r hr ho=>by
  cases hk:cL U R r
  ·exact absurd ⟨r,hr,ho,hk⟩ hn
  ·exact dM.1 hk (by rw[ho];exact hu)
 rw[h]at this;cases this
theorem x6 (hc:cU c):(fo c).all (cL U R)=true↔(∀b,b<c.b.length->hasB U b=true->Ll c (cH c) (gY c) U R b=true)/\∀n:Nat,(n:Int)<c.regs->hasB R n=true->HJ c (cH c) U R (n:Int)=true:=by
 rw[List.all_eq_true]
 constructor
 ·intro h
  refine⟨fun b hb hu=>(FV hb).2 fun r hr ho=>?_,fun n hn hu=>(Fh (by omega)).2 fun r hr ho=>?_⟩
  ·exact dM.1 (h r hr) (by rw[ho];exact hu)
  ·exact dM.1 (h r hr) (by rw[ho];exact hu)
 ·rintro⟨h1,h2⟩ r hr
  have ok:=(zv hc r hr).of
  obtain⟨o0,o1,o2⟩:=ok
  refine dM.2 fun hg=>?_
  obtain⟨⟨bl,n⟩,needs,never⟩:=r
  simp only at o0 o1 o2
  have en:((n.toNat:Nat):Int)=n:=by omega
  cases bl with
  | true =>
   have:=o1 rfl
   have hb:n.toNat<c.b.length:=by omega
   exact(FV hb).1 (h1 _ hb hg) _ hr (by simp[oS,en])
  | false =>
   have:=o2 rfl
   have hb:=h2 n.toNat (by omega) hg
   rw[en]at hb
   exact(Fh o0).1 hb _ hr rfl
end
end Go.Am
namespace Go.Am
open Go Go.Proofs
def Dr (c:Code) (P:List Bool->List Bool->Prop):Prop:=∀U R r,U.length=c.b.length->(R.length:Int)=c.regs->P U R->r∈fo c->fM U R r.of=true->cL U R r=false->P (ox U R r.of).1 (ox U R r.of).2
structure Aj (c:Code) (P:List Bool->List Bool->Prop) (N:Nat) (U R:List Bool) (t:Bool):Prop where
 ul:U.length=c.b.length
 rl:(R.length:Int)=c.regs
 p:P U R
 n:if t then oK U R<N else oK U R=N
theorem Aj.le {c:Code}{P:List Bool->List Bool->Prop}{N:Nat}{U R:List Bool}{t:Bool}(s:Aj c P N U R t):oK U R<=N:=by
 have:=s.n;split at this<;>omega
theorem Aj.drop {c:Code}{P:List Bool->List Bool->Prop}{N:Nat}{U R:List Bool}{t:Bool}(hP:Dr c P) (s:Aj c P N U R t){r:Ru}(hr:r∈fo c) (hg:fM U R r.of=true) (hk:cL U R r=false):Aj c P N (ox U R r.of).1 (ox U R r.of).2 true:=by
 refine⟨?_,?_,hP U R r s.ul s.rl s.p hr hg hk,?_⟩
 ·unfold ox;split<;>simp[s.ul]
 ·unfold ox;split<;>simp[s.rl]
 ·have:=G7 hg;have:=s.le
  rw[if_pos rfl];omega
section
variable {c:Code}{nU nR nu n4 n2 nr N:Nat}{U R:List Bool}{X:LSq}{vD:D}{P:List Bool->List Bool->Prop}{h:Heap}{t:Bool}
def na (c:Code) (U R:List Bool) (i:Nat):Prop:=∀b,b<i->hasB U b=true->Ll c (cH c) (gY c) U R b=true
def Eg (c:Code) (U R:List Bool) (i:Nat):Prop:=∀n:Nat,n<i->hasB R n=true->HJ c (cH c) U R (n:Int)=true
theorem Aj.bU {L:LSq}(s:Aj c P N U R t) (hs:∀x,x∈aS c nU nR nu n4 n2 nr U R X->x∈L):BW L (.ms nU 0 c.b.length) U:=Or.inr ⟨nU,by rw[s.ul],hs _ (by simp[aS])⟩
theorem Aj.bR {L:LSq}(s:Aj c P N U R t) (hr:c.regs=(nr:Int)) (hs:∀x,x∈aS c nU nR nu n4 n2 nr U R X->x∈L):BW L (.ms nR 0 nr) R:=Or.inr ⟨nR,by have:=s.rl;rw[show R.length=nr by omega],hs _ (by simp[aS])⟩
theorem Kv (hc:cU c) (hr:c.regs=(nr:Int)) (hP:Dr c P) (wD:LR X vD (gY c)) (s:Aj c P N U R false) (V:Vs h (aS c nU nR nu n4 n2 nr U R X)){J:HJq}
  (hJ:∀h' U' R' t,Aj c P N U' R' t->(t=false->na c U' R' c.b.length)->Vs h' (aS c nU nR nu n4 n2 nr U' R' X)->J [.bool t] h') :
  lg h (.ptr nu 0 0) (.ptr n2 0 0) (.ptr n4 0 0) (.sl (bL (cH c))) vD J:=by
 have hnb:=hc.g.nb
 unfold lg
 refine⟨fun m q h'=>∃(i:Nat) (U R:List Bool) (t:Bool),q=[.bool t,nD i]/\i<=c.b.length/\m=c.b.length-i/\Aj c P N U R t/\(t=false->na c U R i)/\Vs h' (aS c nU nR nu n4 n2 nr U R X),_,⟨0,U,R,false,rfl,by omega,rfl,s,fun _ b hb=>by omega,V⟩,?_⟩
 rintro m f h1 ⟨i,U1,R1,t1,hq,hi,hm,s1,ck,V1⟩
 simp only[List.cons.injEq,and_true]at hq
 obtain⟨q1,q2⟩:=hq
 have get0:∀{KH:HKq},aa PP (.fadd (.c (.ptr nu 0 0)) 0) h1 (fun a h2=>aa PP (.ld (.c a) 1 false) h2 KH)=KH (.ms nU 0 c.b.length) h1:=fun {KH}=>by rw[V1.fa 0 rfl,V1.b9 0 (j:=0+0) rfl rfl]
 have len0:∀{K:D->Prop},aG (.ms nU 0 c.b.length) h1 K=K (.int .i64 (c.b.length:Int)):=fun {K}=>by
  rw[bb,V1.get 2 _ _ rfl];exact propext ⟨fun hh=>hh.2,fun hk=>⟨rfl,hk⟩⟩
 rw[get0,len0,q1,q2]
 by_cases hlt:¬i<c.b.length
 ·have:i=c.b.length:=by omega
  subst this
  rw[nD,kp (by omega),af]
  simp only[ab,true_and]
  exact hJ h1 U1 R1 t1 s1 ck V1
 replace hlt:i<c.b.length:=Decidable.not_not.1 hlt
 rw[nD,kN (by omega),ag]
 refine⟨fun q h'=>∃(U R:List Bool) (t:Bool),q=[.bool t]/\Aj c P N U R t/\(t=false->na c U R (i+1))/\Vs h' (aS c nU nR nu n4 n2 nr U R X),?_,?_⟩
 ·rintro f' h' ⟨U2,R2,t2,hq,s2,ck2,V2⟩
  simp only[List.cons.injEq,and_true]at hq
  rw[hq,cw (by omega) (by omega)]
  simp only[ab,true_and]
  exact⟨_,by omega,i+1,U2,R2,t2,rfl,by omega,rfl,s2,ck2,V2⟩
 have more:(hasB U1 i=true->Ll c (cH c) (gY c) U1 R1 i=true)->(t1=false->na c U1 R1 (i+1)):=fun hh ht b hb hu=>by
  by_cases e:b=i
  ·subst e;exact hh hu
  ·exact ck ht b (by omega) hu
 rw[get0,V1.ia 2 rfl (by omega) (by omega),Int.toNat_natCast,V1.uV 2 rfl (ca (aR (by rw[s1.ul];exact hlt))) rfl]
 cases g1:hasB U1 i
 ·simp only[gD,Bool.not_false,Bool.not_true,Bool.false_eq_true,if_true,if_false]
  rw[af]
  simp only[ab,true_and]
  exact⟨U1,R1,t1,rfl,s1,more fun h=>by(rw[g1]at h;cases h),V1⟩
 simp only[gD,Bool.not_false,Bool.not_true,Bool.false_eq_true,if_true,if_false]
 rw[V1.lu 4 (s:=8) rfl rfl,V1.lu 0 (s:=2) rfl rfl,show D.agg [.int .i64 c.group,.int .i64 c.sub,.int .i64 c.regs,.int .i64 c.slots,.int .i64 c.params,.sl (c.arrays.map uQ.e),.sl (c.loops.map Loop.e),.sl (c.b.map Block.e)]=c.e from rfl]
 refine JM hc (ye hc.g) sR V1 (s1.bU fun x hx=>hx) (s1.bR hr fun x hx=>hx) (wD.mono fun x hx=>by simp[aS,hx]) s1.ul s1.rl hlt kn fun h2 V2=>?_
 rw[cD]
 cases g2:Ll c (cH c) (gY c) U1 R1 i
 ·rw[Bool.not_false,ag,V2.fa 0 rfl,V2.b9 0 (j:=0+0) rfl rfl,V2.ia 2 rfl (by omega) (by omega),Int.toNat_natCast]
  refine V2.rG 2 rfl (by simp[bL,s1.ul];exact hlt) rfl (dw _) fun h3 V3=>?_
  rw[du]at V3
  simp only[ab,true_and]
  obtain⟨r,hr1,hr2,hr3⟩:=ND hlt g2 g1
  have:=s1.drop hP hr1 (by rw[hr2];exact g1) hr3
  rw[hr2]at this
  exact⟨U1.set i false,R1,true,rfl,this,fun h=>(by cases h),V3⟩
 ·rw[Bool.not_true,af]
  simp only[ab,true_and]
  exact⟨U1,R1,t1,rfl,s1,more fun _=>g2,V2⟩
theorem OW (hc:cU c) (hr:c.regs=(nr:Int)) (hP:Dr c P) (s:Aj c P N U R t) (cb:t=false->na c U R c.b.length) (V:Vs h (aS c nU nR nu n4 n2 nr U R X)){f:Nat->D}(hf:f 6=.bool t){I:Nat->HJq}{n31:Nat}
  (hJ:∀h' U' R' t,Aj c P N U' R' t->(t=false->na c U' R' c.b.length/\Eg c U' R' nr)->Vs h' (aS c nU nR nu n4 n2 nr U' R' X)->∃m,m<n31/\I m [.bool t] h') :
  lh f h (.ptr nu 0 0) (.ptr n2 0 0) (.ptr n4 0 0) (.sl (bL (cH c))) vD n31 I:=by
 have hnb:=hc.g.nb
 have hrg:=hc.rg
 unfold lh
 rw[hf]
 refine⟨fun m q h'=>∃(i:Nat) (U R:List Bool) (t:Bool),q=[.bool t,nD i]/\i<=nr/\m=nr-i/\Aj c P N U R t/\(t=false->na c U R c.b.length/\Eg c U R i)/\Vs h' (aS c nU nR nu n4 n2 nr U R X),_,⟨0,U,R,t,rfl,by omega,rfl,s,fun h=>⟨cb h,fun b hb=>by omega⟩,V⟩,?_⟩
 rintro m f h1 ⟨i,U1,R1,t1,hq,hi,hm,s1,ck,V1⟩
 simp only[List.cons.injEq,and_true]at hq
 obtain⟨q1,q2⟩:=hq
 have hRl:R1.length=nr:=by have:=s1.rl;omega
 have get0:∀{KH:HKq}{h1:Heap}{U1 R1:List Bool},Vs h1 (aS c nU nR nu n4 n2 nr U1 R1 X)->aa PP (.fadd (.c (.ptr nu 0 0)) 1) h1 (fun a h2=>aa PP (.ld (.c a) 1 false) h2 KH)=KH (.ms nR 0 nr) h1:=fun {KH h1 U1 R1} V1=>by rw[V1.fa 0 rfl,V1.b9 0 (j:=0+1) rfl rfl]
 have len0:∀{K:D->Prop},aG (.ms nR 0 nr) h1 K=K (.int .i64 (nr:Int)):=fun {K}=>by
  rw[bb,V1.get 1 _ _ rfl];exact propext ⟨fun hh=>hh.2,fun hk=>⟨rfl,hk⟩⟩
 rw[get0 V1,len0,q1,q2]
 by_cases hlt:¬i<nr
 ·have:i=nr:=by omega
  subst this
  rw[nD,kp (by omega),af]
  simp only[ab,true_and]
  exact hJ h1 U1 R1 t1 s1 ck V1
 replace hlt:i<nr:=Decidable.not_not.1 hlt
 rw[nD,kN (by omega),ag]
 refine⟨fun q h'=>∃(U R:List Bool) (t:Bool),q=[.bool t]/\Aj c P N U R t/\(t=false->na c U R c.b.length/\Eg c U R (i+1))/\Vs h' (aS c nU nR nu n4 n2 nr U R X),?_,?_⟩
 ·rintro f' h' ⟨U2,R2,t2,hq,s2,ck2,V2⟩
  simp only[List.cons.injEq,and_true]at hq
  rw[hq,cw (by omega) (by omega)]
  simp only[ab,true_and]
  exact⟨_,by omega,i+1,U2,R2,t2,rfl,by omega,rfl,s2,ck2,V2⟩
 have more:(hasB R1 i=true->HJ c (cH c) U1 R1 (i:Int)=true)->(t1=false->na c U1 R1 c.b.length/\Eg c U1 R1 (i+1)):=fun hh ht=>⟨(ck ht).1,fun b hb hu=>by
  by_cases e:b=i
  ·subst e;exact hh hu
  ·exact(ck ht).2 b (by omega) hu⟩
 rw[get0 V1,V1.ia 1 rfl (by omega) (by omega),Int.toNat_natCast,V1.uV 1 rfl (ca (aR (by rw[hRl];exact hlt))) rfl]
 cases g1:hasB R1 i
 ·simp only[gD,Bool.not_false,Bool.not_true,Bool.false_eq_true,if_true,if_false]
  rw[af]
  simp only[ab,true_and]
  exact⟨U1,R1,t1,rfl,s1,more fun h=>by(rw[g1]at h;cases h),V1⟩
 simp only[gD,Bool.not_false,Bool.not_true,Bool.false_eq_true,if_true,if_false]
 rw[V1.lu 4 (s:=8) rfl rfl,V1.lu 0 (s:=2) rfl rfl,show D.agg [.int .i64 c.group,.int .i64 c.sub,.int .i64 c.regs,.int .i64 c.slots,.int .i64 c.params,.sl (c.arrays.map uQ.e),.sl (c.loops.map Loop.e),.sl (c.b.map Block.e)]=c.e from rfl]
 refine Dv hc V1 (s1.bU fun x hx=>hx) (s1.bR hr fun x hx=>hx) s1.ul s1.rl kn ?_
 rw[cD]
 cases g2:HJ c (cH c) U1 R1 (i:Int)
 ·rw[Bool.not_false,ag,get0 V1,V1.ia 1 rfl (by omega) (by omega),Int.toNat_natCast]
  refine V1.rG 1 rfl (by simp[bL,hRl];exact hlt) rfl (dw _) fun h3 V3=>?_
  rw[du]at V3
  simp only[ab,true_and]
  obtain⟨r,hr1,hr2,hr3⟩:=Md g2 g1
  have:=s1.drop hP hr1 (by rw[hr2];exact g1) hr3
  rw[hr2]at this
  exact⟨U1,R1.set i false,true,rfl,this,fun h=>(by cases h),V3⟩
 ·rw[Bool.not_true,af]
  simp only[ab,true_and]
  exact⟨U1,R1,t1,rfl,s1,more fun _=>g2,V1⟩
theorem OX (hc:cU c) (hr:c.regs=(nr:Int)) (hP:Dr c P) (wD:LR X vD (gY c)) (hul:U.length=c.b.length) (hrl:(R.length:Int)=c.regs) (hp:P U R) (V:Vs h (aS c nU nR nu n4 n2 nr U R X)){J:HJq}
  (hJ:∀h' U' R',U'.length=c.b.length->(R'.length:Int)=c.regs->P U' R'->(fo c).all (cL U' R')=true->Vs h' (aS c nU nR nu n4 n2 nr U' R' X)->J [] h') :
  lf h (.ptr nu 0 0) (.ptr n2 0 0) (.ptr n4 0 0) (.sl (bL (cH c))) vD J:=by
 unfold lf
 refine⟨fun m q h'=>∃(U R:List Bool) (t:Bool),q=[.bool t]/\m=2*oK U R+(if t then 1 else 0)/\U.length=c.b.length/\(R.length:Int)=c.regs/\P U R/\(t=false->na c U R c.b.length/\Eg c U R nr)/\Vs h' (aS c nU nR nu n4 n2 nr U R X),_,⟨U,R,true,rfl,rfl,hul,hrl,hp,fun h=>(by cases h),V⟩,?_⟩
 rintro m f h1 ⟨U1,R1,t1,hq,hm,ul,rl,p1,ck,V1⟩
 simp only[List.cons.injEq,and_true]at hq
 rw[hq]
 cases t1 with
 | false =>
  rw[af]
  simp only[ab,true_and]
  obtain⟨c1,c2⟩:=ck rfl
  exact hJ h1 U1 R1 ul rl p1 ((x6 hc).2 ⟨c1,fun n hn hu=>c2 n (by omega) hu⟩) V1
 | true =>
  rw[ag]
  refine⟨fun q h'=>∃(U R:List Bool) (t:Bool),q=[.bool t]/\Aj c P (oK U1 R1) U R t/\(t=false->na c U R c.b.length)/\Vs h' (aS c nU nR nu n4 n2 nr U R X),?_,?_⟩
  ·rintro f' h' ⟨U2,R2,t2,hq2,s2,ck2,V2⟩
   simp only[List.cons.injEq,and_true]at hq2
   refine OW hc hr hP s2 ck2 V2 hq2 fun h3 U3 R3 t3 s3 ck3 V3=>?_
   refine⟨_,?_,U3,R3,t3,rfl,rfl,s3.ul,s3.rl,s3.p,ck3,V3⟩
   have:=s3.n
   cases t3
   ·simp at this ⊢;simp at hm;omega
   ·simp at this ⊢;simp at hm;omega
  ·exact Kv hc hr hP wD ⟨ul,rl,p1,by simp⟩ V1 fun h' U' R' t s ck V=>⟨U',R',t,rfl,s,ck,V⟩
end
end Go.Am
