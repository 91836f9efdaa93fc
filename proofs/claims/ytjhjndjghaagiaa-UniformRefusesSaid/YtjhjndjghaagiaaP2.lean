/- What the functions of this chapter give, on plain data. No condition. -/
import Derived.Shelf.SortM.Plain
import Derived.Shelf.SortM.SortNone
import Derived.Shelf.Slices.CompactI
import Derived.Test.YtjhjndjghaagiaaP1
set_option linter.unnecessarySimpa false
set_option linter.defProp false
set_option linter.unusedSectionVars false
set_option linter.unusedSimpArgs false
set_option linter.unusedVariables false
namespace Go.Am
open Go Go.Proofs
structure MN (c:Code) (O O':List Nat) (at':List Int):Prop where
 ord:Ak (mT c) c.b.length 0 O
 g:Gk (o6 (mT c) O c.b.length (pD c O)) c.b.length O' at' (wK (o6 (mT c) O c.b.length (pD c O)) O' (c.b.length+1))
 all:∀x∈O,x∈O'
 sub:∀x,x∈pD c O->x∈O
 lt:∀x∈O,x<c.b.length
 len:O.length<=20/\(pD c O).length<=20
theorem vr {l:List Nat}{n:Nat}(nd:l.Nodup) (h:∀x∈l,x<n):l.length<=n:=by
 have:l.length<=(List.range n).length:=nd.length_le_of_subset (fun x hx=>List.mem_range.2 (h x hx))
 simpa using this
theorem OA {c:Code}(hc:ec c){h:Heap}{L:LSq}{KH:HKq}(V:Vs h L) (hK:∀ng nO nA O O' at' X v h',MN c O O' at'->Vs h' ((nO,.arr 1 (bP O'))::(ng,FN v nO O'.length nA (c.b.length+1))::(nA,.arr 1 (ez at'))::(X++L))->LR X v (o6 (mT c) O c.b.length (pD c O))->KH (.ptr ng 0 0) h') :
  af PP pj [c.e] h KH:=by
 have hnb:=hc.nb
 have hE:=lV hc
 refine aR tN (av _ _ _) rfl (Ah _ _) ?_
 unfold zE
 refine V.box c.gg.one fun n2 h3 V1=>?_
 rw[show aa PP (.ld (.c (.ptr n2 0 0)) 8 true) h3=fun KH=>KH c.e h3 from funext fun KH=>V1.re 0 rfl rfl]
 refine Me hc V1 fun nE h7 V7 wE=>?_
 rw[show(D.int .i64 0)=nD 0 from rfl]
 refine zB (E:=mT c) (n:=c.b.length) (r:=0) hE lx (by omega) (by omega) V7 (wE.mono fun x hx=>by simp at hx;simp[hx]) fun ng nO nA O at0 h9 hord G V9=>?_
 have hOlt:∀x∈O,x<c.b.length:=fun x hx=>by have:=G.lt x hx;rwa [lx]at this
 have hOl:O.length<=20:=Nat.le_trans (vr G.nd hOlt) hnb.2
 rw[V9.fa 4 rfl,V9.fe 4 (j:=7) rfl rfl,eG,List.length_map]
 refine DO (E:=mT c) (O:=O) hE V9 (ig:=1) (iO:=0) rfl rfl (wE.mono fun x hx=>by simp at hx;simp[hx]) lx (by omega) (by omega) hOlt fun v0 h16 R16=>?_
 refine R16.Ph (by rw[mW];omega) fun v h20 R20=>?_
 let L3:LSq:=(nO,.arr 1 (bP O))::(ng,FN (.ms nE 0 c.b.length) nO O.length nA c.b.length)::(nA,.arr 1 (ez at0))::(nE,.arr 1 (B6 c c.b.length))::(n2,.box c.e)::L
 have R20:jk h20 L3 v (o6 (mT c) O c.b.length []):=R20
 have V20:=R20.vs
 refine⟨fun _ h'=>jk h' L3 v (o6 (mT c) O c.b.length (O.filter (FX c))),?_,?_⟩
 ·intro f h23 R23
  unfold tL
  refine⟨fun m q h'=>∃l:List Nat,q=[]/\jk h' L3 v (o6 (mT c) O c.b.length l)/\l.Nodup/\(∀x∈l,x∈O)/\endF (mT c) O.reverse l=pD c O/\m=c.b.length-l.length,_,⟨_,rfl,R23,G.nd.filter _,fun x hx=>(List.mem_filter.1 hx).1,rfl,rfl⟩,?_⟩
  rintro m f' h27 ⟨l,-,R27,hnd,hlO,hend,hm⟩
  have hll:=vr hnd fun x hx=>hOlt x (hlO x hx)
  obtain⟨X,V27,wX,lift⟩:=R27.lift
  have htok:=D7 hc hOlt hlO (by omega) hOl
  refine zB (E:=o6 (mT c) O c.b.length l) (n:=c.b.length+1) (r:=c.b.length) htok o5 (by omega) (by omega) V27 (wX.mono fun x hx=>List.mem_append_left _ hx) fun ng' nO' nA' O' at' h29 hord' G' V29=>?_
  have hmem:=fun {b:Nat}(hb:b∈O)=>Kz hE G lx G' hlO hb
  have ix:∀{i:Nat}{x:Nat×Slot},L3[i]?=some x->((nO',Slot.arr 1 (bP O'))::(ng',FN v nO' O'.length nA' (c.b.length+1))::(nA',.arr 1 (ez at'))::(X++L3))[X.length+i+3]?=some x:=fun hi=>by
   simp only[List.getElem?_cons_succ]
   rw[List.getElem?_append_right (by omega),Nat.add_sub_cancel_left];exact hi
  refine⟨fun q h'=>h'=h29/\∃d,q=[d]/\Mh O O' O.length d,?_,?_⟩
  ·rintro f2 h32 ⟨e,d,hq,hs⟩
   subst e
   simp only[List.cons.injEq,and_true]at hq
   rw[hq]
   rcases hs with⟨rfl,hs⟩|⟨j,b,rfl,hj,hb,hbO,hs⟩
   ·rw[sZ (by omega),ai]
    have hall:∀x∈O,x∈O':=fun x hx=>hs x (by rwa [List.take_length])
    have e1:pD c O=l:=by rw[<- hend];exact Ha fun y hy=>(hmem hy).1 (hall y hy)
    refine hK ng' nO' nA' O O' at' (X++[(nO,.arr 1 (bP O)),(ng,FN (.ms nE 0 c.b.length) nO O.length nA c.b.length),(nA,.arr 1 (ez at0)),(nE,.arr 1 (B6 c c.b.length)),(n2,.box c.e)]) v h32 ⟨hord,by rw[e1];exact G',hall,by rw[e1];exact hlO,hOlt,hOl,by rw[e1];omega⟩ ?_ ?_
    ·simpa only[List.append_assoc,List.cons_append,List.nil_append] using V29
    ·rw[e1];exact wX.mono fun x hx=>List.mem_append_left _ hx
   ·have hbO2:b∈O:=List.mem_of_getElem? hb
    rw[nD,sG (by omega),ah]
    have R32:jk h32 L3 v (o6 (mT c) O c.b.length l):=lift h32 V29.pop.pop.pop
    have hnl:b∉l:=fun hbl=>hbO ((hmem hbO2).2 ⟨b,hbl,.refl⟩)
    refine R32.app (b:=c.b.length) (x:=b) Fh (by omega) fun h45 R45=>?_
    rw[Fg]at R45
    simp only[ae,true_and]
    have hl1:(l++[b]).length=l.length+1:=by simp
    have nd1:(l++[b]).Nodup:=List.nodup_append.2 ⟨hnd,by simp,fun a ha x hx=>by simp at hx;subst hx;rintro rfl;exact hnl ha⟩
    have sub1:∀x,x∈l++[b]->x∈O:=fun x hx=>by
     rcases List.mem_append.1 hx with hx|hx
     ·exact hlO x hx
     ·simp at hx;subst hx;exact hbO2
    have hle:=vr nd1 fun x hx=>hOlt x (sub1 x hx)
    refine⟨_,?_,l++[b],R45,nd1,sub1,?_,rfl⟩
    ·omega
    ·rw[<- hend]
     have hjl:=(List.getElem?_eq_some_iff.1 hb).1
     have hsp:O=O.take j++b::O.drop (j+1):=by
      conv=>lhs;rw[<- List.take_append_drop j O]
      congr 1
      rw[List.drop_eq_getElem_cons hjl,(List.getElem?_eq_some_iff.1 hb).2]
     refine(G9 hsp (fun y hy=>?_) fun hr=>hbO ((hmem hbO2).2 hr)).symm
     obtain⟨k,hk⟩:=List.getElem?_of_mem hy
     rw[List.getElem?_drop]at hk
     exact(hmem (List.mem_of_getElem? hk)).1 (hs (j+1+k) y (by omega) (List.getElem?_eq_some_iff.1 hk).1 hk)
  ·rw[V29.fa _ (ix (i:=1) rfl),V29.fa _ (ix (i:=1) rfl),V29.fe _ (j:=1) (ix (i:=1) rfl) rfl,bo,V29.get _ _ _ (ix (i:=0) rfl)]
   refine⟨rfl,?_⟩
   refine L1 (w:=v) V29 (fun x hx=>by have:=hOlt x hx;omega) (by omega) (ix (i:=0) rfl) (ig:=1) rfl (iA:=2) rfl (by rw[G'.rO,o5]) (fun x hx=>?_) (fun x hx hn=>G'.ano x (by rw[o5];exact hx) hn) fun d hd=>⟨rfl,d,rfl,hd⟩
   obtain⟨i,hi⟩:=List.getElem?_of_mem hx
   exact⟨i,G'.aat i x hi⟩
 ·rw[V20.fa 1 rfl,V20.fa 1 rfl,V20.fe 1 (j:=1) rfl rfl,bo,V20.get 0 _ _ rfl]
  refine⟨rfl,?_⟩
  exact JW (ng:=ng) (nA:=nA) (ig:=1) (w:=.nil) hOlt hOl R20 (iO:=0) rfl (i2:=4) rfl fun h' R'=>R'
end Go.Am
namespace Go.Am
open Go Go.Proofs Go.Shelf Go.RowKit
def GA:Go.Shelf.Ren:=⟨fun|5=>72|8=>84|7=>83|19=>98|20=>99|10=>89|11=>90|12=>91|13=>92|14=>93|15=>94|16=>95|17=>96|18=>97|30=>102|31=>103|32=>104|33=>105|34=>106|35=>107|40=>108|n=>n,fun|23=>73|25=>3|3=>3|32=>140|22=>73|0=>0|44=>154|46=>156|4=>4|36=>146|35=>145|41=>151|5=>5|9=>9|53=>161|57=>165|63=>167|64=>168|n=>n,fun|n=>n⟩
theorem OW:Go.Proofs.SlLaysM.n5 Try.prog GA where
 mixed:=by kernel_rfl
 f5:=⟨Try.f72.name,by decide,Try.func72.trans (congrArg some (by kernel_rfl))⟩
 f7:=⟨Try.f83.name,by decide,Try.func83.trans (congrArg some (by kernel_rfl))⟩
 f8:=Try.func84.trans (congrArg some (by kernel_rfl))
 f10:=⟨Try.f89.name,by decide,Try.func89.trans (congrArg some (by kernel_rfl))⟩
 f11:=⟨Try.f90.name,by decide,Try.func90.trans (congrArg some (by kernel_rfl))⟩
 f12:=⟨Try.f91.name,by decide,Try.func91.trans (congrArg some (by kernel_rfl))⟩
 f13:=⟨Try.f92.name,by decide,Try.func92.trans (congrArg some (by kernel_rfl))⟩
 f14:=⟨Try.f93.name,by decide,Try.func93.trans (congrArg some (by kernel_rfl))⟩
 f15:=⟨Try.f94.name,by decide,Try.func94.trans (congrArg some (by kernel_rfl))⟩
 f16:=⟨Try.f95.name,by decide,Try.func95.trans (congrArg some (by kernel_rfl))⟩
 f17:=⟨Try.f96.name,by decide,Try.func96.trans (congrArg some (by kernel_rfl))⟩
 f18:=⟨Try.f97.name,by decide,Try.func97.trans (congrArg some (by kernel_rfl))⟩
 f19:=Try.func98.trans (congrArg some (by kernel_rfl))
 f20:=Try.func99.trans (congrArg some (by kernel_rfl))
 f30:=⟨Try.f102.name,by decide,Try.func102.trans (congrArg some (by kernel_rfl))⟩
 f31:=Try.func103.trans (congrArg some (by kernel_rfl))
 f32:=Try.func104.trans (congrArg some (by kernel_rfl))
 f33:=⟨Try.f105.name,by decide,Try.func105.trans (congrArg some (by kernel_rfl))⟩
 f34:=⟨Try.f106.name,by decide,Try.func106.trans (congrArg some (by kernel_rfl))⟩
 f35:=⟨Try.f107.name,by decide,Try.func107.trans (congrArg some (by kernel_rfl))⟩
 f40:=⟨Try.f108.name,by decide,Try.func108.trans (congrArg some (by kernel_rfl))⟩
 t0:=Try.underlying0
 a0:=Try.isAgg0
 z0:=Try.sizeOf0
 v0:=Try.zeroValue0
 t3:=Try.underlying3
 a3:=Try.isAgg3
 z3:=Try.sizeOf3
 v3:=Try.zeroValue3
 t4:=Try.underlying4
 a4:=Try.isAgg4
 z4:=Try.sizeOf4
 v4:=Try.zeroValue4
 t5:=Try.underlying5
 a5:=Try.isAgg5
 z5:=Try.sizeOf5
 v5:=Try.zeroValue5
 t9:=Try.underlying9
 a9:=Try.isAgg9
 z9:=Try.sizeOf9
 v9:=Try.zeroValue9
 t22:=Try.underlying73
 a22:=Try.isAgg73
 z22:=Try.sizeOf73
 v22:=Try.zeroValue73
 t23:=Try.underlying73
 a23:=Try.isAgg73
 z23:=Try.sizeOf73
 v23:=Try.zeroValue73
 t25:=Try.underlying3
 a25:=Try.isAgg3
 z25:=Try.sizeOf3
 v25:=Try.zeroValue3
 t32:=Try.underlying140
 a32:=Try.isAgg140
 z32:=Try.sizeOf140
 v32:=Try.zeroValue140
 t35:=Try.underlying145
 a35:=Try.isAgg145
 z35:=Try.sizeOf145
 v35:=Try.zeroValue145
 t36:=Try.underlying146
 a36:=Try.isAgg146
 z36:=Try.sizeOf146
 v36:=Try.zeroValue146
 t41:=Try.underlying151
 a41:=Try.isAgg151
 z41:=Try.sizeOf151
 v41:=Try.zeroValue151
 t44:=Try.underlying154
 a44:=Try.isAgg154
 z44:=Try.sizeOf154
 v44:=Try.zeroValue154
 t46:=Try.underlying156
 a46:=Try.isAgg156
 z46:=Try.sizeOf156
 v46:=Try.zeroValue156
 t53:=Try.underlying161
 a53:=Try.isAgg161
 z53:=Try.sizeOf161
 v53:=Try.zeroValue161
 t57:=Try.underlying165
 a57:=Try.isAgg165
 z57:=Try.sizeOf165
 v57:=Try.zeroValue165
 t63:=Try.underlying167
 a63:=Try.isAgg167
 z63:=Try.sizeOf167
 v63:=Try.zeroValue167
 t64:=Try.underlying168
 a64:=Try.isAgg168
 z64:=Try.sizeOf168
 v64:=Try.zeroValue168
def Hf:Go.Shelf.Ren:=⟨fun|20=>73|n=>n,fun|22=>73|3=>3|4=>4|0=>0|n=>n,fun|n=>n⟩
theorem PZ:Go.Proofs.Lays2.n20 Try.prog Hf where
 mixed:=by kernel_rfl
 f20:=Try.func73.trans (congrArg some (by kernel_rfl))
 t0:=Try.underlying0
 a0:=Try.isAgg0
 z0:=Try.sizeOf0
 v0:=Try.zeroValue0
 t3:=Try.underlying3
 a3:=Try.isAgg3
 z3:=Try.sizeOf3
 v3:=Try.zeroValue3
 t4:=Try.underlying4
 a4:=Try.isAgg4
 z4:=Try.sizeOf4
 v4:=Try.zeroValue4
 t22:=Try.underlying73
 a22:=Try.isAgg73
 z22:=Try.sizeOf73
 v22:=Try.zeroValue73
 i3:=by kernel_rfl
end Go.Am
namespace Go.Am
open Go Go.Proofs Go.RowKit Go.Sort
theorem Bm {ks:List Int}{cur:Array Value}{i:Nat}(hi:i<ks.length) (hs:ks.length<=cur.size):(putCells encI 0 ks.toArray cur).getD i Go.undef=.int .i64 (ks[i]'hi):=by
 have h1:(putCells encI 0 ks.toArray cur)[i]?=some (encI (ks[i]'hi)):=by
  unfold putCells
  rw[Array.getElem?_mapIdx]
  rw[Array.getElem?_eq_getElem (by omega)]
  simp[hi]
 simp[Array.getD_eq_getD_getElem?,h1]
theorem nM {ks:List Int}{cur:Array Value}:(putCells encI 0 ks.toArray cur).size=cur.size:=by simp[putCells]
theorem Fp {c:Ctx}{w w':World}(hp:c.hp=w.heap) (hr:an c){m g:Nat}{ks ks':List Int}{cur:Array Value}{ty:TypeId}(hm:c.h m=.arr 1 (ez ks)) (hρ:c.ρ m=some g) (hg:c.hp[g]?=some (Obj.cells cur ty (0,0))) (hsz:ks.length<=cur.size) (hl:ks'.length=ks.length){n:Nat}{os:Array Obj}
  (hw:w'=grow (putRow encI (Sort.ahead w n) g 0 ks'.toArray) os):c.le ⟨c.ρ,c.X,aq c.h m (.arr 1 (ez ks')),w'.heap⟩/\an ⟨c.ρ,c.X,aq c.h m (.arr 1 (ez ks')),w'.heap⟩/\WS w w'/\w'.heap[g]?=some (Obj.cells (putCells encI 0 ks'.toArray cur) ty (0,0)):=by
 have hgl:g<c.hp.size:=(Array.getElem?_eq_some_iff.1 hg).1
 have hheap:w'.heap=(w.heap.modify g (onCells (putCells encI 0 ks'.toArray)))++os:=by rw[hw];rfl
 have hsize:c.hp.size<=w'.heap.size:=by rw[hheap,hp];simp
 have hoth:∀k,k<c.hp.size->k≠g->w'.heap[k]?=c.hp[k]?:=fun k hk hne=>by
  rw[hheap,Array.getElem?_append_left (by rw[Array.size_modify, <- hp];exact hk),Array.getElem?_modify,if_neg (fun e=>hne e.symm),hp]
 have hat:w'.heap[g]?=some (Obj.cells (putCells encI 0 ks'.toArray cur) ty (0,0)):=by
  rw[hheap,Array.getElem?_append_left (by rw[Array.size_modify, <- hp];exact hgl),Array.getElem?_modify,if_pos rfl, <- hp,hg];rfl
 have st:gj c ⟨c.ρ,c.X,aq c.h m (.arr 1 (ez ks')),w'.heap⟩ m m g:={
  X:=rfl
  hother:=fun k hk _=>ag _ _ hk
  ρother:=fun _ _=>rfl
  hn:=Or.inl rfl
  hm:=fun h=>absurd rfl h
  mine:=by show(aq c.h m _ m).mine;rw[aj];trivial
  ρn:=hρ
  tn:=by show Trans (c.h m) (aq c.h m _ m);rw[aj,hm];exact .arrArr _ _ _ (by rw[lu,lu];omega)
  HD:=fun _=>hρ
  size:=hsize
  hp:=hoth
  shape:=fun cur' ty' fr h=>by rw[hg]at h;cases h;exact⟨_,hat,nM⟩
  loop:=fun r h=>by rw[hg]at h;cases h
  from':=Or.inr ⟨by rw[hm];trivial,hρ⟩ }
 refine⟨st.le,st.heap hr ?_,?_,hat⟩
 ·show ca _ m (aq c.h m _ m)
  rw[aj]
  have hcell:∀i j d,aF (ez ks') i j=some d->j=0/\∃(k:Int) (hi:i<ks'.length),ks'[i]=k/\d=.int .i64 k:=by
   intro i j d hd
   simp only[aF,Option.bind_eq_some_iff,ez,List.getElem?_map,Option.map_eq_some_iff]at hd
   obtain⟨x,⟨k,hk,rfl⟩,hx⟩:=hd
   obtain⟨hi,hk⟩:=List.getElem?_eq_some_iff.1 hk
   cases j with
   | zero=>simp[D.cells]at hx;exact⟨rfl,k,hi,hk,hx.symm⟩
   | succ j=>simp[D.cells]at hx
  refine⟨Nat.one_pos,fun e he=>?_,fun i j d hd=>?_,Or.inr ⟨g,_,ty,hρ,hat,by rw[lu,nM];omega,fun i j d hd=>?_⟩⟩
  ·simp only[ez,List.mem_map]at he;obtain⟨k,-,rfl⟩:=he;rfl
  ·obtain⟨-,k,-,-,rfl⟩:=hcell i j d hd;rfl
  ·obtain⟨rfl,k,hi,hk,rfl⟩:=hcell i j d hd
   rw[Nat.mul_one,Nat.add_zero,Bm hi (by omega),hk]
   exact .int _ _
 ·rw[hw];exact⟨rfl,rfl,rfl⟩
theorem Fs {c:Ctx}{w:World}(hp:c.hp=w.heap) (hr:an c){m:Nat}{ks:List Int}(hm:c.h m=.arr 1 (ez ks)) (h0:1<=ks.length){va:Value}(hv:ar c (.ms m 0 ks.length) va) :
  ∃(g cap:Nat) (cur:Array Value) (ty:TypeId),va=.slice (some ⟨g,0,none⟩) ks.length cap/\c.ρ m=some g/\c.hp[g]?=some (Obj.cells cur ty (0,0))/\ks.length<=cur.size/\ks.length<=cap/\cap<=maxLen/\cap<=cur.size/\Holds encI w g 0 ks.toArray:=by
 have hsl:=hr.slot m
 rw[hm]at hsl
 obtain⟨-,-,-,hrow⟩:=hsl
 rcases hrow with⟨-,he⟩|⟨g,cur,ty,q1,q2,q3,q4⟩
 ·have:(ez ks).length=0:=by rw[he];rfl
  rw[lu]at this;omega
 generalize hn:ks.length=len at hv
 cases hv with
 | msDead _ _ _ _ _ _ hd=>rw[hm]at hd;cases hd
 | msNil _ _ els hrow hρ=>omega
 | msE _ _ _ _ els hrow=>omega
 | ms _ _ _ g' esz' cap els' cur' ty' fr hrow' hρ hl hg hcap hc hmax =>
  rw[hm]at hrow'
  simp[Slot.row]at hrow'
  obtain⟨rfl,rfl⟩:=hrow'
  rw[hρ]at q1;cases q1
  rw[q2]at hg;cases hg
  rw[lu]at q3
  refine⟨g,cap,cur,ty,by simp,hρ,q2,by omega,hc,hmax,by omega,fun j hj=>?_⟩
  have hj':j<ks.length:=by simpa using hj
  have hc2:j<cur.size:=by omega
  refine⟨?_,?_⟩
  ·rw[oN, <- hp,Nat.zero_add,dX q2 hc2]
   have:=q4 j 0 (.int .i64 ks[j]) (by simp[aF,ez,hj',D.cells])
   rw[Nat.mul_one,Nat.add_zero]at this
   generalize cur.getD j Go.undef=x at this
   cases this
   simp[hj']
  ·simp[World.frozen?, <- hp,q2]
theorem FB {vals:Array Value}{d:D}{c:Ctx}(hs:vals.size=[d].length) (hrel:∀(i:Nat) (d':D),[d][i]?=some d'->ar c d' (vals.getD i Go.undef)):∃va,vals = #[va]/\ar c d va:=by
 obtain⟨l⟩:=vals
 match l,hs with
 | [x],_=>exact⟨x,rfl,hrel 0 _ rfl⟩
def mL (ks:List Int):List Int:=ks.mergeSort fun x y=>decide (x<=y)
theorem wV {ks:List Int}:(mL ks).length=ks.length:=by simp[mL]
theorem OD {h:Heap}{KH:HKq}{m:Nat}{ks:List Int}(hm:h m=.arr 1 (ez ks)) (h0:1<=ks.length) (hl:ks.length<=1000000) (hK:KH (.tup []) (aq h m (.arr 1 (ez (mL ks))))):af PP bu [.ms m 0 ks.length] h KH:=by
 intro c w vals hh hp hr hs hrel
 subst hh
 obtain⟨va,rfl,r0⟩:=FB hs hrel
 obtain⟨g,cap,cur,ty,rfl,hρ,hg,h1,h2,h3,h4,hH⟩:=Fs hp hr hm h0 r0
 refine(AnyM.slices_Sort_int OW g 0 cap ks w hH (by rw[<- hp];exact(Array.getElem?_eq_some_iff.1 hg).1) (by omega)).mono ?_
 rintro e w' ⟨rfl,n,os,hw⟩
 obtain⟨g1,g2,g3,-⟩:=Fp (ks':=mL ks) hp hr hm hρ hg h1 wV hw
 exact⟨_,.tup [],c.ρ,_,rfl,g1,g2,g3,.tup _ _ rfl (fun i d hd=>by simp at hd),hK⟩
def vM (ks:List Int):List Int:=Lib.compact ks++List.replicate (ks.length-(Lib.compact ks).length) 0
theorem Hv {h:Heap}{KH:HKq}{m:Nat}{ks:List Int}(hm:h m=.arr 1 (ez ks)) (h0:1<=ks.length) (hl:ks.length<=1000000) (hc:(Lib.compact ks).length<=ks.length) (hK:KH (.ms m 0 (Lib.compact ks).length) (aq h m (.arr 1 (ez (vM ks))))):af PP bl [.ms m 0 ks.length] h KH:=by
 intro c w vals hh hp hr hs hrel
 subst hh
 obtain⟨va,rfl,r0⟩:=FB hs hrel
 obtain⟨g,cap,cur,ty,rfl,hρ,hg,h1,h2,h3,h4,hH⟩:=Fs hp hr hm h0 r0
 refine(Any.slices_Compact_int PZ g 0 cap ks w hH (by omega) h2).mono ?_
 rintro e w' ⟨rfl,q,hw⟩
 have hlen:(vM ks).length=ks.length:=by simp[vM];omega
 obtain⟨g1,g2,g3,g4⟩:=Fp (w':=w') (ks':=vM ks) (n:=q) (os:= #[]) hp hr hm hρ hg h1 hlen (by rw[grow_empty,hw];rfl)
 refine⟨_,.ms m 0 (Lib.compact ks).length,c.ρ,_,rfl,g1,g2,g3,?_,hK⟩
 have:=ar.ms (c:=⟨c.ρ,c.X,aq c.h m (.arr 1 (ez (vM ks))),w'.heap⟩) m 0 (Lib.compact ks).length g 1 cap (ez (vM ks)) _ ty (0,0) (by show(aq c.h m _ m).row=_;rw[aj];rfl) hρ (by rw[lu];omega) g4 (by rw[nM];omega) (by omega) h3
 simpa using this
end Go.Am
namespace Go.Am
open Go Go.Proofs Go.RowKit
theorem xG {zs:List Int}:(Lib.compact zs).length<=zs.length:=by
 unfold Lib.compact Lib.compactUpTo
 rw[List.length_map]
 have:=List.length_filter_le (Lib.keeps zs.toArray) (List.range zs.length)
 simpa using this
theorem vI {zs:List Int}{j:Nat}(h:j<zs.length):(zs.toArray[j]!)=zs[j]:=by simp[h]
theorem Df {zs:List Int}{x:Int}:x∈Lib.compact zs↔x∈zs:=by
 unfold Lib.compact Lib.compactUpTo
 simp only[List.mem_map,List.mem_filter,List.mem_range]
 constructor
 ·rintro⟨j,⟨hj,-⟩,rfl⟩
  rw[vI hj];exact List.getElem_mem _
 ·intro hx
  have:∀(j:Nat) (hj:j<zs.length),zs[j]=x->∃a,(a<zs.length/\Lib.keeps zs.toArray a=true)/\(zs.toArray[a]!)=x:=by
   intro j
   induction j with
   | zero=>intro hj e;exact⟨0,⟨hj,by simp[Lib.keeps]⟩,by rw[vI hj,e]⟩
   | succ j ih =>
    intro hj e
    by_cases h:zs[j]=x
    ·exact ih (by omega) h
    ·refine⟨j+1,⟨hj,?_⟩,by rw[vI hj,e]⟩
     unfold Lib.keeps
     rw[decide_eq_true_eq,Nat.add_sub_cancel,vI hj,vI (by omega),e]
     exact Or.inr fun q=>h q.symm
  obtain⟨j,hj,e⟩:=List.mem_iff_getElem.1 hx
  exact this j hj e
theorem Dh {zs:List Int}(h:zs.Pairwise (· <= ·)):(Lib.compact zs).Pairwise (· < ·):=by
 unfold Lib.compact Lib.compactUpTo
 rw[List.pairwise_map]
 have h1:((List.range zs.length).filter (Lib.keeps zs.toArray)).Pairwise (· < ·):=List.Pairwise.filter _ List.pairwise_lt_range
 refine List.Pairwise.imp_of_mem ?_ h1
 intro a b ha hb hab
 simp only[List.mem_filter,List.mem_range]at ha hb
 rw[vI ha.1,vI hb.1]
 have hk:=hb.2
 unfold Lib.keeps at hk
 rw[decide_eq_true_eq,vI hb.1,vI (by omega)]at hk
 have hne:=hk.resolve_left (by omega)
 have hp:=List.pairwise_iff_getElem.1 h
 have h2:zs[b-1]'(by omega)<=zs[b]:=hp (b-1) b (by omega) hb.1 (by omega)
 have h3:zs[a]<=zs[b-1]'(by omega):=by
  by_cases e:a=b-1
  ·subst e;exact Int.le_refl _
  ·exact hp a (b-1) ha.1 (by omega) (by omega)
 have:zs[b-1]'(by omega)<zs[b]:=by
  rcases Int.lt_or_eq_of_le h2 with h|h
  ·exact h
  ·exact absurd h.symm hne
 exact Int.lt_of_le_of_lt h3 this
theorem Ea {ks:List Int}:(mL ks).Perm ks:=List.mergeSort_perm _ _
theorem H5 {ks:List Int}:(mL ks).Pairwise (· <= ·):=by
 have:=List.pairwise_mergeSort (le:=fun x y:Int=>decide (x<=y)) (fun a b c h1 h2=>by simp at h1 h2 ⊢;omega) (fun a b=>by simp;omega) ks
 exact this.imp fun h=>by simpa using h
def Ec (ks:List Int):List Int:=Lib.compact (mL ks)
theorem H9 {ks:List Int}{x:Int}:x∈Ec ks↔x∈ks:=by rw[Ec,Df,Ea.mem_iff]
theorem Ic {ks:List Int}:(Ec ks).Pairwise (· < ·):=Dh H5
theorem Ia {ks:List Int}:(Ec ks).length<=ks.length:=Nat.le_trans xG (by rw[wV];exact Nat.le_refl _)
end Go.Am
namespace Go.Am
open Go Go.Proofs
def WL (nk pb pu pl nU n:Nat) (s:LSt) (B:bf) (cur:Nat) (lv:D) (M:LSq):LSq:=(nk,.lp s B)::(pb,.box (nD cur))::(pu,.box (.ms nU 0 n))::(pl,.box lv)::M
section
variable {h:Heap}{M:LSq}{nk pb pu pl nU n pUv pA iv iU iA cur a w:Nat}{B:bf}{lv:D}{T:List Nat}{U:List Int}{K:HKq}
theorem Iw (hv:M[iv]?=some (pUv,.box (.ms nU 0 n))) (hU:M[iU]?=some (nU,.arr 1 (ez U))) (hA:M[iA]?=some (pA,.box (nD a))) (hUn:U.length=n) (hw:U[a]?=some (w:Int)) (hT:T.length<=1000000) (q:QD h (WL nk pb pu pl nU n .ready B cur lv M) lv (bP T))
  {z1 z3 z4 z24 z25 z26 z47 z48 z49:D}(h1:cur=w->∀h',QD h' (WL nk pb pu pl nU n (.done (.exit 4)) B cur lv M) lv (bP T)->K (.bool false) h') (h2:cur≠w->∀h' lv',QD h' (WL nk pb pu pl nU n .ready B cur lv' M) lv' (bP (T++[cur]))->K (.bool true) h') :
  jB nk B (nD cur) z1 z3 z4 (.ptr pUv 0 0) (.ptr pA 0 0) (.ptr pl 0 0) z24 z25 z26 z47 z48 z49 h K:=by
 unfold jB
 have V:=q.vs
 refine⟨rfl,V.get 0 _ _ rfl,?_⟩
 have q1:QD (aq h nk (.lp .busy B)) (WL nk pb pu pl nU n .busy B cur lv M) lv (bP T):=q.bO 0 rfl (by simp)
 have V1:=q1.vs
 have ix:∀{s:LSt}{lv:D}{i:Nat}{x:Nat×Slot},M[i]?=some x->(WL nk pb pu pl nU n s B cur lv M)[i+4]?=some x:=fun hi=>by simpa[WL] using hi
 have ha:=(List.getElem?_eq_some_iff.1 hw).1
 rw[V1.yn _ (ix hv) rfl,V1.yn _ (ix hA) rfl,nD,V1.ia _ (ix hU) (by omega) (by omega),Int.toNat_natCast,V1.zR _ (ix hU) (jL hw) rfl,nD,de]
 by_cases hc:cur=w
 ·rw[decide_eq_true (by omega),ai]
  refine⟨V1.get 0 _ _ rfl,h1 hc _ ?_⟩
  exact q1.bO 0 rfl (by simp)
 ·rw[decide_eq_false (by omega),ah]
  have hlo:lv.one=true:=by
   rcases q1 with⟨rfl,-,-⟩|⟨m,rfl,-⟩<;>rfl
  rw[V1.yn 3 rfl hlo]
  refine q1.push aV rfl (by rw[bm];omega) (by rw[bm];omega) fun lv' h2' q2=>?_
  have e2:bP T++[nD cur]=bP (T++[cur]):=by simp[bP]
  have e3:bP T++[D.int .i64 (cur:Int)]=bP (T++[cur]):=by simp[bP,nD]
  rw[e3]at q2
  rcases q2 with⟨-,h0,-⟩|⟨m,rfl,V2⟩
  ·simp[bP]at h0
  refine V2.Fj 4 rfl hlo rfl fun h3 V3=>?_
  simp only[WL,List.set_cons_succ,List.set_cons_zero]at V3
  refine⟨V3.get 1 _ _ rfl,h2 hc _ (.ms m 0 (bP (T++[cur])).length) ?_⟩
  have q3:QD h3 (WL nk pb pu pl nU n .busy B cur (.ms m 0 (bP (T++[cur])).length) M) (.ms m 0 (bP (T++[cur])).length) (bP (T++[cur])):=Or.inr ⟨m,rfl,V3⟩
  exact q3.bO 0 rfl (by simp)
end
inductive Kd (r:Nat) (up:Nat->Option Nat) (w:Nat):Nat->List Nat->Prop
 | stop:Kd r up w w []
 | top {b:Nat}(h:b≠w) (hu:up b=some b):Kd r up w b [b]
 | step {b y:Nat}{l:List Nat}(h:b≠w) (hy:up b=some y) (hb:y≠b) (k:Kd r up w y l):Kd r up w b (b::l)
section
variable {h:Heap}{M:LSq}{nk pb pu pl nU n pUv pA iv iU iA a w r:Nat}{U:List Int}{O:List Nat}{B:bf}
theorem Ko {P:Program}{A:(D->Prop)->Prop}{K:D->Prop}:aA (.bool false) true A K=K gU:=by
 rw[iw];simp
theorem MT {P:Program}{A:(D->Prop)->Prop}{K:D->Prop}:aA (.bool true) true A K=A K:=by
 rw[iw];simp
theorem Oj:cv PP fq=true:=by kernel_rfl
theorem Ox (hv:M[iv]?=some (pUv,.box (.ms nU 0 n))) (hU:M[iU]?=some (nU,.arr 1 (ez U))) (hA:M[iA]?=some (pA,.box (nD a))) (hUn:U.length=n) (hn:n<=1000) (hw:U[a]?=some (w:Int)) (T:Tr r (sY O) (· ∈ O) (upF U)) (hr0:sY O r=0)
  {to:Nat}(hto:upF U to≠none) {T0:List Nat}(hT:T0.length<=1000) (hOn:sY O to<=1000) {lv:D}(q:QD h (WL nk pb pu pl nU n .ready B to lv M) lv (bP T0)) {z1 z3 z4 z24 z25 z26 z47 z48 z49:D}{KH:HKq}
  (hps:B.ps=[56]) (hAs:tp PP jI B.nt B.assign) (hBs:tp PP jH B.nt B.body) (hlt:∀p,p∈[56]->p<B.nt) (he:B.env=LEnv.get [(1,z1),(3,z3),(4,z4),(5,.ptr pUv 0 0),(6,.ptr pA 0 0),(9,.ptr pl 0 0),(24,z24),(25,z25),(26,z26),(47,z47),(48,z48),(49,z49)])
  (hK:∀(s:LSt) (cur:Nat) (lv':D) (l:List Nat) (h':Heap),Kd r (upF U) w to l->(s=.ready\/s=.done (.exit 4))->QD h' (WL nk pb pu pl nU n s B cur lv' M) lv' (bP (T0++l))->KH (.tup []) h') :
  af PP fq [.yld nk,.ptr pb 0 0,.ptr pu 0 0] h KH:=by
 refine aR nI (av _ _ _) rfl (wv _ _ _ _) ?_
 unfold rY m7
 refine⟨fun m q' h'=>∃(cur:Nat) (lv:D) (l:List Nat),q'=[]/\m=sY O cur/\upF U cur≠none/\l.length+sY O cur<=sY O to/\(∀l',Kd r (upF U) w cur l'->Kd r (upF U) w to (l++l'))/\QD h' (WL nk pb pu pl nU n .ready B cur lv M) lv (bP (T0++l)),_,
  ⟨to,lv,[],rfl,rfl,hto,by simp,fun l' k=>k,by rw[List.append_nil];exact q⟩,?_⟩
 rintro m f h7 ⟨cur,lv,l,-,hm,hcu,hl,hseg,q7⟩
 have V7:=q7.vs
 have ix:∀{s:LSt}{cur:Nat}{lv:D}{i:Nat}{x:Nat×Slot},M[i]?=some x->(WL nk pb pu pl nU n s B cur lv M)[i+4]?=some x:=fun hi=>by simpa[WL] using hi
 rw[V7.zo 1 rfl rfl,FL]
 refine⟨⟨_,_,V7.get 0 _ _ rfl⟩,?_⟩
 refine lz (e:=[(1,z1),(3,z3),(4,z4),(5,.ptr pUv 0 0),(6,.ptr pA 0 0),(9,.ptr pl 0 0),(24,z24),(25,z25),(26,z26),(47,z47),(48,z48),(49,z49)]) (V7.get 0 _ _ rfl) hps hAs hBs (by simp) hlt rfl he ?_
 rw[show([Arg.c (nD cur)].map fun x=>x.get [])=[nD cur] from rfl, <- tm]
 refine Iw hv hU hA hUn hw (by simp;omega) q7 (fun hc h' q'=>?_) fun hc h' lv' q'=>?_
 ·
  subst hc
  have hs:=hseg [] .stop
  rw[List.append_nil]at hs
  have hfin:=hK _ _ _ l h' hs (Or.inr rfl) q'
  simp only[Ko (P:=PP),pF,ur,Bool.false_eq_true,if_false]
  rw[ah]
  exact hfin
 ·obtain⟨y,hy⟩:∃y,upF U cur=some y:=by
   cases hy:upF U cur with
   | none=>exact absurd hy hcu
   | some y=>exact⟨y,rfl⟩
  have hyU:=oy hy
  have hcl:=(List.getElem?_eq_some_iff.1 hyU).1
  have V':=q'.vs
  simp only[MT (P:=PP),↓V'.zo 2 rfl rfl,↓V'.zo 1 rfl rfl,nD,↓V'.Hc _ (ix hU) (show(0:Int)<=(cur:Int) by omega) (show(cur:Int)<(n:Int) by omega),Int.toNat_natCast,↓V'.EB _ (ix hU) (jL hyU) rfl,xq,pF,ur,if_true]
  by_cases hyc:y=cur
  ·subst hyc
   rw[decide_eq_true rfl]
   simp only[Bool.not_true]
   rw[ah]
   have hs:=hseg [y] (.top hc hy)
   rw[List.append_assoc]at q'
   exact hK _ _ _ (l++[y]) h' hs (Or.inl rfl) q'
  ·rw[decide_eq_false (by omega)]
   simp only[Bool.not_false]
   rw[ai,V'.yn 2 rfl rfl,V'.yn 1 rfl rfl,nD,V'.ia _ (ix hU) (by omega) (by omega),Int.toNat_natCast,V'.zR _ (ix hU) (jL hyU) rfl]
   have hcr:cur≠r:=by
    rintro rfl
    have:=T.rt
    rw[hy]at this;cases this
    exact hyc rfl
   have hplt:=T.lt cur y hy hcr
   rcases q' with⟨-,h0,-⟩|⟨m',rfl,V2⟩
   ·simp[bP]at h0
   refine V2.Fj 2 rfl rfl rfl fun h45 V45=>?_
   simp only[WL,List.set_cons_succ,List.set_cons_zero]at V45
   simp only[ae,true_and]
   refine⟨sY O y,by omega,y,.ms m' 0 (bP ((T0++l)++[cur])).length,l++[cur],rfl,(T.nd cur y hy).2,by simp;omega,fun l' k=>?_,Or.inr ⟨m',by rw[List.append_assoc],?_⟩⟩
   ·rw[List.append_assoc];exact hseg _ (.step hc hy hyc k)
   ·rw[<- List.append_assoc];exact V45
end
end Go.Am
namespace Go.Am
open Go Go.Proofs
section
variable {r:Nat}{A:Nat->Nat}{node:Nat->Prop}{up:Nat->Option Nat}{w:Nat}
theorem Kd.mem (T:Tr r A node up){b:Nat}{l:List Nat}(s:Kd r up w b l) (hw:Ch r up b w){x:Nat}:x∈l↔Ch r up b x/\¬Ch r up w x:=by
 induction s with
 | stop=>simp
 | @top b h hu =>
  exfalso
  cases hw with
  | refl _=>exact h rfl
  | step hr hy k =>
   have:=T.lt b b hu hr
   omega
 | @step b y l h hy hb k ih =>
  have hbr:b≠r:=by
   rintro rfl
   have:=T.rt
   rw[hy]at this;cases this
   exact hb rfl
  have hyw:Ch r up y w:=by
   cases hw with
   | refl _=>exact absurd rfl h
   | step hr hy' k'=>rw[hy]at hy';cases hy';exact k'
  rw[List.mem_cons,ih hyw]
  constructor
  ·rintro (rfl|⟨h1,h2⟩)
   ·exact⟨.refl _,fun k'=>h (hw.E0 T k').symm⟩
   ·exact⟨.step hbr hy h1,h2⟩
  ·rintro⟨h1,h2⟩
   cases h1 with
   | refl _=>exact Or.inl rfl
   | step hr hy' k'=>rw[hy]at hy';cases hy';exact Or.inr ⟨k',h2⟩
theorem Kd.len (T:Tr r A node up){b:Nat}{l:List Nat}(s:Kd r up w b l):l.length<=A b+1:=by
 induction s with
 | stop=>simp
 | top h hu=>simp
 | @step b y l h hy hb k ih =>
  have hbr:b≠r:=by
   rintro rfl
   have:=T.rt
   rw[hy]at this;cases this
   exact hb rfl
  have:=T.lt b y hy hbr
  simp only[List.length_cons];omega
end
section
variable {h:Heap}{L:LSq}{v:D}{Bs:List (List Nat)}{KH:HKq}
theorem jk.split (q:jk h L v Bs):∃X,Vs h (X++L)/\LR X v Bs/\∀h' L',Vs h' (X++L')->jk h' L' v Bs:=by
 obtain⟨nB,els,W,nm,rfl,V,R⟩:=q
 refine⟨(nB,.arr 1 els)::W,V,Or.inr ⟨nB,els,rfl,by simp,R.len,fun b e l he hl=>?_⟩,fun h' L' V'=>⟨nB,els,W,nm,rfl,V',R⟩⟩
 refine⟨R.one e (List.mem_of_getElem? he),?_⟩
 rcases R.el b l hl with⟨h1,h2⟩|⟨-,h2,h3⟩
 ·rw[he]at h2;cases h2;exact Or.inl ⟨rfl,h1⟩
 ·rw[he]at h2;cases h2;exact Or.inr (Or.inr ⟨_,rfl,by simp[h3]⟩)
theorem jk.take (q:jk h L v Bs){b x:Nat}{l:List Nat}(hb:Bs[b]?=some l):∃(nB:Nat) (els:List D) (W0:LSq) (e:D),v=.ms nB 0 Bs.length/\els.length=Bs.length/\(∀y∈els,y.one=true)/\els[b]?=some e/\QD h ((nB,.arr 1 els)::(W0++L)) e (bP l) /\
  ∀h' m,Vs h' ((m,.arr 1 (bP (l++[x])))::(nB,.arr 1 (els.set b (.ms m 0 (l.length+1))))::(W0++L))->jk h' L v (Bs.set b (l++[x])):=by
 obtain⟨nB,els,W,nm,rfl,V,R⟩:=q
 have hbl:=(List.getElem?_eq_some_iff.1 hb).1
 obtain⟨e,he⟩:∃e,els[b]?=some e:=⟨els[b]'(by rw[R.len];exact hbl),List.getElem?_eq_getElem _⟩
 have hx:∃W0,QD h ((nB,.arr 1 els)::(W0++L)) e (bP l)/\∀(b':Nat) (l':List Nat),b'≠b->Bs[b']?=some l'->l'≠[]->(nm b',.arr 1 (bP l'))∈W0:=by
  rcases R.el b l hb with⟨h1,h2⟩|⟨h0,h2,h3⟩
  ·rw[he]at h2;cases h2;subst h1
   refine⟨W,Or.inl ⟨rfl,rfl,V⟩,fun b' l' hne hb' hl'=>?_⟩
   rcases R.el b' l' hb' with⟨g1,-⟩|⟨-,-,g3⟩
   ·exact absurd g1 hl'
   ·exact g3
  ·rw[he]at h2;cases h2
   obtain⟨S,T,rfl⟩:=List.append_of_mem h3
   refine⟨S++T,Or.inr ⟨nm b,by rw[bm],V.perm ?_⟩,fun b' l' hne hb' hl'=>?_⟩
   ·have:((nB,Slot.arr 1 els)::(S++(nm b,.arr 1 (bP l))::T++L)).Perm ((nm b,.arr 1 (bP l))::(nB,.arr 1 els)::(S++T++L)):=by
     refine(List.Perm.cons _ ?_).trans (.swap _ _ _)
     simp only[List.append_assoc,List.cons_append]
     exact List.perm_middle
    exact this
   ·rcases R.el b' l' hb' with⟨g1,-⟩|⟨-,-,g3⟩
    ·exact absurd g1 hl'
    ·have hnn:nm b'≠nm b:=fun e=>hne (R.inj b' b l' l hb' hb hl' h0 e)
     rcases List.mem_append.1 g3 with g|g
     ·exact List.mem_append_left _ g
     ·rcases List.mem_cons.1 g with g|g
      ·exact absurd (congrArg Prod.fst g) hnn
      ·exact List.mem_append_right _ g
 obtain⟨W0,Q,hoth⟩:=hx
 have hel:b<els.length:=by rw[R.len];exact hbl
 refine⟨nB,els,W0,e,rfl,R.len,R.one,he,Q,fun h' m V'=>⟨nB,els.set b (.ms m 0 (l.length+1)),(m,.arr 1 (bP (l++[x])))::W0,fun y=>if y=b then m else nm y,by simp,V'.swap,?_⟩⟩
 have hmW:∀s,(m,s)∉W0:=by
  intro s hs
  have:=(Vs.iff.1 V').2
  simp only[List.map_cons,List.nodup_cons,List.map_append,List.mem_cons,List.mem_append,not_or]at this
  exact this.1.2.1 (List.mem_map.2 ⟨(m,s),hs,rfl⟩)
 refine⟨by simp[R.len],fun b' l' hb'=>?_,fun b1 b2 l1 l2 h1 h2 n1 n2 hnm=>?_⟩
 ·rw[List.getElem?_set]at hb' ⊢
  by_cases hbb:b=b'
  ·subst hbb
   simp only[if_true]at hb' ⊢
   rw[if_pos hbl]at hb';cases hb'
   rw[if_pos hel]
   refine Or.inr ⟨by simp,?_,by simp⟩
   simp
  ·rw[if_neg hbb]at hb' ⊢
   rw[if_neg (fun e=>hbb e.symm)]
   rcases R.el b' l' hb' with⟨g1,g2⟩|⟨g1,g2,g3⟩
   ·exact Or.inl ⟨g1,g2⟩
   ·exact Or.inr ⟨g1,g2,List.mem_cons_of_mem _ (hoth b' l' (fun e=>hbb e.symm) hb' g1)⟩
 ·have key:∀(b':Nat) (l':List Nat),b'≠b->(Bs.set b (l++[x]))[b']?=some l'->l'≠[]->nm b'≠m:=fun b' l' hne hb' hn e=>by
   rw[List.getElem?_set,if_neg (fun e=>hne e.symm)]at hb'
   exact hmW _ (e ▸ hoth b' l' hne hb' hn)
  by_cases e1:b1=b
  ·by_cases e2:b2=b
   ·rw[e1,e2]
   ·simp only[e1,if_true,if_neg e2]at hnm
    exact absurd hnm.symm (key b2 l2 e2 h2 n2)
  ·by_cases e2:b2=b
   ·simp only[e2,if_true,if_neg e1]at hnm
    exact absurd hnm (key b1 l1 e1 h1 n1)
   ·simp only[if_neg e1,if_neg e2]at hnm
    rw[List.getElem?_set,if_neg (fun e=>e1 e.symm)]at h1
    rw[List.getElem?_set,if_neg (fun e=>e2 e.symm)]at h2
    exact R.inj b1 b2 l1 l2 h1 h2 n1 n2 hnm
end
end Go.Am
namespace Go.Am
open Go Go.Proofs
theorem N8 {c:Code}{h:Heap}{L:LSq}{v:D}{Bs:List (List Nat)}{m n2 pA a im i2 iA:Nat}{row:List D}{S:List Nat}{a13 a17 a26 a28:D}{f:Nat->D}{J:HJq}(R:jk h L v Bs) (hBs:Bs.length=c.b.length) (hm:L[im]?=some (m,.arr 1 row)) (hrow:∀(i b:Nat),S[i]?=some b->row[i]?=some (nD b))
  (h2:L[i2]?=some (n2,.box c.e)) (hA:L[iA]?=some (pA,.box (nD a))) (hS:S.length<=10000) (hlen:∀b,(gL Bs b).length<=10000) (hN:c.b.length<=1000) (hJ:∀h',jk h' L v (S.foldl (fS a) Bs)->J [] h') :
  fK h (.int .i64 (S.length:Int)) (.ptr n2 0 0) v a13 a17 (.ptr pA 0 0) a26 a28 f (.ms m 0 S.length) J:=by
 unfold fK
 refine⟨fun k q h'=>∃i:Nat,q=[nD i]/\i<=S.length/\k=S.length-i/\(∀b,(gL ((S.take i).foldl (fS a) Bs) b).length<=10000+i)/\jk h' L v ((S.take i).foldl (fS a) Bs),_,⟨0,rfl,by omega,rfl,by simpa using hlen,R⟩,?_⟩
 rintro k g h1 ⟨i,hq,hi,hk,hl1,R1⟩
 simp only[List.cons.injEq,and_true]at hq
 simp only[hq,nD]
 by_cases hlt:i<S.length
 ·rw[sZ (by omega),ai]
  obtain⟨b,hb⟩:∃b,S[i]?=some b:=⟨S[i],List.getElem?_eq_getElem hlt⟩
  have V1:=R1.vs
  let B1:=(S.take i).foldl (fS a) Bs
  have hB1:B1.length=c.b.length:=by simp only[B1];rw[lJ,hBs]
  have htk:(S.take (i+1)).foldl (fS a) Bs=fS a B1 b:=by
   rw[List.take_add_one,hb]
   simp only[Option.toList_some,List.foldl_append,List.foldl_cons,List.foldl_nil]
   rfl
  have hnext:∀y,(gL (fS a B1 b) y).length<=10000+(i+1):=fun y=>by
   by_cases hbN:b<c.b.length
   ·rw[yq (by rw[hB1];exact hbN)]
    split
    ·have:=hl1 b;simp only[List.length_append,List.length_cons,List.length_nil];simp only[B1];omega
    ·have:=hl1 y;simp only[B1];omega
   ·have:fS a B1 b=B1:=by
     unfold fS
     rw[List.set_eq_of_length_le (by omega)]
    rw[this]
    have:=hl1 y;simp only[B1];omega
  refine⟨fun _ h'=>jk h' L v (fS a B1 b),fun f' h' R'=>?_,?_⟩
  ·rw[gE (by omega) (by omega)]
   simp only[ae,true_and]
   exact⟨_,by omega,i+1,rfl,by omega,rfl,by rw[htk];exact hnext,by rw[htk];exact R'⟩
  rw[V1.ia im hm (by omega) (by omega),Int.toNat_natCast,V1.zR im hm (hrow i b hb) rfl,V1.fa i2 h2,V1.fe i2 (j:=7) h2 rfl,eG,List.length_map,nD]
  by_cases hbN:b<c.b.length
  ·rw[sZ (by omega),ai]
   have hget:B1[b]?=some (gL B1 b):=by unfold gL;rw[List.getElem?_eq_getElem (by omega)];rfl
   obtain⟨nB,els,W0,e,rfl,hel,hone,he,Q,fin⟩:=jk.take (x:=a) R1 hget
   have V2:=Q.vs
   have ix:∀{els:List D}{i:Nat}{x:Nat×Slot},L[i]?=some x->((nB,Slot.arr 1 els)::(W0++L))[W0.length+i+1]?=some x:=fun hi=>by
    rw[List.getElem?_cons_succ,List.getElem?_append_right (by omega),Nat.add_sub_cancel_left];exact hi
   have hB1':((S.take i).foldl (fS a) Bs).length=c.b.length:=hB1
   simp only[↓V2.Hc 0 rfl (show(0:Int)<=(b:Int) by omega) (show(b:Int)<(((S.take i).foldl (fS a) Bs).length:Int) by omega),Int.toNat_natCast,↓V2.EB 0 rfl he (hone e (List.mem_of_getElem? he)),↓V2.zo _ (ix hA) rfl]
   refine Jy ?_
   refine Q.L9 aV rfl (by rw[bm];have:=hl1 b;simp only[B1];omega) (by rw[bm];have:=hl1 b;simp only[B1];omega) fun v' h' Q'=>?_
   have e2:bP (gL B1 b)++[nD a]=bP (gL B1 b++[a]):=by simp[bP]
   rw[e2]at Q'
   rcases Q' with⟨-,h0,-⟩|⟨m',rfl,V'⟩
   ·simp[bP]at h0
   simp only[↓V'.Hc 1 rfl (show(0:Int)<=(b:Int) by omega) (show(b:Int)<(((S.take i).foldl (fS a) Bs).length:Int) by omega),Int.toNat_natCast,ae,true_and]
   refine V'.Bk 1 rfl (by rw[hel,hB1'];exact hbN) rfl hone fun h3 V3=>?_
   simp only[List.set_cons_succ,List.set_cons_zero]at V3
   simp only[↓V3.Hc 1 rfl (show(0:Int)<=(b:Int) by omega) (show(b:Int)<(((S.take i).foldl (fS a) Bs).length:Int) by omega),Int.toNat_natCast,ae,true_and]
   have:=fin h3 m' (by rw[bm,List.length_append]at V3;exact V3)
   exact this
  ·rw[sG (by omega),ah]
   simp only[ae,true_and]
   have:fS a B1 b=B1:=by
    unfold fS
    rw[List.set_eq_of_length_le (by omega)]
   rw[this]
   exact R1
 ·have:i=S.length:=by omega
  subst this
  rw[sG (by omega),ah]
  simp only[ae,true_and]
  rw[List.take_length]at R1
  exact hJ h1 R1
end Go.Am
namespace Go.Am
open Go Go.Proofs
section
variable {h:Heap}{L:LSq}{v:D}{T:List D}{KH:HKq}
theorem QD.more (q:QD h L v T){n:Nat}(hn:h n=.free){s:Slot}(hs:s≠.free):QD (aq h n s) ((n,s)::L) v T:=by
 rcases q with⟨rfl,rfl,V⟩|⟨m,rfl,V⟩
 ·exact Or.inl ⟨rfl,rfl,V.push hn hs⟩
 ·exact Or.inr ⟨m,rfl,(V.push hn hs).swap⟩
theorem QD.less {x:Nat×Slot}(q:QD h (x::L) v T):QD h L v T:=by
 rcases q with⟨rfl,rfl,V⟩|⟨m,rfl,V⟩
 ·exact Or.inl ⟨rfl,rfl,V.pop⟩
 ·exact Or.inr ⟨m,rfl,V.swap.pop⟩
theorem QD.box (q:QD h L v T){d:D}(hd:d.one=true) (hK:∀n h',QD h' ((n,.box d)::L) v T->KH (.ptr n 0 0) h'):aa PP (.box (.c d)) h KH:=by
 rw[AI]
 exact⟨fun x hx=>by rw[gT hd]at hx;simp at hx;subst hx;exact hd,fun n t=>hK n _ (q.more t.free (by simp))⟩
end
section
variable {h:Heap}{M:LSq}{pl nU n pUv pA iv iU iA a w r:Nat}{U:List Int}{O ts:List Nat}{lv:D}
theorem Jp (hv:M[iv]?=some (pUv,.box (.ms nU 0 n))) (hU:M[iU]?=some (nU,.arr 1 (ez U))) (hA:M[iA]?=some (pA,.box (nD a))) (hUn:U.length=n) (hn:n<=1000) (hw:U[a]?=some (w:Int)) (T:Tr r (sY O) (· ∈ O) (upF U)) (hr0:sY O r=0) (hOl:O.length<=400)
  (hts:∀t∈ts,upF U t≠none/\Ch r (upF U) t w) (htl:ts.length<=2) (q:QD h ((pl,.box lv)::M) lv []) {a2 a9 a13 a26 a28:D}{f:Nat->D}{J:HJq}{K:HKq}
  (hJ:∀(lv':D) (l:List Nat) (h':Heap),l.length<=802->(∀x,x∈l ↔ ∃t,t∈ts/\Ch r (upF U) t x/\¬Ch r (upF U) w x)->QD h' ((pl,.box lv')::M) lv' (bP l)->J [] h') :
  jD h (.int .i64 (ts.length:Int)) a2 a9 a13 (.ptr pUv 0 0) (.ptr pA 0 0) (.ptr pl 0 0) a26 a28 f (.sl (bP ts)) J K:=by
 have hplc:∀x,sY O x<=400:=fun x=>Nat.le_trans List.idxOf_le_length hOl
 unfold jD
 refine⟨fun k q' h'=>∃(j:Nat) (lv:D) (l:List Nat),q'=[nD j]/\j<=ts.length/\k=ts.length-j/\l.length<=401*j/\(∀x,x∈l ↔ ∃t,t∈ts.take j/\Ch r (upF U) t x/\¬Ch r (upF U) w x)/\QD h' ((pl,.box lv)::M) lv (bP l),_,⟨0,lv,[],rfl,by omega,rfl,by simp,by simp,q⟩,?_⟩
 rintro k g h1 ⟨j,lv1,l,hq,hj,hk,hl,hmem,q1⟩
 simp only[List.cons.injEq,and_true]at hq
 simp only[hq,nD]
 by_cases hlt:j<ts.length
 ·rw[sZ (by omega),ai]
  obtain⟨to,hto⟩:∃to,ts[j]?=some to:=⟨ts[j],List.getElem?_eq_getElem hlt⟩
  have htoM:=List.mem_of_getElem? hto
  have htk:ts.take (j+1)=ts.take j++[to]:=by rw[List.take_add_one,hto];rfl
  refine⟨fun _ h'=>∃(lv:D) (l:List Nat),l.length<=401*(j+1)/\(∀x,x∈l ↔ ∃t,t∈ts.take (j+1)/\Ch r (upF U) t x/\¬Ch r (upF U) w x)/\QD h' ((pl,.box lv)::M) lv (bP l),?_,?_⟩
  ·rintro f' h' ⟨lv2,l2,b1,b2,b3⟩
   rw[gE (by omega) (by omega)]
   simp only[ae,true_and]
   exact⟨_,by omega,j+1,lv2,l2,rfl,by omega,rfl,b1,b2,b3⟩
  have V1:=q1.vs
  refine Rx hto ?_
  rw[V1.yn (iv+1) (by simpa using hv) rfl]
  refine aR ss (av _ _ _) rfl (zF _ _ _) ?_
  unfold xM
  refine q1.box rfl fun pu h4 q4=>?_
  refine q4.box rfl fun pb h6 q6=>?_
  rw[CP]
  refine⟨rfl,Oj,fun nk B ht he hps _ hlt' hAs hBs=>?_⟩
  have q7:QD (aq h6 nk (.lp .ready B)) (WL nk pb pu pl nU n .ready B to lv1 M) lv1 (bP l):=q6.more ht.free (by simp)
  refine Ox hv hU hA hUn hn hw T hr0 (hts to htoM).1 (by omega) (by have:=hplc to;omega) q7 hps hAs hBs hlt' he fun s cur lv' l' h' hseg hs q8=>?_
  have V8:=q8.vs
  have hget:h' nk=.lp s B:=V8.get 0 _ _ rfl
  have q9:QD (aq h' nk .dead) ((pl,.box lv')::M) lv' (bP (l++l')):=(q8.bO 0 rfl (by simp)).less.less.less
  have hfin:∃(lv:D) (l:List Nat),l.length<=401*(j+1)/\(∀x,x∈l ↔ ∃t,t∈ts.take (j+1)/\Ch r (upF U) t x/\¬Ch r (upF U) w x)/\QD (aq h' nk .dead) ((pl,.box lv)::M) lv (bP l):=by
   refine⟨lv',l++l',?_,fun x=>?_,q9⟩
   ·have h1:=hseg.len T
    have h2:=hplc to
    simp only[List.length_append];omega
   ·rw[List.mem_append,hmem,hseg.mem T (hts to htoM).2,htk]
    constructor
    ·rintro (⟨t,h1,h2⟩|h2)
     ·exact⟨t,by simp[h1],h2⟩
     ·exact⟨to,by simp,h2⟩
    ·rintro⟨t,h1,h2⟩
     rcases List.mem_append.1 h1 with h1|h1
     ·exact Or.inl ⟨t,h1,h2⟩
     ·simp at h1;subst h1;exact Or.inr h2
  show dI _ _ _ _ _
  unfold dI
  rw[hget]
  rcases hs with rfl|rfl
  ·simp only[ae,true_and]
   exact hfin
  ·simp only[ae,true_and,or_false]
   exact hfin
 ·have:j=ts.length:=by omega
  subst this
  rw[sG (by omega),ah]
  simp only[ae,true_and]
  rw[List.take_length]at hmem
  exact hJ lv1 l h1 (by omega) hmem q1
end
end Go.Am
namespace Go.Am
open Go Go.Proofs
theorem Gy {t:Term}{x y:Nat}(h:fY t=[x,y]) (h0:0<=t.to0) (h1:0<=t.to1):x≠y:=by
 unfold fY at h
 split at h
 ·cases h
 ·split at h
  ·rename_i hk
   simp only[List.cons.injEq,and_true]at h
   rintro rfl
   exact hk.2 (by omega)
  ·cases h
noncomputable def pB (c:Code) (O O':List Nat):Nat->List Nat:=preB (wK (o6 (mT c) O c.b.length (pD c O)) O' (c.b.length+1))
structure zS (c:Code) (O O':List Nat) (at' U:List Int):Prop where
 b:MN c O O' at'
 u:P9 c.b.length O' (wK (o6 (mT c) O c.b.length (pD c O)) O' (c.b.length+1)) (c.b.length+1) U
def DX (c:Code) (O O':List Nat) (a b:Nat):Prop:=a∈O/\(edg c a).length=2/\(∃t,t∈edg c a/\Dm c.b.length (pB c O O') b t)/\(b=a\/¬Dm c.b.length (pB c O O') b a)
section
variable {c:Code}{O O':List Nat}{at' U:List Int}
theorem zS.o6 (hc:ec c) (D:zS c O O' at' U):∀l,l∈Go.Am.o6 (mT c) O c.b.length (pD c O)->(∀x∈l,x<c.b.length+1)/\l.length<=1000 :=
 D7 hc D.b.lt D.b.sub (by have:=D.b.len.2;omega) D.b.len.1
theorem zS.mem (hc:ec c) (D:zS c O O' at' U){a:Nat}(ha:a<c.b.length):a∈O'↔a∈O:=by
 refine⟨fun h=>?_,D.b.all a⟩
 have:Path (gL (Go.Am.o6 (mT c) O c.b.length (pD c O))) c.b.length a->a=c.b.length\/a∈O:=fun h=>by
  cases h with
  | refl=>exact Or.inl rfl
  | @step x _ _ e =>
   rw[zg]at e
   split at e
   ·rw[mV (lV hc)]at e
    exact Or.inr e.1
   ·split at e
    ·exact Or.inr (D.b.sub _ e)
    ·cases e
 rcases this (D.b.g.path.1 h) with e|h
 ·omega
 ·exact h
theorem zS.pre (hc:ec c) (D:zS c O O' at' U){a t:Nat}(ha:a∈O) (ht:t∈edg c a):t∈pB c O O' a/\t∈O':=by
 have haN:=D.b.lt a ha
 have htO:t∈O:=by
  obtain⟨S,hv⟩:=D.b.ord
  have G:=Ak.gr (at':=(List.range c.b.length).map fun x=>if x∈O then((sY O x:Nat):Int) else -1) (lV hc) lx (by omega) ⟨S,hv⟩ (by simp) (fun i x hx=>?_) (fun x hx hn=>?_)
  ·refine G.cl a t ha ?_
   have:t∈gL (mT c) a:=by rw[zh];exact ht
   exact this
  ·have hxO:=List.mem_of_getElem? hx
   have hxN:=D.b.lt x hxO
   have nd:O.Nodup:=by
    obtain⟨m,h1,e⟩:=hv
    obtain⟨N,e2,F⟩:=h1.spec (n:=c.b.length) (fun p b=>pY (lV hc)) (fun x=>pY (lV hc)) (by simp)
    have e3:O=0::N:=by
     have:=congrArg Prod.snd e
     simp only at this
     rw[this,e2];simp
    rw[e3]
    refine List.nodup_cons.2 ⟨fun h=>?_,F.nd⟩
    have h2:=(F.new 0 h).1
    simp only at h2
    rw[bZ (by simp;omega)]at h2
    simp at h2
   rw[List.getElem?_map,List.getElem?_range hxN]
   simp[hxO,wZ nd hx]
  ·rw[List.getElem?_map,List.getElem?_range hx]
   simp[hn]
 have htO':=D.b.all t htO
 have htN:=D.b.lt t htO
 refine⟨?_,htO'⟩
 have:t∈gL (wK (Go.Am.o6 (mT c) O c.b.length (pD c O)) O' (c.b.length+1)) a:=by
  rw[mV (D.o6 hc)]
  refine⟨htO',?_⟩
  rw[zg,if_pos htN,mV (lV hc),zh]
  exact⟨ha,ht⟩
 exact this
theorem zS.up (hc:ec c) (D:zS c O O' at' U){a:Nat}(ha:a∈O):∃w,upF U a=some w/\(∀t,t∈edg c a->upF U t≠none/\Ch c.b.length (upF U) t w)/\∀x,Ch c.b.length (upF U) w x↔Ch c.b.length (upF U) a x/\x≠a:=by
 have haN:=D.b.lt a ha
 have har:a≠c.b.length:=by omega
 have haO':=D.b.all a ha
 obtain⟨w,hw⟩:∃w,upF U a=some w:=by
  cases hy:upF U a with
  | none=>exact absurd hy (D.u.al a haO')
  | some y=>exact⟨y,rfl⟩
 have hlt:=D.u.tr.lt a w hw har
 have hne:w≠a:=by rintro rfl;omega
 have hcw:Ch c.b.length (upF U) a w:=.step har hw (.refl _)
 refine⟨w,hw,fun t ht=>?_,fun x=>?_⟩
 ·obtain⟨h1,h2⟩:=D.pre hc ha ht
  refine⟨D.u.al t h2,(D.u.ch t w h2).2 ?_⟩
  exact EA ((D.u.ch a w haO').1 hcw) h1 hne.symm
 ·constructor
  ·intro h
   refine⟨.step har hw h,?_⟩
   rintro rfl
   rcases h.le D.u.tr with e|h
   ·exact hne e.symm
   ·omega
  ·rintro⟨h1,h2⟩
   cases h1 with
   | refl _=>exact absurd rfl h2
   | step _ hy k=>rw[hw]at hy;cases hy;exact k
theorem zS.dep (hc:ec c) (D:zS c O O' at' U){a w b:Nat}(ha:a∈O) (h2:(edg c a).length=2) (hw:upF U a=some w):(∃t,t∈edg c a/\Ch c.b.length (upF U) t b/\¬Ch c.b.length (upF U) w b)↔DX c O O' a b:=by
 obtain⟨w',hw',-,hx⟩:=D.up hc ha
 rw[hw]at hw';cases hw'
 have haO':=D.b.all a ha
 have hch:∀{t:Nat},t∈edg c a->(Ch c.b.length (upF U) t b↔Dm c.b.length (pB c O O') b t):=fun ht=>D.u.ch _ _ (D.pre hc ha ht).2
 have hcw:¬Ch c.b.length (upF U) w b↔(b=a\/¬Dm c.b.length (pB c O O') b a):=by
  rw[hx,D.u.ch a b haO']
  constructor
  ·intro h
   by_cases e:b=a
   ·exact Or.inl e
   ·exact Or.inr fun k=>h ⟨k,e⟩
  ·rintro (e|h) ⟨k1,k2⟩
   ·exact k2 e
   ·exact h k1
 constructor
 ·rintro⟨t,ht,h3,h4⟩
  exact⟨ha,h2,⟨t,ht,(hch ht).1 h3⟩,hcw.1 h4⟩
 ·rintro⟨-,-,⟨t,ht,h3⟩,h4⟩
  exact⟨t,ht,(hch ht).2 h3,hcw.2 h4⟩
end
end Go.Am
namespace Go.Am
open Go Go.Proofs
noncomputable def nW (c:Code) (O O':List Nat) (k:Nat):List (List Nat):=(List.range c.b.length).map fun b=>GP k fun a=>DX c O O' a b
theorem gf {c:Code}{O O':List Nat}{k:Nat}:(nW c O O' k).length=c.b.length:=by simp[nW]
theorem sH {c:Code}{O O':List Nat}{k b:Nat}(hb:b<c.b.length):gL (nW c O O' k) b=GP k fun a=>DX c O O' a b:=by
 unfold gL nW
 rw[List.getElem?_map,List.getElem?_range hb];rfl
theorem y0 {k:Nat}{p:Nat->Prop}:(p k->GP (k+1) p=GP k p++[k])/\(¬p k->GP (k+1) p=GP k p):=by
 unfold GP
 rw[List.range_succ,List.filter_append]
 refine⟨fun h=>?_,fun h=>?_⟩
 ·congr 1
  simp[h]
 ·simp[h]
theorem CT {p b:Nat}:∀{S:List Nat}{Bs:List (List Nat)},S.Nodup->b<Bs.length->gL (S.foldl (fS p) Bs) b=if b∈S then gL Bs b++[p] else gL Bs b
 | [],_,_,_=>by simp
 | s::S,Bs,hn,hb=>by
  rw[List.nodup_cons]at hn
  rw[List.foldl_cons,CT hn.2 (by rw[vZ];exact hb)]
  have e1:gL (fS p Bs s) b=if b=s then gL Bs s++[p] else gL Bs b:=by
   by_cases hs:s<Bs.length
   ·exact yq hs
   ·unfold fS
    rw[List.set_eq_of_length_le (by omega),if_neg (by omega)]
  rw[e1]
  by_cases hbs:b=s
  ·subst hbs
   rw[if_neg hn.1,if_pos rfl,if_pos (by simp)]
  ·rw[if_neg hbs]
   by_cases hbS:b∈S
   ·rw[if_pos hbS,if_pos (by simp[hbS])]
   ·rw[if_neg hbS,if_neg (by simp[hbS,hbs])]
theorem Er {A B:List (List Nat)}(hl:A.length=B.length) (h:∀b,b<A.length->gL A b=gL B b):A=B:=by
 apply List.ext_getElem hl
 intro i h1 h2
 have:=h i h1
 unfold gL at this
 rwa [List.getElem?_eq_getElem h1,List.getElem?_eq_getElem h2]at this
theorem N9 {c:Code}{O O':List Nat}:nW c O O' 0=List.replicate c.b.length []:=by
 refine Er (by simp[gf]) fun b hb=>?_
 rw[gf]at hb
 rw[sH hb]
 unfold gL
 rw[List.getElem?_replicate,if_pos hb];rfl
theorem AR {c:Code}{O O':List Nat}{k:Nat}(h:∀b,¬DX c O O' k b):nW c O O' (k+1)=nW c O O' k:=by
 refine Er (by simp[gf]) fun b hb=>?_
 rw[gf]at hb
 rw[sH hb,sH hb,(y0 (p:=fun a=>DX c O O' a b)).2 (h b)]
theorem Jq {c:Code}{O O' S:List Nat}{k:Nat}(hS:S.Nodup) (h:∀b,b∈S↔DX c O O' k b):S.foldl (fS k) (nW c O O' k)=nW c O O' (k+1):=by
 refine Er (by rw[lJ,gf,gf]) fun b hb=>?_
 rw[lJ,gf]at hb
 rw[CT hS (by rw[gf];exact hb),sH hb,sH hb]
 by_cases hp:DX c O O' k b
 ·rw[if_pos ((h b).2 hp),(y0 (p:=fun a=>DX c O O' a b)).1 hp]
 ·rw[if_neg (fun k=>hp ((h b).1 k)),(y0 (p:=fun a=>DX c O O' a b)).2 hp]
theorem KF {l:List Nat}:∃S:List Nat,Ec (l.map fun n:Nat=>(n:Int))=S.map (fun n:Nat=>(n:Int))/\S.Pairwise (· < ·)/\∀x,x∈S↔x∈l:=by
 have hm:=fun x=>H9 (ks:=l.map fun n:Nat=>(n:Int)) (x:=x)
 have hi:=Ic (ks:=l.map fun n:Nat=>(n:Int))
 generalize Ec (l.map fun n:Nat=>(n:Int))=Z at hm hi
 have hnn:∀x∈Z,0<=x:=fun x hx=>by
  have:=(hm x).1 hx
  simp only[List.mem_map]at this
  obtain⟨n,-,rfl⟩:=this
  omega
 refine⟨Z.map Int.toNat,?_,?_,fun x=>?_⟩
 ·rw[List.map_map]
  have:Z.map ((fun n:Nat=>(n:Int)) ∘ Int.toNat)=Z.map id:=List.map_congr_left fun x hx=>by
   have:=hnn x hx
   simp only[Function.comp_apply,id];omega
  rw[this,List.map_id]
 ·rw[List.pairwise_map]
  refine hi.imp_of_mem fun ha hb hab=>?_
  have:=hnn _ ha
  have:=hnn _ hb
  omega
 ·rw[List.mem_map]
  constructor
  ·rintro⟨z,hz,rfl⟩
   have:=(hm z).1 hz
   simp only[List.mem_map]at this
   obtain⟨n,hn,rfl⟩:=this
   simpa using hn
  ·intro hx
   exact⟨(x:Int),(hm _).2 (List.mem_map.2 ⟨x,hx,rfl⟩),by simp⟩
end Go.Am
namespace Go.Am
open Go Go.Proofs
theorem HN {P:Program}{A:(D->Prop)->Prop}{K:D->Prop}:aA (.bool true) false A K=K gU:=by
 rw[iw];simp
theorem Kn {P:Program}{A:(D->Prop)->Prop}{K:D->Prop}:aA (.bool false) false A K=A K:=by
 rw[iw];simp
section
variable {h:Heap}{L:LSq}{v:D}{Bs:List (List Nat)}{KH:HKq}
theorem jk.sub {L':LSq}(s:L'.Sublist L) (q:jk h L v Bs):jk h L' v Bs:=by
 obtain⟨X,V,-,lift⟩:=q.split
 exact lift h L' (V.sub (List.Sublist.append (.refl X) s))
theorem Mf {m n:Nat}{l:List Nat}(V:Vs h ((m,.arr 1 (bP l))::L)) (hn:n=l.length) (h0:1<=l.length) (hl:l.length<=100000) (hK:∀h',Vs h' ((m,.arr 1 (ez (mL (l.map fun n:Nat=>(n:Int)))))::L)->KH (.tup []) h'):af PP bu [.ms m 0 n] h KH:=by
 have hm:=V.get 0 _ _ rfl
 rw[Ps]at hm
 have:=OD (KH:=KH) hm (by rw[List.length_map];exact h0) (by rw[List.length_map];omega) (hK _ (V.bO 0 rfl (by simp)))
 rw[List.length_map]at this
 rw[hn]
 exact this
theorem Mg {m n:Nat}{ks:List Int}(V:Vs h ((m,.arr 1 (ez ks))::L)) (hn:n=ks.length) (h0:1<=ks.length) (hl:ks.length<=100000) (hK:∀h',Vs h' ((m,.arr 1 (ez (vM ks)))::L)->KH (.ms m 0 (Lib.compact ks).length) h'):af PP bl [.ms m 0 n] h KH:=by
 rw[hn]
 exact Hv (V.get 0 _ _ rfl) h0 (by omega) xG (hK _ (V.bO 0 rfl (by simp)))
end
section
variable {c:Code}{O O':List Nat}{at' U:List Int}{h:Heap}{L:LSq}{v:D}{K:HKq}
theorem LC (hc:ec c){a pl pbk pA n2 i2:Nat}{X:LSq}{tb:D}{lv:D}{l:List Nat}(hl:l.length<=802) (hl0:1<=l.length) (hmem:∀x,x∈l↔DX c O O' a x) (h2:L[i2]?=some (n2,.box c.e)) (ha:a<=20)
  (q:QD h ((pl,.box lv)::(pbk,.box tb)::(pA,.box (nD a))::(X++L)) lv (bP l)) (lift:∀h' L',Vs h' (X++L')->jk h' L' v (nW c O O' a)) {a13 a17 a26 a28:D}{f:Nat->D}{J:HJq}(hJ:∀h',jk h' L v (nW c O O' (a+1))->J [] h') :
  aa PP (.ld (.c (.ptr pl 0 0)) 1 false) h fun a80 h81 =>
  af PP bu [a80] h81 fun a82 h83 =>
  aa PP (.ld (.c (.ptr pl 0 0)) 1 false) h83 fun a84 h85 =>
  af PP bl [a84] h85 fun a86 h87 =>
  aS a86 h87 fun a88 =>
  fK h87 a88 (.ptr n2 0 0) v a13 a17 (.ptr pA 0 0) a26 a28 f a86 J:=by
 have hnb:=hc.nb
 rcases q with⟨-,h0,-⟩|⟨m,rfl,V⟩
 ·have:(bP l).length=0:=by rw[h0];rfl
  rw[bm]at this;omega
 rw[V.yn 1 rfl rfl]
 refine Mf V bm hl0 (by omega) fun h83 V83=>?_
 rw[V83.yn 1 rfl rfl]
 have hsl:(mL (l.map fun n:Nat=>(n:Int))).length=l.length:=by rw[wV,List.length_map]
 refine Mg V83 (by rw[bm,hsl]) (by omega) (by omega) fun h87 V87=>?_
 obtain⟨S,hS,hinc,hSm⟩:=KF (l:=l)
 have hSl:(Lib.compact (mL (l.map fun n:Nat=>(n:Int)))).length=S.length:=by
  have:(Ec (l.map fun n:Nat=>(n:Int))).length=S.length:=by rw[hS,List.length_map]
  exact this
 have hSle:S.length<=l.length:=by
  have:=Ia (ks:=l.map fun n:Nat=>(n:Int))
  rw[hS,List.length_map,List.length_map]at this;exact this
 rw[bo,V87.get 0 _ _ rfl]
 refine⟨rfl,?_⟩
 rw[hSl]
 have R:=lift h87 ((m,.arr 1 (ez (vM (mL (l.map fun n:Nat=>(n:Int))))))::(pl,.box (.ms m 0 (bP l).length))::(pbk,.box tb)::(pA,.box (nD a))::L) (V87.perm (List.perm_append_comm_assoc [_,_,_,_] X L))
 refine N8 (im:=0) (i2:=i2+4) (iA:=3) R gf rfl (fun i b hb=>?_) (by simpa using h2) rfl (by omega) (fun b=>?_) (by omega) fun h' R'=>?_
 ·have e:vM (mL (l.map fun n:Nat=>(n:Int)))=(S.map fun n:Nat=>(n:Int))++List.replicate ((mL (l.map fun n:Nat=>(n:Int))).length-(Lib.compact (mL (l.map fun n:Nat=>(n:Int)))).length) 0:=by
   rw[<- hS];rfl
  rw[e]
  have hi:=(List.getElem?_eq_some_iff.1 hb).1
  simp only[ez,List.getElem?_map]
  rw[List.getElem?_append_left (by simpa using hi),List.getElem?_map,hb]
  rfl
 ·by_cases hb:b<c.b.length
  ·rw[sH hb]
   exact Nat.le_trans FE (by omega)
  ·unfold gL
   rw[List.getElem?_eq_none (by rw[gf];omega)]
   simp
 ·rw[Jq (hinc.imp fun h=>by omega) fun b=>by rw[hSm,hmem]]at R'
  refine hJ h' (R'.sub ?_)
  exact .cons _ (.cons _ (.cons _ (.cons _ (.refl _))))
end
end Go.Am
namespace Go.Am
open Go Go.Proofs
theorem H4 {N:Nat}{R:Int}{t:Term}(h:A6 N R t){x y:Nat}(he:fY t=[x,y]):x≠y:=by
 cases h with
 | branch o a b ho h1 h2=>exact Gy he (by simp) (by simp)
 | _=>simp[fY]at he
section
variable {c:Code}{O O':List Nat}{at' U:List Int}{h:Heap}{L:LSq}{v:D}{K:HKq}
theorem LD (hc:ec c) (G:zS c O O' at' U){n2 nU nA nO ng pUv i2 iU ig iA iv:Nat}{w0:D}(h2:L[i2]?=some (n2,.box c.e)) (hv:L[iv]?=some (pUv,.box (.ms nU 0 (c.b.length+1)))) (hU:L[iU]?=some (nU,.arr 1 (ez U))) (hg:L[ig]?=some (ng,FN w0 nO O'.length nA (c.b.length+1))) (hA:L[iA]?=some (nA,.arr 1 (ez at')))
  (R:jk h L v (nW c O O' 0)) {J:HJq}(hJ:∀h',jk h' L v (nW c O O' c.b.length)->J [] h') :
  jC h (.int .i64 (c.b.length:Int)) (.ptr n2 0 0) v (.ptr ng 0 0) (.ptr pUv 0 0) (.sl (c.b.map Block.e)) J K:=by
 have hnb:=hc.nb
 unfold jC
 refine⟨fun m q h'=>∃a:Nat,q=[nD a]/\a<=c.b.length/\m=c.b.length-a/\jk h' L v (nW c O O' a),_,⟨0,rfl,by omega,rfl,R⟩,?_⟩
 rintro m f h32 ⟨a,hq,ha,hm,R1⟩
 simp only[List.cons.injEq,and_true]at hq
 simp only[hq,nD]
 by_cases hlt:a<c.b.length
 ·rw[sZ (by omega),ai]
  obtain⟨B,hB⟩:∃B,c.b[a]?=some B:=⟨c.b[a],List.getElem?_eq_getElem hlt⟩
  have hTB:=hc.t B (List.mem_of_getElem? hB)
  refine⟨fun _ h'=>jk h' L v (nW c O O' (a+1)),fun f' h' R'=>?_,?_⟩
  ·rw[gE (by omega) (by omega)]
   simp only[ae,true_and]
   exact⟨_,by omega,a+1,rfl,by omega,rfl,R'⟩
  obtain⟨X,V,-,lift⟩:=R1.split
  rw[ET hB,show B.e=.agg (.sl (B.i.map aP.e)::B.t.cs) from rfl,Ei (s:=14) rfl]
  refine V.alloc fun pA h43 V43=>?_
  refine V43.alloc fun pbk h45 V45=>?_
  refine V45.Fj 1 rfl rfl rfl fun h47 V47=>?_
  simp only[List.set_cons_succ,List.set_cons_zero]at V47
  refine V47.xt 0 rfl rfl rfl (fun x hx=>B.gg.one x hx) fun h49 V49=>?_
  simp only[List.set_cons_zero]at V49
  rw[V49.fa 0 rfl,Ld (V49.get 0 _ _ rfl) (by show 0+1+13<=14;omega)]
  have eT:((D.sl (B.i.map aP.e)::B.t.cs).drop (0+1)).take 13=B.t.cs:=rfl
  rw[eT]
  refine fv (EO hTB) (fun d hd=>by simp at hd;subst hd;exact B.t.gg.pair) ?_
  rintro _ rfl
  rw[<- rE hB]
  let M:LSq:=(pbk,.box (.agg (.sl (B.i.map aP.e)::B.t.cs)))::(pA,.box (.int .i64 (a:Int)))::(X++L)
  have ix:∀{i:Nat}{x:Nat×Slot},L[i]?=some x->M[X.length+i+2]?=some x:=fun hi=>by
   simp only[M,List.getElem?_cons_succ]
   rw[List.getElem?_append_right (by omega),Nat.add_sub_cancel_left];exact hi
  have VM:Vs h49 M:=V49
  have back:∀h',Vs h' M->jk h' L v (nW c O O' a):=fun h' V'=>lift h' L V'.pop.pop
  obtain⟨k,hk,hk0⟩:∃k:Int,at'[a]?=some k/\(a∈O'->0<=k)/\(a∉O'->k<0):=by
   by_cases haO:a∈O'
   ·obtain⟨i,hi⟩:=List.getElem?_of_mem haO
    exact⟨_,G.b.g.aat i a hi,fun _=>by omega,fun h=>absurd haO h⟩
   ·exact⟨_,G.b.g.ano a (by rw[o5];omega) haO,fun h=>absurd h haO,fun _=>by omega⟩
  have hal:at'.length=c.b.length+1:=by rw[G.b.g.rO,o5]
  simp only[VM.o0 _ (ix hg),VM.ly _ (j:=2) (ix hg) rfl,VM.zo 1 rfl rfl,VM.Hc _ (ix hA) (show(0:Int)<=(a:Int) by omega) (show(a:Int)<((c.b.length+1:Nat):Int) by omega),Int.toNat_natCast,VM.EB _ (ix hA) (jL hk) rfl]
  by_cases haO:a∈O'
  ·rw[sG (hk0.1 haO)]
   simp only[Kn (P:=PP),IM,pF,ur,Bool.false_eq_true,if_false,xq]
   have haO2:a∈O:=(G.mem hc hlt).1 haO
   by_cases hlen:(edg c a).length=2
   ·rw[decide_eq_true (by omega)]
    simp only[Bool.not_true]
    rw[ah]
    obtain⟨w,hw,hts,hx⟩:=G.up hc haO2
    refine VM.alloc fun pl h76 V76=>?_
    have hmem:∀x,(∃t,t∈edg c a/\Ch c.b.length (upF U) t x/\¬Ch c.b.length (upF U) w x)↔DX c O O' a x:=fun x=>G.dep hc haO2 hlen hw
    have hne:∀l:List Nat,(∀x,x∈l ↔ ∃t,t∈edg c a/\Ch c.b.length (upF U) t x/\¬Ch c.b.length (upF U) w x)->1<=l.length:=fun l hl=>by
     have he:=rE hB
     match hs:edg c a,hlen with
     | [x,y],_ =>
      rw[hs]at he
      have hxy:=H4 hTB he.symm
      have hxm:x∈edg c a:=by rw[hs];simp
      have hym:y∈edg c a:=by rw[hs];simp
      have:∃t,t∈edg c a/\¬Ch c.b.length (upF U) w t:=by
       by_cases h1:Ch c.b.length (upF U) w x
       ·refine⟨y,hym,fun h2=>hxy ?_⟩
        have e1:=h1.E0 G.u.tr (hts x hxm).2
        have e2:=h2.E0 G.u.tr (hts y hym).2
        rw[e1,e2]
       ·exact⟨x,hxm,h1⟩
      obtain⟨t,ht,hn⟩:=this
      have:t∈l:=(hl t).2 ⟨t,ht,.refl _,hn⟩
      exact List.length_pos_of_mem this
    refine⟨fun _ h'=>∃(lv:D) (l:List Nat),l.length<=802/\(∀x,x∈l ↔ ∃t,t∈edg c a/\Ch c.b.length (upF U) t x/\¬Ch c.b.length (upF U) w x)/\QD h' ((pl,.box lv)::M) lv (bP l),?_,?_⟩
    ·rintro f2 h79 ⟨lv,l,hl1,hl2,q⟩
     exact LC hc hl1 (hne l hl2) (fun x=>(hl2 x).trans (hmem x)) h2 (by omega) q lift fun h' R'=>R'
    ·refine Jp (iv:=X.length+iv+2) (iU:=X.length+iU+2) (iA:=1) (r:=c.b.length) (O:=O') (ix hv) (ix hU) rfl G.u.len (by omega) (oy hw) G.u.tr G.b.g.dg.zero ?_ hts (by omega) (Or.inl ⟨rfl,rfl,V76⟩) fun lv' l h' b1 b2 b3=>⟨lv',l,b1,b2,b3⟩
     have:O'.length<=c.b.length+1:=vr G.b.g.nd fun x hx=>by have:=G.b.g.lt x hx;rwa [o5]at this
     omega
   ·rw[decide_eq_false (by omega)]
    simp only[Bool.not_false]
    rw[ai]
    simp only[ae,true_and]
    rw[AR fun b hb=>hlen hb.2.1]
    exact back h49 VM
  ·rw[sZ (hk0.2 haO)]
   simp only[HN (P:=PP),pF,ur,if_true]
   rw[ai]
   simp only[ae,true_and]
   rw[AR fun b hb=>haO ((G.mem hc hlt).2 hb.1)]
   exact back h49 VM
 ·have:a=c.b.length:=by omega
  subst this
  rw[sG (by omega),ah]
  simp only[ae,true_and]
  exact hJ h32 R1
end
end Go.Am
namespace Go.Am
open Go Go.Proofs
theorem Hu {c:Code}(hc:ec c){h:Heap}{L:LSq}{KH:HKq}(V:Vs h L) (hK:∀v h' O O' at' U,zS c O O' at' U->jk h' L v (nW c O O' c.b.length)->KH v h'):af PP jJ [c.e] h KH:=by
 have hnb:=hc.nb
 refine aR oZ (av _ _ _) rfl (xm _ _) ?_
 unfold tM
 refine V.box c.gg.one fun n2 h3 V1=>?_
 simp only[↓V1.fa 0 rfl,Nat.zero_add,↓V1.fe 0 (j:=7) rfl rfl,eG,List.length_map]
 refine V1.Mu (by omega) (by omega) fun nB h10 V10=>?_
 have R10:=jk.Ry V10
 obtain⟨X,V11,-,lift⟩:=R10.split
 have ix:((X++(n2,Slot.box c.e)::L))[X.length+0]?=some (n2,.box c.e):=by
  rw[List.getElem?_append_right (by omega),Nat.add_sub_cancel_left];rfl
 rw[show aa PP (.ld (.c (.ptr n2 0 0)) 8 true) h10=fun KH=>KH c.e h10 from funext fun KH=>V11.re _ ix rfl]
 refine OA hc V11 fun ng nO nA O O' at' X' w0 h14 BR V14 wE=>?_
 refine P7 (ig:=1) (iO:=0) (iA:=2) (D7 hc BR.lt BR.sub (by have:=BR.len.2;omega) BR.len.1) V14 rfl rfl rfl (wE.mono fun x hx=>by simp[hx]) o5 (by omega) BR.g fun nU U h16 V16 UR=>?_
 refine V16.alloc fun pUv h18 V18=>?_
 refine V18.Fj 0 rfl rfl rfl fun h20 V20=>?_
 simp only[List.set_cons_zero]at V20
 have D0:zS c O O' at' U:=⟨BR,UR⟩
 let L5:LSq:=(pUv,.box (.ms nU 0 (c.b.length+1)))::(nU,.arr 1 (ez U))::(ng,FN w0 nO O'.length nA (c.b.length+1))::(nA,.arr 1 (ez at'))::(n2,.box c.e)::L
 have V21:Vs h20 ([(pUv,Slot.box (.ms nU 0 (c.b.length+1))),(nU,.arr 1 (ez U)),(ng,FN w0 nO O'.length nA (c.b.length+1)),(nA,.arr 1 (ez at'))]++(X++(n2,.box c.e)::L)):=by
  refine V20.sub ?_
  exact .cons_cons _ (.cons_cons _ (.cons _ (.cons_cons _ (.cons_cons _ (List.sublist_append_right X' _)))))
 have R:jk h20 L5 (.ms nB 0 c.b.length) (nW c O O' 0):=by
  rw[N9]
  exact lift h20 L5 (V21.perm (List.perm_append_comm_assoc _ X _))
 refine⟨fun _ h'=>jk h' L5 (.ms nB 0 c.b.length) (nW c O O' c.b.length),fun f h' R'=>hK _ h' O O' at' U D0 (R'.sub ?_),?_⟩
 ·exact .cons _ (.cons _ (.cons _ (.cons _ (.cons _ (.refl _)))))
 have VL:=R.vs
 rw[VL.fa 4 rfl,VL.fe 4 (j:=7) rfl rfl,eG,List.length_map]
 exact LD hc D0 (i2:=4) (iv:=0) (iU:=1) (ig:=2) (iA:=3) rfl rfl rfl rfl rfl R fun h' R'=>R'
end Go.Am
namespace Go.Am
open Go Go.Proofs
theorem LO {h:Heap}{L:LSq}{KH:HKq}{m:Nat}{els:List D}{f:FuncId}{d1 r:D}(V:Vs h ((m,.arr 1 els)::L)) (hv:aQ PP f [.sl els,d1] (· = r)) (hd:uL d1) (he:∀x∈els,∀y∈x.cells,y.vone=true) (hfl:r.flat=true) (hK:KH r h):af PP f [.ms m 0 els.length,d1] h KH:=by
 have hn:=V.get 0 _ _ rfl
 have hrow:(h m).row=some (1,els):=by rw[hn];rfl
 have e0:(D.ms m 0 els.length).fz h=.sl els:=by simp[D.fz,D.fzc,hrow]
 have e1:[D.ms m 0 els.length,d1].map (D.fz h)=[.sl els,d1]:=by rw[List.map_cons,e0,List.map_cons,(As hd.vd).1];rfl
 refine af.mono ?_ (cL (K:=(· = r)) (by rw[e1];exact hv) (fun d hdm=>?_))
 ·rintro r' h' ⟨hr',k2,k3⟩
  rw[hr']at k2 ⊢
  rw[k2 (Or.inl hfl)]
  exact hK
 ·simp only[List.mem_cons,List.not_mem_nil,or_false]at hdm
  rcases hdm with rfl|rfl
  ·refine⟨by simp,?_,by rw[e0];rfl⟩
   intro x hx
   simp only[D.cells,List.mem_singleton]at hx
   subst hx
   exact⟨1,els,hrow,by simp,fun x hx y hy=>he x (by simpa using hx) y hy⟩
  ·exact⟨hd.one,(As hd.vd).2.2,by rw[(As hd.vd).1];exact hd.vd⟩
theorem QV.three {h:Heap}{L:LSq}(V:Vs h L){z:D}{i j k:Int}{KH:HKq}(hK:∀m h',Vs h' ((m,.arr 1 (ez [i,j,k]))::L)->KH (.ms m 0 3) h'):aa PP (.bldS true 1 3 z [(0,.c (.int .i64 i)),(1,.c (.int .i64 j)),(2,.c (.int .i64 k))]) h KH:=by
 refine⟨fun p hp=>?_,fun hf p hp=>?_,fun n t=>?_⟩
 ·simp[Arg.get]at hp
  rcases hp with rfl|rfl|rfl
  ·exact⟨by show 0<3;omega,rfl,aV.one⟩
  ·exact⟨by show 1<3;omega,rfl,aV.one⟩
  ·exact⟨by show 2<3;omega,rfl,aV.one⟩
 ·simp[Arg.get]at hp
  rcases hp with rfl|rfl|rfl<;>(intro x hx;simp[D.cells]at hx;subst hx;trivial)
 ·have:KH (.ms n 0 3) (aq h n (.arr 1 (ez [i,j,k]))):=hK _ _ (V.push t.free (by simp))
  simpa[Arg.get,setEls,D.fz,D.fzc,D.nm,D.jc,ez,Heap.freezeAll,List.replicate] using this
def eW (x:aP):Bool:= !(decide (x.op=1)||decide (x.op=2)||decide (x.op=3)||decide (x.op=4)||decide (x.op=6)||(decide (x.op=5)&&(decide (x.sub=3)||decide (x.sub=4)||decide (x.sub=5))))
theorem JK {x:aP}:aQ PP fC [x.e] (· = .bool (eW x)):=by
 refine dE kU (av _ _ _) rfl (ti _ _) ?_
 unfold oS
 refine Vs.nil.box x.gg.one fun n2 h3 V=>?_
 rw[V.fa 0 rfl,V.fe 0 (j:=0) rfl rfl]
 refine⟨fun q h'=>h'=h3/\∃t:Bool,q=[.bool t]/\t=(decide (x.op=1)||decide (x.op=2)||decide (x.op=3)||decide (x.op=4)||decide (x.op=6)),?_,?_⟩
 ·rintro f h' ⟨e,t,hq,ht⟩
  subst e
  simp only[List.cons.injEq,and_true]at hq
  rw[hq]
  cases t with
  | true =>
   rw[ai,lD]
   unfold eW
   rw[<- ht];rfl
  | false =>
   rw[ah,de]
   by_cases h5:x.op=5
   ·rw[decide_eq_true h5,ai]
    refine QV.three V fun m h13 V13=>?_
    rw[V13.fa 1 rfl,V13.fe 1 (j:=1) rfl rfl]
    refine LO V13 (Dr (l:=[3,4,5]) (k:=x.sub) (by simp)) aV (fun y hy w hw=>by simp only[ez,List.mem_map]at hy;obtain⟨k,-,rfl⟩:=hy;simp[D.cells]at hw;subst hw;rfl) rfl ?_
    rw[ow,lD]
    unfold eW
    rw[<- ht,decide_eq_true h5]
    simp only[Bool.false_or,Bool.true_and]
    congr 2
    simp only[List.mem_cons,List.not_mem_nil,or_false,Bool.decide_or,Bool.or_assoc]
   ·rw[decide_eq_false h5,ah,lD]
    unfold eW
    rw[<- ht,decide_eq_false h5];rfl
 ·simp only[de,ae,true_and]
  by_cases h1:x.op=1
  ·rw[decide_eq_true h1,ai];exact⟨true,rfl,by simp[h1]⟩
  rw[decide_eq_false h1,ah]
  by_cases h2:x.op=2
  ·rw[decide_eq_true h2,ai];exact⟨true,rfl,by simp[h2]⟩
  rw[decide_eq_false h2,ah]
  by_cases h3':x.op=3
  ·rw[decide_eq_true h3',ai];exact⟨true,rfl,by simp[h3']⟩
  rw[decide_eq_false h3',ah]
  by_cases h4:x.op=4
  ·rw[decide_eq_true h4,ai];exact⟨true,rfl,by simp[h4]⟩
  rw[decide_eq_false h4,ah]
  exact⟨_,rfl,by simp[h1,h2,h3',h4]⟩
end Go.Am
namespace Go.Am
open Go Go.Proofs
def QE (esz:Nat) (h:Heap) (L:LSq) (v:D) (T:List D):Prop :=
 (v=.nil/\T=[]/\Vs h L)\/∃m,v=.ms m 0 T.length/\Vs h ((m,.arr esz T)::L)
section
variable {esz:Nat}{h:Heap}{L:LSq}{v:D}{T:List D}{KH:HKq}
theorem QE.vs (q:QE esz h L v T):Vs h L:=by
 rcases q with⟨-,-,V⟩|⟨m,-,V⟩
 ·exact V
 ·exact V.pop
theorem QE.bO (q:QE esz h L v T) (i:Nat){n:Nat}{s s':Slot}(hi:L[i]?=some (n,s)) (hs:s'≠.free):QE esz (aq h n s') (L.set i (n,s')) v T:=by
 rcases q with⟨rfl,rfl,V⟩|⟨m,rfl,V⟩
 ·exact Or.inl ⟨rfl,rfl,V.bO i hi hs⟩
 ·exact Or.inr ⟨m,rfl,by have:=V.bO (i+1) (n:=n) (s:=s) (by simpa using hi) hs;simpa using this⟩
theorem QE.more (q:QE esz h L v T){n:Nat}(hn:h n=.free){s:Slot}(hs:s≠.free):QE esz (aq h n s) ((n,s)::L) v T:=by
 rcases q with⟨rfl,rfl,V⟩|⟨m,rfl,V⟩
 ·exact Or.inl ⟨rfl,rfl,V.push hn hs⟩
 ·exact Or.inr ⟨m,rfl,(V.push hn hs).swap⟩
theorem QE.less {x:Nat×Slot}(q:QE esz h (x::L) v T):QE esz h L v T:=by
 rcases q with⟨rfl,rfl,V⟩|⟨m,rfl,V⟩
 ·exact Or.inl ⟨rfl,rfl,V.pop⟩
 ·exact Or.inr ⟨m,rfl,V.swap.pop⟩
theorem QE.push (q:QE esz h L v T){d z z':D}{bytes:Nat}(hd:uL d) (hc:d.cells.length=esz) (hb:(T.length+1)*bytes<=140737488355328) (hl:T.length+1<=9223372036854775807)
  (hK:∀v h',QE esz h' L v (T++[d])->KH v h'):aa PP (.bldS true esz 1 z [(0,.c d)]) h fun x h1=>aa PP (.app (.c v) (.c x) esz bytes z') h1 KH:=by
 have hlen:T.length+1=(T++[d]).length:=by simp
 rcases q with⟨rfl,rfl,V⟩|⟨m,rfl,V⟩
 ·refine xg (els:=[]) (Or.inl ⟨rfl,rfl⟩) hd hc hb hl fun m h' hm hm' hk=>hK _ _ (Or.inr ⟨m,rfl,?_⟩)
  have Vk:=V.y8 (h':=h') fun k s ⟨i,hi⟩=>hk k (fun e=>by subst e;exact V.lv i k s hi ((V.get i k s hi).symm.trans hm)) (by simp[D.jc]) (by rw[V.get i k s hi];exact V.lv i k s hi)
  rw[Vs.iff]at Vk ⊢
  refine⟨fun k s hs=>?_,?_⟩
  ·rcases List.mem_cons.1 hs with e|hs
   ·cases e;exact⟨hm',by simp⟩
   ·exact Vk.1 k s hs
  ·rw[List.map_cons,List.nodup_cons]
   refine⟨fun hmm=>?_,Vk.2⟩
   obtain⟨⟨k,s⟩,hks,rfl⟩:=List.mem_map.1 hmm
   obtain⟨i,hi⟩:=List.getElem?_of_mem hks
   exact V.lv i _ _ hi ((V.get i _ _ hi).symm.trans hm)
 ·refine xg (els:=T) (Or.inr ⟨m,rfl,V.get 0 _ _ rfl⟩) hd hc hb hl fun m' h' hm hm' hk=>hK _ _ (Or.inr ⟨m',by rw[hlen],?_⟩)
  have V1:=V.pop
  have Vk:=V1.y8 (h':=h') fun k s ⟨i,hi⟩=>hk k (fun e=>by subst e;exact V1.lv i k s hi ((V1.get i k s hi).symm.trans hm)) (fun e=>by
   simp[D.jc]at e
   exact V.ne (i+1) 0 k m s _ (by simpa using hi) rfl (by omega) e) (by rw[V1.get i k s hi];exact V1.lv i k s hi)
  rw[Vs.iff]at Vk ⊢
  refine⟨fun k s hs=>?_,?_⟩
  ·rcases List.mem_cons.1 hs with e|hs
   ·cases e;exact⟨hm',by simp⟩
   ·exact Vk.1 k s hs
  ·rw[List.map_cons,List.nodup_cons]
   refine⟨fun hmm=>?_,Vk.2⟩
   obtain⟨⟨k,s⟩,hks,rfl⟩:=List.mem_map.1 hmm
   obtain⟨i,hi⟩:=List.getElem?_of_mem hks
   exact V1.lv i _ _ hi ((V1.get i _ _ hi).symm.trans hm)
end
section
variable {esz:Nat}{h:Heap}{L:LSq}{v:D}{T:List D}{KH:HKq}
theorem QE.alloc (q:QE esz h L v T){d:D}(hK:∀n h',QE esz h' ((n,.box d)::L) v T->KH (.ptr n 0 0) h'):aa PP (.alloc d) h KH:=by
 rw[fH]
 exact fun n t=>hK n _ (q.more t.free (by simp))
theorem QE.xt {n s:Nat}{cs cs':List D}(q:QE esz h ((n,.box (.agg cs))::L) v T) (hl:cs.length=s) (hl':cs'.length=s) (ho:∀x,x∈cs'->x.one=true) (hK:∀h',QE esz h' ((n,.box (.agg cs'))::L) v T->KH .undef h'):aa PP (.st (.c (.ptr n 0 0)) (.c (.agg cs')) s) h KH:=by
 rcases q with⟨rfl,rfl,V⟩|⟨m,rfl,V⟩
 ·exact V.xt 0 rfl hl hl' ho fun h' V'=>hK h' (Or.inl ⟨rfl,rfl,V'⟩)
 ·exact V.xt 1 rfl hl hl' ho fun h' V'=>hK h' (Or.inr ⟨m,rfl,V'⟩)
theorem Vs.NF (V:Vs h L) (i:Nat){n j s:Nat}{els cs:List D}(hi:L[i]?=some (n,.arr s els)) (hd:els[j]?=some (.agg cs)) (hl:cs.length=s):aa PP (.ld (.c (.ptr n j 0)) s true) h KH=KH (.agg cs) h:=by
 rw[rf,V.get i _ _ hi]
 obtain⟨h1,he⟩:=List.getElem?_eq_some_iff.1 hd
 subst hl
 simp[iu,h1,he,D.cells]
end
structure Fa where
 uO:Bool
 n:Int
def Fa.e (f:Fa):D:=.agg [.bool f.uO,.int .i64 f.n]
theorem Fa.gg (f:Fa):uL f.e:=gz (by simp)
def bW (l:List cy):List Fa:=(l.filter fun o=>decide (o.kind=2)).map fun o=>⟨false,o.n⟩
theorem JV {n:Int}{h:Heap}{KH:HKq}:aa PP (.bld [(.bool false),(.int .i64 0)] [(1,1,(.c (.int .i64 n)))]) h KH=KH (Fa.e ⟨false,n⟩) h:=by
 rw[oK]
 apply propext
 constructor
 ·exact fun hh=>hh.2
 ·refine fun hk=>⟨fun p hp=>?_,hk⟩
  simp[Arg.get]at hp
  subst hp
  exact⟨rfl,by show 1+1<=2;omega,fun d hd=>by simp[D.cells]at hd;subst hd;rfl⟩
theorem DN {l:List cy}{h:Heap}{L:LSq}{KH:HKq}{m:Nat}(V:Vs h ((m,.arr 3 (l.map cy.e))::L)) (hl:l.length<=100) (hK:∀v h',QE 2 h' ((m,.arr 3 (l.map cy.e))::L) v ((bW l).map Fa.e)->KH v h'):af PP bD [.ms m 0 l.length] h KH:=by
 refine aR ew (av _ _ _) rfl (iL _ _) ?_
 unfold fT
 refine⟨fun q h'=>∃v,q=[v]/\QE 2 h' ((m,.arr 3 (l.map cy.e))::L) v ((bW l).map Fa.e),?_,?_⟩
 ·rintro f h' ⟨v,hq,q⟩
  simp only[List.cons.injEq,and_true]at hq
  rw[hq]
  exact hK v h' q
 rw[bo,V.get 0 _ _ rfl]
 refine⟨rfl,?_⟩
 unfold ep
 refine⟨fun k q h'=>∃(i:Nat) (v:D),q=[v,nD i]/\i<=l.length/\k=l.length-i/\QE 2 h' ((m,.arr 3 (l.map cy.e))::L) v ((bW (l.take i)).map Fa.e),_,⟨0,.nil,rfl,by omega,rfl,Or.inl ⟨rfl,rfl,V⟩⟩,?_⟩
 rintro k f h1 ⟨i,v,hq,hi,hk,q⟩
 simp only[List.cons.injEq,and_true]at hq
 obtain⟨q1,q2⟩:=hq
 simp only[q1,q2,nD]
 by_cases hlt:i<l.length
 ·rw[sZ (by omega),ai]
  obtain⟨o,ho⟩:∃o,l[i]?=some o:=⟨l[i],List.getElem?_eq_getElem hlt⟩
  have htk:l.take (i+1)=l.take i++[o]:=by rw[List.take_add_one,ho];rfl
  refine⟨fun q' h'=>∃v,q'=[v]/\QE 2 h' ((m,.arr 3 (l.map cy.e))::L) v ((bW (l.take (i+1))).map Fa.e),?_,?_⟩
  ·rintro f' h' ⟨v',hq',q'⟩
   simp only[List.cons.injEq,and_true]at hq'
   rw[hq',gE (by omega) (by omega)]
   simp only[ae,true_and]
   exact⟨_,by omega,i+1,v',rfl,by omega,rfl,q'⟩
  have V1:=q.vs
  rw[V1.ia 0 rfl (by omega) (by omega),Int.toNat_natCast,V1.NF 0 rfl (j:=i) (cs:=o.cs) (by simp[ho,cy.e]) rfl]
  refine q.alloc fun n19 h20 q20=>?_
  refine q20.xt rfl rfl (fun x hx=>o.gg.one x hx) fun h22 q22=>?_
  have V22:=q22.vs
  rw[V22.fa 0 rfl,V22.fe 0 (j:=0) rfl rfl,de]
  by_cases hk2:o.kind=2
  ·rw[decide_eq_true hk2,ai,V22.fa 0 rfl,V22.fe 0 (j:=1) rfl rfl,JV]
   refine q22.less.push (Fa.gg _) rfl ?_ ?_ fun v' h' q'=>?_
   ·have:=List.length_filter_le (fun o:cy=>decide (o.kind=2)) (l.take i)
    rw[List.length_take]at this
    simp only[bW,List.length_map];omega
   ·have:=List.length_filter_le (fun o:cy=>decide (o.kind=2)) (l.take i)
    rw[List.length_take]at this
    simp only[bW,List.length_map];omega
   ·simp only[ae,true_and]
    refine⟨v',rfl,?_⟩
    have:(bW (l.take (i+1))).map Fa.e=(bW (l.take i)).map Fa.e++[Fa.e ⟨false,o.n⟩]:=by
     rw[htk];simp[bW,List.filter_append,hk2]
    rw[this]
    exact q'
  ·rw[decide_eq_false hk2,ah]
   simp only[ae,true_and]
   refine⟨v,rfl,?_⟩
   have:(bW (l.take (i+1))).map Fa.e=(bW (l.take i)).map Fa.e:=by
    rw[htk];simp[bW,List.filter_append,hk2]
   rw[this]
   exact q22.less
 ·have:i=l.length:=by omega
  subst this
  rw[sG (by omega),ah]
  simp only[ae,true_and]
  rw[List.take_length]at q
  exact⟨v,rfl,q⟩
end Go.Am
namespace Go.Am
open Go Go.Proofs
def du (o:cy):Int:=if o.kind=2 then o.n else -1
theorem JN {o:cy}:aQ PP jt [o.e] (· = .int .i64 (du o)):=by
 refine dE tO (av _ _ _) rfl (Ai _ _) ?_
 unfold zG
 refine Vs.nil.box o.gg.one fun n2 h3 V=>?_
 rw[V.fa 0 rfl,V.fe 0 (j:=0) rfl rfl,xq]
 unfold du
 by_cases hk:o.kind=2
 ·rw[decide_eq_true hk,Bool.not_true,ah,V.fa 0 rfl,V.fe 0 (j:=1) rfl rfl,il,if_pos hk]
 ·rw[decide_eq_false hk,Bool.not_false,ai,il,if_neg hk]
theorem Q0 {P:Program}{h:Heap}{KH:HKq}{n:Nat}{x:Term}(a:h n=.box x.e):aa P (.ld (.c (.ptr n 0 2)) 3 true) h KH=KH x.d.e h:=Ld a (by simp[Term.cs])
theorem Pp {P:Program}{h:Heap}{KH:HKq}{n:Nat}{x:aP}(a:h n=.box x.e):aa P (.ld (.c (.ptr n 0 3)) 3 true) h KH=KH x.d.e h:=Ld a (by simp[aP.cs])
theorem JQ {x:aP}:aQ PP ju [x.e] (· = .int .i64 (du x.d)):=by
 refine dE tP (av _ _ _) rfl (Aj _ _) ?_
 unfold zL
 refine Vs.nil.box x.gg.one fun n2 h3 V=>?_
 rw[V.fa 0 rfl,Pp (V.get 0 _ _ rfl)]
 refine fv JN (fun d hd=>by simp at hd;subst hd;exact x.d.gg.pair) ?_
 rintro _ rfl
 rw[il]
theorem Gc {x:Term}:aQ PP jQ [x.e] (· = .int .i64 (du x.d)):=by
 refine dE sy (av _ _ _) rfl (zK _ _) ?_
 unfold xO
 refine Vs.nil.box x.gg.one fun n2 h3 V=>?_
 rw[V.fa 0 rfl,Q0 (V.get 0 _ _ rfl)]
 refine fv JN (fun d hd=>by simp at hd;subst hd;exact x.d.gg.pair) ?_
 rintro _ rfl
 rw[il]
theorem BY {l:List cy}{h:Heap}{L:LSq}{KH:HKq}(V:Vs h L) (hl:l.length<=100) (hK:∀v h',QE 2 h' L v ((bW l).map Fa.e)->KH v h'):af PP bD [.sl (l.map cy.e)] h KH:=by
 refine aR ew (av _ _ _) rfl (iL _ _) ?_
 unfold fT
 refine⟨fun q h'=>∃v,q=[v]/\QE 2 h' L v ((bW l).map Fa.e),?_,?_⟩
 ·rintro f h' ⟨v,hq,q⟩
  simp only[List.cons.injEq,and_true]at hq
  rw[hq]
  exact hK v h' q
 rw[eG,List.length_map]
 unfold ep
 refine⟨fun k q h'=>∃(i:Nat) (v:D),q=[v,nD i]/\i<=l.length/\k=l.length-i/\QE 2 h' L v ((bW (l.take i)).map Fa.e),_,⟨0,.nil,rfl,by omega,rfl,Or.inl ⟨rfl,rfl,V⟩⟩,?_⟩
 rintro k f h1 ⟨i,v,hq,hi,hk,q⟩
 simp only[List.cons.injEq,and_true]at hq
 obtain⟨q1,q2⟩:=hq
 simp only[q1,q2,nD]
 by_cases hlt:i<l.length
 ·rw[sZ (by omega),ai]
  obtain⟨o,ho⟩:∃o,l[i]?=some o:=⟨l[i],List.getElem?_eq_getElem hlt⟩
  have htk:l.take (i+1)=l.take i++[o]:=by rw[List.take_add_one,ho];rfl
  refine⟨fun q' h'=>∃v,q'=[v]/\QE 2 h' L v ((bW (l.take (i+1))).map Fa.e),?_,?_⟩
  ·rintro f' h' ⟨v',hq',q'⟩
   simp only[List.cons.injEq,and_true]at hq'
   rw[hq',gE (by omega) (by omega)]
   simp only[ae,true_and]
   exact⟨_,by omega,i+1,v',rfl,by omega,rfl,q'⟩
  rw[mM (esz:=3) (d:=o.e) (by omega) (by rw[Int.toNat_natCast,List.getElem?_map,ho];rfl) rfl,show o.e=.agg o.cs from rfl,Ei (s:=3) rfl]
  refine q.alloc fun n19 h20 q20=>?_
  refine q20.xt rfl rfl (fun x hx=>o.gg.one x hx) fun h22 q22=>?_
  have V22:=q22.vs
  rw[V22.fa 0 rfl,V22.fe 0 (j:=0) rfl rfl,de]
  by_cases hk2:o.kind=2
  ·rw[decide_eq_true hk2,ai,V22.fa 0 rfl,V22.fe 0 (j:=1) rfl rfl,JV]
   have hlf:(bW (l.take i)).length<=100:=by
    have:=List.length_filter_le (fun o:cy=>decide (o.kind=2)) (l.take i)
    rw[List.length_take]at this
    simp only[bW,List.length_map];omega
   refine q22.less.push (Fa.gg _) rfl (by rw[List.length_map];omega) (by rw[List.length_map];omega) fun v' h' q'=>?_
   ·simp only[ae,true_and]
    refine⟨v',rfl,?_⟩
    have:(bW (l.take (i+1))).map Fa.e=(bW (l.take i)).map Fa.e++[Fa.e ⟨false,o.n⟩]:=by
     rw[htk];simp[bW,List.filter_append,hk2]
    rw[this]
    exact q'
  ·rw[decide_eq_false hk2,ah]
   simp only[ae,true_and]
   refine⟨v,rfl,?_⟩
   have:(bW (l.take (i+1))).map Fa.e=(bW (l.take i)).map Fa.e:=by
    rw[htk];simp[bW,List.filter_append,hk2]
   rw[this]
   exact q22.less
 ·have:i=l.length:=by omega
  subst this
  rw[sG (by omega),ah]
  simp only[ae,true_and]
  rw[List.take_length]at q
  exact⟨v,rfl,q⟩
structure Ru where
 of:Fa
 needs:List Fa
 never:Bool
def Ru.e (r:Ru) (v:D):D:=.agg [.bool r.of.uO,.int .i64 r.of.n,v,.bool r.never]
def Af (b:Nat):Fa:=⟨true,b⟩
def yO (n:Int):Fa:=⟨false,n⟩
def BK (b a:Nat) (t:Term):Ru:=⟨Af b,bW [t.a]++[Af a],false⟩
def tA (b:Nat) (x:aP):Ru:=⟨yO (du x.d),bW [x.a,x.b,x.c]++[Af b],eW x⟩
def fR (b:Nat) (xs:List aP):List Ru:=(xs.filter fun x=>decide (0<=du x.d)).map (tA b)
def zn (t:Term):List Ru:=if 0<=du t.d then [⟨yO (du t.d),[],true⟩] else []
def Ny (b:Nat):Ru:=⟨Af b,[],true⟩
def uO (c:Code) (b:Nat):Block:=(c.b[b]?).getD default
theorem pI {c:Code}{b:Nat}{B:Block}(h:c.b[b]?=some B):uO c b=B:=by unfold uO;rw[h];rfl
def gd (c:Code) (b:Nat) (dep:List Nat):List Ru:=dep.map fun a=>BK b a (uO c a).t
def rM (c:Code) (R:List Bool) (Dp:List (List Nat)) (b:Nat):List Ru :=
 if hasB R b then gd c b (gL Dp b)++fR b (uO c b).i++zn (uO c b).t else [Ny b]
def fP (c:Code) (R:List Bool) (Dp:List (List Nat)) (n:Nat):List Ru:=(List.range n).flatMap (rM c R Dp)
def uc (c:Code) (R:List Bool) (Dp:List (List Nat)):List Ru:=fP c R Dp c.b.length
theorem xw {c:Code}{R:List Bool}{Dp:List (List Nat)}{n:Nat}:fP c R Dp (n+1)=fP c R Dp n++rM c R Dp n:=by
 unfold fP;rw[List.range_succ,List.flatMap_append];simp
def Al (N:Nat) (R:Int) (f:Fa):Prop:=0<=f.n/\(f.uO=true->f.n<(N:Int))/\(f.uO=false->f.n<R)
structure uD (N:Nat) (R:Int) (r:Ru):Prop where
 of:Al N R r.of
 needs:∀f∈r.needs,Al N R f
 len:r.needs.length<=10
structure ja (c:Code):Prop where
 g:ec c
 i:∀B∈c.b,∀x∈B.i,zO c.regs x
 len:∀B∈c.b,B.i.length<=100
 rg:1<=c.regs/\c.regs<=100
theorem pV.u {c:Code}(h:pV c):ja c:=by
 refine⟨h.g,fun B hB x hx=>?_,fun B hB=>Nat.le_trans (h.b B hB).len (by omega),?_⟩
 ·obtain⟨k,hk⟩:=List.getElem?_of_mem hx
  exact((h.b B hB).xs k x hk).1
 ·have:=h.regs;have:=h.nl;omega
theorem jq {R:Int}{o:cy}(h:mi R o):o.kind=2/\0<=o.n/\o.n<R:=by obtain⟨r,h1,h2,rfl⟩:=h;exact⟨rfl,h1,h2⟩
theorem lM {R:Int}{o:cy}(h:pM R o):o.kind=2->0<=o.n/\o.n<R:=by
 rcases h with h|⟨v,-,-,rfl⟩
 ·exact fun _=>(jq h).2
 ·intro h;cases h
def wD (R:Int) (o:cy):Prop:=o.kind=2->0<=o.n/\o.n<R
theorem cw {R:Int}:wD R au:=fun h=>by cases h
theorem zO.Nr {R:Int}{x:aP}(h:zO R x):wD R x.d/\wD R x.a/\wD R x.b/\wD R x.c:=by
 cases h with
 | mov d a h1 h2=>exact⟨fun _=>(jq h1).2,lM h2,cw,cw⟩
 | un s d a h0 h1 h2=>exact⟨fun _=>(jq h1).2,lM h2,cw,cw⟩
 | bin s d a b h0 h1 h2 h3=>exact⟨fun _=>(jq h1).2,lM h2,lM h3,cw⟩
 | sel d a b c h1 h2 h3 h4=>exact⟨fun _=>(jq h1).2,lM h2,lM h3,lM h4⟩
 | id s d h0 h1=>exact⟨fun _=>(jq h1).2,cw,cw,cw⟩
 | param n d h0 h1=>exact⟨fun _=>(jq h1).2,cw,cw,cw⟩
 | load n d a h0 h1 h2=>exact⟨fun _=>(jq h1).2,fun _=>(jq h2).2,cw,cw⟩
 | store n a b h0 h1 h2=>exact⟨cw,fun _=>(jq h1).2,lM h2,cw⟩
 | atom s n a b hs h0 h1 h2=>exact⟨cw,fun _=>(jq h1).2,lM h2,cw⟩
 | fence s h0=>exact⟨cw,cw,cw,cw⟩
theorem A6.Nr {N:Nat}{R:Int}{t:Term}(h:A6 N R t):wD R t.d/\wD R t.a/\wD R t.b:=by
 cases h with
 | jump a h=>exact⟨cw,cw,cw⟩
 | branch o a b ho h1 h2=>exact⟨cw,fun _=>(jq ho).2,cw⟩
 | barrier a h=>exact⟨cw,cw,cw⟩
 | collect s d a b t hs hd ha hb h=>exact⟨fun _=>(jq hd).2,lM ha,lM hb⟩
 | exit=>exact⟨cw,cw,cw⟩
theorem Cv {N:Nat}{R:Int}{l:List cy}(h:∀o∈l,wD R o):∀f,f∈bW l->Al N R f:=by
 intro f hf
 simp only[bW,List.mem_map,List.mem_filter,decide_eq_true_eq]at hf
 obtain⟨o,⟨ho,hk⟩,rfl⟩:=hf
 exact⟨(h o ho hk).1,fun h=>(by cases h),fun _=>(h o ho hk).2⟩
theorem lG {l:List cy}:(bW l).length<=l.length:=by
 unfold bW;rw[List.length_map];exact List.length_filter_le _ _
theorem DC {N:Nat}{R:Int}{b:Nat}(h:b<N):Al N R (Af b):=⟨by simp[Af],fun _=>by simp only[Af];omega,fun h=>by cases h⟩
theorem IK {N:Nat}{R:Int}{b:Nat}(h:b<N):uD N R (Ny b):=⟨DC h,fun f hf=>by simp[Ny]at hf,by simp[Ny]⟩
theorem F7 {N:Nat}{R:Int}{b a:Nat}{t:Term}(hb:b<N) (ha:a<N) (ht:A6 N R t):uD N R (BK b a t):=by
 refine⟨DC hb,fun f hf=>?_,?_⟩
 ·rcases List.mem_append.1 hf with hf|hf
  ·exact Cv (fun o ho=>by simp at ho;subst ho;exact ht.Nr.2.1) f hf
  ·simp at hf;subst hf;exact DC ha
 ·have:(bW [t.a]).length<=1:=lG
  simp[BK];omega
theorem CH {N:Nat}{R:Int}{b:Nat}{x:aP}(hb:b<N) (hx:zO R x) (h0:0<=du x.d):uD N R (tA b x):=by
 refine⟨⟨h0,fun h=>(by cases h),fun _=>?_⟩,fun f hf=>?_,?_⟩
 ·unfold tA yO du at *
  split at h0
  ·rename_i hk
   simp only[if_pos hk]
   exact(hx.Nr.1 hk).2
  ·omega
 ·rcases List.mem_append.1 hf with hf|hf
  ·exact Cv (fun o ho=>by simp at ho;rcases ho with rfl|rfl|rfl;exact hx.Nr.2.1;exact hx.Nr.2.2.1;exact hx.Nr.2.2.2) f hf
  ·simp at hf;subst hf;exact DC hb
 ·have:(bW [x.a,x.b,x.c]).length<=3:=lG
  simp[tA];omega
theorem F4 {N:Nat}{R:Int}{t:Term}(ht:A6 N R t) (h0:0<=du t.d):uD N R ⟨yO (du t.d),[],true⟩:=by
 refine⟨⟨h0,fun h=>(by cases h),fun _=>?_⟩,fun f hf=>(by simp at hf),by simp⟩
 unfold yO du at *
 split at h0
 ·rename_i hk
  simp only[if_pos hk]
  exact(ht.Nr.1 hk).2
 ·omega
end Go.Am
namespace Go.Am
open Go Go.Proofs
section
variable {h:Heap}{L:LSq}{KH:HKq}{K:D->Prop}
theorem Vs.NX (V:Vs h L){n o:Nat}{s:Slot}(hm:(n,s)∈L):aa PP (.fadd (.c (.ptr n 0 0)) o) h KH=KH (.ptr n 0 o) h:=by
 obtain⟨i,hi⟩:=List.getElem?_of_mem hm;exact V.fa i hi
theorem Vs.Ej (V:Vs h L){n j:Nat}{cs:List D}{e:D}(hm:(n,Slot.box (.agg cs))∈L) (he:cs[j]?=some e):aa PP (.ld (.c (.ptr n 0 j)) 1 false) h KH=KH e h:=GQ (V.mem hm) he
theorem Vs.NG (V:Vs h L){n s:Nat}{cs:List D}(hm:(n,Slot.box (.agg cs))∈L) (hl:cs.length=s):aa PP (.ld (.c (.ptr n 0 0)) s true) h KH=KH (.agg cs) h:=by
 obtain⟨i,hi⟩:=List.getElem?_of_mem hm;exact V.re i hi hl
theorem Vs.Pq (V:Vs h L){n:Nat}{d:D}(hm:(n,Slot.box d)∈L) (h1:d.one=true):aa PP (.ld (.c (.ptr n 0 0)) 1 false) h KH=KH d h:=by
 obtain⟨i,hi⟩:=List.getElem?_of_mem hm;exact V.yn i hi h1
def BW (L:LSq) (v:D) (T:List Bool):Prop:=v=.sl (bL T)\/∃m,v=.ms m 0 T.length/\(m,.arr 1 (bL T))∈L
def FW (L:LSq) (v:D) (T:List Fa):Prop:=(v=.nil/\T=[])\/v=.sl (T.map Fa.e)\/∃m,v=.ms m 0 T.length/\(m,.arr 2 (T.map Fa.e))∈L
theorem BW.mono {L':LSq}{v:D}{T:List Bool}(hs:∀x∈L,x∈L') (w:BW L v T):BW L' v T:=by
 rcases w with h|⟨m,h1,h2⟩
 ·exact Or.inl h
 ·exact Or.inr ⟨m,h1,hs _ h2⟩
theorem FW.mono {L':LSq}{v:D}{T:List Fa}(hs:∀x∈L,x∈L') (w:FW L v T):FW L' v T:=by
 rcases w with h|h|⟨m,h1,h2⟩
 ·exact Or.inl h
 ·exact Or.inr (Or.inl h)
 ·exact Or.inr (Or.inr ⟨m,h1,hs _ h2⟩)
theorem BW.one {v:D}{T:List Bool}(w:BW L v T):v.one=true:=by rcases w with rfl|⟨m,rfl,-⟩<;>rfl
theorem FW.one {v:D}{T:List Fa}(w:FW L v T):v.one=true:=by rcases w with⟨rfl,-⟩|rfl|⟨m,rfl,-⟩<;>rfl
theorem FW.len (V:Vs h L){v:D}{T:List Fa}(w:FW L v T):aS v h K=K (.int .i64 (T.length:Int)):=by
 rcases w with⟨rfl,rfl⟩|rfl|⟨m,rfl,hm⟩
 ·rw[ox];rfl
 ·rw[eG,List.length_map]
 ·rw[bo,V.mem hm]
  apply propext
  exact⟨fun hh=>hh.2,fun hk=>⟨rfl,hk⟩⟩
theorem FW.get (V:Vs h L){v:D}{T:List Fa}(w:FW L v T){i:Nat}{f:Fa}(hf:T[i]?=some f) (hK:KH f.e h):aa PP (.iadd (.c v) (.c (.int .i64 (i:Int))) 2) h fun a h1=>aa PP (.ld (.c a) 2 true) h1 KH:=by
 have hi:=(List.getElem?_eq_some_iff.1 hf).1
 rcases w with⟨-,rfl⟩|rfl|⟨m,rfl,hm⟩
 ·simp at hf
 ·rw[mM (esz:=2) (d:=f.e) (by omega) (by rw[Int.toNat_natCast,List.getElem?_map,hf];rfl) rfl,show f.e=.agg [.bool f.uO,.int .i64 f.n] from rfl,Ei (s:=2) rfl]
  exact hK
 ·obtain⟨k,hk⟩:=List.getElem?_of_mem hm
  rw[V.ia k hk (by omega) (by omega),Int.toNat_natCast,V.NF k hk (j:=i) (cs:=[.bool f.uO,.int .i64 f.n]) (by rw[List.getElem?_map,hf];rfl) rfl]
  exact hK
theorem BW.len (V:Vs h L){v:D}{T:List Bool}(w:BW L v T):aS v h K=K (.int .i64 (T.length:Int)):=by
 rcases w with rfl|⟨m,rfl,hm⟩
 ·rw[eG];simp[bL]
 ·rw[bo,V.mem hm]
  apply propext
  exact⟨fun hh=>hh.2,fun hk=>⟨rfl,hk⟩⟩
def Qt (L:LSq) (v:D) (T:List Bool) (i:Nat) (p:D):Prop:=(v=.sl (bL T)/\p=.vp (.bool (hasB T i)) 0)\/∃m,v=.ms m 0 T.length/\(m,.arr 1 (bL T))∈L/\p=.ptr m i 0
theorem BW.at (V:Vs h L){v:D}{T:List Bool}(w:BW L v T){a:Int}(h0:0<=a) (hi:a<T.length) (hK:∀p,Qt L v T a.toNat p->KH p h):aa PP (.iadd (.c v) (.c (.int .i64 a)) 1) h KH:=by
 rcases w with rfl|⟨m,rfl,hm⟩
 ·rw[mM (esz:=1) (d:=.bool (hasB T a.toNat)) h0 (rN (eJ (by omega))) rfl]
  exact hK _ (Or.inl ⟨rfl,rfl⟩)
 ·obtain⟨k,hk⟩:=List.getElem?_of_mem hm
  rw[V.ia k hk h0 hi]
  exact hK _ (Or.inr ⟨m,rfl,hm,rfl⟩)
theorem Qt.read (V:Vs h L){v p:D}{T:List Bool}{i:Nat}(w:Qt L v T i p) (hi:i<T.length) (hK:KH (.bool (hasB T i)) h):aa PP (.fadd (.c p) 0) h fun a h1=>aa PP (.ld (.c a) 1 false) h1 KH:=by
 rcases w with⟨-,rfl⟩|⟨m,-,hm,rfl⟩
 ·rw[PO,Ac rfl];exact hK
 ·obtain⟨k,hk⟩:=List.getElem?_of_mem hm
  rw[jy,V.mem hm]
  refine⟨rfl,?_⟩
  rw[Nat.zero_add,V.zR k hk (rN (eJ hi)) rfl]
  exact hK
end
def xS (U R:List Bool) (f:Fa):List Bool:=if f.uO then U else R
def kA (U R:List Bool) (f:Fa):Bool:=hasB (xS U R f) f.n.toNat
def jg (U R:List Bool) (r:Ru):Bool:= !kA U R r.of||(!r.never&&r.needs.all (kA U R))
section
variable {h:Heap}{L:LSq}{KH:HKq}{vU vR:D}{U R:List Bool}
theorem OC (V:Vs h L) (wU:BW L vU U) (wR:BW L vR R){f:Fa}(hf:Al U.length R.length f) (hK:∀p h',Vs h' L->Qt L (if f.uO then vU else vR) (xS U R f) f.n.toNat p->KH p h'):af PP dm [.agg [vU,vR],f.e] h KH:=by
 refine aR qd (av _ _ _) rfl (x4 _ _ _) ?_
 unfold v8
 refine V.box (fun x hx=>?_) fun n3 h4 V4=>?_
 ·simp at hx;rcases hx with rfl|rfl
  ·exact wU.one
  ·exact wR.one
 refine V4.box f.gg.one fun n5 h6 V6=>?_
 rw[V6.fa 0 rfl,V6.fe 0 (j:=0) rfl rfl]
 obtain⟨b,n⟩:=f
 cases b
 ·rw[ah,V6.fa 1 rfl,V6.fe 1 (j:=1) rfl rfl,V6.fa 0 rfl,V6.fe 0 (j:=1) rfl rfl]
  refine(wR.mono (L':=_::_::L) (fun x hx=>by simp[hx])).at V6 hf.1 (hf.2.2 rfl) fun p hp=>hK p _ V6.pop.pop ?_
  rcases hp with hp|⟨m,h1,h2,h3⟩
  ·exact Or.inl hp
  ·rcases wR with rfl|⟨m',rfl,hm'⟩
   ·cases h1
   ·cases h1;exact Or.inr ⟨_,rfl,hm',h3⟩
 ·rw[ai,V6.fa 1 rfl,V6.fe 1 (j:=0) rfl rfl,V6.fa 0 rfl,V6.fe 0 (j:=1) rfl rfl]
  refine(wU.mono (L':=_::_::L) (fun x hx=>by simp[hx])).at V6 hf.1 (hf.2.1 rfl) fun p hp=>hK p _ V6.pop.pop ?_
  rcases hp with hp|⟨m,h1,h2,h3⟩
  ·exact Or.inl hp
  ·rcases wU with rfl|⟨m',rfl,hm'⟩
   ·cases h1
   ·cases h1;exact Or.inr ⟨_,rfl,hm',h3⟩
theorem DQ {v cl:D}{T:List Fa}{p:Fa->Bool}(V:Vs h L) (w:FW L v T) (hl:T.length<=1000000)
  (hp:∀y∈T,∀h' (KH:HKq),Vs h' L->(∀h'',Vs h'' L->KH (.bool (p y)) h'')->aa PP (.callv (.c cl) [.c y.e]) h' KH) (hK:∀h',Vs h' L->KH (.bool (T.any p)) h'):af PP aL [v,cl] h KH:=by
 refine aR bp (av _ _ _) rfl (cD _ _ _) ?_
 unfold bx
 have key:∀KH:HKq,(∀(i:Int) h',Vs h' L->(0<=i↔T.any p=true)->KH (.int .i64 i) h')->af PP aN [v,cl] h KH:=by
  intro KH hk
  refine aR bB (av _ _ _) rfl (cW _ _ _) ?_
  unfold bI
  refine⟨fun _ h'=>Vs h' L/\T.any p=false,?_,?_⟩
  ·rintro f h' ⟨V',hn⟩
   exact hk (-1) h' V' (by simp[hn])
  rw[w.len V]
  unfold bw
  refine⟨fun m q h'=>Vs h' L/\∃i:Nat,i<=T.length/\m=T.length-i/\q=[.int .i64 (i:Int)]/\(T.take i).any p=false,_,⟨V,0,by omega,rfl,rfl,by simp⟩,?_⟩
  rintro m f h1 ⟨V1,i,hi,hm,hq,hn⟩
  simp only[List.cons.injEq,and_true]at hq
  rw[hq]
  by_cases hlt:i<T.length
  ·obtain⟨y,hy⟩:∃y,T[i]?=some y:=⟨T[i],List.getElem?_eq_getElem hlt⟩
   have hyT:=List.mem_of_getElem? hy
   rw[sZ (by omega),ai]
   refine w.get V1 hy ?_
   refine hp y hyT _ _ V1 fun h2 V2=>?_
   cases hpy:p y
   ·rw[ah,gE (by omega) (by omega)]
    simp only[ae,true_and]
    refine⟨_,by omega,V2,i+1,by omega,rfl,by simp,?_⟩
    rw[List.take_add_one,hy]
    simp[hn,hpy]
   ·rw[ai]
    exact hk i _ V2 (by simp only[Int.natCast_nonneg,true_iff,List.any_eq_true];exact⟨y,hyT,hpy⟩)
  ·have:i=T.length:=by omega
   subst this
   rw[sG (by omega),ah]
   simp only[ae,true_and]
   rw[List.take_length]at hn
   exact⟨V1,hn⟩
 refine key _ fun i h' V' hi=>?_
 rw[yD]
 have:decide ((0:Int)<=i)=T.any p:=by
  cases ht:T.any p
  ·rw[ht]at hi;simpa using hi
  ·rw[ht]at hi;simpa using hi
 rw[this]
 exact hK h' V'
theorem JH:cv PP eZ=true:=by kernel_rfl
theorem ND {n off len:Nat}{cs:List D}{h:Heap}{KH:HKq}{d:D}(a:h n=.box (.agg cs)) (hl:off+len<=cs.length) (hd:.agg ((cs.drop off).take len)=d):aa PP (.ld (.c (.ptr n 0 off)) len true) h KH=KH d h:=by rw[Ld a hl,hd]
theorem Kc (V:Vs h L) (wU:BW L vU U) (wR:BW L vR R){r:Ru}(hr:uD U.length R.length r){nd:D}(wn:FW L nd r.needs) (hK:∀h',Vs h' L->KH (.bool (jg U R r)) h'):af PP cH [.agg [vU,vR],r.e nd] h KH:=by
 refine aR nj (av _ _ _) rfl (v7 _ _ _) ?_
 unfold rQ
 have hsel:∀f:Fa,Al U.length R.length f->f.n.toNat<(xS U R f).length:=fun f hf=>by
  obtain⟨b,n⟩:=f
  obtain⟨h1,h2,h3⟩:=hf
  cases b
  ·have g1:n<(R.length:Int):=h3 rfl
   have g2:0<=n:=h1
   show n.toNat<R.length;omega
  ·have g1:n<(U.length:Int):=h2 rfl
   have g2:0<=n:=h1
   show n.toNat<U.length;omega
 refine V.box (fun x hx=>?_) fun n3 h4 V4=>?_
 ·simp at hx;rcases hx with rfl|rfl
  ·exact wU.one
  ·exact wR.one
 refine V4.box (fun x hx=>?_) fun n5 h6 V6=>?_
 ·simp[Ru.e]at hx;rcases hx with rfl|rfl|rfl|rfl
  ·rfl
  ·rfl
  ·exact wn.one
  ·rfl
 have sub:∀x∈L,x∈(n5,Slot.box (r.e nd))::(n3,.box (.agg [vU,vR]))::L:=fun x hx=>by simp[hx]
 rw[V6.re 1 (s:=2) rfl rfl,V6.fa 0 rfl,ND (d:=r.of.e) (V6.get 0 _ _ rfl) (by simp) rfl]
 refine OC V6 (wU.mono sub) (wR.mono sub) hr.of fun p h14 V14 hp=>?_
 refine hp.read V14 (hsel _ hr.of) ?_
 rw[show hasB (xS U R r.of) r.of.n.toNat=kA U R r.of from rfl]
 have hk:jg U R r=(!kA U R r.of||(!r.never&&r.needs.all (kA U R))):=rfl
 cases ho:kA U R r.of
 ·simp only[↓gS]
  rw[ho]at hk
  have:=hK _ V14.pop.pop
  rw[hk]at this
  exact this
 ·simp only[↓gS]
  rw[ho]at hk
  rw[V14.fa 0 rfl,V14.fe 0 (j:=3) rfl rfl]
  cases hn:r.never
  ·simp only[↓gS]
   rw[hn]at hk
   rw[V14.fa 0 rfl,V14.fe 0 (j:=2) rfl rfl,CP]
   refine DQ (p:=fun f=> !kA U R f) V14 (wn.mono sub) (by have:=hr.len;omega) (fun y hy h' KH' V' hk'=>?_) fun h44 V44=>?_
   ·refine⟨JH,?_⟩
    refine aR kg (av _ _ _) rfl (rP _ _ _) ?_
    unfold mX
    refine V'.box y.gg.one fun n3' h4' V4'=>?_
    show aa PP (.ld (.c (.ptr n3 0 0)) 2 true) h4' _
    rw[V4'.re 2 (s:=2) rfl rfl,V4'.re 0 (s:=2) rfl rfl]
    have sub':∀x∈L,x∈(n3',Slot.box y.e)::(n5,Slot.box (r.e nd))::(n3,.box (.agg [vU,vR]))::L:=fun x hx=>by simp[hx]
    refine OC V4' (wU.mono sub') (wR.mono sub') (hr.needs y hy) fun p h8 V8 hp'=>?_
    refine hp'.read V8 (hsel _ (hr.needs y hy)) ?_
    rw[ow]
    exact hk' _ V8.pop
   ·have:=hK _ V44.pop.pop
    rw[hk]at this
    have e:r.needs.all (kA U R) = !r.needs.any fun f=> !kA U R f:=by
     rw[List.not_any_eq_all_not];simp
    rw[e]at this
    cases hany:r.needs.any fun f=> !kA U R f<;>(rw[hany]at this;simp only[↓gS];exact this)
  ·simp only[↓gS]
   rw[hn]at hk
   have:=hK _ V14.pop.pop
   rw[hk]at this
   exact this
end
end Go.Am
namespace Go.Am
open Go Go.Proofs
section
variable {esz:Nat}{h:Heap}{L L':LSq}{v:D}{T:List D}{KH:HKq}
theorem QE.perm (p:L.Perm L') (q:QE esz h L v T):QE esz h L' v T:=by
 rcases q with⟨rfl,rfl,V⟩|⟨m,rfl,V⟩
 ·exact Or.inl ⟨rfl,rfl,V.perm p⟩
 ·exact Or.inr ⟨m,rfl,V.perm (p.cons _)⟩
theorem QE.QM (s:L'.Sublist L) (q:QE esz h L v T):QE esz h L' v T:=by
 rcases q with⟨rfl,rfl,V⟩|⟨m,rfl,V⟩
 ·exact Or.inl ⟨rfl,rfl,V.sub s⟩
 ·exact Or.inr ⟨m,rfl,V.sub (s.cons_cons _)⟩
theorem QE.one (q:QE esz h L v T):v.one=true:=by rcases q with⟨rfl,-⟩|⟨m,rfl,-⟩<;>rfl
theorem QE.L9 (q:QE esz h L v T){d z':D}{bytes:Nat}(hd:uL d) (hc:d.cells.length=esz) (hb:(T.length+1)*bytes<=140737488355328) (hl:T.length+1<=9223372036854775807)
  (hK:∀v h',QE esz h' L v (T++[d])->KH v h'):aa PP (.app (.c v) (.c (.sl [d])) esz bytes z') h KH:=by
 rcases q with⟨rfl,rfl,V⟩|⟨m,rfl,V⟩
 ·rw[CQ]
  refine⟨fun e he=>by simp at he;subst he;exact hc,fun y hy=>by simp at hy;subst hy;exact hd.one,⟨by simpa using hb,by simp⟩,fun n t=>?_⟩
  exact hK _ _ (Or.inr ⟨n,by simp,V.push t.free (by simp)⟩)
 ·refine V.vW (ys:=[d]) (fun {K} hk=>⟨fun e he=>by simp at he;subst he;exact hc,hk⟩) (fun y hy=>by simp at hy;subst hy;exact hd.one) (by simpa using hb) (by simpa using hl) fun n h' V'=>?_
  exact hK _ _ (Or.inr ⟨n,by simp,V'⟩)
theorem Vs.P5 (V:Vs h L){d z:D}(hd:uL d) (hc:d.cells.length=esz) (hK:∀m h',Vs h' ((m,.arr esz [d])::L)->KH (.ms m 0 1) h'):aa PP (.bldS true esz 1 z [(0,.c d)]) h KH :=
 Ep hd.vd hd.one hc fun n t=>hK n _ (V.push t.free (by simp))
theorem cy.vone (o:cy):∀y∈o.e.cells,y.vone=true:=fun y hy=>by
 simp[cy.e,cy.cs,D.cells]at hy;rcases hy with rfl|rfl|rfl<;>rfl
theorem Fa.vone (f:Fa):∀y∈f.e.cells,y.vone=true:=fun y hy=>by
 simp[Fa.e,D.cells]at hy;rcases hy with rfl|rfl<;>rfl
theorem LM {K:D->Prop}{a b c:cy}{h:Heap}(hk:K (.sl ([a,b,c].map cy.e))):ab PP (.bldS false 3 3 (.agg [(.int .i64 0),(.int .i64 0),(.int .i32 0)]) [(0,.c a.e),(1,.c b.e),(2,.c c.e)]) h K:=by
 refine⟨fun p hp=>?_,fun p hp=>?_,fun y hy=>by simp[D.cells]at hy;rcases hy with rfl|rfl<;>rfl,?_⟩
 ·simp[Arg.get]at hp
  rcases hp with rfl|rfl|rfl
  ·exact⟨by show 0<3;omega,rfl,a.gg.one⟩
  ·exact⟨by show 1<3;omega,rfl,b.gg.one⟩
  ·exact⟨by show 2<3;omega,rfl,c.gg.one⟩
 ·simp[Arg.get]at hp
  rcases hp with rfl|rfl|rfl
  ·exact a.vone
  ·exact b.vone
  ·exact c.vone
 ·simpa[Arg.get,setEls,List.replicate] using hk
end
def Yl (nk:Nat) (G:Ru->Prop) (S:List Ru->LSq->Prop) (St:LSq->Prop):Prop :=
 ∀(done:List Ru) (ru:Ru) (Lc:LSq) (h:Heap) (N:LSq) (nd:D) (KH:HKq),S done Lc->done.length<=100000->G ru->QE 2 h (Lc++N) nd (ru.needs.map Fa.e) ->
  (∀Lc' h',S (done++[ru]) Lc'->Vs h' (Lc'++N)->KH (.bool true) h')->(∀Lc' h',St Lc'->Vs h' (Lc'++N)->KH (.bool false) h')->aa PP (.callv (.c (.yld nk)) [.c (ru.e nd)]) h KH
section
variable {c:Code}{nk:Nat}{S:List Ru->LSq->Prop}{St:LSq->Prop}{h:Heap}{W M Lc:LSq}{done:List Ru}{KH:HKq}
theorem Ri {P:Program}{B:Block}:aa P (.ld (.c (.vp B.e 6)) 3 true) h KH=KH B.t.a.e h:=by
 rw[tB,iu]
 apply propext
 exact⟨fun hh=>hh.2,fun hk=>⟨by show 6+3<=14;omega,hk⟩⟩
theorem RS {P:Program}{d:D}{o o':Nat}:aa P (.fadd (.c (.vp d o)) o') h KH=KH (.vp d (o+o')) h:=BB
theorem MH {n:Int}{KH:HKq}:aa PP (.bld [(.bool false),(.int .i64 0)] [(0,1,(.c (.bool true))),(1,1,(.c (.int .i64 n)))]) h KH=KH (Fa.e ⟨true,n⟩) h:=ga rfl
theorem P4 {f:Fa}{v:D}(hv:v.one=true){KH:HKq}:aa PP (.bld [(.bool false),(.int .i64 0),.nil,(.bool false)] [(0,2,(.c f.e)),(2,1,(.c v))]) h KH=KH (.agg [.bool f.uO,.int .i64 f.n,v,.bool false]) h:=by
 cases v<;>first|exact ga rfl|cases hv
theorem KO {all:List Ru}(Y:Yl nk (fun r=>uD c.b.length c.regs r/\r∈all) S St) (hc:ja c){n2 n29 b:Nat}{dv:D}{dep:List Nat}(hS:S done Lc) (V:Vs h (W++(Lc++M))) (h2:(n2,.box c.e)∈M) (h29:(n29,.box (Af b).e)∈W) (hb:b<c.b.length) (wd:DT M dv dep) (hd:∀a∈dep,a<c.b.length) (hdl:dep.length<=1000) (hdn:done.length<=90000) (hall:∀r,r∈gd c b dep->r∈all)
  {a2 a3 a23 a7 a9:D}{f:Nat->D}{J:HJq}(hJ:∀Lc' h',S (done++gd c b dep) Lc'->Vs h' (W++(Lc'++M))->J [] h') (hK:∀Lc' h',St Lc'->Vs h' (Lc'++M)->KH (.tup []) h') :
  cP h (.int .i64 (dep.length:Int)) dv (.ptr n2 0 0) (.ptr n29 0 0) (.yld nk) a2 a3 a23 a7 a9 f J KH:=by
 unfold cP
 refine⟨fun m q h'=>∃(j:Nat) (Lc:LSq),q=[nD j]/\j<=dep.length/\m=dep.length-j/\S (done++gd c b (dep.take j)) Lc/\Vs h' (W++(Lc++M)),_,⟨0,Lc,rfl,by omega,rfl,by simpa[gd] using hS,V⟩,?_⟩
 rintro m f' h1 ⟨j,Lc1,hq,hj,hm,hS1,V1⟩
 simp only[List.cons.injEq,and_true]at hq
 simp only[hq,nD]
 have hM:∀x∈M,x∈W++(Lc1++M):=fun x hx=>by simp[hx]
 have hW:∀x∈W,x∈W++(Lc1++M):=fun x hx=>by simp[hx]
 by_cases hlt:j<dep.length
 ·rw[sZ (by omega),ai]
  obtain⟨a,ha⟩:∃a,dep[j]?=some a:=⟨dep[j],List.getElem?_eq_getElem hlt⟩
  have haN:=hd a (List.mem_of_getElem? ha)
  obtain⟨B,hB⟩:∃B,c.b[a]?=some B:=⟨c.b[a],List.getElem?_eq_getElem haN⟩
  have hTB:=hc.g.t B (List.mem_of_getElem? hB)
  have htk:gd c b (dep.take (j+1))=gd c b (dep.take j)++[BK b a B.t]:=by
   rw[List.take_add_one,ha]
   simp[gd,pI hB]
  rw[DT.get V1 (wd.mono hM) ha,nD,V1.NX (hM _ h2),V1.Ej (hM _ h2) (j:=7) rfl,ET hB,PO,RS,Ri]
  refine V1.P5 B.t.a.gg rfl fun m1 h2' V2=>?_
  refine DN (l:=[B.t.a]) V2 (by simp) fun v h3 q3=>?_
  rw[MH]
  refine q3.push (Fa.gg _) rfl ?_ ?_ fun v' h4 q4=>?_
  ·have:(bW [B.t.a]).length<=1:=lG
   rw[List.length_map];omega
  ·have:(bW [B.t.a]).length<=1:=lG
   rw[List.length_map];omega
  rw[q4.vs.NG (s:=2) (cs:=[.bool true,.int .i64 (b:Int)]) (by simp only[List.mem_cons];exact Or.inr (hW _ h29)) rfl,show D.agg [.bool true,.int .i64 (b:Int)]=(Af b).e from rfl,P4 q4.one]
  have q5:QE 2 h4 (Lc1++(W++M)) v' ((BK b a B.t).needs.map Fa.e):=by
   have q5:=(q4.QM (List.sublist_cons_self _ _)).perm (List.perm_append_comm_assoc W Lc1 M)
   have:(BK b a B.t).needs.map Fa.e=(bW [B.t.a]).map Fa.e++[Fa.e ⟨true,(a:Int)⟩]:=by simp[BK,Af]
   rw[this];exact q5
  refine Y _ (BK b a B.t) Lc1 h4 (W++M) v' _ hS1 (by simp[gd];omega) ⟨F7 hb haN hTB,hall _ (by rw[<- List.take_append_drop (j+1) dep];unfold gd at htk ⊢;rw[List.map_append,htk];simp)⟩ q5 (fun Lc' h5 hS5 V5=>?_) fun Lc' h5 hS5 V5=>?_
  ·rw[ow,Bool.not_true,ah,gE (by omega) (by omega)]
   simp only[ae,true_and]
   refine⟨_,by omega,j+1,Lc',rfl,by omega,rfl,?_,V5.perm (List.perm_append_comm_assoc Lc' W M)⟩
   rw[htk, <- List.append_assoc];exact hS5
  ·rw[ow,Bool.not_false,ai]
   exact hK Lc' h5 hS5 (V5.sub (List.Sublist.append (.refl _) (List.sublist_append_right W M)))
 ·have:j=dep.length:=by omega
  subst this
  rw[sG (by omega),ah]
  simp only[ae,true_and]
  rw[List.take_length]at hS1
  exact hJ Lc1 h1 hS1 V1
end
section
variable {c:Code}{nk:Nat}{S:List Ru->LSq->Prop}{St:LSq->Prop}{h:Heap}{W M Lc:LSq}{done:List Ru}{KH:HKq}{K:D->Prop}
structure HA (h:Heap) (n m:Nat) (x:aP) (f:Fa):Prop where
 x:h n=.box x.e
 f:h m=.box f.e
section
variable {n m:Nat}{x:aP}{f:Fa}
theorem HA.ld (I:HA h n m x f):ab PP (.ld (.c (.ptr n 0 0)) 15 true) h K=K x.e:=by
 rw[nY,show(15:Nat)=x.cs.length from rfl,re I.x];rfl
theorem HA.fa (I:HA h n m x f){o:Nat}:ab PP (.fadd (.c (.ptr n 0 0)) o) h K=K (.ptr n 0 o):=by
 rw[show ab PP (.fadd (.c (.ptr n 0 0)) o) h K=aa PP (.fadd (.c (.ptr n 0 0)) o) h (fun d _=>K d) from rfl,jy,I.x]
 apply propext
 exact⟨fun hh=>by simpa using hh.2,fun hk=>⟨rfl,by simpa using hk⟩⟩
theorem HA.oa (I:HA h n m x f):ab PP (.ld (.c (.ptr n 0 6)) 3 true) h K=K x.a.e:=by rw[nY];exact Ld I.x (by simp[aP.cs])
theorem HA.ob (I:HA h n m x f):ab PP (.ld (.c (.ptr n 0 9)) 3 true) h K=K x.b.e:=by rw[nY];exact Ld I.x (by simp[aP.cs])
theorem HA.oc (I:HA h n m x f):ab PP (.ld (.c (.ptr n 0 12)) 3 true) h K=K x.c.e:=by rw[nY];exact Ld I.x (by simp[aP.cs])
theorem HA.at (I:HA h n m x f):ab PP (.ld (.c (.ptr m 0 0)) 2 true) h K=K f.e:=by
 rw[nY,show(2:Nat)=[D.bool f.uO,.int .i64 f.n].length from rfl,re I.f];rfl
end
theorem Ob {n:Int}{K:D->Prop}:ab PP (.bld [(.bool false),(.int .i64 0)] [(1,1,(.c (.int .i64 n)))]) h K=K (Fa.e ⟨false,n⟩):=iI rfl
theorem Oa {f:Fa}{v:D}{t:Bool}(hv:v.one=true){K:D->Prop}:ab PP (.bld [(.bool false),(.int .i64 0),.nil,(.bool false)] [(0,2,(.c f.e)),(2,1,(.c v)),(3,1,(.c (.bool t)))]) h K=K (.agg [.bool f.uO,.int .i64 f.n,v,.bool t]):=by
 cases v<;>first|exact iI rfl|cases hv
theorem xC {b k:Nat}{xs:List aP}{x:aP}(hx:xs[k]?=some x):fR b (xs.take (k+1))=fR b (xs.take k)++if 0<=du x.d then [tA b x] else []:=by
 rw[List.take_add_one,hx]
 unfold fR
 simp only[Option.toList_some,List.filter_append,List.map_append]
 congr 1
 by_cases h:0<=du x.d<;>simp[h]
theorem uq {b:Nat}{xs:List aP}:(fR b xs).length<=xs.length:=by
 unfold fR;rw[List.length_map];exact List.length_filter_le _ _
theorem Io {all:List Ru}(Y:Yl nk (fun r=>uD c.b.length c.regs r/\r∈all) S St){n29 b:Nat}{xs:List aP}(hx:∀x∈xs,zO c.regs x) (hxl:xs.length<=100) (hdn:done.length<=99000) (hall:∀r,r∈fR b xs->r∈all) (hS:S done Lc) (V:Vs h (W++(Lc++M))) (h29:(n29,.box (Af b).e)∈W) (hb:b<c.b.length)
  {a1 a2 a3 a23 a7 a9:D}{f:Nat->D}{J:HJq}(hJ:∀Lc' h',S (done++fR b xs) Lc'->Vs h' (W++(Lc'++M))->J [] h') (hK:∀Lc' h',St Lc'->Vs h' (Lc'++M)->KH (.tup []) h') :
  eV h (.int .i64 (xs.length:Int)) (.sl (xs.map aP.e)) (.ptr n29 0 0) (.yld nk) a1 a2 a3 a23 a7 a9 f J KH:=by
 unfold eV
 refine⟨fun m q h'=>∃(j:Nat) (Lc:LSq),q=[nD j]/\j<=xs.length/\m=xs.length-j/\S (done++fR b (xs.take j)) Lc/\Vs h' (W++(Lc++M)),_,⟨0,Lc,rfl,by omega,rfl,by simpa[fR] using hS,V⟩,?_⟩
 rintro m f' h1 ⟨j,Lc1,hq,hj,hm,hS1,V1⟩
 simp only[List.cons.injEq,and_true]at hq
 simp only[hq,nD]
 by_cases hlt:j<xs.length
 ·rw[sZ (by omega),ai]
  obtain⟨x,hxj⟩:∃x,xs[j]?=some x:=⟨xs[j],List.getElem?_eq_getElem hlt⟩
  have hIx:=hx x (List.mem_of_getElem? hxj)
  rw[mM (esz:=15) (d:=x.e) (by omega) (by rw[Int.toNat_natCast,List.getElem?_map,hxj];rfl) rfl,show x.e=.agg x.cs from rfl,Ei (s:=15) rfl]
  refine V1.alloc fun n101 h102 V102=>?_
  refine V102.xt 0 rfl rfl rfl (fun y hy=>x.gg.one y hy) fun h104 V104=>?_
  simp only[List.set_cons_zero]at V104
  rw[show D.agg x.cs=x.e from rfl]at V104
  have inb:∀{h':Heap}{X:LSq},Vs h' X->(∀y,y∈(n101,Slot.box x.e)::(W++(Lc1++M))->y∈X)->HA h' n101 n29 x (Af b):=fun V' hs=>⟨V'.mem (hs _ (by simp)),V'.mem (hs _ (by simp[h29]))⟩
  have I:=inb V104 fun _ h=>h
  simp only[↓I.ld,↓I.fa,↓I.oa,↓I.ob,↓I.oc,↓I.at]
  refine LM ?_
  refine zp (d:=(Af b).e) (Fa.gg _).one rfl (Fa.vone _) (fun y hy=>by simp[D.cells]at hy;rcases hy with rfl|rfl<;>rfl) ?_
  refine fv JQ (fun d hd=>by simp at hd;subst hd;exact x.gg.pair) ?_
  rintro _ rfl
  refine⟨by simp only[↓I.ld,↓I.fa,↓I.oa,↓I.ob,↓I.oc,↓I.at,ae,and_self],?_⟩
  rw[Ob]
  refine BY (l:=[x.a,x.b,x.c]) V104 (by simp) fun v h128 q=>?_
  have I2:=inb q.vs fun _ h=>h
  refine⟨by simp only[↓I2.ld,↓I2.at,ae,and_self],?_⟩
  refine q.L9 (Fa.gg _) rfl ?_ ?_ fun v' h132 q132=>?_
  ·have:(bW [x.a,x.b,x.c]).length<=3:=lG
   rw[List.length_map];omega
  ·have:(bW [x.a,x.b,x.c]).length<=3:=lG
   rw[List.length_map];omega
  have I3:=inb q132.vs fun _ h=>h
  refine⟨by simp only[↓I3.ld,ae,and_self],?_⟩
  refine fv JK (fun d hd=>by simp at hd;subst hd;exact x.gg.pair) ?_
  rintro _ rfl
  rw[show(⟨false,du x.d⟩:Fa)=yO (du x.d) from rfl,Oa q132.one]
  refine q132.alloc fun n137 h138 q138=>?_
  have I4:=inb q138.vs fun y h=>List.mem_cons_of_mem _ h
  refine⟨by simp only[↓I4.ld,↓I4.fa,↓I4.oa,↓I4.ob,↓I4.oc,↓I4.at,ae,and_self],?_⟩
  refine q138.xt rfl rfl (fun y hy=>?_) fun h149 q149=>?_
  ·simp only[List.mem_cons,List.not_mem_nil,or_false]at hy
   rcases hy with rfl|rfl|rfl|rfl
   ·rfl
   ·rfl
   ·exact q132.one
   ·rfl
  have V149:=q149.vs
  rw[V149.fa 0 rfl,V149.fa 0 rfl,V149.fe 0 (j:=1) rfl rfl,yD]
  by_cases h0:0<=du x.d
  ·rw[show(yO (du x.d)).n=du x.d from rfl,decide_eq_true h0]
   simp only[↓gS]
   rw[V149.re 0 (s:=4) rfl rfl]
   have q5:QE 2 h149 (Lc1++(((n137,Slot.box (.agg [.bool (yO (du x.d)).uO,.int .i64 (yO (du x.d)).n,v',.bool (eW x)]))::(n101,.box x.e)::W)++M)) v' ((tA b x).needs.map Fa.e):=by
    have q5:=q149.perm (List.perm_append_comm_assoc ((n137,Slot.box (.agg [.bool (yO (du x.d)).uO,.int .i64 (yO (du x.d)).n,v',.bool (eW x)]))::(n101,.box x.e)::W) Lc1 M)
    have:(tA b x).needs.map Fa.e=(bW [x.a,x.b,x.c]).map Fa.e++[(Af b).e]:=by simp[tA]
    rw[this];exact q5
   refine Y _ (tA b x) Lc1 h149 _ v' _ hS1 (by have:=uq (b:=b) (xs:=xs.take j);rw[List.length_take]at this;rw[List.length_append];omega) ⟨CH hb hIx h0,hall _ (List.mem_map.2 ⟨x,List.mem_filter.2 ⟨List.mem_of_getElem? hxj,by simpa using h0⟩,rfl⟩)⟩ q5 (fun Lc' h5 hS5 V5=>?_) fun Lc' h5 hS5 V5=>?_
   ·simp only[↓gS]
    rw[gE (by omega) (by omega)]
    simp only[ae,true_and]
    refine⟨_,by omega,j+1,Lc',rfl,by omega,rfl,?_,?_⟩
    ·rw[xC hxj,if_pos h0, <- List.append_assoc];exact hS5
    ·exact(V5.sub (List.Sublist.append (.refl _) (List.Sublist.append (.cons _ (.cons _ (.refl _))) (.refl _)))).perm (List.perm_append_comm_assoc Lc' W M)
   ·simp only[↓gS]
    exact hK Lc' h5 hS5 (V5.sub (List.Sublist.append (.refl _) (List.sublist_append_right _ M)))
  ·rw[show(yO (du x.d)).n=du x.d from rfl,decide_eq_false h0]
   simp only[↓gS]
   rw[gE (by omega) (by omega)]
   simp only[ae,true_and]
   refine⟨_,by omega,j+1,Lc1,rfl,by omega,rfl,?_,V149.pop.pop⟩
   rw[xC hxj,if_neg h0,List.append_nil];exact hS1
 ·have:j=xs.length:=by omega
  subst this
  rw[sG (by omega),ah]
  simp only[ae,true_and]
  rw[List.take_length]at hS1
  exact hJ Lc1 h1 hS1 V1
end
section
variable {c:Code}{nk:Nat}{S:List Ru->LSq->Prop}{St:LSq->Prop}{h:Heap}{M Lc:LSq}{KH:HKq}
theorem MG {f:Fa}{KH:HKq}:aa PP (.bld [(.bool false),(.int .i64 0),.nil,(.bool false)] [(0,2,(.c f.e)),(3,1,(.c (.bool true)))]) h KH=KH (.agg [.bool f.uO,.int .i64 f.n,.nil,.bool true]) h:=ga rfl
theorem JU {R:List Bool}{Dp:List (List Nat)}{b:Nat}(hc:ja c) (hD:∀l∈Dp,(∀a∈l,a<c.b.length)/\l.length<=1000):(rM c R Dp b).length<=1200:=by
 unfold rM
 split
 ·have h1:(gd c b (gL Dp b)).length<=1000:=by
   unfold gd gL;rw[List.length_map]
   cases hl:Dp[b]? with
   | none=>simp
   | some l=>exact(hD l (List.mem_of_getElem? hl)).2
  have h2:(fR b (uO c b).i).length<=100:=by
   refine Nat.le_trans uq ?_
   unfold uO
   cases hB:c.b[b]? with
   | none=>exact Nat.zero_le _
   | some B=>exact hc.len B (List.mem_of_getElem? hB)
  have h3:(zn (uO c b).t).length<=1:=by unfold zn;split<;>simp
  simp only[List.length_append];omega
 ·simp
theorem ub {R:List Bool}{Dp:List (List Nat)}(hc:ja c) (hD:∀l∈Dp,(∀a∈l,a<c.b.length)/\l.length<=1000):∀n,(fP c R Dp n).length<=1200*n
 | 0=>by simp[fP]
 | n+1=>by
  rw[xw,List.length_append]
  have:=ub (R:=R) hc hD n
  have:=JU (R:=R) (b:=n) hc hD
  omega
theorem A3 {R:List Bool}{Dp:List (List Nat)}(Y:Yl nk (fun r=>uD c.b.length c.regs r/\r∈uc c R Dp) S St) (hc:ja c){n2 pr pd:Nat}{dv:D}(hS:S [] Lc) (V:Vs h (Lc++M)) (h2:(n2,.box c.e)∈M) (hr:(pr,.box (.sl (bL R)))∈M) (hR:R.length=c.b.length)
  (hd:(pd,.box dv)∈M) (wd:LR M dv Dp) (hDl:Dp.length=c.b.length) (hD:∀l∈Dp,(∀a∈l,a<c.b.length)/\l.length<=1000)
  (hJ:∀Lc' h',S (uc c R Dp) Lc'->Vs h' (Lc'++M)->KH (.tup []) h') (hK:∀Lc' h',St Lc'->Vs h' (Lc'++M)->KH (.tup []) h') :
  af PP br [.yld nk,.ptr n2 0 0,.ptr pr 0 0,.ptr pd 0 0] h KH:=by
 have hnb:=hc.g.nb
 refine aR jl (av _ _ _) rfl (qw _ _ _ _ _) ?_
 unfold lY
 have inM:∀{Lc:LSq} x,x∈M->x∈Lc++M:=fun x hx=>by simp[hx]
 rw[V.NX (inM _ h2),V.Ej (inM _ h2) (j:=7) rfl,eG,List.length_map]
 unfold jh
 refine⟨fun m q h'=>∃(b:Nat) (Lc:LSq),q=[nD b]/\b<=c.b.length/\m=c.b.length-b/\S (fP c R Dp b) Lc/\Vs h' (Lc++M),_,⟨0,Lc,rfl,by omega,rfl,by simpa[fP] using hS,V⟩,?_⟩
 rintro m f h1 ⟨b,Lc1,hq,hb,hm,hS1,V1⟩
 simp only[List.cons.injEq,and_true]at hq
 simp only[hq,nD]
 by_cases hlt:b<c.b.length
 ·rw[sZ (by omega),ai]
  obtain⟨B,hB⟩:∃B,c.b[b]?=some B:=⟨c.b[b],List.getElem?_eq_getElem hlt⟩
  have hBm:=List.mem_of_getElem? hB
  have hTB:=hc.g.t B hBm
  refine⟨fun _ h'=>∃Lc,S (fP c R Dp (b+1)) Lc/\Vs h' (Lc++M),?_,?_⟩
  ·rintro f' h' ⟨Lc',hS',V'⟩
   rw[gE (by omega) (by omega)]
   simp only[ae,true_and]
   exact⟨_,by omega,b+1,Lc',rfl,by omega,rfl,hS',V'⟩
  rw[ET hB,show B.e=.agg (.sl (B.i.map aP.e)::B.t.cs) from rfl,Ei (s:=14) rfl]
  refine V1.alloc fun n23 h24 V24=>?_
  refine V24.xt 0 rfl rfl rfl (fun x hx=>B.gg.one x hx) fun h26 V26=>?_
  simp only[List.set_cons_zero]at V26
  rw[MH,show Fa.e ⟨true,(b:Int)⟩=.agg [.bool true,.int .i64 (b:Int)] from rfl]
  refine V26.alloc fun n29 h30 V30=>?_
  refine V30.xt 0 rfl rfl rfl (fun x hx=>(Af b).gg.one x hx) fun h32 V32=>?_
  simp only[List.set_cons_zero]at V32
  let W:LSq:=[(n29,.box (Af b).e),(n23,.box B.e)]
  have VW:Vs h32 (W++(Lc1++M)):=V32
  have inW:∀{Lc:LSq} x,x∈M->x∈W++(Lc++M):=fun x hx=>by simp[hx]
  have hRb:R[b]?=some (hasB R b):=eJ (by omega)
  have hln:=ub (R:=R) hc hD b
  have hin:∀r,r∈rM c R Dp b->r∈uc c R Dp:=fun r hr=>List.mem_flatMap.2 ⟨b,List.mem_range.2 hlt,hr⟩
  rw[V32.Pq (inW _ hr) rfl,mM (esz:=1) (d:=.bool (hasB R b)) (by omega) (by rw[Int.toNat_natCast];exact rN hRb) rfl,Ac rfl]
  have hsucc:fP c R Dp (b+1)=fP c R Dp b++rM c R Dp b:=xw
  have drop:∀{h':Heap}{Lc':LSq},Vs h' (Lc'++(W++M))->Vs h' (Lc'++M):=fun V5=>V5.sub (List.Sublist.append (.refl _) (List.sublist_append_right W M))
  cases hRv:hasB R b
  ·have hbk:rM c R Dp b=[Ny b]:=by unfold rM;rw[hRv];rfl
   simp only[↓gS]
   rw[V32.re 0 (s:=2) rfl rfl,show D.agg [.bool true,.int .i64 (b:Int)]=(Af b).e from rfl,MG]
   refine Y _ (Ny b) Lc1 h32 (W++M) .nil _ hS1 (by omega) ⟨IK hlt,hin _ (by rw[hbk];simp)⟩ (Or.inl ⟨rfl,rfl,VW.perm (List.perm_append_comm_assoc W Lc1 M)⟩) (fun Lc' h5 hS5 V5=>?_) fun Lc' h5 hS5 V5=>?_
   ·rw[ow,Bool.not_true,ah]
    simp only[ae,true_and]
    exact⟨Lc',by rw[hsucc,hbk];exact hS5,drop V5⟩
   ·rw[ow,Bool.not_false,ai]
    exact hK Lc' h5 hS5 (drop V5)
  ·have hd1:(gd c b (gL Dp b)).length<=1000:=by
    unfold gd gL;rw[List.length_map]
    cases hl:Dp[b]? with
    | none=>simp
    | some l=>exact(hD l (List.mem_of_getElem? hl)).2
   have hi1:(fR b B.i).length<=100:=Nat.le_trans uq (hc.len B hBm)
   have hbk:rM c R Dp b=gd c b (gL Dp b)++fR b B.i++zn B.t:=by unfold rM;rw[hRv,if_pos rfl,pI hB]
   simp only[↓gS]
   refine⟨fun _ h'=>∃Lc,S (fP c R Dp b++gd c b (gL Dp b)) Lc/\Vs h' (W++(Lc++M)),?_,?_⟩
   ·rintro f2 h49 ⟨Lc2,hS2,V2⟩
    refine⟨fun _ h'=>∃Lc,S (fP c R Dp b++gd c b (gL Dp b)++fR b B.i) Lc/\Vs h' (W++(Lc++M)),?_,?_⟩
    ·rintro f3 h52 ⟨Lc3,hS3,V3⟩
     rw[V3.fa 1 rfl,ND (d:=B.t.e) (V3.get 1 _ _ rfl) (by show 0+1+13<=14;omega) rfl]
     refine fv Gc (fun d hd=>by simp at hd;subst hd;exact B.t.gg.pair) ?_
     rintro _ rfl
     rw[yD]
     by_cases h0:0<=du B.t.d
     ·have he:zn B.t=[⟨yO (du B.t.d),[],true⟩]:=by unfold zn;rw[if_pos h0]
      rw[decide_eq_true h0]
      simp only[↓gS]
      rw[JV,show(⟨false,du B.t.d⟩:Fa)=yO (du B.t.d) from rfl,MG]
      refine Y _ ⟨yO (du B.t.d),[],true⟩ Lc3 h52 (W++M) .nil _ hS3 (by rw[List.length_append,List.length_append];omega) ⟨F4 hTB h0,hin _ (by rw[hbk,he];simp)⟩ (Or.inl ⟨rfl,rfl,V3.perm (List.perm_append_comm_assoc W Lc3 M)⟩) (fun Lc' h5 hS5 V5=>?_) fun Lc' h5 hS5 V5=>?_
      ·simp only[↓gS]
       simp only[ae,true_and]
       exact⟨Lc',by rw[hsucc,hbk,he, <- List.append_assoc, <- List.append_assoc];exact hS5,drop V5⟩
      ·simp only[↓gS]
       exact hK Lc' h5 hS5 (drop V5)
     ·have he:zn B.t=[]:=by unfold zn;rw[if_neg h0]
      rw[decide_eq_false h0]
      simp only[↓gS]
      simp only[ae,true_and]
      refine⟨Lc3,?_,V3.pop.pop⟩
      rw[hsucc,hbk,he,List.append_nil, <- List.append_assoc];exact hS3
    ·rw[V2.fa 1 rfl,V2.fe 1 (j:=0) rfl rfl,eG,List.length_map]
     exact Io Y (hc.i B hBm) (hc.len B hBm) (by rw[List.length_append];omega) (fun r hr=>hin r (by rw[hbk];simp[hr])) hS2 V2 (by simp[W]) hlt (fun Lc' h' hS' V'=>⟨Lc',hS',V'⟩) hK
   ·rw[V32.Pq (inW _ hd) wd.one]
    obtain⟨l,hl⟩:∃l,Dp[b]?=some l:=⟨Dp[b]'(by omega),List.getElem?_eq_getElem _⟩
    have hgl:gL Dp b=l:=by unfold gL;rw[hl];rfl
    obtain⟨hl1,hl2⟩:=hD l (List.mem_of_getElem? hl)
    have hlr:∀e,DT M e l->aS e h32 (fun a183=>cP h32 a183 e (.ptr n2 0 0) (.ptr n29 0 0) (.yld nk) (.ptr pr 0 0) (.ptr pd 0 0) (.ptr n23 0 0) (.sl (c.b.map Block.e)) (.int .i64 (c.b.length:Int)) f (fun _ h'=>∃Lc,S (fP c R Dp b++gd c b (gL Dp b)) Lc/\Vs h' (W++(Lc++M))) KH):=fun e we=>by
     rw[DT.len VW (we.mono inW)]
     refine KO Y hc hS1 VW h2 (by simp[W]) hlt we hl1 hl2 (by omega) (fun r hr=>hin r (by rw[hbk,hgl];simp[hr])) (fun Lc' h' hS' V'=>⟨Lc',by rw[hgl];exact hS',V'⟩) hK
    exact LR.PD VW inW wd hl hlr
 ·have:b=c.b.length:=by omega
  subst this
  rw[sG (by omega),ah]
  exact hJ Lc1 h1 hS1 V1
end
end Go.Am
namespace Go.Am
open Go Go.Proofs
theorem Pv.cg {pre pre':Nat->List Nat}{bad:Nat->Prop}{s x:Nat}(h:∀a b,a∈pre b↔a∈pre' b) (k:Pv pre bad s x):Pv pre' bad s x:=by
 induction k with
 | refl h=>exact .refl h
 | step _ e hb ih=>exact .step ih ((h _ _).1 e) hb
theorem Dm.cg {pre pre':Nat->List Nat}{r d x:Nat}(h:∀a b,a∈pre b↔a∈pre' b):Dm r pre d x↔Dm r pre' d x :=
 not_congr ⟨Pv.cg h,Pv.cg fun a b=>(h a b).symm⟩
structure DS (c d:Code):Prop where
 len:c.b.length=d.b.length
 e:∀b,edg c b=edg d b
 x:∀b,FX c b=FX d b
theorem DS.refl (c:Code):DS c c:=⟨rfl,fun _=>rfl,fun _=>rfl⟩
section
variable {c d:Code}{O O' P P':List Nat}{at1 at2 U1 U2:List Int}
theorem DS.dp (s:DS c d) (hc:ec c) (hd:ec d) (D1:zS c O O' at1 U1) (D2:zS d P P' at2 U2) (a b:Nat):DX c O O' a b↔DX d P P' a b:=by
 have eE:mT c=mT d:=by
  unfold mT;rw[s.len]
  exact List.map_congr_left fun b _=>s.e b
 have h1:=D1.b.ord
 have h2:=D2.b.ord
 rw[eE,s.len]at h1
 have eO:O=P:=h1.PT h2
 subst eO
 have eX:FX c=FX d:=funext s.x
 have eF:pD c O=pD d O:=by unfold pD;rw[eE,eX]
 have eT:o6 (mT c) O c.b.length (pD c O)=o6 (mT d) O d.b.length (pD d O):=by rw[eE,eF,s.len]
 have mem:∀x,x∈O'↔x∈P':=fun x=>by rw[D1.b.g.path,D2.b.g.path,eT,s.len]
 have pre:∀q x,q∈pB c O O' x↔q∈pB d O P' x:=fun q x=>by
  show q∈gL (wK (o6 (mT c) O c.b.length (pD c O)) O' (c.b.length+1)) x↔q∈gL (wK (o6 (mT d) O d.b.length (pD d O)) P' (d.b.length+1)) x
  rw[mV (D1.o6 hc),mV (D2.o6 hd),mem,eT]
 have eD:∀y x,Dm c.b.length (pB c O O') y x↔Dm d.b.length (pB d O P') y x:=fun y x=>by rw[s.len];exact Dm.cg pre
 unfold DX
 rw[s.e a,eD b a]
 refine and_congr_right fun _=>and_congr_right fun _=>and_congr_left fun _=>?_
 exact exists_congr fun t=>and_congr_right fun _=>eD b t
end
def Qo (c:Code) (a b:Nat):Prop:=∃O O' at' U,zS c O O' at' U/\DX c O O' a b
theorem Lz {c:Code}(hc:ec c){O O':List Nat}{at' U:List Int}(D:zS c O O' at' U){a b:Nat}:Qo c a b↔DX c O O' a b :=
 ⟨fun ⟨_,_,_,_,D',h⟩=>((DS.refl c).dp hc hc D' D a b).1 h,fun h=>⟨_,_,_,_,D,h⟩⟩
noncomputable def xj (c:Code):List (List Nat):=(List.range c.b.length).map fun b=>GP c.b.length fun a=>Qo c a b
theorem LG {c:Code}(hc:ec c){O O':List Nat}{at' U:List Int}(D:zS c O O' at' U):nW c O O' c.b.length=xj c:=by
 unfold nW xj
 refine List.map_congr_left fun b _=>?_
 congr 1
 funext a
 exact propext (Lz hc D).symm
theorem Db {c:Code}:(xj c).length=c.b.length:=by simp[xj]
theorem BD {c:Code}{b:Nat}(hb:b<c.b.length):gL (xj c) b=GP c.b.length fun a=>Qo c a b:=by
 unfold gL xj
 rw[List.getElem?_map,List.getElem?_range hb];rfl
theorem BM {c:Code}(hc:ec c):∀l,l∈xj c->(∀a∈l,a<c.b.length)/\l.length<=1000:=fun l hl=>by
 simp only[xj,List.mem_map]at hl
 obtain⟨b,-,rfl⟩:=hl
 have:=hc.nb
 exact⟨fun a ha=>(yl.1 ha).1,Nat.le_trans FE (by omega)⟩
noncomputable def nK (c:Code):List Bool:=(List.range c.b.length).map fun k=>@decide (Path (edg c) 0 k) (Classical.propDecidable _)
theorem vj {c:Code}:(nK c).length=c.b.length:=by simp[nK]
theorem gV {c:Code}{k:Nat}(hk:k<c.b.length):hasB (nK c) k=true↔Path (edg c) 0 k:=by
 unfold hasB nK
 rw[List.getElem?_map,List.getElem?_range hk]
 simp
theorem Fw {c:Code}{S:List Bool}(hl:S.length=c.b.length) (h:∀k,hasB S k=true↔Path (edg c) 0 k):S=nK c:=by
 apply List.ext_getElem (by rw[hl,vj])
 intro i h1 h2
 have e1:=eJ h1
 have e2:=eJ h2
 rw[List.getElem?_eq_getElem h1]at e1
 rw[List.getElem?_eq_getElem h2]at e2
 have e1:=Option.some.inj e1
 have e2:=Option.some.inj e2
 rw[e1,e2,Bool.eq_iff_iff,h,gV (by omega)]
noncomputable def oA (c:Code):List Ru:=uc c (nK c) (xj c)
theorem Ip {c:Code}(hc:ja c):∀r,r∈oA c->uD c.b.length c.regs r:=by
 intro r hr
 simp only[oA,uc,fP,List.mem_flatMap,List.mem_range]at hr
 obtain⟨b,hb,hr⟩:=hr
 obtain⟨B,hB⟩:∃B,c.b[b]?=some B:=⟨c.b[b],List.getElem?_eq_getElem hb⟩
 have hBm:=List.mem_of_getElem? hB
 unfold rM at hr
 split at hr
 ·rw[pI hB]at hr
  rcases List.mem_append.1 hr with hr|hr
  ·rcases List.mem_append.1 hr with hr|hr
   ·simp only[gd,List.mem_map]at hr
    obtain⟨a,ha,rfl⟩:=hr
    rw[BD hb]at ha
    have haN:=(yl.1 ha).1
    refine F7 hb haN ?_
    obtain⟨A,hA⟩:∃A,c.b[a]?=some A:=⟨c.b[a],List.getElem?_eq_getElem haN⟩
    rw[pI hA]
    exact hc.g.t A (List.mem_of_getElem? hA)
   ·simp only[fR,List.mem_map,List.mem_filter,decide_eq_true_eq]at hr
    obtain⟨x,⟨hx,h0⟩,rfl⟩:=hr
    exact CH hb (hc.i B hBm x hx) h0
  ·unfold zn at hr
   split at hr
   ·rename_i h0
    simp at hr;subst hr
    exact F4 (hc.g.t B hBm) h0
   ·cases hr
 ·simp at hr;subst hr;exact IK hb
section
variable {c:Code}{h:Heap}{L:LSq}{KH:HKq}
structure OO (c:Code) (W:LSq) (n2 pr pd:Nat) (dv:D):Prop where
 h2:(n2,.box c.e)∈W
 hr:(pr,.box (.sl (bL (nK c))))∈W
 hd:(pd,.box dv)∈W
 wd:LR W dv (xj c)
theorem AU:cv PP br=true:=by kernel_rfl
theorem Gh (hc:ja c) (V:Vs h L) (hK:∀W n2 pr pd dv h',OO c W n2 pr pd dv->(∃O O' at' U,zS c O O' at' U)->Vs h' (W++L)->KH (.fn br [] [.ptr n2 0 0,.ptr pr 0 0,.ptr pd 0 0]) h'):af PP db [c.e] h KH:=by
 refine aR mq (av _ _ _) rfl (uy _ _) ?_
 unfold p5
 refine V.box c.gg.one fun n2 h3 V3=>?_
 have ld:∀{h':Heap}{K:D->Prop},h' n2=.box c.e->ab PP (.ld (.c (.ptr n2 0 0)) 8 true) h' K=K c.e:=fun hn=>by
  rw[nY,show c.e=.agg [.int .i64 c.group,.int .i64 c.sub,.int .i64 c.regs,.int .i64 c.slots,.int .i64 c.params,.sl (c.arrays.map qJ.e),.sl (c.loops.map Loop.e),.sl (c.b.map Block.e)] from rfl]at *
  rw[show(8:Nat)=[D.int .i64 c.group,.int .i64 c.sub,.int .i64 c.regs,.int .i64 c.slots,.int .i64 c.params,.sl (c.arrays.map qJ.e),.sl (c.loops.map Loop.e),.sl (c.b.map Block.e)].length from rfl,re hn]
 have g3:=V3.get 0 _ _ rfl
 simp only[↓ld g3]
 refine fv (Gb hc.g) (fun d hd=>by simp at hd;subst hd;exact c.gg.pair) ?_
 rintro _ ⟨R,rfl,hRl,hRi⟩
 have eR:=Fw hRl hRi
 subst eR
 refine⟨by simp only[↓ld g3,ae,and_self],?_⟩
 refine Hu hc.g V3 fun v h10 O O' at' U G R10=>?_
 obtain⟨X,V10,wd⟩:=R10.lr
 rw[LG hc.g G]at wd
 refine V10.alloc fun n11 h12 V12=>?_
 have g12:h12 n2=.box c.e:=V12.mem (by simp)
 refine⟨by simp only[↓ld g12,ae,and_self],?_⟩
 refine V12.alloc fun n15 h16 V16=>?_
 have g16:h16 n2=.box c.e:=V16.mem (by simp)
 refine⟨by simp only[↓ld g16,ae,and_self],?_⟩
 refine V16.Fj 1 rfl rfl rfl fun h20 V20=>?_
 simp only[List.set_cons_succ,List.set_cons_zero]at V20
 refine V20.Fj 0 rfl rfl wd.one fun h22 V22=>?_
 simp only[List.set_cons_zero]at V22
 rw[CP]
 refine hK ((n15,.box v)::(n11,.box (.sl (bL (nK c))))::(X++[(n2,.box c.e)])) n2 n11 n15 v h22 ⟨by simp,by simp,by simp,wd.mono fun x hx=>by simp[hx]⟩ ⟨O,O',at',U,G⟩ ?_
 have e:(n15,Slot.box v)::(n11,.box (.sl (bL (nK c))))::(X++(n2,.box c.e)::L)=((n15,.box v)::(n11,.box (.sl (bL (nK c))))::(X++[(n2,.box c.e)]))++L:=by simp
 rw[<- e];exact V22
end
end Go.Am
namespace Go.Am
open Go Go.Proofs
def EX (esz:Nat) (v:D) (T:List D) (A:LSq):Prop:=(v=.nil/\T=[]/\A=[])\/∃m,v=.ms m 0 T.length/\A=[(m,.arr esz T)]
section
variable {esz:Nat}{h:Heap}{L A:LSq}{v:D}{T:List D}{KH:HKq}{K:D->Prop}
theorem EX.qe (x:EX esz v T A) (V:Vs h (A++L)):QE esz h L v T:=by
 rcases x with⟨rfl,rfl,rfl⟩|⟨m,rfl,rfl⟩
 ·exact Or.inl ⟨rfl,rfl,V⟩
 ·exact Or.inr ⟨m,rfl,V⟩
theorem QE.ex (q:QE esz h L v T):∃A,EX esz v T A/\Vs h (A++L):=by
 rcases q with⟨rfl,rfl,V⟩|⟨m,rfl,V⟩
 ·exact⟨[],Or.inl ⟨rfl,rfl,rfl⟩,V⟩
 ·exact⟨_,Or.inr ⟨m,rfl,rfl⟩,V⟩
theorem EX.one (x:EX esz v T A):v.one=true:=by rcases x with⟨rfl,-⟩|⟨m,rfl,-⟩<;>rfl
theorem EX.len {L:LSq}(x:EX esz v T A) (hs:∀y∈A,y∈L) (V:Vs h L):aS v h K=K (.int .i64 (T.length:Int)):=by
 rcases x with⟨rfl,rfl,rfl⟩|⟨m,rfl,rfl⟩
 ·rw[ox];rfl
 ·rw[bo,V.mem (hs (m,.arr esz T) (by simp))]
  apply propext
  exact⟨fun hh=>hh.2,fun hk=>⟨rfl,hk⟩⟩
theorem EX.get {L:LSq}(x:EX esz v T A) (hs:∀y∈A,y∈L) (V:Vs h L){i:Nat}{cs:List D}(hd:T[i]?=some (.agg cs)) (hc:cs.length=esz) (hK:KH (.agg cs) h):aa PP (.iadd (.c v) (.c (.int .i64 (i:Int))) esz) h fun a h1=>aa PP (.ld (.c a) esz true) h1 KH:=by
 have hi:=(List.getElem?_eq_some_iff.1 hd).1
 rcases x with⟨rfl,rfl,rfl⟩|⟨m,rfl,rfl⟩
 ·simp at hd
 ·obtain⟨k,hk⟩:=List.getElem?_of_mem (hs _ (List.mem_singleton.2 rfl))
  rw[V.ia k hk (by omega) (by omega),Int.toNat_natCast,V.NF k hk (j:=i) hd hc]
  exact hK
theorem QE.Rn (q:QE esz h L v T){d x z':D}{bytes:Nat}(hx:∀{K:List D->Prop},K [d]->velems esz x h K) (hd:aH d) (hb:(T.length+1)*bytes<=140737488355328) (hl:T.length+1<=9223372036854775807)
  (hK:∀m h',Vs h' ((m,.arr esz (T++[d]))::L)->KH (.ms m 0 (T.length+1)) h'):aa PP (.app (.c v) (.c x) esz bytes z') h KH:=by
 rcases q with⟨rfl,rfl,V⟩|⟨m,rfl,V⟩
 ·rw[CQ]
  refine hx ⟨fun y hy=>by simp at hy;subst hy;exact hd,⟨by simpa using hb,by simp⟩,fun n t=>?_⟩
  exact hK n _ (V.push t.free (by simp))
 ·refine V.vW (ys:=[d]) hx (fun y hy=>by simp at hy;subst hy;exact hd) (by simpa using hb) (by simpa using hl) fun n h' V'=>?_
  exact hK _ _ V'
def RD (r:Ru) (d:D):Prop:=∃nv,d=r.e nv/\FW [] nv r.needs
structure zN (rs:List Ru) (ds:List D):Prop where
 len:ds.length=rs.length
 el:∀(i:Nat) (r:Ru) (d:D),rs[i]?=some r->ds[i]?=some d->RD r d
theorem zN.nil:zN [] []:=⟨rfl,fun i r d h=>by simp at h⟩
theorem zN.snoc {rs:List Ru}{ds:List D}(h:zN rs ds){r:Ru}{d:D}(k:RD r d):zN (rs++[r]) (ds++[d]):=by
 refine⟨by simp[h.len],fun i r' d' h1 h2=>?_⟩
 have hl:=h.len
 by_cases hi:i<rs.length
 ·rw[List.getElem?_append_left hi]at h1
  rw[List.getElem?_append_left (by omega)]at h2
  exact h.el i r' d' h1 h2
 ·have hi1:=(List.getElem?_eq_some_iff.1 h1).1
  simp at hi1
  have:i=rs.length:=by omega
  subst this
  simp at h1
  rw[<- hl]at h2
  simp at h2
  subst h1;subst h2;exact k
theorem Ru.one {r:Ru}{v:D}(h:v.one=true):aH (r.e v):=fun x hx=>by
 simp[Ru.e]at hx;rcases hx with rfl|rfl|rfl|rfl
 ·rfl
 ·rfl
 ·exact h
 ·rfl
theorem L0 {r:Ru}{nd z:D}(q:QE 2 h L nd (r.needs.map Fa.e)) (hK:∀n nv h',FW [] nv r.needs->Vs h' ((n,.arr 4 [r.e nv])::L)->KH (.ms n 0 1) h'):aa PP (.bldS true 4 1 z [(0,.c (r.e nd))]) h KH:=by
 have ho:=q.one
 refine⟨fun p hp=>?_,fun _ p hp=>?_,fun n t=>?_⟩
 ·simp[Arg.get]at hp;subst hp
  exact⟨by show 0<1;omega,rfl,Ru.one ho⟩
 ·simp[Arg.get]at hp;subst hp
  intro x hx
  simp[Ru.e,D.cells]at hx
  rcases hx with rfl|rfl|rfl|rfl
  ·trivial
  ·trivial
  ·rcases q with⟨rfl,-,-⟩|⟨m,rfl,V⟩
   ·trivial
   ·refine⟨2,_,by rw[V.get 0 _ _ rfl];rfl,by simp,fun y hy w hw=>?_⟩
    have hy:=List.mem_of_mem_drop (List.mem_of_mem_take hy)
    obtain⟨f,-,rfl⟩:=List.mem_map.1 hy
    exact f.vone w hw
  ·trivial
 ·rcases q with⟨rfl,h0,V⟩|⟨m,rfl,V⟩
  ·have:KH (.ms n 0 1) (aq h n (.arr 4 [r.e .nil])):=hK n .nil _ (Or.inl ⟨rfl,by simpa using h0⟩) (V.push t.free (by simp))
   simpa[Arg.get,setEls,D.fz,D.fzc,D.nm,D.jc,Ru.e,Heap.freezeAll,List.replicate] using this
  ·have hm:=V.get 0 _ _ rfl
   have hrow:(h m).row=some (2,r.needs.map Fa.e):=by rw[hm];rfl
   have hmf:h m≠.free:=by rw[hm];simp
   have hne:n≠m:=by rintro rfl;exact hmf t.free
   have V1:Vs (h.freezeAll [m]) L:=V.pop.y8 fun k s ⟨i,hi⟩=>eK [m] (by
    simp only[List.mem_singleton]
    exact V.ne (i+1) 0 k m s _ (by simpa using hi) rfl (by omega))
   have hnf:(h.freezeAll [m]) n=.free:=lT [m] t.free
   have:KH (.ms n 0 1) (aq (h.freezeAll [m]) n (.arr 4 [r.e (.sl (r.needs.map Fa.e))])):=hK n (.sl (r.needs.map Fa.e)) _ (Or.inr (Or.inl rfl)) (V1.push hnf (by simp))
   have e1:(r.e (.ms m 0 (r.needs.map Fa.e).length)).fz h=r.e (.sl (r.needs.map Fa.e)):=by
    simp only[Ru.e,D.fz,List.map_cons,List.map_nil,D.fzc,hrow,List.drop_zero,List.take_length]
   have e2:(r.e (.ms m 0 (r.needs.map Fa.e).length)).nm=[m]:=by simp[Ru.e,D.nm,D.jc]
   simp only[Arg.get,setEls,List.map_cons,List.map_nil,List.flatMap_cons,List.flatMap_nil,List.append_nil,if_true,e1,e2,List.replicate,List.set_cons_zero]
   exact this
def RY (nk pa:Nat) (B:bf) (done:List Ru) (Lc:LSq):Prop:=∃v els A,zN done els/\EX 4 v els A/\Lc=(nk,.lp .ready B)::(pa,.box v)::A
theorem DY {nk pa:Nat}{B:bf}{G:Ru->Prop}(hps:B.ps=[7]) (hlt:∀p,p∈[7]->p<B.nt) (he:B.env=LEnv.get [(2,.ptr pa 0 0)]) (hAs:tp PP aY B.nt B.assign) (hBs:tp PP aX B.nt B.body) :
  Yl nk G (RY nk pa B) (fun _=>False):=by
 rintro done ru Lc h N nd KH ⟨v,els,A,hv,hx,rfl⟩ hdn-q hT -
 have q0:QE 2 h ((nk,.lp .ready B)::(pa,.box v)::(A++N)) nd (ru.needs.map Fa.e):=q
 have V0:=q0.vs
 have hel:=hv.len
 rw[FL]
 refine⟨⟨_,_,V0.get 0 _ _ rfl⟩,?_⟩
 refine lz (e:=[(2,.ptr pa 0 0)]) (V0.get 0 _ _ rfl) hps hAs hBs (by simp) hlt rfl he ?_
 rw[show([Arg.c (ru.e nd)].map fun x=>x.get [])=[ru.e nd] from rfl, <- cF]
 unfold bA
 refine q0.alloc fun n1 h1 q1=>?_
 refine q1.xt (cs':=[.bool ru.of.uO,.int .i64 ru.of.n,nd,.bool ru.never]) rfl rfl (fun x hx=>Ru.one q.one x hx) fun h2 q2=>?_
 refine⟨rfl,q2.vs.get 1 _ _ rfl,?_⟩
 have q3:=q2.bO 1 rfl (s':=.lp .busy B) (by simp)
 simp only[List.set_cons_succ,List.set_cons_zero]at q3
 rw[q3.vs.yn 2 rfl hx.one,q3.vs.re 0 (s:=4) rfl rfl]
 rw[show D.agg [.bool ru.of.uO,.int .i64 ru.of.n,nd,.bool ru.never]=ru.e nd from rfl]
 refine L0 q3 fun n nv h5 hnv V5=>?_
 have qa:QE 4 h5 ((n,.arr 4 [ru.e nv])::(n1,.box (ru.e nd))::(nk,.lp .busy B)::(pa,.box v)::N) v els:=hx.qe (V5.perm (List.perm_append_comm_assoc [_,_,_,_] A N))
 refine qa.Rn (d:=ru.e nv) (fun {K} hk=>⟨[ru.e nv],by rw[V5.get 0 _ _ rfl];rfl,by simp,by simpa using hk⟩) (Ru.one hnv.one) (by omega) (by omega) fun m h6 V6=>?_
 refine V6.Fj 4 rfl hx.one rfl fun h7 V7=>?_
 simp only[List.set_cons_succ,List.set_cons_zero]at V7
 refine⟨V7.get 3 _ _ rfl,?_⟩
 have V8:=V7.bO 3 rfl (s':=.lp .ready B) (by simp)
 simp only[List.set_cons_succ,List.set_cons_zero]at V8
 refine hT ((nk,.lp .ready B)::(pa,.box (.ms m 0 (els.length+1)))::[(m,.arr 4 (els++[ru.e nv]))]) _ ⟨.ms m 0 (els.length+1),els++[ru.e nv],_,hv.snoc ⟨nv,rfl,hnv⟩,Or.inr ⟨m,by simp,rfl⟩,rfl⟩ ?_
 have V9:Vs _ ((m,Slot.arr 4 (els++[ru.e nv]))::(nk,.lp .ready B)::(pa,.box (.ms m 0 (els.length+1)))::N):=V8.sub (.cons_cons _ (.cons _ (.cons _ (.refl _))))
 exact V9.perm (List.perm_append_comm_assoc [_] [_,_] N)
theorem DR {c:Code}(hc:ja c){W:LSq}{n2 pr pd:Nat}{dv:D}(rm:OO c W n2 pr pd dv) (V:Vs h W){KH:HKq}(hK:∀v els A h',zN (oA c) els->EX 4 v els A->Vs h' (A++W)->KH v h') :
  af PP aO [.nil,.fn br [] [.ptr n2 0 0,.ptr pr 0 0,.ptr pd 0 0]] h KH:=by
 refine aR bC (av _ _ _) rfl (cX _ _ _) ?_
 unfold bJ
 refine V.box (fun x hx=>by simp at hx;subst hx;rfl) fun pa h4 V4=>?_
 refine⟨fun _ h'=>∃v els A,zN (oA c) els/\EX 4 v els A/\Vs h' ((pa,.box v)::(A++W)),?_,?_⟩
 ·rintro f h7 ⟨v,els,A,hv,hx,V7⟩
  rw[V7.yn 0 rfl hx.one]
  exact hK v els A h7 hv hx V7.pop
 refine⟨rfl,AU,fun nk B ht he hps _ hlt hAs hBs=>?_⟩
 have V5:Vs (aq h4 nk (.lp .ready B)) ([(nk,.lp .ready B),(pa,.box .nil)]++W):=V4.push ht.free (by simp)
 refine A3 (R:=nK c) (Dp:=xj c) (DY hps hlt he hAs hBs) hc ⟨.nil,[],[],.nil,Or.inl ⟨rfl,rfl,rfl⟩,rfl⟩ V5 rm.h2 rm.hr vj rm.hd rm.wd Db (BM hc.g) (fun Lc' h' hS V'=>?_) fun Lc' h' hS V'=>hS.elim
 obtain⟨v,els,A,hv,hx,rfl⟩:=hS
 have V6:Vs h' ((nk,.lp .ready B)::(pa,.box v)::(A++W)):=V'
 have hget:h' nk=.lp .ready B:=V6.get 0 _ _ rfl
 show dI _ _ _ _ _
 unfold dI
 rw[hget]
 simp only[ae,true_and]
 exact⟨v,els,A,hv,hx,(V6.bO 0 rfl (s':=.dead) (by simp)).pop⟩
theorem Hw {c:Code}(hc:ja c){W:LSq}{n2 pr pd:Nat}{dv:D}(rm:OO c W n2 pr pd dv) (V:Vs h W){KH:HKq}(hK:∀v els A h',zN (oA c) els->EX 4 v els A->Vs h' (A++W)->KH v h') :
  af PP bE [.fn br [] [.ptr n2 0 0,.ptr pr 0 0,.ptr pd 0 0]] h KH:=by
 refine aR dq (av _ _ _) rfl (iR _ _) ?_
 unfold dY
 exact DR hc rm V hK
end
end Go.Am
namespace Go.Am
open Go Go.Proofs
def E7 (rs:List Ru) (s:Fa->Prop):Prop:=∀r∈rs,s r.of->r.never=false/\∀f∈r.needs,s f
def Gf (rs:List Ru) (f:Fa):Prop:=∃s,E7 rs s/\s f
theorem Gf.closed (rs:List Ru):E7 rs (Gf rs):=by
 rintro r hr ⟨s,hs,h⟩
 obtain⟨h1,h2⟩:=hs r hr h
 exact⟨h1,fun f hf=>⟨s,hs,h2 f hf⟩⟩
def u4 (U R:List Bool) (f:Fa):List Bool×List Bool:=if f.uO then(U.set f.n.toNat false,R) else(U,R.set f.n.toNat false)
def vO (U R:List Bool):Nat:=U.count true+R.count true
theorem count_set {L:List Bool}:∀{i:Nat},hasB L i=true->(L.set i false).count true+1=L.count true:=by
 induction L with
 | nil=>intro i h;simp[hasB]at h
 | cons b L ih =>
  intro i h
  cases i with
  | zero =>
   simp[hasB]at h;subst h
   simp
  | succ i =>
   have h:hasB L i=true:=by simpa[hasB] using h
   have:=ih h
   rw[List.set_cons_succ,List.count_cons,List.count_cons]
   omega
theorem GZ {L:List Bool}{i k:Nat}:hasB (L.set i false) k=(hasB L k && !decide (k=i)):=by
 unfold hasB
 rw[List.getElem?_set]
 by_cases h:i=k
 ·subst h
  rw[if_pos rfl]
  by_cases hl:i<L.length
  ·rw[if_pos hl];simp
  ·rw[if_neg hl,List.getElem?_eq_none (by omega)];simp
 ·rw[if_neg h]
  simp[Ne.symm h]
theorem Jz {U R:List Bool}{f:Fa}(h:kA U R f=true):vO (u4 U R f).1 (u4 U R f).2+1=vO U R:=by
 obtain⟨b,n⟩:=f
 cases b
 ·have:=count_set (L:=R) (i:=n.toNat) h
  simp only[u4,vO,Bool.false_eq_true,if_false];omega
 ·have:=count_set (L:=U) (i:=n.toNat) h
  simp only[u4,vO,if_true];omega
theorem G0 {U R:List Bool}{f g:Fa}(hf:0<=f.n) (hg:0<=g.n):kA (u4 U R f).1 (u4 U R f).2 g=true↔kA U R g=true/\g≠f:=by
 obtain⟨b,n⟩:=f
 obtain⟨b',n'⟩:=g
 have hne:(n'.toNat=n.toNat)↔n'=n:=by
  simp only at hf hg;omega
 cases b<;>cases b'<;>simp[kA,xS,u4,GZ,hne]
structure UV (c:Code) (rs:List Ru) (U R:List Bool):Prop where
 ul:U.length=c.b.length
 rl:R.length=c.regs.toNat
 up:∀f,Al c.b.length c.regs f->Gf rs f->kA U R f=true
theorem oJ {U R:List Bool}{r:Ru}:jg U R r=true↔(kA U R r.of=true->r.never=false/\∀f∈r.needs,kA U R f=true):=by
 unfold jg
 cases h1:kA U R r.of<;>cases h2:r.never<;>simp[h1,h2]
theorem UV.drop {c:Code}{rs:List Ru}{U R:List Bool}(u:UV c rs U R){r:Ru}(hr:r∈rs) (ok:uD c.b.length c.regs r) (hk:jg U R r=false):kA U R r.of=true/\UV c rs (u4 U R r.of).1 (u4 U R r.of).2:=by
 have hg:kA U R r.of=true:=by
  cases h:kA U R r.of
  ·exfalso
   have:jg U R r=true:=oJ.2 fun h'=>by rw[h]at h';cases h'
   rw[hk]at this;cases this
  ·rfl
 have hng:¬Gf rs r.of:=by
  intro hG
  obtain⟨h1,h2⟩:=Gf.closed rs r hr hG
  have:jg U R r=true:=oJ.2 fun _=>⟨h1,fun f hf=>u.up f (ok.needs f hf) (h2 f hf)⟩
  rw[hk]at this;cases this
 refine⟨hg,⟨?_,?_,fun f hf hG=>?_⟩⟩
 ·unfold u4;split
  ·rw[List.length_set];exact u.ul
  ·exact u.ul
 ·unfold u4;split
  ·exact u.rl
  ·rw[List.length_set];exact u.rl
 ·rw[G0 ok.of.1 hf.1]
  refine⟨u.up f hf hG,?_⟩
  rintro rfl
  exact hng hG
noncomputable def CR (c:Code) (rs:List Ru):List Bool:=(List.range c.b.length).map fun b=>@decide (Gf rs (Af b)) (Classical.propDecidable _)
noncomputable def Ad (c:Code) (rs:List Ru):List Bool:=(List.range c.regs.toNat).map fun k:Nat=>@decide (Gf rs (yO (k:Int))) (Classical.propDecidable _)
theorem yo {c:Code}{rs:List Ru}:(CR c rs).length=c.b.length:=by simp[CR]
theorem yp {c:Code}{rs:List Ru}:(Ad c rs).length=c.regs.toNat:=by simp[Ad]
theorem FJ {c:Code}{rs:List Ru}{b:Nat}(h:b<c.b.length):hasB (CR c rs) b=true↔Gf rs (Af b):=by
 unfold hasB CR
 rw[List.getElem?_map,List.getElem?_range h];simp
theorem FK {c:Code}{rs:List Ru}{k:Nat}(h:k<c.regs.toNat):hasB (Ad c rs) k=true↔Gf rs (yO (k:Int)):=by
 unfold hasB Ad
 rw[List.getElem?_map,List.getElem?_range h];simp
theorem CN {A B:List Bool}(hl:A.length=B.length) (h:∀k,k<A.length->(hasB A k=true↔hasB B k=true)):A=B:=by
 apply List.ext_getElem hl
 intro i h1 h2
 have e1:=eJ h1
 have e2:=eJ h2
 rw[List.getElem?_eq_getElem h1]at e1
 rw[List.getElem?_eq_getElem h2]at e2
 rw[Option.some.inj e1,Option.some.inj e2,Bool.eq_iff_iff]
 exact h i h1
theorem UV.fin {c:Code}{rs:List Ru}{U R:List Bool}(u:UV c rs U R) (ok:∀r∈rs,uD c.b.length c.regs r) (hk:∀r∈rs,jg U R r=true):U=CR c rs/\R=Ad c rs:=by
 have hcl:E7 rs fun f=>Al c.b.length c.regs f/\kA U R f=true:=by
  rintro r hr ⟨-,hg⟩
  obtain⟨h1,h2⟩:=oJ.1 (hk r hr) hg
  exact⟨h1,fun f hf=>⟨(ok r hr).needs f hf,h2 f hf⟩⟩
 have key:∀f,Al c.b.length c.regs f->(kA U R f=true↔Gf rs f):=fun f hf=>⟨fun h=>⟨_,hcl,hf,h⟩,u.up f hf⟩
 constructor
 ·refine CN (by rw[u.ul,yo]) fun k hkl=>?_
  have hkl:k<c.b.length:=by rw[<- u.ul];exact hkl
  rw[FJ hkl, <- key (Af k) (DC hkl)];rfl
 ·refine CN (by rw[u.rl,yp]) fun k hkl=>?_
  have hkl:k<c.regs.toNat:=by rw[<- u.rl];exact hkl
  have:=key (yO (k:Int)) ⟨by simp[yO],fun h=>(by cases h),fun _=>by simp only[yO];omega⟩
  rw[FK hkl, <- this];rfl
theorem UV.start {c:Code}{rs:List Ru}(hr:0<=c.regs):UV c rs (List.replicate c.b.length true) (List.replicate c.regs.toNat true):=by
 refine⟨by simp,by simp,fun f hf _=>?_⟩
 obtain⟨b,n⟩:=f
 obtain⟨h0,h1,h2⟩:=hf
 cases b
 ·have h2:n<c.regs:=h2 rfl
  simp only at h0
  simp[kA,xS,hasB,show n.toNat<c.regs.toNat by omega]
 ·have h1:n<c.b.length:=h1 rfl
  simp only at h0
  simp[kA,xS,hasB,show n.toNat<c.b.length by omega]
def uE (U R:List Bool):D:=.agg [.sl (bL U),.sl (bL R)]
noncomputable def uF (c:Code):D:=uE (CR c (oA c)) (Ad c (oA c))
end Go.Am
namespace Go.Am
open Go Go.Proofs
def jU (n i:Nat):List Bool:=(List.range n).map fun k=>decide (k<i)
theorem CV {n i:Nat}:(jU n i).length=n:=by simp[jU]
theorem Jb {n:Nat}:jU n 0=List.replicate n false:=by
 apply List.ext_getElem (by simp[jU]);intro i h1 h2;simp[jU]
theorem Ja {n:Nat}:jU n n=List.replicate n true:=by
 apply List.ext_getElem (by simp[jU]);intro i h1 h2;simp[jU]at h1 ⊢;omega
theorem CU {n i:Nat}:(jU n i).set i true=jU n (i+1):=by
 apply List.ext_getElem (by simp[jU])
 intro k h1 h2
 rw[List.getElem_set]
 simp only[jU,List.getElem_map,List.getElem_range]
 by_cases h:i=k
 ·subst h;simp
 ·rw[if_neg h]
  exact decide_eq_decide.2 (by omega)
section
variable {c:Code}{h:Heap}{KH:HKq}
theorem Mx {P:Program}{bytes l:Nat}{h:Heap}{KH:HKq}(hb:l*bytes<=140737488355328) (hl:l<=9223372036854775807) (hK:KH .undef h):aa P (.mkc bytes (.c (.int .i64 (l:Int))) (.c (.int .i64 (l:Int)))) h KH :=
 ⟨by omega,by omega,by have:=Int.ofNat_le.2 hb;simpa using this,by omega,hK⟩
def gk (c:Code) (nU nR nu n4 n2 nr:Nat) (U R:List Bool) (X:LSq):LSq :=
 (nu,.box (.agg [.ms nU 0 c.b.length,.ms nR 0 nr]))::(nR,.arr 1 (bL R))::(nU,.arr 1 (bL U))::(n4,.box (.agg [.nil,.nil]))::(n2,.box c.e)::X
section
variable {nU nR nu n4 n2 nr:Nat}{U R:List Bool}{X A:LSq}
theorem Jh (hn:c.b.length<=1000) (V:Vs h (gk c nU nR nu n4 n2 nr (jU c.b.length 0) R X)){J:HJq}(hJ:∀h',Vs h' (gk c nU nR nu n4 n2 nr (jU c.b.length c.b.length) R X)->J [] h') :
  iM h (.int .i64 (c.b.length:Int)) (.ptr nu 0 0) (.ptr n2 0 0) (.ptr n4 0 0) J:=by
 unfold iM
 refine⟨fun m q h'=>∃i:Nat,q=[nD i]/\i<=c.b.length/\m=c.b.length-i/\Vs h' (gk c nU nR nu n4 n2 nr (jU c.b.length i) R X),_,⟨0,rfl,by omega,rfl,V⟩,?_⟩
 rintro m f h1 ⟨i,hq,hi,hm,V1⟩
 simp only[List.cons.injEq,and_true]at hq
 simp only[hq,nD]
 by_cases hlt:i<c.b.length
 ·rw[sZ (by omega),ai,V1.fa 0 rfl,V1.fe 0 (j:=0) rfl rfl,V1.ia 2 rfl (by omega) (by omega),Int.toNat_natCast]
  refine V1.Bk 2 rfl (by rw[bL,List.length_map,CV];exact hlt) rfl (og _) fun h2 V2=>?_
  rw[oe,CU]at V2
  rw[gE (by omega) (by omega)]
  simp only[ae,true_and]
  exact⟨_,by omega,i+1,rfl,by omega,rfl,V2⟩
 ·have:i=c.b.length:=by omega
  subst this
  rw[sG (by omega),ah]
  simp only[ae,true_and]
  exact hJ h1 V1
theorem Ji (hn:nr<=1000) (V:Vs h (gk c nU nR nu n4 n2 nr U (jU nr 0) X)){J:HJq}(hJ:∀h',Vs h' (gk c nU nR nu n4 n2 nr U (jU nr nr) X)->J [] h') :
  iN h (.int .i64 (nr:Int)) (.ptr nu 0 0) (.ptr n2 0 0) (.ptr n4 0 0) J:=by
 unfold iN
 refine⟨fun m q h'=>∃i:Nat,q=[nD i]/\i<=nr/\m=nr-i/\Vs h' (gk c nU nR nu n4 n2 nr U (jU nr i) X),_,⟨0,rfl,by omega,rfl,V⟩,?_⟩
 rintro m f h1 ⟨i,hq,hi,hm,V1⟩
 simp only[List.cons.injEq,and_true]at hq
 simp only[hq,nD]
 by_cases hlt:i<nr
 ·rw[sZ (by omega),ai,V1.fa 0 rfl,V1.fe 0 (j:=1) rfl rfl,V1.ia 1 rfl (by omega) (by omega),Int.toNat_natCast]
  refine V1.Bk 1 rfl (by rw[bL,List.length_map,CV];exact hlt) rfl (og _) fun h2 V2=>?_
  rw[oe,CU]at V2
  rw[gE (by omega) (by omega)]
  simp only[ae,true_and]
  exact⟨_,by omega,i+1,rfl,by omega,rfl,V2⟩
 ·have:i=nr:=by omega
  subst this
  rw[sG (by omega),ah]
  simp only[ae,true_and]
  exact hJ h1 V1
theorem Lo {rs:List Ru}{els:List D}{v:D}(hr:c.regs=(nr:Int)) (hrl:rs.length<=1000000) (hv:zN rs els) (hx:EX 4 v els A) (hA:∀y∈A,y∈X) (ok:∀r∈rs,uD c.b.length c.regs r) (u:UV c rs U R) (V:Vs h (gk c nU nR nu n4 n2 nr U R X)){m0:Nat}{I:Nat->HJq}
  (hI:∀ch U' R' h',UV c rs U' R'->(ch=true->vO U' R'<vO U R)->(ch=false->U'=U/\R'=R/\∀r∈rs,jg U R r=true)->Vs h' (gk c nU nR nu n4 n2 nr U' R' X)->∃m,m<m0/\I m [.bool ch] h') :
  iQ h (.int .i64 (els.length:Int)) (.ptr n4 0 0) (.ptr nu 0 0) v m0 I:=by
 have hel:=hv.len
 unfold iQ
 refine⟨fun m q h'=>∃(i:Nat) (ch:Bool) (U' R':List Bool),q=[.bool ch,nD i]/\i<=els.length/\m=els.length-i/\UV c rs U' R'/\(ch=true->vO U' R'<vO U R)/\(ch=false->U'=U/\R'=R/\∀r,r∈rs.take i->jg U R r=true)/\Vs h' (gk c nU nR nu n4 n2 nr U' R' X),_,
  ⟨0,false,U,R,rfl,by omega,rfl,u,fun h=>(by cases h),fun _=>⟨rfl,rfl,fun r hr=>(by simp at hr)⟩,V⟩,?_⟩
 rintro m f h1 ⟨i,ch,U1,R1,hq,hi,hm,u1,hc1,hc2,V1⟩
 simp only[List.cons.injEq,and_true]at hq
 obtain⟨q1,q2⟩:=hq
 simp only[q1,q2,nD]
 by_cases hlt:i<els.length
 ·rw[sZ (by omega),ai]
  obtain⟨r,hri⟩:∃r,rs[i]?=some r:=⟨rs[i]'(by omega),List.getElem?_eq_getElem _⟩
  obtain⟨d,hdi⟩:∃d,els[i]?=some d:=⟨els[i],List.getElem?_eq_getElem hlt⟩
  obtain⟨nv,rfl,wn⟩:=hv.el i r d hri hdi
  have hrm:=List.mem_of_getElem? hri
  have okr:=ok r hrm
  have htk:rs.take (i+1)=rs.take i++[r]:=by rw[List.take_add_one,hri];rfl
  refine⟨fun q h'=>∃(ch:Bool) (U' R':List Bool),q=[.bool ch]/\UV c rs U' R'/\(ch=true->vO U' R'<vO U R)/\(ch=false->U'=U/\R'=R/\∀r,r∈rs.take (i+1)->jg U R r=true)/\Vs h' (gk c nU nR nu n4 n2 nr U' R' X),?_,?_⟩
  ·rintro f' h' ⟨ch',U2,R2,hq',u2,g1,g2,V2⟩
   simp only[List.cons.injEq,and_true]at hq'
   rw[hq',gE (by omega) (by omega)]
   simp only[ae,true_and]
   exact⟨_,by omega,i+1,ch',U2,R2,rfl,by omega,rfl,u2,g1,g2,V2⟩
  refine hx.get (fun y hy=>by have:=hA y hy;simp[gk,this]) V1 hdi rfl ?_
  refine V1.alloc fun n72 h73 V73=>?_
  refine V73.xt 0 rfl rfl rfl (fun x hx=>Ru.one wn.one x hx) fun h75 V75=>?_
  simp only[List.set_cons_zero]at V75
  have V75:Vs h75 ((n72,.box (r.e nv))::gk c nU nR nu n4 n2 nr U1 R1 X):=V75
  have hUl:U1.length=c.b.length:=u1.ul
  have hRl:R1.length=nr:=by rw[u1.rl,hr];rfl
  have wU:∀{L:LSq},(∀x,x∈gk c nU nR nu n4 n2 nr U1 R1 X->x∈L)->BW L (.ms nU 0 c.b.length) U1:=fun hs=>Or.inr ⟨nU,by rw[hUl],hs _ (by simp[gk])⟩
  have wR:∀{L:LSq},(∀x,x∈gk c nU nR nu n4 n2 nr U1 R1 X->x∈L)->BW L (.ms nR 0 nr) R1:=fun hs=>Or.inr ⟨nR,by rw[hRl],hs _ (by simp[gk])⟩
  have sub1:∀x,x∈gk c nU nR nu n4 n2 nr U1 R1 X->x∈(n72,Slot.box (r.e nv))::gk c nU nR nu n4 n2 nr U1 R1 X:=fun x hx=>List.mem_cons_of_mem _ hx
  have okr':uD U1.length R1.length r:=by rw[hUl,hRl, <- hr];exact okr
  rw[V75.re 1 (s:=2) rfl rfl,V75.re 0 (s:=4) rfl rfl]
  refine Kc V75 (wU sub1) (wR sub1) okr' (wn.mono fun x hx=>by simp at hx) fun h81 V81=>?_
  rw[ow]
  cases hk:jg U1 R1 r
  ·rw[Bool.not_false,ai,V81.re 1 (s:=2) rfl rfl,V81.fa 0 rfl,ND (d:=r.of.e) (V81.get 0 _ _ rfl) (by simp) rfl]
   obtain⟨hg,u2⟩:=u1.drop hrm okr hk
   have hcnt:=Jz hg
   refine OC V81 (wU sub1) (wR sub1) okr'.of fun p h90 V90 hp=>?_
   have hfin:∀h',Vs h' (gk c nU nR nu n4 n2 nr (u4 U1 R1 r.of).1 (u4 U1 R1 r.of).2 X)->∃(ch:Bool) (U' R':List Bool),[D.bool true]=[.bool ch]/\UV c rs U' R'/\(ch=true->vO U' R'<vO U R)/\(ch=false->U'=U/\R'=R/\∀r,r∈rs.take (i+1)->jg U R r=true)/\Vs h' (gk c nU nR nu n4 n2 nr U' R' X):=fun h' V'=>by
    refine⟨true,_,_,rfl,u2,fun _=>?_,fun h=>(by cases h),V'⟩
    cases ch with
    | true=>have:=hc1 rfl;omega
    | false=>obtain⟨rfl,rfl,-⟩:=hc2 rfl;omega
   have hb:∀f:Fa,Al U1.length R1.length f->f.n.toNat<(xS U1 R1 f).length:=fun f hf=>by
    obtain⟨b,n⟩:=f
    obtain⟨h1,h2,h3⟩:=hf
    cases b
    ·have g1:n<(R1.length:Int):=h3 rfl
     have g2:0<=n:=h1
     show n.toNat<R1.length;omega
    ·have g1:n<(U1.length:Int):=h2 rfl
     have g2:0<=n:=h1
     show n.toNat<U1.length;omega
   have hbl:=hb _ okr'.of
   have eset:∀b,b=r.of.uO->(u4 U1 R1 r.of)=if b then(U1.set r.of.n.toNat false,R1) else(U1,R1.set r.of.n.toNat false):=fun b hb=>by subst hb;rfl
   cases hblk:r.of.uO
   ·have e1:xS U1 R1 r.of=R1:=by unfold xS;rw[hblk];rfl
    rw[e1]at hp hbl
    rw[hblk]at hp
    rcases hp with⟨hp,-⟩|⟨m',hp,-,rfl⟩
    ·cases hp
    ·cases hp
     rw[jy,V90.get 2 _ _ rfl]
     refine⟨rfl,?_⟩
     rw[Nat.zero_add]
     refine V90.Bk 2 rfl (by simpa[bL] using hbl) rfl (og _) fun h94 V94=>?_
     rw[oe]at V94
     simp only[ae,true_and]
     refine hfin h94 ?_
     rw[eset false hblk.symm]
     exact V94.pop
   ·have e1:xS U1 R1 r.of=U1:=by unfold xS;rw[hblk];rfl
    rw[e1]at hp hbl
    rw[hblk]at hp
    rcases hp with⟨hp,-⟩|⟨m',hp,-,rfl⟩
    ·cases hp
    ·simp only[if_true,D.ms.injEq]at hp
     obtain⟨rfl,-,-⟩:=hp
     rw[jy,V90.get 3 _ _ rfl]
     refine⟨rfl,?_⟩
     rw[Nat.zero_add]
     refine V90.Bk 3 rfl (by simpa[bL] using hbl) rfl (og _) fun h94 V94=>?_
     rw[oe]at V94
     simp only[ae,true_and]
     refine hfin h94 ?_
     rw[eset true hblk.symm]
     exact V94.pop
  ·rw[Bool.not_true,ah]
   simp only[ae,true_and]
   refine⟨ch,U1,R1,rfl,u1,hc1,fun h0=>?_,V81.pop⟩
   obtain⟨rfl,rfl,h3⟩:=hc2 h0
   refine⟨rfl,rfl,fun r' hr'=>?_⟩
   rw[htk]at hr'
   rcases List.mem_append.1 hr' with hr'|hr'
   ·exact h3 r' hr'
   ·simp at hr';subst hr';exact hk
 ·have:i=els.length:=by omega
  subst this
  rw[sG (by omega),ah]
  simp only[ae,true_and]
  refine hI ch U1 R1 h1 u1 hc1 (fun h0=>?_) V1
  obtain⟨e1,e2,h3⟩:=hc2 h0
  rw[hel,List.take_length]at h3
  exact⟨e1,e2,h3⟩
theorem Lp {rs:List Ru}{els:List D}{v:D}(hr:c.regs=(nr:Int)) (hrl:rs.length<=1000000) (hv:zN rs els) (hx:EX 4 v els A) (hA:∀y∈A,y∈X) (ok:∀r∈rs,uD c.b.length c.regs r) (u:UV c rs U R) (V:Vs h (gk c nU nR nu n4 n2 nr U R X)){J:HJq}
  (hJ:∀h',Vs h' (gk c nU nR nu n4 n2 nr (CR c rs) (Ad c rs) X)->J [] h'):iP h v (.ptr n4 0 0) (.ptr nu 0 0) J:=by
 unfold iP
 refine⟨fun m q h'=>∃(ch:Bool) (U R:List Bool),q=[.bool ch]/\m=2*vO U R+(if ch then 1 else 0)/\UV c rs U R/\(ch=false->∀r∈rs,jg U R r=true)/\Vs h' (gk c nU nR nu n4 n2 nr U R X),_,⟨true,U,R,rfl,rfl,u,fun h=>(by cases h),V⟩,?_⟩
 rintro m f h1 ⟨ch,U1,R1,hq,hm,u1,hk,V1⟩
 simp only[List.cons.injEq,and_true]at hq
 rw[hq]
 cases ch with
 | true =>
  rw[ai,hx.len (fun y hy=>by have:=hA y hy;simp[gk,this]) V1]
  refine Lo hr hrl hv hx hA ok u1 V1 fun ch' U2 R2 h2 u2 g1 g2 V2=>?_
  refine⟨2*vO U2 R2+(if ch' then 1 else 0),?_,ch',U2,R2,rfl,rfl,u2,fun h0=>?_,V2⟩
  ·subst hm
   cases ch' with
   | true=>have:=g1 rfl;simp;omega
   | false=>obtain⟨rfl,rfl,-⟩:=g2 rfl;simp
  ·obtain⟨rfl,rfl,h3⟩:=g2 h0;exact h3
 | false =>
  rw[ah]
  simp only[ae,true_and]
  obtain⟨rfl,rfl⟩:=u1.fin ok (hk rfl)
  exact hJ h1 V1
end
end
end Go.Am
namespace Go.Am
open Go Go.Proofs
theorem Jx {d:D}{h:Heap}{K:D->Prop}:ab PP (.len (.c d)) h K=aS d h K:=rfl
theorem OO.mono {c:Code}{W W':LSq}{n2 pr pd:Nat}{dv:D}(hs:∀x∈W,x∈W') (r:OO c W n2 pr pd dv):OO c W' n2 pr pd dv:=⟨hs _ r.h2,hs _ r.hr,hs _ r.hd,r.wd.mono hs⟩
def Rv (c:Code):Prop:=∃O O' at' U,zS c O O' at' U
theorem KQ {c:Code}(hc:ja c):(oA c).length<=1000000:=by
 have:=ub (R:=nK c) hc (BM hc.g) c.b.length
 have:=hc.g.nb
 unfold oA uc;omega
theorem JY {n:Nat}{b:Bool}:bL (List.replicate n b)=List.replicate n (.bool b):=by simp[bL]
theorem Oo {c:Code}(hc:ja c):aQ PP dM [c.e] (fun r=>r=uF c/\Rv c):=by
 have hnb:=hc.g.nb
 obtain⟨nr,hr⟩:∃nr:Nat,c.regs=(nr:Int):=⟨c.regs.toNat,by have:=hc.rg;omega⟩
 have hr1:=hc.rg
 refine dE np (av _ _ _) rfl (wa _ _) ?_
 unfold rR
 refine Vs.nil.box c.gg.one fun n2 h3 V3=>?_
 refine V3.alloc fun n4 h5 V5=>?_
 rw[V5.o0 1 rfl,V5.ly 1 (j:=7) rfl rfl,eG,List.length_map,V5.o0 1 rfl,V5.ly 1 (j:=2) rfl rfl,hr]
 refine Mx (by omega) (by omega) ?_
 refine Mx (by omega) (by omega) ?_
 refine V5.Mu (by omega) (by omega) fun nU h16 V16=>?_
 refine⟨by simp only[↓V16.o0 2 rfl,↓V16.ly 2 (j:=0+2) rfl rfl,hr,ae,and_self],?_⟩
 refine V16.Mu (by omega) (by omega) fun nR h20 V20=>?_
 refine⟨by simp only[↓V20.o0 3 rfl,↓V20.ly 3 (j:=0+7) rfl rfl,Jx,eG,List.length_map,ae,and_self],?_⟩
 rw[iI rfl]
 refine V20.alloc fun nu h26 V26=>?_
 refine⟨by simp only[↓V26.o0 4 rfl,↓V26.ly 4 (j:=0+7) rfl rfl,↓V26.ly 4 (j:=0+2) rfl rfl,Jx,eG,List.length_map,hr,ae,and_self],?_⟩
 refine V26.xt 0 (cs':=[.ms nU 0 c.b.length,.ms nR 0 nr]) rfl rfl rfl (fun x hx=>by simp at hx;rcases hx with rfl|rfl<;>rfl) fun h33 V33=>?_
 simp only[List.set_cons_zero]at V33
 have V33:Vs h33 (gk c nU nR nu n4 n2 nr (jU c.b.length 0) (jU nr 0) []):=by
  unfold gk;rw[Jb,Jb,JY,JY];exact V33
 refine⟨fun _ h'=>Vs h' (gk c nU nR nu n4 n2 nr (jU c.b.length c.b.length) (jU nr 0) []),?_,?_⟩
 ·rintro f h36 V36
  refine⟨fun _ h'=>Vs h' (gk c nU nR nu n4 n2 nr (jU c.b.length c.b.length) (jU nr nr) []),?_,?_⟩
  ·rintro f2 h39 V39
   rw[V39.re 4 (s:=8) rfl rfl]
   refine Gh hc V39 fun W m2 pr pd dv h43 rm hD V43=>?_
   refine Hw hc (rm.mono (W':=W++gk c nU nR nu n4 n2 nr (jU c.b.length c.b.length) (jU nr nr) []) fun x hx=>by simp[hx]) V43 fun v els A h45 hv hx V45=>?_
   have V45':Vs h45 (gk c nU nR nu n4 n2 nr (List.replicate c.b.length true) (List.replicate c.regs.toNat true) (A++W)):=by
    rw[Ja,Ja, <- List.append_assoc]at V45
    have e:c.regs.toNat=nr:=by omega
    rw[e]
    exact V45.perm List.perm_append_comm
   refine⟨fun _ h'=>Vs h' (gk c nU nR nu n4 n2 nr (CR c (oA c)) (Ad c (oA c)) (A++W)),?_,Lp hr (KQ hc) hv hx (fun y hy=>by simp[hy]) (Ip hc) (UV.start (by omega)) V45' fun h' V'=>V'⟩
   rintro f3 h48 V48
   rw[V48.re 0 (s:=2) rfl rfl]
   refine V48.xt 3 rfl rfl rfl (fun x hx=>by simp at hx;rcases hx with rfl|rfl<;>rfl) fun h52 V52=>?_
   simp only[gk,List.set_cons_succ,List.set_cons_zero]at V52
   rw[V52.re 3 (s:=2) rfl rfl]
   have e1:(h52 nU).row=some (1,bL (CR c (oA c))):=by rw[V52.get 2 _ _ rfl];rfl
   have e2:(h52 nR).row=some (1,bL (Ad c (oA c))):=by rw[V52.get 1 _ _ rfl];rfl
   have l1:(bL (CR c (oA c))).length=c.b.length:=by rw[bL,List.length_map,yo]
   have l2:(bL (Ad c (oA c))).length=nr:=by rw[bL,List.length_map,yp];omega
   have bv:∀(S:List Bool) x,x∈bL S->∀y∈x.cells,y.vone=true:=fun S x hx y hy=>by
    simp only[bL,List.mem_map]at hx;obtain⟨b,-,rfl⟩:=hx
    simp[D.cells]at hy;subst hy;rfl
   have ef:(D.agg [.ms nU 0 c.b.length,.ms nR 0 nr]).fzt h52=uF c:=by
    simp only[D.fzt,D.fz,D.fzc,List.map_cons,List.map_nil,e1,e2,List.drop_zero]
    rw[List.take_of_length_le (by omega),List.take_of_length_le (by omega)];rfl
   refine⟨fun x hx=>?_,fun x hx=>?_,?_,?_⟩
   ·simp[D.cells]at hx;rcases hx with rfl|rfl<;>rfl
   ·simp[D.cells]at hx
    rcases hx with rfl|rfl
    ·exact⟨1,_,e1,by omega,fun x hx y hy=>bv _ x (List.mem_of_mem_drop (List.mem_of_mem_take hx)) y hy⟩
    ·exact⟨1,_,e2,by omega,fun x hx y hy=>bv _ x (List.mem_of_mem_drop (List.mem_of_mem_take hx)) y hy⟩
   ·rw[ef];rfl
   ·rw[ef];exact⟨rfl,hD⟩
  ·rw[V36.fa 0 rfl,V36.fe 0 (j:=0+1) rfl rfl,bo,V36.get 1 _ _ rfl]
   exact⟨rfl,Ji (by omega) V36 fun h' V'=>V'⟩
 ·rw[V33.fa 0 rfl,V33.fe 0 (j:=0+0) rfl rfl,bo,V33.get 2 _ _ rfl]
  exact⟨rfl,Jh (by omega) V33 fun h' V'=>V'⟩
end Go.Am
namespace Go.Am
open Go Go.Proofs
def CD (v:D) (T:List Bool):Prop:=v=.sl (bL T)\/(v=.nil/\T=[])
theorem CD.one {v:D}{T:List Bool}(w:CD v T):v.one=true:=by rcases w with rfl|⟨rfl,-⟩<;>rfl
theorem CD.len {v:D}{T:List Bool}(w:CD v T){h:Heap}{K:D->Prop}:aS v h K=K (.int .i64 (T.length:Int)):=by
 rcases w with rfl|⟨rfl,rfl⟩
 ·rw[eG];simp[bL]
 ·rw[ox];rfl
theorem CD.sl {v:D}{T:List Bool}(w:CD v T) (h:1<=T.length):v=.sl (bL T):=by
 rcases w with h|⟨-,rfl⟩
 ·exact h
 ·simp at h
noncomputable def kB (c:Code) (U R:List Bool):Bool:=decide (U.length=c.b.length)&&decide ((R.length:Int)=c.regs)&&(oA c).all (jg U R)
section
variable {h:Heap}{L:LSq}{KH:HKq}
theorem QE.fw {v:D}{T:List Fa}(q:QE 2 h L v (T.map Fa.e)):∃X,Vs h (X++L)/\FW (X++L) v T:=by
 rcases q with⟨rfl,h0,V⟩|⟨m,rfl,V⟩
 ·exact⟨[],V,Or.inl ⟨rfl,by simpa using h0⟩⟩
 ·exact⟨[(m,.arr 2 (T.map Fa.e))],V,Or.inr (Or.inr ⟨m,by simp,by simp⟩)⟩
def Qr (nk n7 n5:Nat) (s:LSt) (B:bf) (e:Int) (vU vR:D):LSq:=[(nk,.lp s B),(n7,.box (.int .i64 e)),(n5,.box (.agg [vU,vR]))]
theorem HG {c:Code}{U R:List Bool}{rs:List Ru}{nk n7 n5:Nat}{B:bf}(hul:U.length=c.b.length) (hrl:(R.length:Int)=c.regs) (hps:B.ps=[23]) (hlt:∀p,p∈[23]->p<B.nt) (he:B.env=LEnv.get [(3,.ptr n5 0 0),(4,.ptr n7 0 0)]) (hAs:tp PP gJ B.nt B.assign) (hBs:tp PP gI B.nt B.body) :
  Yl nk (fun r=>uD c.b.length c.regs r/\r∈rs) (fun done Lc=>Lc=Qr nk n7 n5 .ready B 0 (.sl (bL U)) (.sl (bL R))/\∀r∈done,jg U R r=true) (fun Lc=>Lc=Qr nk n7 n5 (.done .ret) B 100 (.sl (bL U)) (.sl (bL R))/\∃r,r∈rs/\jg U R r=false):=by
 rintro done ru Lc h N nd KH ⟨rfl,hdone⟩-⟨hok,hrs⟩ q hT hF
 have V0:=q.vs
 rw[FL]
 refine⟨⟨_,_,V0.get 0 _ _ rfl⟩,?_⟩
 refine lz (e:=[(3,.ptr n5 0 0),(4,.ptr n7 0 0)]) (V0.get 0 _ _ rfl) hps hAs hBs (by simp) hlt rfl he ?_
 rw[show([Arg.c (ru.e nd)].map fun x=>x.get [])=[ru.e nd] from rfl, <- qz]
 unfold lZ
 refine q.alloc fun n1 h1 q1=>?_
 refine q1.xt (cs':=[.bool ru.of.uO,.int .i64 ru.of.n,nd,.bool ru.never]) rfl rfl (fun x hx=>Ru.one q.one x hx) fun h2 q2=>?_
 refine⟨rfl,q2.vs.get 1 _ _ rfl,?_⟩
 have q3:=q2.bO 1 rfl (s':=.lp .busy B) (by simp)
 simp only[Qr,List.set_cons_succ,List.set_cons_zero,List.cons_append,List.nil_append]at q3
 rw[q3.vs.re 3 (s:=2) rfl rfl,q3.vs.re 0 (s:=4) rfl rfl,show D.agg [.bool ru.of.uO,.int .i64 ru.of.n,nd,.bool ru.never]=ru.e nd from rfl]
 obtain⟨X,V3,wn⟩:=q3.fw
 refine Kc (U:=U) (R:=R) V3 (Or.inl rfl) (Or.inl rfl) (by rw[hul,hrl];exact hok) wn fun h4 V4=>?_
 have V4:=V4.vV
 rw[ow]
 cases hk:jg U R ru
 ·rw[Bool.not_false,ai]
  refine V4.Fj 2 rfl rfl rfl fun h5 V5=>?_
  simp only[List.set_cons_succ,List.set_cons_zero]at V5
  refine⟨V5.get 1 _ _ rfl,?_⟩
  exact hF _ _ ⟨rfl,ru,hrs,hk⟩ (V5.bO 1 rfl (s':=.lp (.done .ret) B) (by simp)).pop
 ·rw[Bool.not_true,ah]
  refine⟨V4.get 1 _ _ rfl,?_⟩
  refine hT _ _ ⟨rfl,fun r hr=>?_⟩ (V4.bO 1 rfl (s':=.lp .ready B) (by simp)).pop
  rcases List.mem_append.1 hr with hr|hr
  ·exact hdone r hr
  ·simp at hr;subst hr;exact hk
theorem LU {c:Code}(hc:ja c){vU vR:D}{U R:List Bool}(wU:CD vU U) (wR:CD vR R):aQ PP aC [c.e,.agg [vU,vR]] (· = .int .i64 (if kB c U R then 0 else 100)):=by
 have hnb:=hc.g.nb
 have hr1:=hc.rg
 refine dE mw (av _ _ _) rfl (uz _ _ _) ?_
 unfold p6
 refine Vs.nil.box c.gg.one fun n3 h4 V4=>?_
 refine V4.box (fun x hx=>by simp at hx;rcases hx with rfl|rfl;exact wU.one;exact wR.one) fun n5 h6 V6=>?_
 refine V6.alloc fun n7 h8 V8=>?_
 rw[V8.fa 1 rfl,V8.fe 1 (j:=0+0) rfl rfl,wU.len,V8.fa 2 rfl,V8.fe 2 (j:=0+7) rfl rfl,eG,List.length_map,xq]
 have bad:∀(h51:Heap),Vs h51 [(n7,.box (.int .i64 100)),(n5,.box (.agg [vU,vR])),(n3,.box c.e)]->kB c U R=false->aa PP (.ld (.c (.ptr n7 0 0)) 1 false) h51 fun a52 _=>wL (· = .int .i64 (if kB c U R then 0 else 100)) a52 h51:=fun h51 V51 hb=>by
  rw[V51.yn 0 rfl rfl,il,hb];rfl
 by_cases hul:U.length=c.b.length
 ·rw[decide_eq_true (by omega)]
  simp only[Bool.not_true]
  simp only[↓gS]
  rw[V8.fa 1 rfl,V8.fe 1 (j:=0+1) rfl rfl,wR.len,V8.fa 2 rfl,V8.fe 2 (j:=0+2) rfl rfl,xq]
  by_cases hrl:(R.length:Int)=c.regs
  ·rw[decide_eq_true hrl]
   simp only[Bool.not_true]
   simp only[↓gS]
   have eU:=wU.sl (by omega)
   have eR:=wR.sl (by omega)
   subst eU;subst eR
   refine⟨fun _ h'=>Vs h' [(n7,.box (.int .i64 0)),(n5,.box (.agg [.sl (bL U),.sl (bL R)])),(n3,.box c.e)]/\kB c U R=true,?_,?_⟩
   ·rintro f h55 ⟨V55,hb⟩
    refine V55.Fj 0 rfl rfl rfl fun h57 V57=>?_
    simp only[List.set_cons_zero]at V57
    rw[V57.yn 0 rfl rfl,il,hb];rfl
   rw[V8.re 2 (s:=8) rfl rfl]
   refine Gh hc V8 fun W m2 pr pd dv h62 rm hD V62=>?_
   refine⟨rfl,AU,fun nk B ht he hps _ hlt hAs hBs=>?_⟩
   have V63:=V62.push ht.free (s:=.lp .ready B) (by simp)
   have V64:Vs (aq h62 nk (.lp .ready B)) (Qr nk n7 n5 .ready B 0 (.sl (bL U)) (.sl (bL R))++(W++[(n3,.box c.e)])):=by
    refine V63.perm (.cons _ ?_)
    exact List.perm_append_comm_assoc W [_,_] [_]
   refine A3 (R:=nK c) (Dp:=xj c) (HG (rs:=oA c) hul hrl hps hlt he hAs hBs) hc ⟨rfl,fun r hr=>(by cases hr)⟩ V64 (by simp[rm.h2]) (by simp[rm.hr]) vj (by simp[rm.hd]) (rm.wd.mono fun x hx=>by simp[hx]) Db (BM hc.g) (fun Lc' h' hS V'=>?_) fun Lc' h' hS V'=>?_
   ·obtain⟨rfl,hk⟩:=hS
    have hget:h' nk=.lp .ready B:=V'.get 0 _ _ rfl
    show dI _ _ _ _ _
    unfold dI
    rw[hget]
    simp only[ae,true_and]
    have V9:=(V'.bO 0 rfl (s':=.dead) (by simp)).pop
    refine⟨V9.sub (.cons_cons _ (.cons_cons _ (List.sublist_append_right W _))),?_⟩
    unfold kB
    rw[decide_eq_true hul,decide_eq_true hrl]
    simp only[Bool.true_and,List.all_eq_true]
    exact hk
   ·obtain⟨rfl,r,hr,hk⟩:=hS
    have hget:h' nk=.lp (.done .ret) B:=V'.get 0 _ _ rfl
    show dI _ _ _ _ _
    unfold dI
    rw[hget]
    have V9:=(V'.bO 0 rfl (s':=.dead) (by simp)).pop
    refine Or.inl ⟨trivial,bad _ (V9.sub (.cons_cons _ (.cons_cons _ (List.sublist_append_right W _)))) ?_⟩
    cases hb:kB c U R
    ·rfl
    ·exfalso
     unfold kB at hb
     simp only[Bool.and_eq_true,List.all_eq_true]at hb
     have:=hb.2 r hr
     rw[hk]at this;cases this
  ·rw[decide_eq_false hrl]
   simp only[Bool.not_false]
   simp only[↓gS]
   refine V8.Fj 0 rfl rfl rfl fun h51 V51=>?_
   simp only[List.set_cons_zero]at V51
   exact bad h51 V51 (by unfold kB;rw[decide_eq_false hrl];simp)
 ·rw[decide_eq_false (by omega)]
  simp only[Bool.not_false]
  simp only[↓gS]
  refine V8.Fj 0 rfl rfl rfl fun h51 V51=>?_
  simp only[List.set_cons_zero]at V51
  exact bad h51 V51 (by unfold kB;rw[decide_eq_false hul];simp)
end
end Go.Am
namespace Go.Am
open Go Go.Proofs
theorem BW.Kp {h:Heap}{L:LSq}{v:D}{T:List Bool}(V:Vs h L) (w:BW L v T){K:List D->Prop}(hk:K (bL T)):velems 1 v h K:=by
 rcases w with rfl|⟨m,rfl,hm⟩
 ·exact⟨fun e he=>by simp only[bL,List.mem_map]at he;obtain⟨k,-,rfl⟩:=he;rfl,hk⟩
 ·exact⟨bL T,by rw[V.mem hm];rfl,by simp[bL],by rw[List.drop_zero,List.take_of_length_le (by simp[bL])];exact hk⟩
theorem lI {T:List Bool}:∀y,y∈bL T->aH y:=fun y hy=>by
 simp only[bL,List.mem_map]at hy;obtain⟨k,-,rfl⟩:=hy;intro x hx;simp[D.cells]at hx;subst hx;rfl
theorem dA {T:List Bool}:(bL T).length=T.length:=by simp[bL]
theorem Gi {h:Heap}{L:LSq}{KH:HKq}{vU vR:D}{U R:List Bool}(V:Vs h L) (wU:BW L vU U) (wR:BW L vR R) (hU:U.length<=1000000) (hR:R.length<=1000000)
  (hK:∀nU nR h',Vs h' ((nR,.arr 1 (bL R))::(nU,.arr 1 (bL U))::L)->KH (.agg [.ms nU 0 U.length,.ms nR 0 R.length]) h'):af PP lj [.agg [vU,vR]] h KH:=by
 refine aR x9 (av _ _ _) rfl (x5 _ _) ?_
 unfold wg
 refine V.box (fun x hx=>by simp at hx;rcases hx with rfl|rfl;exact wU.one;exact wR.one) fun n2 h3 V3=>?_
 refine V3.alloc fun n4 h5 V5=>?_
 rw[V5.o0 1 rfl,V5.ly 1 (j:=0+0) rfl rfl,V5.o0 1 rfl,V5.ly 1 (j:=0+1) rfl rfl]
 refine V5.Dz fun n10 h11 V11=>?_
 refine⟨by simp only[↓V11.o0 2 rfl,↓V11.ly 2 (j:=0+0) rfl rfl,↓V11.ly 2 (j:=0+1) rfl rfl,ae,and_self],?_⟩
 have s1:∀{y z w:Nat×Slot} x,x∈L->x∈y::z::w::L:=fun x hx=>by simp[hx]
 have s2:∀{y z w v:Nat×Slot} x,x∈L->x∈y::z::w::v::L:=fun x hx=>by simp[hx]
 refine V11.vW (els:=[]) (ys:=bL U) (fun {K} hk=>(wU.mono s1).Kp V11 hk) lI (by rw[dA];simp;omega) (by rw[dA];simp;omega) fun nU h17 V17=>?_
 simp only[List.nil_append,List.length_nil,Nat.zero_add,dA]at V17 ⊢
 refine⟨by simp only[↓V17.o0 2 rfl,↓V17.ly 2 (j:=1) rfl rfl,ae,and_self],?_⟩
 refine V17.Dz fun n20 h21 V21=>?_
 refine⟨by simp only[↓V21.o0 3 rfl,↓V21.ly 3 (j:=0) rfl rfl,↓V21.ly 3 (j:=1) rfl rfl,ae,and_self],?_⟩
 refine V21.vW (els:=[]) (ys:=bL R) (fun {K} hk=>(wR.mono s2).Kp V21 hk) lI (by rw[dA];simp;omega) (by rw[dA];simp;omega) fun nR h27 V27=>?_
 simp only[List.nil_append,List.length_nil,Nat.zero_add,dA]at V27 ⊢
 rw[iI rfl]
 refine V27.xt 2 (cs':=[.ms nU 0 U.length,.ms nR 0 R.length]) rfl rfl rfl (fun x hx=>by simp at hx;rcases hx with rfl|rfl<;>rfl) fun h30 V30=>?_
 simp only[List.set_cons_succ,List.set_cons_zero]at V30
 rw[V30.re 2 (s:=2) rfl rfl]
 exact hK nU nR h30 (V30.sub (.cons_cons _ (.cons_cons _ (.cons _ (.cons _ (.refl _))))))
end Go.Am
namespace Go.Am
open Go Go.Proofs
def Lu (p:Nat×Block):D:=.agg (.ms p.1 0 p.2.i.length::p.2.t.cs)
def OM (p:Nat×Block):Nat×Slot:=(p.1,.arr 15 (p.2.i.map aP.e))
section
variable {h:Heap}{L:LSq}{KH:HKq}
end
end Go.Am
namespace Go.Am
open Go Go.Proofs
theorem JX {T:List Bool}{h:Heap}{K:D->Prop}:aS (.sl (bL T)) h K=K (.int .i64 (T.length:Int)):=by rw[eG];simp[bL]
def OB (h:Heap) (nB:Nat) (A:List (Nat×Block)) (F:LSq):Prop:=Vs h ((nB,.arr 14 (A.map Lu))::(A.map OM++F))
section
variable {h:Heap}{F:LSq}{KH:HKq}{K:D->Prop}{nB b w k:Nat}{A:List (Nat×Block)}{B:Block}{x:aP}
theorem OB.mem (V:OB h nB A F){y:Nat×Slot}(hy:y∈F):y∈(nB,Slot.arr 14 (A.map Lu))::(A.map OM++F):=by simp[hy]
theorem OB.vs (V:OB h nB A F):Vs h ((nB,.arr 14 (A.map Lu))::(A.map OM++F)):=V
theorem OB.hB (V:OB h nB A F):h nB=.arr 14 (A.map Lu):=Vs.get V 0 _ _ rfl
theorem OB.len (V:OB h nB A F){n:Nat}:aS (.ms nB 0 n) h K=K (.int .i64 (n:Int)):=by
 rw[bo,V.hB];apply propext;exact⟨fun hh=>hh.2,fun hk=>⟨rfl,hk⟩⟩
theorem OB.ia (V:OB h nB A F){n:Nat}(hb:b<n):aa PP (.iadd (.c (.ms nB 0 n)) (.c (.int .i64 (b:Int))) 14) h KH=KH (.ptr nB b 0) h:=by
 rw[Vs.ia V 0 rfl (by omega) (by omega),Int.toNat_natCast]
theorem OB.Hc (V:OB h nB A F){n:Nat}(hb:b<n):ab PP (.iadd (.c (.ms nB 0 n)) (.c (.int .i64 (b:Int))) 14) h K=K (.ptr nB b 0):=by rw[nZ,V.ia hb]
theorem OB.fa (V:OB h nB A F){o:Nat}:aa PP (.fadd (.c (.ptr nB b 0)) o) h KH=KH (.ptr nB b o) h:=by
 rw[jy,V.hB];apply propext;exact⟨fun hh=>by simpa using hh.2,fun hk=>⟨rfl,by simpa using hk⟩⟩
theorem OB.o0 (V:OB h nB A F){o:Nat}:ab PP (.fadd (.c (.ptr nB b 0)) o) h K=K (.ptr nB b o):=V.fa (KH:=fun d _=>K d)
theorem OB.el (hA:A[b]?=some (w,B)):(A.map Lu)[b]?=some (Lu (w,B)):=by rw[List.getElem?_map,hA];rfl
end
structure CO (c:Code) (nA nL nB:Nat) (sA sL sB:Slot):Prop where
 a:sA.row=some (4,c.arrays.map qJ.e)
 l:sL.row=some (3,c.loops.map Loop.e)
 b:sB.row=some (14,c.b.map Block.e)
end Go.Am
namespace Go.Am
open Go Go.Proofs
theorem zS.path {c:Code}{O O':List Nat}{at' U:List Int}(hc:ec c) (D:zS c O O' at' U){x:Nat}:x∈O↔Path (edg c) 0 x:=by
 have hnb:=hc.nb
 obtain⟨S,hv⟩:=D.b.ord
 have nd:O.Nodup:=by
  obtain⟨m,h1,e⟩:=hv
  obtain⟨N,e2,F⟩:=h1.spec (n:=c.b.length) (fun p b=>pY (lV hc)) (fun x=>pY (lV hc)) (by simp)
  have e3:O=0::N:=by
   have:=congrArg Prod.snd e
   simp only at this
   rw[this,e2];simp
  rw[e3]
  refine List.nodup_cons.2 ⟨fun h=>?_,F.nd⟩
  have h2:=(F.new 0 h).1
  simp only at h2
  rw[bZ (by simp;omega)]at h2
  simp at h2
 have G:=Ak.gr (at':=(List.range c.b.length).map fun x=>if x∈O then((sY O x:Nat):Int) else -1) (lV hc) lx (by omega) ⟨S,hv⟩ (by simp) (fun i x hx=>by
  have hxO:=List.mem_of_getElem? hx
  have hxN:=D.b.lt x hxO
  rw[List.getElem?_map,List.getElem?_range hxN]
  simp[hxO,wZ nd hx]) (fun x hx hn=>by
  rw[List.getElem?_map,List.getElem?_range hx]
  simp[hn])
 have e:gL (mT c)=edg c:=funext fun b=>zh
 rw[G.path,e]
inductive Qe (c:Code):Ru->Prop
 | no {b:Nat}(hb:b<c.b.length) (hp:¬Path (edg c) 0 b):Qe c (Ny b)
 | dep {b a:Nat}{A:Block}(hb:b<c.b.length) (hp:Path (edg c) 0 b) (hd:Qo c a b) (hA:c.b[a]?=some A):Qe c (BK b a A.t)
 | inst {b:Nat}{B:Block}{x:aP}(hB:c.b[b]?=some B) (hp:Path (edg c) 0 b) (hx:x∈B.i) (h0:0<=du x.d):Qe c (tA b x)
 | fin {b:Nat}{B:Block}(hB:c.b[b]?=some B) (hp:Path (edg c) 0 b) (h0:0<=du B.t.d):Qe c ⟨yO (du B.t.d),[],true⟩
theorem yh {c:Code}{r:Ru}:r∈oA c↔Qe c r:=by
 constructor
 ·intro hr
  simp only[oA,uc,fP,List.mem_flatMap,List.mem_range]at hr
  obtain⟨b,hb,hr⟩:=hr
  obtain⟨B,hB⟩:∃B,c.b[b]?=some B:=⟨c.b[b],List.getElem?_eq_getElem hb⟩
  unfold rM at hr
  cases hp:hasB (nK c) b
  ·rw[hp]at hr
   simp at hr;subst hr
   exact .no hb fun k=>by rw[(gV hb).2 k]at hp;cases hp
  ·have hp':=(gV hb).1 hp
   rw[hp,if_pos rfl,pI hB]at hr
   rcases List.mem_append.1 hr with hr|hr
   ·rcases List.mem_append.1 hr with hr|hr
    ·simp only[gd,List.mem_map]at hr
     obtain⟨a,ha,rfl⟩:=hr
     rw[BD hb]at ha
     obtain⟨haN,hd⟩:=yl.1 ha
     obtain⟨A,hA⟩:∃A,c.b[a]?=some A:=⟨c.b[a],List.getElem?_eq_getElem haN⟩
     rw[pI hA]
     exact .dep hb hp' hd hA
    ·simp only[fR,List.mem_map,List.mem_filter,decide_eq_true_eq]at hr
     obtain⟨x,⟨hx,h0⟩,rfl⟩:=hr
     exact .inst hB hp' hx h0
   ·unfold zn at hr
    split at hr
    ·rename_i h0
     simp at hr;subst hr
     exact .fin hB hp' h0
    ·cases hr
 ·intro h
  have key:∀{b:Nat},b<c.b.length->r∈rM c (nK c) (xj c) b->r∈oA c:=fun hb hr=>List.mem_flatMap.2 ⟨_,List.mem_range.2 hb,hr⟩
  cases h with
  | @no b hb hp =>
   refine key hb ?_
   unfold rM
   have:hasB (nK c) b=false:=by
    cases h:hasB (nK c) b
    ·rfl
    ·exact absurd ((gV hb).1 h) hp
   rw[this];simp
  | @dep b a A hb hp hd hA =>
   refine key hb ?_
   unfold rM
   rw[(gV hb).2 hp,if_pos rfl]
   refine List.mem_append_left _ (List.mem_append_left _ ?_)
   simp only[gd,List.mem_map]
   refine⟨a,?_,by rw[pI hA]⟩
   rw[BD hb]
   exact yl.2 ⟨(List.getElem?_eq_some_iff.1 hA).1,hd⟩
  | @inst b B x hB hp hx h0 =>
   have hb:=(List.getElem?_eq_some_iff.1 hB).1
   refine key hb ?_
   unfold rM
   rw[(gV hb).2 hp,if_pos rfl,pI hB]
   refine List.mem_append_left _ (List.mem_append_right _ ?_)
   exact List.mem_map.2 ⟨x,List.mem_filter.2 ⟨hx,by simpa using h0⟩,rfl⟩
  | @fin b B hB hp h0 =>
   have hb:=(List.getElem?_eq_some_iff.1 hB).1
   refine key hb ?_
   unfold rM
   rw[(gV hb).2 hp,if_pos rfl,pI hB]
   refine List.mem_append_right _ ?_
   unfold zn;rw[if_pos h0];simp
theorem OK {c:Code}{b:Nat}(hb:b<c.b.length) (h:Gf (oA c) (Af b)):Path (edg c) 0 b:=by
 by_cases hp:Path (edg c) 0 b
 ·exact hp
 ·obtain⟨s,hs,hb'⟩:=h
  have:=(hs _ (yh.2 (.no hb hp)) hb').1
  cases this
end Go.Am
