/- What the functions of this chapter give, on plain data. No condition. -/
import Derived.Test.YtjhjndjghaagiaaP1
set_option linter.unnecessarySimpa false
set_option linter.defProp false
set_option linter.unusedSectionVars false
set_option linter.unusedSimpArgs false
set_option linter.unusedVariables false
namespace Go.Am
open Go Go.Proofs Go.RowKit Go.Sort
theorem Au {ks:List Int}{cur:Array Value}{i:Nat}(hi:i<ks.length) (hs:ks.length<=cur.size):(putCells encI 0 ks.toArray cur).getD i Go.undef=.int .i64 (ks[i]'hi):=by
 have h1:(putCells encI 0 ks.toArray cur)[i]?=some (encI (ks[i]'hi)):=by
  unfold putCells
  rw[Array.getElem?_mapIdx]
  rw[Array.getElem?_eq_getElem (by omega)]
  simp[hi]
 simp[Array.getD_eq_getD_getElem?,h1]
theorem nX {ks:List Int}{cur:Array Value}:(putCells encI 0 ks.toArray cur).size=cur.size:=by simp[putCells]
theorem Eu {c:Ctx}{w w':World}(hp:c.hp=w.heap) (hr:an c){m g:Nat}{ks ks':List Int}{cur:Array Value}{ty:TypeId}(hm:c.h m=.arr 1 (eH ks)) (hρ:c.ρ m=some g) (hg:c.hp[g]?=some (Obj.cells cur ty (0,0))) (hsz:ks.length<=cur.size) (hl:ks'.length=ks.length){n:Nat}{os:Array Obj}
  (hw:w'=grow (putRow encI (Sort.ahead w n) g 0 ks'.toArray) os):c.le ⟨c.ρ,c.X,aq c.h m (.arr 1 (eH ks')),w'.heap⟩/\an ⟨c.ρ,c.X,aq c.h m (.arr 1 (eH ks')),w'.heap⟩/\WS w w'/\w'.heap[g]?=some (Obj.cells (putCells encI 0 ks'.toArray cur) ty (0,0)):=by
 have hgl:g<c.hp.size:=(Array.getElem?_eq_some_iff.1 hg).1
 have hheap:w'.heap=(w.heap.modify g (onCells (putCells encI 0 ks'.toArray)))++os:=by rw[hw];rfl
 have hsize:c.hp.size<=w'.heap.size:=by rw[hheap,hp];simp
 have hoth:∀k,k<c.hp.size->k≠g->w'.heap[k]?=c.hp[k]?:=fun k hk hne=>by
  rw[hheap,Array.getElem?_append_left (by rw[Array.size_modify, <- hp];exact hk),Array.getElem?_modify,if_neg (fun e=>hne e.symm),hp]
 have hat:w'.heap[g]?=some (Obj.cells (putCells encI 0 ks'.toArray cur) ty (0,0)):=by
  rw[hheap,Array.getElem?_append_left (by rw[Array.size_modify, <- hp];exact hgl),Array.getElem?_modify,if_pos rfl, <- hp,hg];rfl
 have st:gD c ⟨c.ρ,c.X,aq c.h m (.arr 1 (eH ks')),w'.heap⟩ m m g:={
  X:=rfl
  hother:=fun k hk _=>af _ _ hk
  ρother:=fun _ _=>rfl
  hn:=Or.inl rfl
  hm:=fun h=>absurd rfl h
  mine:=by show(aq c.h m _ m).mine;rw[aj];trivial
  ρn:=hρ
  tn:=by show Trans (c.h m) (aq c.h m _ m);rw[aj,hm];exact .arrArr _ _ _ (by rw[lQ,lQ];omega)
  GJ:=fun _=>hρ
  size:=hsize
  hp:=hoth
  shape:=fun cur' ty' fr h=>by rw[hg]at h;cases h;exact⟨_,hat,nX⟩
  loop:=fun r h=>by rw[hg]at h;cases h
  from':=Or.inr ⟨by rw[hm];trivial,hρ⟩ }
 refine⟨st.le,st.heap hr ?_,?_,hat⟩
 ·show cj _ m (aq c.h m _ m)
  rw[aj]
  have hcell:∀i j d,aD (eH ks') i j=some d->j=0/\∃(k:Int) (hi:i<ks'.length),ks'[i]=k/\d=.int .i64 k:=by
   intro i j d hd
   simp only[aD,Option.bind_eq_some_iff,eH,List.getElem?_map,Option.map_eq_some_iff]at hd
   obtain⟨x,⟨k,hk,rfl⟩,hx⟩:=hd
   obtain⟨hi,hk⟩:=List.getElem?_eq_some_iff.1 hk
   cases j with
   | zero=>simp[D.cells]at hx;exact⟨rfl,k,hi,hk,hx.symm⟩
   | succ j=>simp[D.cells]at hx
  refine⟨Nat.one_pos,fun e he=>?_,fun i j d hd=>?_,Or.inr ⟨g,_,ty,hρ,hat,by rw[lQ,nX];omega,fun i j d hd=>?_⟩⟩
  ·simp only[eH,List.mem_map]at he;obtain⟨k,-,rfl⟩:=he;rfl
  ·obtain⟨-,k,-,-,rfl⟩:=hcell i j d hd;rfl
  ·obtain⟨rfl,k,hi,hk,rfl⟩:=hcell i j d hd
   rw[Nat.mul_one,Nat.add_zero,Au hi (by omega),hk]
   exact .int _ _
 ·rw[hw];exact⟨rfl,rfl,rfl⟩
theorem Ew {c:Ctx}{w:World}(hp:c.hp=w.heap) (hr:an c){m:Nat}{ks:List Int}(hm:c.h m=.arr 1 (eH ks)) (h0:1<=ks.length){va:Value}(hv:ar c (.ms m 0 ks.length) va) :
  ∃(g cap:Nat) (cur:Array Value) (ty:TypeId),va=.slice (some ⟨g,0,none⟩) ks.length cap/\c.ρ m=some g/\c.hp[g]?=some (Obj.cells cur ty (0,0))/\ks.length<=cur.size/\ks.length<=cap/\cap<=maxLen/\cap<=cur.size/\Holds encI w g 0 ks.toArray:=by
 have hsl:=hr.slot m
 rw[hm]at hsl
 obtain⟨-,-,-,hrow⟩:=hsl
 rcases hrow with⟨-,he⟩|⟨g,cur,ty,q1,q2,q3,q4⟩
 ·have:(eH ks).length=0:=by rw[he];rfl
  rw[lQ]at this;omega
 generalize hn:ks.length=len at hv
 cases hv with
 | msDead _ _ _ _ _ _ hd=>rw[hm]at hd;cases hd
 | msNil _ _ els hrow hρ=>omega
 | msE _ _ _ _ els hrow=>omega
 | ms _ _ _ g' esz' cap els' cur' ty' fr hrow' hρ hl hg hcap hc hmax =>
  rw[hm]at hrow'
  simp[Slot.row]at hrow'
  obtain⟨rfl,rfl⟩:=hrow'
  rw[hρ]at q1;cases q1
  rw[q2]at hg;cases hg
  rw[lQ]at q3
  refine⟨g,cap,cur,ty,by simp,hρ,q2,by omega,hc,hmax,by omega,fun j hj=>?_⟩
  have hj':j<ks.length:=by simpa using hj
  have hc2:j<cur.size:=by omega
  refine⟨?_,?_⟩
  ·rw[oD, <- hp,Nat.zero_add,dT q2 hc2]
   have:=q4 j 0 (.int .i64 ks[j]) (by simp[aD,eH,hj',D.cells])
   rw[Nat.mul_one,Nat.add_zero]at this
   generalize cur.getD j Go.undef=x at this
   cases this
   simp[hj']
  ·simp[World.frozen?, <- hp,q2]
theorem EF {vals:Array Value}{d:D}{c:Ctx}(hs:vals.size=[d].length) (hrel:∀(i:Nat) (d':D),[d][i]?=some d'->ar c d' (vals.getD i Go.undef)):∃va,vals = #[va]/\ar c d va:=by
 obtain⟨l⟩:=vals
 match l,hs with
 | [x],_=>exact⟨x,rfl,hrel 0 _ rfl⟩
def mS (ks:List Int):List Int:=ks.mergeSort fun x y=>decide (x<=y)
theorem vW {ks:List Int}:(mS ks).length=ks.length:=by simp[mS]
theorem NK {h:Heap}{KH:HKq}{m:Nat}{ks:List Int}(hm:h m=.arr 1 (eH ks)) (h0:1<=ks.length) (hl:ks.length<=1000000) (hK:KH (.tup []) (aq h m (.arr 1 (eH (mS ks))))):ag PP bx [.ms m 0 ks.length] h KH:=by
 intro c w vals hh hp hr hs hrel
 subst hh
 obtain⟨va,rfl,r0⟩:=EF hs hrel
 obtain⟨g,cap,cur,ty,rfl,hρ,hg,h1,h2,h3,h4,hH⟩:=Ew hp hr hm h0 r0
 refine(AnyM.slices_Sort_int N5 g 0 cap ks w hH (by rw[<- hp];exact(Array.getElem?_eq_some_iff.1 hg).1) (by omega)).mono ?_
 rintro e w' ⟨rfl,n,os,hw⟩
 obtain⟨g1,g2,g3,-⟩:=Eu (ks':=mS ks) hp hr hm hρ hg h1 vW hw
 exact⟨_,.tup [],c.ρ,_,rfl,g1,g2,g3,.tup _ _ rfl (fun i d hd=>by simp at hd),hK⟩
def u7 (ks:List Int):List Int:=Lib.compact ks++List.replicate (ks.length-(Lib.compact ks).length) 0
theorem GA {h:Heap}{KH:HKq}{m:Nat}{ks:List Int}(hm:h m=.arr 1 (eH ks)) (h0:1<=ks.length) (hl:ks.length<=1000000) (hc:(Lib.compact ks).length<=ks.length) (hK:KH (.ms m 0 (Lib.compact ks).length) (aq h m (.arr 1 (eH (u7 ks))))):ag PP bm [.ms m 0 ks.length] h KH:=by
 intro c w vals hh hp hr hs hrel
 subst hh
 obtain⟨va,rfl,r0⟩:=EF hs hrel
 obtain⟨g,cap,cur,ty,rfl,hρ,hg,h1,h2,h3,h4,hH⟩:=Ew hp hr hm h0 r0
 refine(Any.slices_Compact_int O9 g 0 cap ks w hH (by omega) h2).mono ?_
 rintro e w' ⟨rfl,q,hw⟩
 have hlen:(u7 ks).length=ks.length:=by simp[u7];omega
 obtain⟨g1,g2,g3,g4⟩:=Eu (w':=w') (ks':=u7 ks) (n:=q) (os:= #[]) hp hr hm hρ hg h1 hlen (by rw[grow_empty,hw];rfl)
 refine⟨_,.ms m 0 (Lib.compact ks).length,c.ρ,_,rfl,g1,g2,g3,?_,hK⟩
 have:=ar.ms (c:=⟨c.ρ,c.X,aq c.h m (.arr 1 (eH (u7 ks))),w'.heap⟩) m 0 (Lib.compact ks).length g 1 cap (eH (u7 ks)) _ ty (0,0) (by show(aq c.h m _ m).row=_;rw[aj];rfl) hρ (by rw[lQ];omega) g4 (by rw[nX];omega) (by omega) h3
 simpa using this
end Go.Am
namespace Go.Am
open Go Go.Proofs Go.RowKit
theorem w8 {zs:List Int}:(Lib.compact zs).length<=zs.length:=by
 unfold Lib.compact Lib.compactUpTo
 rw[List.length_map]
 have:=List.length_filter_le (Lib.keeps zs.toArray) (List.range zs.length)
 simpa using this
theorem uY {zs:List Int}{j:Nat}(h:j<zs.length):(zs.toArray[j]!)=zs[j]:=by simp[h]
theorem Cf {zs:List Int}{x:Int}:x∈Lib.compact zs↔x∈zs:=by
 unfold Lib.compact Lib.compactUpTo
 simp only[List.mem_map,List.mem_filter,List.mem_range]
 constructor
 ·rintro⟨j,⟨hj,-⟩,rfl⟩
  rw[uY hj];exact List.getElem_mem _
 ·intro hx
  have:∀(j:Nat) (hj:j<zs.length),zs[j]=x->∃a,(a<zs.length/\Lib.keeps zs.toArray a=true)/\(zs.toArray[a]!)=x:=by
   intro j
   induction j with
   | zero=>intro hj e;exact⟨0,⟨hj,by simp[Lib.keeps]⟩,by rw[uY hj,e]⟩
   | succ j ih =>
    intro hj e
    by_cases h:zs[j]=x
    ·exact ih (by omega) h
    ·refine⟨j+1,⟨hj,?_⟩,by rw[uY hj,e]⟩
     unfold Lib.keeps
     rw[decide_eq_true_eq,Nat.add_sub_cancel,uY hj,uY (by omega),e]
     exact Or.inr fun q=>h q.symm
  obtain⟨j,hj,e⟩:=List.mem_iff_getElem.1 hx
  exact this j hj e
theorem Cg {zs:List Int}(h:zs.Pairwise (· <= ·)):(Lib.compact zs).Pairwise (· < ·):=by
 unfold Lib.compact Lib.compactUpTo
 rw[List.pairwise_map]
 have h1:((List.range zs.length).filter (Lib.keeps zs.toArray)).Pairwise (· < ·):=List.Pairwise.filter _ List.pairwise_lt_range
 refine List.Pairwise.imp_of_mem ?_ h1
 intro a b ha hb hab
 simp only[List.mem_filter,List.mem_range]at ha hb
 rw[uY ha.1,uY hb.1]
 have hk:=hb.2
 unfold Lib.keeps at hk
 rw[decide_eq_true_eq,uY hb.1,uY (by omega)]at hk
 have hne:=hk.resolve_left (by omega)
 have hp:=List.pairwise_iff_getElem.1 h
 have h2:zs[b-1]'(by omega)<=zs[b]:=hp (b-1) b (by omega) hb.1 (by omega)
 have h3:zs[a]<=zs[b-1]'(by omega):=by
  by_cases e:a=b-1
  ·subst e;exact Int.le_refl _
  ·exact hp a (b-1) ha.1 (by omega) (by omega)
 have:zs[b-1]'(by omega)<zs[b]:=by
  rcases Int.lt_or_eq_of_le h2 with h|h
  ·exact h
  ·exact absurd h.symm hne
 exact Int.lt_of_le_of_lt h3 this
theorem Dd {ks:List Int}:(mS ks).Perm ks:=List.mergeSort_perm _ _
theorem He {ks:List Int}:(mS ks).Pairwise (· <= ·):=by
 have:=List.pairwise_mergeSort (le:=fun x y:Int=>decide (x<=y)) (fun a b c h1 h2=>by simp at h1 h2 ⊢;omega) (fun a b=>by simp;omega) ks
 exact this.imp fun h=>by simpa using h
def Df (ks:List Int):List Int:=Lib.compact (mS ks)
theorem Hi {ks:List Int}{x:Int}:x∈Df ks↔x∈ks:=by rw[Df,Cf,Dd.mem_iff]
theorem Hk {ks:List Int}:(Df ks).Pairwise (· < ·):=Cg He
theorem Hj {ks:List Int}:(Df ks).length<=ks.length:=Nat.le_trans w8 (by rw[vW];exact Nat.le_refl _)
end Go.Am
namespace Go.Am
open Go Go.Proofs
def WL (nk pb pu pl nU n:Nat) (s:LSt) (B:bk) (cur:Nat) (lv:D) (M:LSq):LSq:=(nk,.lp s B)::(pb,.box (nD cur))::(pu,.box (.ms nU 0 n))::(pl,.box lv)::M
section
variable {h:Heap}{M:LSq}{nk pb pu pl nU n pUv pA iv iU iA cur a w:Nat}{B:bk}{lv:D}{T:List Nat}{U:List Int}{K:HKq}
theorem Hz (hv:M[iv]?=some (pUv,.box (.ms nU 0 n))) (hU:M[iU]?=some (nU,.arr 1 (eH U))) (hA:M[iA]?=some (pA,.box (nD a))) (hUn:U.length=n) (hw:U[a]?=some (w:Int)) (hT:T.length<=1000000) (q:QD h (WL nk pb pu pl nU n .ready B cur lv M) lv (bT T))
  {z1 z3 z4 z24 z25 z26 z47 z48 z49:D}(h1:cur=w->∀h',QD h' (WL nk pb pu pl nU n (.done (.exit 4)) B cur lv M) lv (bT T)->K (.bool false) h') (h2:cur≠w->∀h' lv',QD h' (WL nk pb pu pl nU n .ready B cur lv' M) lv' (bT (T++[cur]))->K (.bool true) h') :
  jZ nk B (nD cur) z1 z3 z4 (.ptr pUv 0 0) (.ptr pA 0 0) (.ptr pl 0 0) z24 z25 z26 z47 z48 z49 h K:=by
 unfold jZ
 have V:=q.vs
 refine⟨rfl,V.get 0 _ _ rfl,?_⟩
 have q1:QD (aq h nk (.lp .busy B)) (WL nk pb pu pl nU n .busy B cur lv M) lv (bT T):=q.b6 0 rfl (by simp)
 have V1:=q1.vs
 have ix:∀{s:LSt}{lv:D}{i:Nat}{x:Nat×Slot},M[i]?=some x->(WL nk pb pu pl nU n s B cur lv M)[i+4]?=some x:=fun hi=>by simpa[WL] using hi
 have ha:=(List.getElem?_eq_some_iff.1 hw).1
 rw[V1.y8 _ (ix hv) rfl,V1.y8 _ (ix hA) rfl,nD,V1.ia _ (ix hU) (by omega) (by omega),Int.toNat_natCast,V1.y7 _ (ix hU) (kn hw) rfl,nD,cU]
 by_cases hc:cur=w
 ·rw[decide_eq_true (by omega),ai]
  refine⟨V1.get 0 _ _ rfl,h1 hc _ ?_⟩
  exact q1.b6 0 rfl (by simp)
 ·rw[decide_eq_false (by omega),ah]
  have hlo:lv.one=true:=by
   rcases q1 with⟨rfl,-,-⟩|⟨m,rfl,-⟩<;>rfl
  rw[V1.y8 3 rfl hlo]
  refine q1.push aX rfl (by rw[bn];omega) (by rw[bn];omega) fun lv' h2' q2=>?_
  have e2:bT T++[nD cur]=bT (T++[cur]):=by simp[bT]
  have e3:bT T++[D.int .i64 (cur:Int)]=bT (T++[cur]):=by simp[bT,nD]
  rw[e3]at q2
  rcases q2 with⟨-,h0,-⟩|⟨m,rfl,V2⟩
  ·simp[bT]at h0
  refine V2.Jk 4 rfl hlo rfl fun h3 V3=>?_
  simp only[WL,List.set_cons_succ,List.set_cons_zero]at V3
  refine⟨V3.get 1 _ _ rfl,h2 hc _ (.ms m 0 (bT (T++[cur])).length) ?_⟩
  have q3:QD h3 (WL nk pb pu pl nU n .busy B cur (.ms m 0 (bT (T++[cur])).length) M) (.ms m 0 (bT (T++[cur])).length) (bT (T++[cur])):=Or.inr ⟨m,rfl,V3⟩
  exact q3.b6 0 rfl (by simp)
end
inductive Jf (r:Nat) (up:Nat->Option Nat) (w:Nat):Nat->List Nat->Prop
 | stop:Jf r up w w []
 | top {b:Nat}(h:b≠w) (hu:up b=some b):Jf r up w b [b]
 | step {b y:Nat}{l:List Nat}(h:b≠w) (hy:up b=some y) (hb:y≠b) (k:Jf r up w y l):Jf r up w b (b::l)
section
variable {h:Heap}{M:LSq}{nk pb pu pl nU n pUv pA iv iU iA a w r:Nat}{U:List Int}{O:List Nat}{B:bk}
theorem Jr {P:Program}{A:(D->Prop)->Prop}{K:D->Prop}:aR (.bool false) true A K=K gU:=by
 rw[iK];simp
theorem Mb {P:Program}{A:(D->Prop)->Prop}{K:D->Prop}:aR (.bool true) true A K=A K:=by
 rw[iK];simp
theorem Ns:cE PP fA=true:=by kernel_rfl
theorem ND (hv:M[iv]?=some (pUv,.box (.ms nU 0 n))) (hU:M[iU]?=some (nU,.arr 1 (eH U))) (hA:M[iA]?=some (pA,.box (nD a))) (hUn:U.length=n) (hn:n<=1000) (hw:U[a]?=some (w:Int)) (T:Tr r (sD O) (· ∈ O) (upF U)) (hr0:sD O r=0)
  {to:Nat}(hto:upF U to≠none) {T0:List Nat}(hT:T0.length<=1000) (hOn:sD O to<=1000) {lv:D}(q:QD h (WL nk pb pu pl nU n .ready B to lv M) lv (bT T0)) {z1 z3 z4 z24 z25 z26 z47 z48 z49:D}{KH:HKq}
  (hps:B.ps=[56]) (hAs:vH PP ki B.nt B.assign) (hBs:vH PP kh B.nt B.body) (hlt:∀p,p∈[56]->p<B.nt) (he:B.env=LEnv.get [(1,z1),(3,z3),(4,z4),(5,.ptr pUv 0 0),(6,.ptr pA 0 0),(9,.ptr pl 0 0),(24,z24),(25,z25),(26,z26),(47,z47),(48,z48),(49,z49)])
  (hK:∀(s:LSt) (cur:Nat) (lv':D) (l:List Nat) (h':Heap),Jf r (upF U) w to l->(s=.ready\/s=.done (.exit 4))->QD h' (WL nk pb pu pl nU n s B cur lv' M) lv' (bT (T0++l))->KH (.tup []) h') :
  ag PP fA [.yld nk,.ptr pb 0 0,.ptr pu 0 0] h KH:=by
 refine aU nP (av _ _ _) rfl (vC _ _ _ _) ?_
 unfold rN ny
 refine⟨fun m q' h'=>∃(cur:Nat) (lv:D) (l:List Nat),q'=[]/\m=sD O cur/\upF U cur≠none/\l.length+sD O cur<=sD O to/\(∀l',Jf r (upF U) w cur l'->Jf r (upF U) w to (l++l'))/\QD h' (WL nk pb pu pl nU n .ready B cur lv M) lv (bT (T0++l)),_,
  ⟨to,lv,[],rfl,rfl,hto,by simp,fun l' k=>k,by rw[List.append_nil];exact q⟩,?_⟩
 rintro m f h7 ⟨cur,lv,l,-,hm,hcu,hl,hseg,q7⟩
 have V7:=q7.vs
 have ix:∀{s:LSt}{cur:Nat}{lv:D}{i:Nat}{x:Nat×Slot},M[i]?=some x->(WL nk pb pu pl nU n s B cur lv M)[i+4]?=some x:=fun hi=>by simpa[WL] using hi
 rw[V7.yG 1 rfl rfl,H5]
 refine⟨⟨_,_,V7.get 0 _ _ rfl⟩,?_⟩
 refine pn (e:=[(1,z1),(3,z3),(4,z4),(5,.ptr pUv 0 0),(6,.ptr pA 0 0),(9,.ptr pl 0 0),(24,z24),(25,z25),(26,z26),(47,z47),(48,z48),(49,z49)]) (V7.get 0 _ _ rfl) hps hAs hBs (by simp) hlt rfl he ?_
 rw[show([Arg.c (nD cur)].map fun x=>x.get [])=[nD cur] from rfl, <- sO]
 refine Hz hv hU hA hUn hw (by simp;omega) q7 (fun hc h' q'=>?_) fun hc h' lv' q'=>?_
 ·
  subst hc
  have hs:=hseg [] .stop
  rw[List.append_nil]at hs
  have hfin:=hK _ _ _ l h' hs (Or.inr rfl) q'
  simp only[Jr (P:=PP),qW,wx,Bool.false_eq_true,if_false]
  rw[ah]
  exact hfin
 ·obtain⟨y,hy⟩:∃y,upF U cur=some y:=by
   cases hy:upF U cur with
   | none=>exact absurd hy hcu
   | some y=>exact⟨y,rfl⟩
  have hyU:=ot hy
  have hcl:=(List.getElem?_eq_some_iff.1 hyU).1
  have V':=q'.vs
  simp only[Mb (P:=PP),↓V'.yG 2 rfl rfl,↓V'.yG 1 rfl rfl,nD,↓V'.C4 _ (ix hU) (show(0:Int)<=(cur:Int) by omega) (show(cur:Int)<(n:Int) by omega),Int.toNat_natCast,↓V'.DF _ (ix hU) (kn hyU) rfl,xX,qW,wx,if_true]
  by_cases hyc:y=cur
  ·subst hyc
   rw[decide_eq_true rfl]
   simp only[Bool.not_true]
   rw[ah]
   have hs:=hseg [y] (.top hc hy)
   rw[List.append_assoc]at q'
   exact hK _ _ _ (l++[y]) h' hs (Or.inl rfl) q'
  ·rw[decide_eq_false (by omega)]
   simp only[Bool.not_false]
   rw[ai,V'.y8 2 rfl rfl,V'.y8 1 rfl rfl,nD,V'.ia _ (ix hU) (by omega) (by omega),Int.toNat_natCast,V'.y7 _ (ix hU) (kn hyU) rfl]
   have hcr:cur≠r:=by
    rintro rfl
    have:=T.rt
    rw[hy]at this;cases this
    exact hyc rfl
   have hplt:=T.lt cur y hy hcr
   rcases q' with⟨-,h0,-⟩|⟨m',rfl,V2⟩
   ·simp[bT]at h0
   refine V2.Jk 2 rfl rfl rfl fun h45 V45=>?_
   simp only[WL,List.set_cons_succ,List.set_cons_zero]at V45
   simp only[ab,true_and]
   refine⟨sD O y,by omega,y,.ms m' 0 (bT ((T0++l)++[cur])).length,l++[cur],rfl,(T.nd cur y hy).2,by simp;omega,fun l' k=>?_,Or.inr ⟨m',by rw[List.append_assoc],?_⟩⟩
   ·rw[List.append_assoc];exact hseg _ (.step hc hy hyc k)
   ·rw[<- List.append_assoc];exact V45
end
end Go.Am
namespace Go.Am
open Go Go.Proofs
section
variable {r:Nat}{A:Nat->Nat}{node:Nat->Prop}{up:Nat->Option Nat}{w:Nat}
theorem Jf.mem (T:Tr r A node up){b:Nat}{l:List Nat}(s:Jf r up w b l) (hw:Ch r up b w){x:Nat}:x∈l↔Ch r up b x/\¬Ch r up w x:=by
 induction s with
 | stop=>simp
 | @top b h hu =>
  exfalso
  cases hw with
  | refl _=>exact h rfl
  | step hr hy k =>
   have:=T.lt b b hu hr
   omega
 | @step b y l h hy hb k ih =>
  have hbr:b≠r:=by
   rintro rfl
   have:=T.rt
   rw[hy]at this;cases this
   exact hb rfl
  have hyw:Ch r up y w:=by
   cases hw with
   | refl _=>exact absurd rfl h
   | step hr hy' k'=>rw[hy]at hy';cases hy';exact k'
  rw[List.mem_cons,ih hyw]
  constructor
  ·rintro (rfl|⟨h1,h2⟩)
   ·exact⟨.refl _,fun k'=>h (hw.D7 T k').symm⟩
   ·exact⟨.step hbr hy h1,h2⟩
  ·rintro⟨h1,h2⟩
   cases h1 with
   | refl _=>exact Or.inl rfl
   | step hr hy' k'=>rw[hy]at hy';cases hy';exact Or.inr ⟨k',h2⟩
theorem Jf.len (T:Tr r A node up){b:Nat}{l:List Nat}(s:Jf r up w b l):l.length<=A b+1:=by
 induction s with
 | stop=>simp
 | top h hu=>simp
 | @step b y l h hy hb k ih =>
  have hbr:b≠r:=by
   rintro rfl
   have:=T.rt
   rw[hy]at this;cases this
   exact hb rfl
  have:=T.lt b y hy hbr
  simp only[List.length_cons];omega
end
section
variable {h:Heap}{L:LSq}{v:D}{Bs:List (List Nat)}{KH:HKq}
theorem jN.split (q:jN h L v Bs):∃X,Vs h (X++L)/\LR X v Bs/\∀h' L',Vs h' (X++L')->jN h' L' v Bs:=by
 obtain⟨nB,els,W,nm,rfl,V,R⟩:=q
 refine⟨(nB,.arr 1 els)::W,V,Or.inr ⟨nB,els,rfl,by simp,R.len,fun b e l he hl=>?_⟩,fun h' L' V'=>⟨nB,els,W,nm,rfl,V',R⟩⟩
 refine⟨R.one e (List.mem_of_getElem? he),?_⟩
 rcases R.el b l hl with⟨h1,h2⟩|⟨-,h2,h3⟩
 ·rw[he]at h2;cases h2;exact Or.inl ⟨rfl,h1⟩
 ·rw[he]at h2;cases h2;exact Or.inr (Or.inr ⟨_,rfl,by simp[h3]⟩)
theorem jN.take (q:jN h L v Bs){b x:Nat}{l:List Nat}(hb:Bs[b]?=some l):∃(nB:Nat) (els:List D) (W0:LSq) (e:D),v=.ms nB 0 Bs.length/\els.length=Bs.length/\(∀y∈els,y.one=true)/\els[b]?=some e/\QD h ((nB,.arr 1 els)::(W0++L)) e (bT l) /\
  ∀h' m,Vs h' ((m,.arr 1 (bT (l++[x])))::(nB,.arr 1 (els.set b (.ms m 0 (l.length+1))))::(W0++L))->jN h' L v (Bs.set b (l++[x])):=by
 obtain⟨nB,els,W,nm,rfl,V,R⟩:=q
 have hbl:=(List.getElem?_eq_some_iff.1 hb).1
 obtain⟨e,he⟩:∃e,els[b]?=some e:=⟨els[b]'(by rw[R.len];exact hbl),List.getElem?_eq_getElem _⟩
 have hx:∃W0,QD h ((nB,.arr 1 els)::(W0++L)) e (bT l)/\∀(b':Nat) (l':List Nat),b'≠b->Bs[b']?=some l'->l'≠[]->(nm b',.arr 1 (bT l'))∈W0:=by
  rcases R.el b l hb with⟨h1,h2⟩|⟨h0,h2,h3⟩
  ·rw[he]at h2;cases h2;subst h1
   refine⟨W,Or.inl ⟨rfl,rfl,V⟩,fun b' l' hne hb' hl'=>?_⟩
   rcases R.el b' l' hb' with⟨g1,-⟩|⟨-,-,g3⟩
   ·exact absurd g1 hl'
   ·exact g3
  ·rw[he]at h2;cases h2
   obtain⟨S,T,rfl⟩:=List.append_of_mem h3
   refine⟨S++T,Or.inr ⟨nm b,by rw[bn],V.perm ?_⟩,fun b' l' hne hb' hl'=>?_⟩
   ·have:((nB,Slot.arr 1 els)::(S++(nm b,.arr 1 (bT l))::T++L)).Perm ((nm b,.arr 1 (bT l))::(nB,.arr 1 els)::(S++T++L)):=by
     refine(List.Perm.cons _ ?_).trans (.swap _ _ _)
     simp only[List.append_assoc,List.cons_append]
     exact List.perm_middle
    exact this
   ·rcases R.el b' l' hb' with⟨g1,-⟩|⟨-,-,g3⟩
    ·exact absurd g1 hl'
    ·have hnn:nm b'≠nm b:=fun e=>hne (R.inj b' b l' l hb' hb hl' h0 e)
     rcases List.mem_append.1 g3 with g|g
     ·exact List.mem_append_left _ g
     ·rcases List.mem_cons.1 g with g|g
      ·exact absurd (congrArg Prod.fst g) hnn
      ·exact List.mem_append_right _ g
 obtain⟨W0,Q,hoth⟩:=hx
 have hel:b<els.length:=by rw[R.len];exact hbl
 refine⟨nB,els,W0,e,rfl,R.len,R.one,he,Q,fun h' m V'=>⟨nB,els.set b (.ms m 0 (l.length+1)),(m,.arr 1 (bT (l++[x])))::W0,fun y=>if y=b then m else nm y,by simp,V'.swap,?_⟩⟩
 have hmW:∀s,(m,s)∉W0:=by
  intro s hs
  have:=(Vs.iff.1 V').2
  simp only[List.map_cons,List.nodup_cons,List.map_append,List.mem_cons,List.mem_append,not_or]at this
  exact this.1.2.1 (List.mem_map.2 ⟨(m,s),hs,rfl⟩)
 refine⟨by simp[R.len],fun b' l' hb'=>?_,fun b1 b2 l1 l2 h1 h2 n1 n2 hnm=>?_⟩
 ·rw[List.getElem?_set]at hb' ⊢
  by_cases hbb:b=b'
  ·subst hbb
   simp only[if_true]at hb' ⊢
   rw[if_pos hbl]at hb';cases hb'
   rw[if_pos hel]
   refine Or.inr ⟨by simp,?_,by simp⟩
   simp
  ·rw[if_neg hbb]at hb' ⊢
   rw[if_neg (fun e=>hbb e.symm)]
   rcases R.el b' l' hb' with⟨g1,g2⟩|⟨g1,g2,g3⟩
   ·exact Or.inl ⟨g1,g2⟩
   ·exact Or.inr ⟨g1,g2,List.mem_cons_of_mem _ (hoth b' l' (fun e=>hbb e.symm) hb' g1)⟩
 ·have key:∀(b':Nat) (l':List Nat),b'≠b->(Bs.set b (l++[x]))[b']?=some l'->l'≠[]->nm b'≠m:=fun b' l' hne hb' hn e=>by
   rw[List.getElem?_set,if_neg (fun e=>hne e.symm)]at hb'
   exact hmW _ (e ▸ hoth b' l' hne hb' hn)
  by_cases e1:b1=b
  ·by_cases e2:b2=b
   ·rw[e1,e2]
   ·simp only[e1,if_true,if_neg e2]at hnm
    exact absurd hnm.symm (key b2 l2 e2 h2 n2)
  ·by_cases e2:b2=b
   ·simp only[e2,if_true,if_neg e1]at hnm
    exact absurd hnm (key b1 l1 e1 h1 n1)
   ·simp only[if_neg e1,if_neg e2]at hnm
    rw[List.getElem?_set,if_neg (fun e=>e1 e.symm)]at h1
    rw[List.getElem?_set,if_neg (fun e=>e2 e.symm)]at h2
    exact R.inj b1 b2 l1 l2 h1 h2 n1 n2 hnm
end
end Go.Am
namespace Go.Am
open Go Go.Proofs
theorem Ni {c:Code}{h:Heap}{L:LSq}{v:D}{Bs:List (List Nat)}{m n2 pA a im i2 iA:Nat}{row:List D}{S:List Nat}{a13 a17 a26 a28:D}{f:Nat->D}{J:HJq}(R:jN h L v Bs) (hBs:Bs.length=c.b.length) (hm:L[im]?=some (m,.arr 1 row)) (hrow:∀(i b:Nat),S[i]?=some b->row[i]?=some (nD b))
  (h2:L[i2]?=some (n2,.box c.e)) (hA:L[iA]?=some (pA,.box (nD a))) (hS:S.length<=10000) (hlen:∀b,(gL Bs b).length<=10000) (hN:c.b.length<=1000) (hJ:∀h',jN h' L v (S.foldl (gf a) Bs)->J [] h') :
  fS h (.int .i64 (S.length:Int)) (.ptr n2 0 0) v a13 a17 (.ptr pA 0 0) a26 a28 f (.ms m 0 S.length) J:=by
 unfold fS
 refine⟨fun k q h'=>∃i:Nat,q=[nD i]/\i<=S.length/\k=S.length-i/\(∀b,(gL ((S.take i).foldl (gf a) Bs) b).length<=10000+i)/\jN h' L v ((S.take i).foldl (gf a) Bs),_,⟨0,rfl,by omega,rfl,by simpa using hlen,R⟩,?_⟩
 rintro k g h1 ⟨i,hq,hi,hk,hl1,R1⟩
 simp only[List.cons.injEq,and_true]at hq
 simp only[hq,nD]
 by_cases hlt:i<S.length
 ·rw[sf (by omega),ai]
  obtain⟨b,hb⟩:∃b,S[i]?=some b:=⟨S[i],List.getElem?_eq_getElem hlt⟩
  have V1:=R1.vs
  let B1:=(S.take i).foldl (gf a) Bs
  have hB1:B1.length=c.b.length:=by simp only[B1];rw[mf,hBs]
  have htk:(S.take (i+1)).foldl (gf a) Bs=gf a B1 b:=by
   rw[List.take_add_one,hb]
   simp only[Option.toList_some,List.foldl_append,List.foldl_cons,List.foldl_nil]
   rfl
  have hnext:∀y,(gL (gf a B1 b) y).length<=10000+(i+1):=fun y=>by
   by_cases hbN:b<c.b.length
   ·rw[xN (by rw[hB1];exact hbN)]
    split
    ·have:=hl1 b;simp only[List.length_append,List.length_cons,List.length_nil];simp only[B1];omega
    ·have:=hl1 y;simp only[B1];omega
   ·have:gf a B1 b=B1:=by
     unfold gf
     rw[List.set_eq_of_length_le (by omega)]
    rw[this]
    have:=hl1 y;simp only[B1];omega
  refine⟨fun _ h'=>jN h' L v (gf a B1 b),fun f' h' R'=>?_,?_⟩
  ·rw[gd (by omega) (by omega)]
   simp only[ab,true_and]
   exact⟨_,by omega,i+1,rfl,by omega,rfl,by rw[htk];exact hnext,by rw[htk];exact R'⟩
  rw[V1.ia im hm (by omega) (by omega),Int.toNat_natCast,V1.y7 im hm (hrow i b hb) rfl,V1.fa i2 h2,V1.fV i2 (j:=7) h2 rfl,fv,List.length_map,nD]
  by_cases hbN:b<c.b.length
  ·rw[sf (by omega),ai]
   have hget:B1[b]?=some (gL B1 b):=by unfold gL;rw[List.getElem?_eq_getElem (by omega)];rfl
   obtain⟨nB,els,W0,e,rfl,hel,hone,he,Q,fin⟩:=jN.take (x:=a) R1 hget
   have V2:=Q.vs
   have ix:∀{els:List D}{i:Nat}{x:Nat×Slot},L[i]?=some x->((nB,Slot.arr 1 els)::(W0++L))[W0.length+i+1]?=some x:=fun hi=>by
    rw[List.getElem?_cons_succ,List.getElem?_append_right (by omega),Nat.add_sub_cancel_left];exact hi
   have hB1':((S.take i).foldl (gf a) Bs).length=c.b.length:=hB1
   simp only[↓V2.C4 0 rfl (show(0:Int)<=(b:Int) by omega) (show(b:Int)<(((S.take i).foldl (gf a) Bs).length:Int) by omega),Int.toNat_natCast,↓V2.DF 0 rfl he (hone e (List.mem_of_getElem? he)),↓V2.yG _ (ix hA) rfl]
   refine IA ?_
   refine Q.K9 aX rfl (by rw[bn];have:=hl1 b;simp only[B1];omega) (by rw[bn];have:=hl1 b;simp only[B1];omega) fun v' h' Q'=>?_
   have e2:bT (gL B1 b)++[nD a]=bT (gL B1 b++[a]):=by simp[bT]
   rw[e2]at Q'
   rcases Q' with⟨-,h0,-⟩|⟨m',rfl,V'⟩
   ·simp[bT]at h0
   simp only[↓V'.C4 1 rfl (show(0:Int)<=(b:Int) by omega) (show(b:Int)<(((S.take i).foldl (gf a) Bs).length:Int) by omega),Int.toNat_natCast,ab,true_and]
   refine V'.Br 1 rfl (by rw[hel,hB1'];exact hbN) rfl hone fun h3 V3=>?_
   simp only[List.set_cons_succ,List.set_cons_zero]at V3
   simp only[↓V3.C4 1 rfl (show(0:Int)<=(b:Int) by omega) (show(b:Int)<(((S.take i).foldl (gf a) Bs).length:Int) by omega),Int.toNat_natCast,ab,true_and]
   have:=fin h3 m' (by rw[bn,List.length_append]at V3;exact V3)
   exact this
  ·rw[qK (by omega),ah]
   simp only[ab,true_and]
   have:gf a B1 b=B1:=by
    unfold gf
    rw[List.set_eq_of_length_le (by omega)]
   rw[this]
   exact R1
 ·have:i=S.length:=by omega
  subst this
  rw[qK (by omega),ah]
  simp only[ab,true_and]
  rw[List.take_length]at R1
  exact hJ h1 R1
end Go.Am
namespace Go.Am
open Go Go.Proofs
section
variable {h:Heap}{L:LSq}{v:D}{T:List D}{KH:HKq}
theorem QD.more (q:QD h L v T){n:Nat}(hn:h n=.free){s:Slot}(hs:s≠.free):QD (aq h n s) ((n,s)::L) v T:=by
 rcases q with⟨rfl,rfl,V⟩|⟨m,rfl,V⟩
 ·exact Or.inl ⟨rfl,rfl,V.push hn hs⟩
 ·exact Or.inr ⟨m,rfl,(V.push hn hs).swap⟩
theorem QD.less {x:Nat×Slot}(q:QD h (x::L) v T):QD h L v T:=by
 rcases q with⟨rfl,rfl,V⟩|⟨m,rfl,V⟩
 ·exact Or.inl ⟨rfl,rfl,V.pop⟩
 ·exact Or.inr ⟨m,rfl,V.swap.pop⟩
theorem QD.box (q:QD h L v T){d:D}(hd:d.one=true) (hK:∀n h',QD h' ((n,.box d)::L) v T->KH (.ptr n 0 0) h'):aa PP (.box (.c d)) h KH:=by
 rw[zO]
 exact⟨fun x hx=>by rw[ik hd]at hx;simp at hx;subst hx;exact hd,fun n t=>hK n _ (q.more t.free (by simp))⟩
end
section
variable {h:Heap}{M:LSq}{pl nU n pUv pA iv iU iA a w r:Nat}{U:List Int}{O ts:List Nat}{lv:D}
theorem Is (hv:M[iv]?=some (pUv,.box (.ms nU 0 n))) (hU:M[iU]?=some (nU,.arr 1 (eH U))) (hA:M[iA]?=some (pA,.box (nD a))) (hUn:U.length=n) (hn:n<=1000) (hw:U[a]?=some (w:Int)) (T:Tr r (sD O) (· ∈ O) (upF U)) (hr0:sD O r=0) (hOl:O.length<=400)
  (hts:∀t∈ts,upF U t≠none/\Ch r (upF U) t w) (htl:ts.length<=2) (q:QD h ((pl,.box lv)::M) lv []) {a2 a9 a13 a26 a28:D}{f:Nat->D}{J:HJq}{K:HKq}
  (hJ:∀(lv':D) (l:List Nat) (h':Heap),l.length<=802->(∀x,x∈l ↔ ∃t,t∈ts/\Ch r (upF U) t x/\¬Ch r (upF U) w x)->QD h' ((pl,.box lv')::M) lv' (bT l)->J [] h') :
  kf h (.int .i64 (ts.length:Int)) a2 a9 a13 (.ptr pUv 0 0) (.ptr pA 0 0) (.ptr pl 0 0) a26 a28 f (.sl (bT ts)) J K:=by
 have hplc:∀x,sD O x<=400:=fun x=>Nat.le_trans List.idxOf_le_length hOl
 unfold kf
 refine⟨fun k q' h'=>∃(j:Nat) (lv:D) (l:List Nat),q'=[nD j]/\j<=ts.length/\k=ts.length-j/\l.length<=401*j/\(∀x,x∈l ↔ ∃t,t∈ts.take j/\Ch r (upF U) t x/\¬Ch r (upF U) w x)/\QD h' ((pl,.box lv)::M) lv (bT l),_,⟨0,lv,[],rfl,by omega,rfl,by simp,by simp,q⟩,?_⟩
 rintro k g h1 ⟨j,lv1,l,hq,hj,hk,hl,hmem,q1⟩
 simp only[List.cons.injEq,and_true]at hq
 simp only[hq,nD]
 by_cases hlt:j<ts.length
 ·rw[sf (by omega),ai]
  obtain⟨to,hto⟩:∃to,ts[j]?=some to:=⟨ts[j],List.getElem?_eq_getElem hlt⟩
  have htoM:=List.mem_of_getElem? hto
  have htk:ts.take (j+1)=ts.take j++[to]:=by rw[List.take_add_one,hto];rfl
  refine⟨fun _ h'=>∃(lv:D) (l:List Nat),l.length<=401*(j+1)/\(∀x,x∈l ↔ ∃t,t∈ts.take (j+1)/\Ch r (upF U) t x/\¬Ch r (upF U) w x)/\QD h' ((pl,.box lv)::M) lv (bT l),?_,?_⟩
  ·rintro f' h' ⟨lv2,l2,b1,b2,b3⟩
   rw[gd (by omega) (by omega)]
   simp only[ab,true_and]
   exact⟨_,by omega,j+1,lv2,l2,rfl,by omega,rfl,b1,b2,b3⟩
  have V1:=q1.vs
  refine QJ hto ?_
  rw[V1.y8 (iv+1) (by simpa using hv) rfl]
  refine aU rU (av _ _ _) rfl (yV _ _ _) ?_
  unfold xe
  refine q1.box rfl fun pu h4 q4=>?_
  refine q4.box rfl fun pb h6 q6=>?_
  rw[BN]
  refine⟨rfl,Ns,fun nk B ht he hps _ hlt' hAs hBs=>?_⟩
  have q7:QD (aq h6 nk (.lp .ready B)) (WL nk pb pu pl nU n .ready B to lv1 M) lv1 (bT l):=q6.more ht.free (by simp)
  refine ND hv hU hA hUn hn hw T hr0 (hts to htoM).1 (by omega) (by have:=hplc to;omega) q7 hps hAs hBs hlt' he fun s cur lv' l' h' hseg hs q8=>?_
  have V8:=q8.vs
  have hget:h' nk=.lp s B:=V8.get 0 _ _ rfl
  have q9:QD (aq h' nk .dead) ((pl,.box lv')::M) lv' (bT (l++l')):=(q8.b6 0 rfl (by simp)).less.less.less
  have hfin:∃(lv:D) (l:List Nat),l.length<=401*(j+1)/\(∀x,x∈l ↔ ∃t,t∈ts.take (j+1)/\Ch r (upF U) t x/\¬Ch r (upF U) w x)/\QD (aq h' nk .dead) ((pl,.box lv)::M) lv (bT l):=by
   refine⟨lv',l++l',?_,fun x=>?_,q9⟩
   ·have h1:=hseg.len T
    have h2:=hplc to
    simp only[List.length_append];omega
   ·rw[List.mem_append,hmem,hseg.mem T (hts to htoM).2,htk]
    constructor
    ·rintro (⟨t,h1,h2⟩|h2)
     ·exact⟨t,by simp[h1],h2⟩
     ·exact⟨to,by simp,h2⟩
    ·rintro⟨t,h1,h2⟩
     rcases List.mem_append.1 h1 with h1|h1
     ·exact Or.inl ⟨t,h1,h2⟩
     ·simp at h1;subst h1;exact Or.inr h2
  show l7 _ _ _ _ _
  unfold l7
  rw[hget]
  rcases hs with rfl|rfl
  ·simp only[ab,true_and]
   exact hfin
  ·simp only[ab,true_and,or_false]
   exact hfin
 ·have:j=ts.length:=by omega
  subst this
  rw[qK (by omega),ah]
  simp only[ab,true_and]
  rw[List.take_length]at hmem
  exact hJ lv1 l h1 (by omega) hmem q1
end
end Go.Am
namespace Go.Am
open Go Go.Proofs
theorem Fv {t:Term}{x y:Nat}(h:gw t=[x,y]) (h0:0<=t.to0) (h1:0<=t.to1):x≠y:=by
 unfold gw at h
 split at h
 ·cases h
 ·split at h
  ·rename_i hk
   simp only[List.cons.injEq,and_true]at h
   rintro rfl
   exact hk.2 (by omega)
  ·cases h
noncomputable def pB (c:Code) (O O':List Nat):Nat->List Nat:=preB (vM (oU (m6 c) O c.b.length (pc c O)) O' (c.b.length+1))
structure y9 (c:Code) (O O':List Nat) (at' U:List Int):Prop where
 b:L2 c O O' at'
 u:Pj c.b.length O' (vM (oU (m6 c) O c.b.length (pc c O)) O' (c.b.length+1)) (c.b.length+1) U
def C3 (c:Code) (O O':List Nat) (a b:Nat):Prop:=a∈O/\(edg c a).length=2/\(∃t,t∈edg c a/\Dm c.b.length (pB c O O') b t)/\(b=a\/¬Dm c.b.length (pB c O O') b a)
section
variable {c:Code}{O O':List Nat}{at' U:List Int}
theorem y9.oU (hc:dW c) (D:y9 c O O' at' U):∀l,l∈Go.Am.oU (m6 c) O c.b.length (pc c O)->(∀x∈l,x<c.b.length+1)/\l.length<=1000 :=
 Db hc D.b.lt D.b.sub (by have:=D.b.len.2;omega) D.b.len.1
theorem y9.mem (hc:dW c) (D:y9 c O O' at' U){a:Nat}(ha:a<c.b.length):a∈O'↔a∈O:=by
 refine⟨fun h=>?_,D.b.all a⟩
 have:Path (gL (Go.Am.oU (m6 c) O c.b.length (pc c O))) c.b.length a->a=c.b.length\/a∈O:=fun h=>by
  cases h with
  | refl=>exact Or.inl rfl
  | @step x _ _ e =>
   rw[yy]at e
   split at e
   ·rw[m9 (mw hc)]at e
    exact Or.inr e.1
   ·split at e
    ·exact Or.inr (D.b.sub _ e)
    ·cases e
 rcases this (D.b.g.path.1 h) with e|h
 ·omega
 ·exact h
theorem y9.pre (hc:dW c) (D:y9 c O O' at' U){a t:Nat}(ha:a∈O) (ht:t∈edg c a):t∈pB c O O' a/\t∈O':=by
 have haN:=D.b.lt a ha
 have htO:t∈O:=by
  obtain⟨S,hv⟩:=D.b.ord
  have G:=zv.gr (at':=(List.range c.b.length).map fun x=>if x∈O then((sD O x:Nat):Int) else -1) (mw hc) lS (by omega) ⟨S,hv⟩ (by simp) (fun i x hx=>?_) (fun x hx hn=>?_)
  ·refine G.cl a t ha ?_
   have:t∈gL (m6 c) a:=by rw[yz];exact ht
   exact this
  ·have hxO:=List.mem_of_getElem? hx
   have hxN:=D.b.lt x hxO
   have nd:O.Nodup:=by
    obtain⟨m,h1,e⟩:=hv
    obtain⟨N,e2,F⟩:=h1.spec (n:=c.b.length) (fun p b=>pO (mw hc)) (fun x=>pO (mw hc)) (by simp)
    have e3:O=0::N:=by
     have:=congrArg Prod.snd e
     simp only at this
     rw[this,e2];simp
    rw[e3]
    refine List.nodup_cons.2 ⟨fun h=>?_,F.nd⟩
    have h2:=(F.new 0 h).1
    simp only at h2
    rw[cA (by simp;omega)]at h2
    simp at h2
   rw[List.getElem?_map,List.getElem?_range hxN]
   simp[hxO,vZ nd hx]
  ·rw[List.getElem?_map,List.getElem?_range hx]
   simp[hn]
 have htO':=D.b.all t htO
 have htN:=D.b.lt t htO
 refine⟨?_,htO'⟩
 have:t∈gL (vM (Go.Am.oU (m6 c) O c.b.length (pc c O)) O' (c.b.length+1)) a:=by
  rw[m9 (D.oU hc)]
  refine⟨htO',?_⟩
  rw[yy,if_pos htN,m9 (mw hc),yz]
  exact⟨ha,ht⟩
 exact this
theorem y9.up (hc:dW c) (D:y9 c O O' at' U){a:Nat}(ha:a∈O):∃w,upF U a=some w/\(∀t,t∈edg c a->upF U t≠none/\Ch c.b.length (upF U) t w)/\∀x,Ch c.b.length (upF U) w x↔Ch c.b.length (upF U) a x/\x≠a:=by
 have haN:=D.b.lt a ha
 have har:a≠c.b.length:=by omega
 have haO':=D.b.all a ha
 obtain⟨w,hw⟩:∃w,upF U a=some w:=by
  cases hy:upF U a with
  | none=>exact absurd hy (D.u.al a haO')
  | some y=>exact⟨y,rfl⟩
 have hlt:=D.u.tr.lt a w hw har
 have hne:w≠a:=by rintro rfl;omega
 have hcw:Ch c.b.length (upF U) a w:=.step har hw (.refl _)
 refine⟨w,hw,fun t ht=>?_,fun x=>?_⟩
 ·obtain⟨h1,h2⟩:=D.pre hc ha ht
  refine⟨D.u.al t h2,(D.u.ch t w h2).2 ?_⟩
  exact DE ((D.u.ch a w haO').1 hcw) h1 hne.symm
 ·constructor
  ·intro h
   refine⟨.step har hw h,?_⟩
   rintro rfl
   rcases h.le D.u.tr with e|h
   ·exact hne e.symm
   ·omega
  ·rintro⟨h1,h2⟩
   cases h1 with
   | refl _=>exact absurd rfl h2
   | step _ hy k=>rw[hw]at hy;cases hy;exact k
theorem y9.dep (hc:dW c) (D:y9 c O O' at' U){a w b:Nat}(ha:a∈O) (h2:(edg c a).length=2) (hw:upF U a=some w):(∃t,t∈edg c a/\Ch c.b.length (upF U) t b/\¬Ch c.b.length (upF U) w b)↔C3 c O O' a b:=by
 obtain⟨w',hw',-,hx⟩:=D.up hc ha
 rw[hw]at hw';cases hw'
 have haO':=D.b.all a ha
 have hch:∀{t:Nat},t∈edg c a->(Ch c.b.length (upF U) t b↔Dm c.b.length (pB c O O') b t):=fun ht=>D.u.ch _ _ (D.pre hc ha ht).2
 have hcw:¬Ch c.b.length (upF U) w b↔(b=a\/¬Dm c.b.length (pB c O O') b a):=by
  rw[hx,D.u.ch a b haO']
  constructor
  ·intro h
   by_cases e:b=a
   ·exact Or.inl e
   ·exact Or.inr fun k=>h ⟨k,e⟩
  ·rintro (e|h) ⟨k1,k2⟩
   ·exact k2 e
   ·exact h k1
 constructor
 ·rintro⟨t,ht,h3,h4⟩
  exact⟨ha,h2,⟨t,ht,(hch ht).1 h3⟩,hcw.1 h4⟩
 ·rintro⟨-,-,⟨t,ht,h3⟩,h4⟩
  exact⟨t,ht,(hch ht).2 h3,hcw.2 h4⟩
end
end Go.Am
namespace Go.Am
open Go Go.Proofs
noncomputable def od (c:Code) (O O':List Nat) (k:Nat):List (List Nat):=(List.range c.b.length).map fun b=>FN k fun a=>C3 c O O' a b
theorem gB {c:Code}{O O':List Nat}{k:Nat}:(od c O O' k).length=c.b.length:=by simp[od]
theorem sh {c:Code}{O O':List Nat}{k b:Nat}(hb:b<c.b.length):gL (od c O O' k) b=FN k fun a=>C3 c O O' a b:=by
 unfold gL od
 rw[List.getElem?_map,List.getElem?_range hb];rfl
theorem yl {k:Nat}{p:Nat->Prop}:(p k->FN (k+1) p=FN k p++[k])/\(¬p k->FN (k+1) p=FN k p):=by
 unfold FN
 rw[List.range_succ,List.filter_append]
 refine⟨fun h=>?_,fun h=>?_⟩
 ·congr 1
  simp[h]
 ·simp[h]
theorem BQ {p b:Nat}:∀{S:List Nat}{Bs:List (List Nat)},S.Nodup->b<Bs.length->gL (S.foldl (gf p) Bs) b=if b∈S then gL Bs b++[p] else gL Bs b
 | [],_,_,_=>by simp
 | s::S,Bs,hn,hb=>by
  rw[List.nodup_cons]at hn
  rw[List.foldl_cons,BQ hn.2 (by rw[vq];exact hb)]
  have e1:gL (gf p Bs s) b=if b=s then gL Bs s++[p] else gL Bs b:=by
   by_cases hs:s<Bs.length
   ·exact xN hs
   ·unfold gf
    rw[List.set_eq_of_length_le (by omega),if_neg (by omega)]
  rw[e1]
  by_cases hbs:b=s
  ·subst hbs
   rw[if_neg hn.1,if_pos rfl,if_pos (by simp)]
  ·rw[if_neg hbs]
   by_cases hbS:b∈S
   ·rw[if_pos hbS,if_pos (by simp[hbS])]
   ·rw[if_neg hbS,if_neg (by simp[hbS,hbs])]
theorem Dv {A B:List (List Nat)}(hl:A.length=B.length) (h:∀b,b<A.length->gL A b=gL B b):A=B:=by
 apply List.ext_getElem hl
 intro i h1 h2
 have:=h i h1
 unfold gL at this
 rwa [List.getElem?_eq_getElem h1,List.getElem?_eq_getElem h2]at this
theorem Nj {c:Code}{O O':List Nat}:od c O O' 0=List.replicate c.b.length []:=by
 refine Dv (by simp[gB]) fun b hb=>?_
 rw[gB]at hb
 rw[sh hb]
 unfold gL
 rw[List.getElem?_replicate,if_pos hb];rfl
theorem zX {c:Code}{O O':List Nat}{k:Nat}(h:∀b,¬C3 c O O' k b):od c O O' (k+1)=od c O O' k:=by
 refine Dv (by simp[gB]) fun b hb=>?_
 rw[gB]at hb
 rw[sh hb,sh hb,(yl (p:=fun a=>C3 c O O' a b)).2 (h b)]
theorem Iu {c:Code}{O O' S:List Nat}{k:Nat}(hS:S.Nodup) (h:∀b,b∈S↔C3 c O O' k b):S.foldl (gf k) (od c O O' k)=od c O O' (k+1):=by
 refine Dv (by rw[mf,gB,gB]) fun b hb=>?_
 rw[mf,gB]at hb
 rw[BQ hS (by rw[gB];exact hb),sh hb,sh hb]
 by_cases hp:C3 c O O' k b
 ·rw[if_pos ((h b).2 hp),(yl (p:=fun a=>C3 c O O' a b)).1 hp]
 ·rw[if_neg (fun k=>hp ((h b).1 k)),(yl (p:=fun a=>C3 c O O' a b)).2 hp]
theorem JL {l:List Nat}:∃S:List Nat,Df (l.map fun n:Nat=>(n:Int))=S.map (fun n:Nat=>(n:Int))/\S.Pairwise (· < ·)/\∀x,x∈S↔x∈l:=by
 have hm:=fun x=>Hi (ks:=l.map fun n:Nat=>(n:Int)) (x:=x)
 have hi:=Hk (ks:=l.map fun n:Nat=>(n:Int))
 generalize Df (l.map fun n:Nat=>(n:Int))=Z at hm hi
 have hnn:∀x∈Z,0<=x:=fun x hx=>by
  have:=(hm x).1 hx
  simp only[List.mem_map]at this
  obtain⟨n,-,rfl⟩:=this
  omega
 refine⟨Z.map Int.toNat,?_,?_,fun x=>?_⟩
 ·rw[List.map_map]
  have:Z.map ((fun n:Nat=>(n:Int)) ∘ Int.toNat)=Z.map id:=List.map_congr_left fun x hx=>by
   have:=hnn x hx
   simp only[Function.comp_apply,id];omega
  rw[this,List.map_id]
 ·rw[List.pairwise_map]
  refine hi.imp_of_mem fun ha hb hab=>?_
  have:=hnn _ ha
  have:=hnn _ hb
  omega
 ·rw[List.mem_map]
  constructor
  ·rintro⟨z,hz,rfl⟩
   have:=(hm z).1 hz
   simp only[List.mem_map]at this
   obtain⟨n,hn,rfl⟩:=this
   simpa using hn
  ·intro hx
   exact⟨(x:Int),(hm _).2 (List.mem_map.2 ⟨x,hx,rfl⟩),by simp⟩
end Go.Am
namespace Go.Am
open Go Go.Proofs
theorem GU {P:Program}{A:(D->Prop)->Prop}{K:D->Prop}:aR (.bool true) false A K=K gU:=by
 rw[iK];simp
theorem Jq {P:Program}{A:(D->Prop)->Prop}{K:D->Prop}:aR (.bool false) false A K=A K:=by
 rw[iK];simp
section
variable {h:Heap}{L:LSq}{v:D}{Bs:List (List Nat)}{KH:HKq}
theorem jN.sub {L':LSq}(s:L'.Sublist L) (q:jN h L v Bs):jN h L' v Bs:=by
 obtain⟨X,V,-,lift⟩:=q.split
 exact lift h L' (V.sub (List.Sublist.append (.refl X) s))
theorem Lg {m n:Nat}{l:List Nat}(V:Vs h ((m,.arr 1 (bT l))::L)) (hn:n=l.length) (h0:1<=l.length) (hl:l.length<=100000) (hK:∀h',Vs h' ((m,.arr 1 (eH (mS (l.map fun n:Nat=>(n:Int)))))::L)->KH (.tup []) h'):ag PP bx [.ms m 0 n] h KH:=by
 have hm:=V.get 0 _ _ rfl
 rw[OF]at hm
 have:=NK (KH:=KH) hm (by rw[List.length_map];exact h0) (by rw[List.length_map];omega) (hK _ (V.b6 0 rfl (by simp)))
 rw[List.length_map]at this
 rw[hn]
 exact this
theorem Li {m n:Nat}{ks:List Int}(V:Vs h ((m,.arr 1 (eH ks))::L)) (hn:n=ks.length) (h0:1<=ks.length) (hl:ks.length<=100000) (hK:∀h',Vs h' ((m,.arr 1 (eH (u7 ks)))::L)->KH (.ms m 0 (Lib.compact ks).length) h'):ag PP bm [.ms m 0 n] h KH:=by
 rw[hn]
 exact GA (V.get 0 _ _ rfl) h0 (by omega) w8 (hK _ (V.b6 0 rfl (by simp)))
end
section
variable {c:Code}{O O':List Nat}{at' U:List Int}{h:Heap}{L:LSq}{v:D}{K:HKq}
theorem KF (hc:dW c){a pl pbk pA n2 i2:Nat}{X:LSq}{tb:D}{lv:D}{l:List Nat}(hl:l.length<=802) (hl0:1<=l.length) (hmem:∀x,x∈l↔C3 c O O' a x) (h2:L[i2]?=some (n2,.box c.e)) (ha:a<=18)
  (q:QD h ((pl,.box lv)::(pbk,.box tb)::(pA,.box (nD a))::(X++L)) lv (bT l)) (lift:∀h' L',Vs h' (X++L')->jN h' L' v (od c O O' a)) {a13 a17 a26 a28:D}{f:Nat->D}{J:HJq}(hJ:∀h',jN h' L v (od c O O' (a+1))->J [] h') :
  aa PP (.ld (.c (.ptr pl 0 0)) 1 false) h fun a80 h81 =>
  ag PP bx [a80] h81 fun a82 h83 =>
  aa PP (.ld (.c (.ptr pl 0 0)) 1 false) h83 fun a84 h85 =>
  ag PP bm [a84] h85 fun a86 h87 =>
  ba a86 h87 fun a88 =>
  fS h87 a88 (.ptr n2 0 0) v a13 a17 (.ptr pA 0 0) a26 a28 f a86 J:=by
 have hnb:=hc.nb
 rcases q with⟨-,h0,-⟩|⟨m,rfl,V⟩
 ·have:(bT l).length=0:=by rw[h0];rfl
  rw[bn]at this;omega
 rw[V.y8 1 rfl rfl]
 refine Lg V bn hl0 (by omega) fun h83 V83=>?_
 rw[V83.y8 1 rfl rfl]
 have hsl:(mS (l.map fun n:Nat=>(n:Int))).length=l.length:=by rw[vW,List.length_map]
 refine Li V83 (by rw[bn,hsl]) (by omega) (by omega) fun h87 V87=>?_
 obtain⟨S,hS,hinc,hSm⟩:=JL (l:=l)
 have hSl:(Lib.compact (mS (l.map fun n:Nat=>(n:Int)))).length=S.length:=by
  have:(Df (l.map fun n:Nat=>(n:Int))).length=S.length:=by rw[hS,List.length_map]
  exact this
 have hSle:S.length<=l.length:=by
  have:=Hj (ks:=l.map fun n:Nat=>(n:Int))
  rw[hS,List.length_map,List.length_map]at this;exact this
 rw[br,V87.get 0 _ _ rfl]
 refine⟨rfl,?_⟩
 rw[hSl]
 have R:=lift h87 ((m,.arr 1 (eH (u7 (mS (l.map fun n:Nat=>(n:Int))))))::(pl,.box (.ms m 0 (bT l).length))::(pbk,.box tb)::(pA,.box (nD a))::L) (V87.perm (List.perm_append_comm_assoc [_,_,_,_] X L))
 refine Ni (im:=0) (i2:=i2+4) (iA:=3) R gB rfl (fun i b hb=>?_) (by simpa using h2) rfl (by omega) (fun b=>?_) (by omega) fun h' R'=>?_
 ·have e:u7 (mS (l.map fun n:Nat=>(n:Int)))=(S.map fun n:Nat=>(n:Int))++List.replicate ((mS (l.map fun n:Nat=>(n:Int))).length-(Lib.compact (mS (l.map fun n:Nat=>(n:Int)))).length) 0:=by
   rw[<- hS];rfl
  rw[e]
  have hi:=(List.getElem?_eq_some_iff.1 hb).1
  simp only[eH,List.getElem?_map]
  rw[List.getElem?_append_left (by simpa using hi),List.getElem?_map,hb]
  rfl
 ·by_cases hb:b<c.b.length
  ·rw[sh hb]
   exact Nat.le_trans EI (by omega)
  ·unfold gL
   rw[List.getElem?_eq_none (by rw[gB];omega)]
   simp
 ·rw[Iu (hinc.imp fun h=>by omega) fun b=>by rw[hSm,hmem]]at R'
  refine hJ h' (R'.sub ?_)
  exact .cons _ (.cons _ (.cons _ (.cons _ (.refl _))))
end
end Go.Am
namespace Go.Am
open Go Go.Proofs
theorem G8 {N:Nat}{R:Int}{t:Term}(h:y3 N R t){x y:Nat}(he:gw t=[x,y]):x≠y:=by
 cases h with
 | branch o a b ho h1 h2=>exact Fv he (by simp) (by simp)
 | _=>simp[gw]at he
section
variable {c:Code}{O O':List Nat}{at' U:List Int}{h:Heap}{L:LSq}{v:D}{K:HKq}
theorem KG (hc:dW c) (G:y9 c O O' at' U){n2 nU nA nO ng pUv i2 iU ig iA iv:Nat}{w0:D}(h2:L[i2]?=some (n2,.box c.e)) (hv:L[iv]?=some (pUv,.box (.ms nU 0 (c.b.length+1)))) (hU:L[iU]?=some (nU,.arr 1 (eH U))) (hg:L[ig]?=some (ng,EP w0 nO O'.length nA (c.b.length+1))) (hA:L[iA]?=some (nA,.arr 1 (eH at')))
  (R:jN h L v (od c O O' 0)) {J:HJq}(hJ:∀h',jN h' L v (od c O O' c.b.length)->J [] h') :
  kd h (.int .i64 (c.b.length:Int)) (.ptr n2 0 0) v (.ptr ng 0 0) (.ptr pUv 0 0) (.sl (c.b.map Block.e)) J K:=by
 have hnb:=hc.nb
 unfold kd
 refine⟨fun m q h'=>∃a:Nat,q=[nD a]/\a<=c.b.length/\m=c.b.length-a/\jN h' L v (od c O O' a),_,⟨0,rfl,by omega,rfl,R⟩,?_⟩
 rintro m f h32 ⟨a,hq,ha,hm,R1⟩
 simp only[List.cons.injEq,and_true]at hq
 simp only[hq,nD]
 by_cases hlt:a<c.b.length
 ·rw[sf (by omega),ai]
  obtain⟨B,hB⟩:∃B,c.b[a]?=some B:=⟨c.b[a],List.getElem?_eq_getElem hlt⟩
  have hTB:=hc.t B (List.mem_of_getElem? hB)
  refine⟨fun _ h'=>jN h' L v (od c O O' (a+1)),fun f' h' R'=>?_,?_⟩
  ·rw[gd (by omega) (by omega)]
   simp only[ab,true_and]
   exact⟨_,by omega,a+1,rfl,by omega,rfl,R'⟩
  obtain⟨X,V,-,lift⟩:=R1.split
  rw[DX hB,show B.e=.agg (.sl (B.i.map aH.e)::B.t.cs) from rfl,FO (s:=14) rfl]
  refine V.alloc fun pA h43 V43=>?_
  refine V43.alloc fun pbk h45 V45=>?_
  refine V45.Jk 1 rfl rfl rfl fun h47 V47=>?_
  simp only[List.set_cons_succ,List.set_cons_zero]at V47
  refine V47.zE 0 rfl rfl rfl (fun x hx=>B.gM.one x hx) fun h49 V49=>?_
  simp only[List.set_cons_zero]at V49
  rw[V49.fa 0 rfl,Kj (V49.get 0 _ _ rfl) (by show 0+1+13<=14;omega)]
  have eT:((D.sl (B.i.map aH.e)::B.t.cs).drop (0+1)).take 13=B.t.cs:=rfl
  rw[eT]
  refine gg (DT hTB) (fun d hd=>by simp at hd;subst hd;exact B.t.gM.pair) ?_
  rintro _ rfl
  rw[<- qU hB]
  let M:LSq:=(pbk,.box (.agg (.sl (B.i.map aH.e)::B.t.cs)))::(pA,.box (.int .i64 (a:Int)))::(X++L)
  have ix:∀{i:Nat}{x:Nat×Slot},L[i]?=some x->M[X.length+i+2]?=some x:=fun hi=>by
   simp only[M,List.getElem?_cons_succ]
   rw[List.getElem?_append_right (by omega),Nat.add_sub_cancel_left];exact hi
  have VM:Vs h49 M:=V49
  have back:∀h',Vs h' M->jN h' L v (od c O O' a):=fun h' V'=>lift h' L V'.pop.pop
  obtain⟨k,hk,hk0⟩:∃k:Int,at'[a]?=some k/\(a∈O'->0<=k)/\(a∉O'->k<0):=by
   by_cases haO:a∈O'
   ·obtain⟨i,hi⟩:=List.getElem?_of_mem haO
    exact⟨_,G.b.g.aat i a hi,fun _=>by omega,fun h=>absurd haO h⟩
   ·exact⟨_,G.b.g.ano a (by rw[oT];omega) haO,fun h=>absurd h haO,fun _=>by omega⟩
  have hal:at'.length=c.b.length+1:=by rw[G.b.g.rh,oT]
  simp only[VM.qg _ (ix hg),VM.u5 _ (j:=2) (ix hg) rfl,VM.yG 1 rfl rfl,VM.C4 _ (ix hA) (show(0:Int)<=(a:Int) by omega) (show(a:Int)<((c.b.length+1:Nat):Int) by omega),Int.toNat_natCast,VM.DF _ (ix hA) (kn hk) rfl]
  by_cases haO:a∈O'
  ·rw[qK (hk0.1 haO)]
   simp only[Jq (P:=PP),HO,qW,wx,Bool.false_eq_true,if_false,xX]
   have haO2:a∈O:=(G.mem hc hlt).1 haO
   by_cases hlen:(edg c a).length=2
   ·rw[decide_eq_true (by omega)]
    simp only[Bool.not_true]
    rw[ah]
    obtain⟨w,hw,hts,hx⟩:=G.up hc haO2
    refine VM.alloc fun pl h76 V76=>?_
    have hmem:∀x,(∃t,t∈edg c a/\Ch c.b.length (upF U) t x/\¬Ch c.b.length (upF U) w x)↔C3 c O O' a x:=fun x=>G.dep hc haO2 hlen hw
    have hne:∀l:List Nat,(∀x,x∈l ↔ ∃t,t∈edg c a/\Ch c.b.length (upF U) t x/\¬Ch c.b.length (upF U) w x)->1<=l.length:=fun l hl=>by
     have he:=qU hB
     match hs:edg c a,hlen with
     | [x,y],_ =>
      rw[hs]at he
      have hxy:=G8 hTB he.symm
      have hxm:x∈edg c a:=by rw[hs];simp
      have hym:y∈edg c a:=by rw[hs];simp
      have:∃t,t∈edg c a/\¬Ch c.b.length (upF U) w t:=by
       by_cases h1:Ch c.b.length (upF U) w x
       ·refine⟨y,hym,fun h2=>hxy ?_⟩
        have e1:=h1.D7 G.u.tr (hts x hxm).2
        have e2:=h2.D7 G.u.tr (hts y hym).2
        rw[e1,e2]
       ·exact⟨x,hxm,h1⟩
      obtain⟨t,ht,hn⟩:=this
      have:t∈l:=(hl t).2 ⟨t,ht,.refl _,hn⟩
      exact List.length_pos_of_mem this
    refine⟨fun _ h'=>∃(lv:D) (l:List Nat),l.length<=802/\(∀x,x∈l ↔ ∃t,t∈edg c a/\Ch c.b.length (upF U) t x/\¬Ch c.b.length (upF U) w x)/\QD h' ((pl,.box lv)::M) lv (bT l),?_,?_⟩
    ·rintro f2 h79 ⟨lv,l,hl1,hl2,q⟩
     exact KF hc hl1 (hne l hl2) (fun x=>(hl2 x).trans (hmem x)) h2 (by omega) q lift fun h' R'=>R'
    ·refine Is (iv:=X.length+iv+2) (iU:=X.length+iU+2) (iA:=1) (r:=c.b.length) (O:=O') (ix hv) (ix hU) rfl G.u.len (by omega) (ot hw) G.u.tr G.b.g.dg.zero ?_ hts (by omega) (Or.inl ⟨rfl,rfl,V76⟩) fun lv' l h' b1 b2 b3=>⟨lv',l,b1,b2,b3⟩
     have:O'.length<=c.b.length+1:=uK G.b.g.nd fun x hx=>by have:=G.b.g.lt x hx;rwa [oT]at this
     omega
   ·rw[decide_eq_false (by omega)]
    simp only[Bool.not_false]
    rw[ai]
    simp only[ab,true_and]
    rw[zX fun b hb=>hlen hb.2.1]
    exact back h49 VM
  ·rw[sf (hk0.2 haO)]
   simp only[GU (P:=PP),qW,wx,if_true]
   rw[ai]
   simp only[ab,true_and]
   rw[zX fun b hb=>haO ((G.mem hc hlt).2 hb.1)]
   exact back h49 VM
 ·have:a=c.b.length:=by omega
  subst this
  rw[qK (by omega),ah]
  simp only[ab,true_and]
  exact hJ h32 R1
end
end Go.Am
namespace Go.Am
open Go Go.Proofs
theorem Gz {c:Code}(hc:dW c){h:Heap}{L:LSq}{KH:HKq}(V:Vs h L) (hK:∀v h' O O' at' U,y9 c O O' at' U->jN h' L v (od c O O' c.b.length)->KH v h'):ag PP kj [c.e] h KH:=by
 have hnb:=hc.nb
 refine aU oR (av _ _ _) rfl (wH _ _) ?_
 unfold tm
 refine V.box c.gM.one fun n2 h3 V1=>?_
 simp only[↓V1.fa 0 rfl,Nat.zero_add,↓V1.fV 0 (j:=7) rfl rfl,fv,List.length_map]
 refine V1.Ly (by omega) (by omega) fun nB h10 V10=>?_
 have R10:=jN.QK V10
 obtain⟨X,V11,-,lift⟩:=R10.split
 have ix:((X++(n2,Slot.box c.e)::L))[X.length+0]?=some (n2,.box c.e):=by
  rw[List.getElem?_append_right (by omega),Nat.add_sub_cancel_left];rfl
 rw[show aa PP (.ld (.c (.ptr n2 0 0)) 8 true) h10=fun KH=>KH c.e h10 from funext fun KH=>V11.wo _ ix rfl]
 refine NI hc V11 fun ng nO nA O O' at' X' w0 h14 BR V14 wE=>?_
 refine Ph (ig:=1) (iO:=0) (iA:=2) (Db hc BR.lt BR.sub (by have:=BR.len.2;omega) BR.len.1) V14 rfl rfl rfl (wE.mono fun x hx=>by simp[hx]) oT (by omega) BR.g fun nU U h16 V16 UR=>?_
 refine V16.alloc fun pUv h18 V18=>?_
 refine V18.Jk 0 rfl rfl rfl fun h20 V20=>?_
 simp only[List.set_cons_zero]at V20
 have D0:y9 c O O' at' U:=⟨BR,UR⟩
 let L5:LSq:=(pUv,.box (.ms nU 0 (c.b.length+1)))::(nU,.arr 1 (eH U))::(ng,EP w0 nO O'.length nA (c.b.length+1))::(nA,.arr 1 (eH at'))::(n2,.box c.e)::L
 have V21:Vs h20 ([(pUv,Slot.box (.ms nU 0 (c.b.length+1))),(nU,.arr 1 (eH U)),(ng,EP w0 nO O'.length nA (c.b.length+1)),(nA,.arr 1 (eH at'))]++(X++(n2,.box c.e)::L)):=by
  refine V20.sub ?_
  exact .cons_cons _ (.cons_cons _ (.cons _ (.cons_cons _ (.cons_cons _ (List.sublist_append_right X' _)))))
 have R:jN h20 L5 (.ms nB 0 c.b.length) (od c O O' 0):=by
  rw[Nj]
  exact lift h20 L5 (V21.perm (List.perm_append_comm_assoc _ X _))
 refine⟨fun _ h'=>jN h' L5 (.ms nB 0 c.b.length) (od c O O' c.b.length),fun f h' R'=>hK _ h' O O' at' U D0 (R'.sub ?_),?_⟩
 ·exact .cons _ (.cons _ (.cons _ (.cons _ (.cons _ (.refl _)))))
 have VL:=R.vs
 rw[VL.fa 4 rfl,VL.fV 4 (j:=7) rfl rfl,fv,List.length_map]
 exact KG hc D0 (i2:=4) (iv:=0) (iU:=1) (ig:=2) (iA:=3) rfl rfl rfl rfl rfl R fun h' R'=>R'
end Go.Am
namespace Go.Am
open Go Go.Proofs
theorem KT {h:Heap}{L:LSq}{KH:HKq}{m:Nat}{els:List D}{f:FuncId}{d1 r:D}(V:Vs h ((m,.arr 1 els)::L)) (hv:aT PP f [.sl els,d1] (· = r)) (hd:vK d1) (he:∀x∈els,∀y∈x.cells,y.vone=true) (hfl:r.flat=true) (hK:KH r h):ag PP f [.ms m 0 els.length,d1] h KH:=by
 have hn:=V.get 0 _ _ rfl
 have hrow:(h m).row=some (1,els):=by rw[hn];rfl
 have e0:(D.ms m 0 els.length).fz h=.sl els:=by simp[D.fz,D.fzc,hrow]
 have e1:[D.ms m 0 els.length,d1].map (D.fz h)=[.sl els,d1]:=by rw[List.map_cons,e0,List.map_cons,(zA hd.vd).1];rfl
 refine ag.mono ?_ (dO (K:=(· = r)) (by rw[e1];exact hv) (fun d hdm=>?_))
 ·rintro r' h' ⟨hr',k2,k3⟩
  rw[hr']at k2 ⊢
  rw[k2 (Or.inl hfl)]
  exact hK
 ·simp only[List.mem_cons,List.not_mem_nil,or_false]at hdm
  rcases hdm with rfl|rfl
  ·refine⟨by simp,?_,by rw[e0];rfl⟩
   intro x hx
   simp only[D.cells,List.mem_singleton]at hx
   subst hx
   exact⟨1,els,hrow,by simp,fun x hx y hy=>he x (by simpa using hx) y hy⟩
  ·exact⟨hd.one,(zA hd.vd).2.2,by rw[(zA hd.vd).1];exact hd.vd⟩
theorem QV.three {h:Heap}{L:LSq}(V:Vs h L){z:D}{i j k:Int}{KH:HKq}(hK:∀m h',Vs h' ((m,.arr 1 (eH [i,j,k]))::L)->KH (.ms m 0 3) h'):aa PP (.bldS true 1 3 z [(0,.c (.int .i64 i)),(1,.c (.int .i64 j)),(2,.c (.int .i64 k))]) h KH:=by
 refine⟨fun p hp=>?_,fun hf p hp=>?_,fun n t=>?_⟩
 ·simp[Arg.get]at hp
  rcases hp with rfl|rfl|rfl
  ·exact⟨by show 0<3;omega,rfl,aX.one⟩
  ·exact⟨by show 1<3;omega,rfl,aX.one⟩
  ·exact⟨by show 2<3;omega,rfl,aX.one⟩
 ·simp[Arg.get]at hp
  rcases hp with rfl|rfl|rfl<;>(intro x hx;simp[D.cells]at hx;subst hx;trivial)
 ·have:KH (.ms n 0 3) (aq h n (.arr 1 (eH [i,j,k]))):=hK _ _ (V.push t.free (by simp))
  simpa[Arg.get,setEls,D.fz,D.fzc,D.nm,D.jA,eH,Heap.freezeAll,List.replicate] using this
def dD (x:aH):Bool:= !(decide (x.op=1)||decide (x.op=2)||decide (x.op=3)||decide (x.op=4)||decide (x.op=6)||(decide (x.op=5)&&(decide (x.sub=3)||decide (x.sub=4)||decide (x.sub=5))))
theorem IJ {x:aH}:aT PP fM [x.e] (· = .bool (dD x)):=by
 refine dB lD (av _ _ _) rfl (sM _ _) ?_
 unfold oJ
 refine Vs.nil.box x.gM.one fun n2 h3 V=>?_
 rw[V.fa 0 rfl,V.fV 0 (j:=0) rfl rfl]
 refine⟨fun q h'=>h'=h3/\∃t:Bool,q=[.bool t]/\t=(decide (x.op=1)||decide (x.op=2)||decide (x.op=3)||decide (x.op=4)||decide (x.op=6)),?_,?_⟩
 ·rintro f h' ⟨e,t,hq,ht⟩
  subst e
  simp only[List.cons.injEq,and_true]at hq
  rw[hq]
  cases t with
  | true =>
   rw[ai,eU]
   unfold dD
   rw[<- ht];rfl
  | false =>
   rw[ah,cU]
   by_cases h5:x.op=5
   ·rw[decide_eq_true h5,ai]
    refine QV.three V fun m h13 V13=>?_
    rw[V13.fa 1 rfl,V13.fV 1 (j:=1) rfl rfl]
    refine KT V13 (Cn (l:=[3,4,5]) (k:=x.sub) (by simp)) aX (fun y hy w hw=>by simp only[eH,List.mem_map]at hy;obtain⟨k,-,rfl⟩:=hy;simp[D.cells]at hw;subst hw;rfl) rfl ?_
    rw[pK,eU]
    unfold dD
    rw[<- ht,decide_eq_true h5]
    simp only[Bool.false_or,Bool.true_and]
    congr 2
    simp only[List.mem_cons,List.not_mem_nil,or_false,Bool.decide_or,Bool.or_assoc]
   ·rw[decide_eq_false h5,ah,eU]
    unfold dD
    rw[<- ht,decide_eq_false h5];rfl
 ·simp only[cU,ab,true_and]
  by_cases h1:x.op=1
  ·rw[decide_eq_true h1,ai];exact⟨true,rfl,by simp[h1]⟩
  rw[decide_eq_false h1,ah]
  by_cases h2:x.op=2
  ·rw[decide_eq_true h2,ai];exact⟨true,rfl,by simp[h2]⟩
  rw[decide_eq_false h2,ah]
  by_cases h3':x.op=3
  ·rw[decide_eq_true h3',ai];exact⟨true,rfl,by simp[h3']⟩
  rw[decide_eq_false h3',ah]
  by_cases h4:x.op=4
  ·rw[decide_eq_true h4,ai];exact⟨true,rfl,by simp[h4]⟩
  rw[decide_eq_false h4,ah]
  exact⟨_,rfl,by simp[h1,h2,h3',h4]⟩
end Go.Am
namespace Go.Am
open Go Go.Proofs
def QE (esz:Nat) (h:Heap) (L:LSq) (v:D) (T:List D):Prop :=
 (v=.nil/\T=[]/\Vs h L)\/∃m,v=.ms m 0 T.length/\Vs h ((m,.arr esz T)::L)
section
variable {esz:Nat}{h:Heap}{L:LSq}{v:D}{T:List D}{KH:HKq}
theorem QE.vs (q:QE esz h L v T):Vs h L:=by
 rcases q with⟨-,-,V⟩|⟨m,-,V⟩
 ·exact V
 ·exact V.pop
theorem QE.b6 (q:QE esz h L v T) (i:Nat){n:Nat}{s s':Slot}(hi:L[i]?=some (n,s)) (hs:s'≠.free):QE esz (aq h n s') (L.set i (n,s')) v T:=by
 rcases q with⟨rfl,rfl,V⟩|⟨m,rfl,V⟩
 ·exact Or.inl ⟨rfl,rfl,V.b6 i hi hs⟩
 ·exact Or.inr ⟨m,rfl,by have:=V.b6 (i+1) (n:=n) (s:=s) (by simpa using hi) hs;simpa using this⟩
theorem QE.more (q:QE esz h L v T){n:Nat}(hn:h n=.free){s:Slot}(hs:s≠.free):QE esz (aq h n s) ((n,s)::L) v T:=by
 rcases q with⟨rfl,rfl,V⟩|⟨m,rfl,V⟩
 ·exact Or.inl ⟨rfl,rfl,V.push hn hs⟩
 ·exact Or.inr ⟨m,rfl,(V.push hn hs).swap⟩
theorem QE.less {x:Nat×Slot}(q:QE esz h (x::L) v T):QE esz h L v T:=by
 rcases q with⟨rfl,rfl,V⟩|⟨m,rfl,V⟩
 ·exact Or.inl ⟨rfl,rfl,V.pop⟩
 ·exact Or.inr ⟨m,rfl,V.swap.pop⟩
theorem QE.push (q:QE esz h L v T){d z z':D}{bytes:Nat}(hd:vK d) (hc:d.cells.length=esz) (hb:(T.length+1)*bytes<=140737488355328) (hl:T.length+1<=9223372036854775807)
  (hK:∀v h',QE esz h' L v (T++[d])->KH v h'):aa PP (.bldS true esz 1 z [(0,.c d)]) h fun x h1=>aa PP (.app (.c v) (.c x) esz bytes z') h1 KH:=by
 have hlen:T.length+1=(T++[d]).length:=by simp
 rcases q with⟨rfl,rfl,V⟩|⟨m,rfl,V⟩
 ·refine wz (els:=[]) (Or.inl ⟨rfl,rfl⟩) hd hc hb hl fun m h' hm hm' hk=>hK _ _ (Or.inr ⟨m,rfl,?_⟩)
  have Vk:=V.yr (h':=h') fun k s ⟨i,hi⟩=>hk k (fun e=>by subst e;exact V.lv i k s hi ((V.get i k s hi).symm.trans hm)) (by simp[D.jA]) (by rw[V.get i k s hi];exact V.lv i k s hi)
  rw[Vs.iff]at Vk ⊢
  refine⟨fun k s hs=>?_,?_⟩
  ·rcases List.mem_cons.1 hs with e|hs
   ·cases e;exact⟨hm',by simp⟩
   ·exact Vk.1 k s hs
  ·rw[List.map_cons,List.nodup_cons]
   refine⟨fun hmm=>?_,Vk.2⟩
   obtain⟨⟨k,s⟩,hks,rfl⟩:=List.mem_map.1 hmm
   obtain⟨i,hi⟩:=List.getElem?_of_mem hks
   exact V.lv i _ _ hi ((V.get i _ _ hi).symm.trans hm)
 ·refine wz (els:=T) (Or.inr ⟨m,rfl,V.get 0 _ _ rfl⟩) hd hc hb hl fun m' h' hm hm' hk=>hK _ _ (Or.inr ⟨m',by rw[hlen],?_⟩)
  have V1:=V.pop
  have Vk:=V1.yr (h':=h') fun k s ⟨i,hi⟩=>hk k (fun e=>by subst e;exact V1.lv i k s hi ((V1.get i k s hi).symm.trans hm)) (fun e=>by
   simp[D.jA]at e
   exact V.ne (i+1) 0 k m s _ (by simpa using hi) rfl (by omega) e) (by rw[V1.get i k s hi];exact V1.lv i k s hi)
  rw[Vs.iff]at Vk ⊢
  refine⟨fun k s hs=>?_,?_⟩
  ·rcases List.mem_cons.1 hs with e|hs
   ·cases e;exact⟨hm',by simp⟩
   ·exact Vk.1 k s hs
  ·rw[List.map_cons,List.nodup_cons]
   refine⟨fun hmm=>?_,Vk.2⟩
   obtain⟨⟨k,s⟩,hks,rfl⟩:=List.mem_map.1 hmm
   obtain⟨i,hi⟩:=List.getElem?_of_mem hks
   exact V1.lv i _ _ hi ((V1.get i _ _ hi).symm.trans hm)
end
section
variable {esz:Nat}{h:Heap}{L:LSq}{v:D}{T:List D}{KH:HKq}
theorem QE.alloc (q:QE esz h L v T){d:D}(hK:∀n h',QE esz h' ((n,.box d)::L) v T->KH (.ptr n 0 0) h'):aa PP (.alloc d) h KH:=by
 rw[fP]
 exact fun n t=>hK n _ (q.more t.free (by simp))
theorem QE.zE {n s:Nat}{cs cs':List D}(q:QE esz h ((n,.box (.agg cs))::L) v T) (hl:cs.length=s) (hl':cs'.length=s) (ho:∀x,x∈cs'->x.one=true) (hK:∀h',QE esz h' ((n,.box (.agg cs'))::L) v T->KH .undef h'):aa PP (.st (.c (.ptr n 0 0)) (.c (.agg cs')) s) h KH:=by
 rcases q with⟨rfl,rfl,V⟩|⟨m,rfl,V⟩
 ·exact V.zE 0 rfl hl hl' ho fun h' V'=>hK h' (Or.inl ⟨rfl,rfl,V'⟩)
 ·exact V.zE 1 rfl hl hl' ho fun h' V'=>hK h' (Or.inr ⟨m,rfl,V'⟩)
theorem Vs.MT (V:Vs h L) (i:Nat){n j s:Nat}{els cs:List D}(hi:L[i]?=some (n,.arr s els)) (hd:els[j]?=some (.agg cs)) (hl:cs.length=s):aa PP (.ld (.c (.ptr n j 0)) s true) h KH=KH (.agg cs) h:=by
 rw[qO,V.get i _ _ hi]
 obtain⟨h1,he⟩:=List.getElem?_eq_some_iff.1 hd
 subst hl
 simp[iJ,h1,he,D.cells]
end
structure Fa where
 tf:Bool
 n:Int
def Fa.e (f:Fa):D:=.agg [.bool f.tf,.int .i64 f.n]
theorem Fa.gM (f:Fa):vK f.e:=jb (by simp)
def bS (l:List cF):List Fa:=(l.filter fun o=>decide (o.kind=2)).map fun o=>⟨false,o.n⟩
theorem IV {n:Int}{h:Heap}{KH:HKq}:aa PP (.bld [(.bool false),(.int .i64 0)] [(1,1,(.c (.int .i64 n)))]) h KH=KH (Fa.e ⟨false,n⟩) h:=by
 rw[oC]
 apply propext
 constructor
 ·exact fun hh=>hh.2
 ·refine fun hk=>⟨fun p hp=>?_,hk⟩
  simp[Arg.get]at hp
  subst hp
  exact⟨rfl,by show 1+1<=2;omega,fun d hd=>by simp[D.cells]at hd;subst hd;rfl⟩
theorem CP {l:List cF}{h:Heap}{L:LSq}{KH:HKq}{m:Nat}(V:Vs h ((m,.arr 3 (l.map cF.e))::L)) (hl:l.length<=100) (hK:∀v h',QE 2 h' ((m,.arr 3 (l.map cF.e))::L) v ((bS l).map Fa.e)->KH v h'):ag PP bF [.ms m 0 l.length] h KH:=by
 refine aU et (av _ _ _) rfl (je _ _) ?_
 unfold gh
 refine⟨fun q h'=>∃v,q=[v]/\QE 2 h' ((m,.arr 3 (l.map cF.e))::L) v ((bS l).map Fa.e),?_,?_⟩
 ·rintro f h' ⟨v,hq,q⟩
  simp only[List.cons.injEq,and_true]at hq
  rw[hq]
  exact hK v h' q
 rw[br,V.get 0 _ _ rfl]
 refine⟨rfl,?_⟩
 unfold eh
 refine⟨fun k q h'=>∃(i:Nat) (v:D),q=[v,nD i]/\i<=l.length/\k=l.length-i/\QE 2 h' ((m,.arr 3 (l.map cF.e))::L) v ((bS (l.take i)).map Fa.e),_,⟨0,.nil,rfl,by omega,rfl,Or.inl ⟨rfl,rfl,V⟩⟩,?_⟩
 rintro k f h1 ⟨i,v,hq,hi,hk,q⟩
 simp only[List.cons.injEq,and_true]at hq
 obtain⟨q1,q2⟩:=hq
 simp only[q1,q2,nD]
 by_cases hlt:i<l.length
 ·rw[sf (by omega),ai]
  obtain⟨o,ho⟩:∃o,l[i]?=some o:=⟨l[i],List.getElem?_eq_getElem hlt⟩
  have htk:l.take (i+1)=l.take i++[o]:=by rw[List.take_add_one,ho];rfl
  refine⟨fun q' h'=>∃v,q'=[v]/\QE 2 h' ((m,.arr 3 (l.map cF.e))::L) v ((bS (l.take (i+1))).map Fa.e),?_,?_⟩
  ·rintro f' h' ⟨v',hq',q'⟩
   simp only[List.cons.injEq,and_true]at hq'
   rw[hq',gd (by omega) (by omega)]
   simp only[ab,true_and]
   exact⟨_,by omega,i+1,v',rfl,by omega,rfl,q'⟩
  have V1:=q.vs
  rw[V1.ia 0 rfl (by omega) (by omega),Int.toNat_natCast,V1.MT 0 rfl (j:=i) (cs:=o.cs) (by simp[ho,cF.e]) rfl]
  refine q.alloc fun n19 h20 q20=>?_
  refine q20.zE rfl rfl (fun x hx=>o.gM.one x hx) fun h22 q22=>?_
  have V22:=q22.vs
  rw[V22.fa 0 rfl,V22.fV 0 (j:=0) rfl rfl,cU]
  by_cases hk2:o.kind=2
  ·rw[decide_eq_true hk2,ai,V22.fa 0 rfl,V22.fV 0 (j:=1) rfl rfl,IV]
   refine q22.less.push (Fa.gM _) rfl ?_ ?_ fun v' h' q'=>?_
   ·have:=List.length_filter_le (fun o:cF=>decide (o.kind=2)) (l.take i)
    rw[List.length_take]at this
    simp only[bS,List.length_map];omega
   ·have:=List.length_filter_le (fun o:cF=>decide (o.kind=2)) (l.take i)
    rw[List.length_take]at this
    simp only[bS,List.length_map];omega
   ·simp only[ab,true_and]
    refine⟨v',rfl,?_⟩
    have:(bS (l.take (i+1))).map Fa.e=(bS (l.take i)).map Fa.e++[Fa.e ⟨false,o.n⟩]:=by
     rw[htk];simp[bS,List.filter_append,hk2]
    rw[this]
    exact q'
  ·rw[decide_eq_false hk2,ah]
   simp only[ab,true_and]
   refine⟨v,rfl,?_⟩
   have:(bS (l.take (i+1))).map Fa.e=(bS (l.take i)).map Fa.e:=by
    rw[htk];simp[bS,List.filter_append,hk2]
   rw[this]
   exact q22.less
 ·have:i=l.length:=by omega
  subst this
  rw[qK (by omega),ah]
  simp only[ab,true_and]
  rw[List.take_length]at q
  exact⟨v,rfl,q⟩
end Go.Am
namespace Go.Am
open Go Go.Proofs
def dA (o:cF):Int:=if o.kind=2 then o.n else -1
theorem IM {o:cF}:aT PP jU [o.e] (· = .int .i64 (dA o)):=by
 refine dB tq (av _ _ _) rfl (zt _ _) ?_
 unfold yW
 refine Vs.nil.box o.gM.one fun n2 h3 V=>?_
 rw[V.fa 0 rfl,V.fV 0 (j:=0) rfl rfl,xX]
 unfold dA
 by_cases hk:o.kind=2
 ·rw[decide_eq_true hk,Bool.not_true,ah,V.fa 0 rfl,V.fV 0 (j:=1) rfl rfl,mg,if_pos hk]
 ·rw[decide_eq_false hk,Bool.not_false,ai,mg,if_neg hk]
theorem P8 {P:Program}{h:Heap}{KH:HKq}{n:Nat}{x:Term}(a:h n=.box x.e):aa P (.ld (.c (.ptr n 0 2)) 3 true) h KH=KH x.d.e h:=Kj a (by simp[Term.cs])
theorem LC {P:Program}{h:Heap}{KH:HKq}{n:Nat}{x:aH}(a:h n=.box x.e):aa P (.ld (.c (.ptr n 0 3)) 3 true) h KH=KH x.d.e h:=Kj a (by simp[aH.cs])
theorem Nx {x:aH}:aT PP o0 [x.e] (· = .int .i64 (dA x.d)):=by
 refine dB tt (av _ _ _) rfl (zu _ _) ?_
 unfold yZ
 refine Vs.nil.box x.gM.one fun n2 h3 V=>?_
 rw[V.fa 0 rfl,LC (V.get 0 _ _ rfl)]
 refine gg IM (fun d hd=>by simp at hd;subst hd;exact x.d.gM.pair) ?_
 rintro _ rfl
 rw[mg]
theorem KW {x:Term}:aT PP mX [x.e] (· = .int .i64 (dA x.d)):=by
 refine dB rW (av _ _ _) rfl (yY _ _) ?_
 unfold xg
 refine Vs.nil.box x.gM.one fun n2 h3 V=>?_
 rw[V.fa 0 rfl,P8 (V.get 0 _ _ rfl)]
 refine gg IM (fun d hd=>by simp at hd;subst hd;exact x.d.gM.pair) ?_
 rintro _ rfl
 rw[mg]
theorem A4 {l:List cF}{h:Heap}{L:LSq}{KH:HKq}(V:Vs h L) (hl:l.length<=100) (hK:∀v h',QE 2 h' L v ((bS l).map Fa.e)->KH v h'):ag PP bF [.sl (l.map cF.e)] h KH:=by
 refine aU et (av _ _ _) rfl (je _ _) ?_
 unfold gh
 refine⟨fun q h'=>∃v,q=[v]/\QE 2 h' L v ((bS l).map Fa.e),?_,?_⟩
 ·rintro f h' ⟨v,hq,q⟩
  simp only[List.cons.injEq,and_true]at hq
  rw[hq]
  exact hK v h' q
 rw[fv,List.length_map]
 unfold eh
 refine⟨fun k q h'=>∃(i:Nat) (v:D),q=[v,nD i]/\i<=l.length/\k=l.length-i/\QE 2 h' L v ((bS (l.take i)).map Fa.e),_,⟨0,.nil,rfl,by omega,rfl,Or.inl ⟨rfl,rfl,V⟩⟩,?_⟩
 rintro k f h1 ⟨i,v,hq,hi,hk,q⟩
 simp only[List.cons.injEq,and_true]at hq
 obtain⟨q1,q2⟩:=hq
 simp only[q1,q2,nD]
 by_cases hlt:i<l.length
 ·rw[sf (by omega),ai]
  obtain⟨o,ho⟩:∃o,l[i]?=some o:=⟨l[i],List.getElem?_eq_getElem hlt⟩
  have htk:l.take (i+1)=l.take i++[o]:=by rw[List.take_add_one,ho];rfl
  refine⟨fun q' h'=>∃v,q'=[v]/\QE 2 h' L v ((bS (l.take (i+1))).map Fa.e),?_,?_⟩
  ·rintro f' h' ⟨v',hq',q'⟩
   simp only[List.cons.injEq,and_true]at hq'
   rw[hq',gd (by omega) (by omega)]
   simp only[ab,true_and]
   exact⟨_,by omega,i+1,v',rfl,by omega,rfl,q'⟩
  rw[oj (esz:=3) (d:=o.e) (by omega) (by rw[Int.toNat_natCast,List.getElem?_map,ho];rfl) rfl,show o.e=.agg o.cs from rfl,FO (s:=3) rfl]
  refine q.alloc fun n19 h20 q20=>?_
  refine q20.zE rfl rfl (fun x hx=>o.gM.one x hx) fun h22 q22=>?_
  have V22:=q22.vs
  rw[V22.fa 0 rfl,V22.fV 0 (j:=0) rfl rfl,cU]
  by_cases hk2:o.kind=2
  ·rw[decide_eq_true hk2,ai,V22.fa 0 rfl,V22.fV 0 (j:=1) rfl rfl,IV]
   have hlf:(bS (l.take i)).length<=100:=by
    have:=List.length_filter_le (fun o:cF=>decide (o.kind=2)) (l.take i)
    rw[List.length_take]at this
    simp only[bS,List.length_map];omega
   refine q22.less.push (Fa.gM _) rfl (by rw[List.length_map];omega) (by rw[List.length_map];omega) fun v' h' q'=>?_
   ·simp only[ab,true_and]
    refine⟨v',rfl,?_⟩
    have:(bS (l.take (i+1))).map Fa.e=(bS (l.take i)).map Fa.e++[Fa.e ⟨false,o.n⟩]:=by
     rw[htk];simp[bS,List.filter_append,hk2]
    rw[this]
    exact q'
  ·rw[decide_eq_false hk2,ah]
   simp only[ab,true_and]
   refine⟨v,rfl,?_⟩
   have:(bS (l.take (i+1))).map Fa.e=(bS (l.take i)).map Fa.e:=by
    rw[htk];simp[bS,List.filter_append,hk2]
   rw[this]
   exact q22.less
 ·have:i=l.length:=by omega
  subst this
  rw[qK (by omega),ah]
  simp only[ab,true_and]
  rw[List.take_length]at q
  exact⟨v,rfl,q⟩
structure Ru where
 of:Fa
 needs:List Fa
 never:Bool
def Ru.e (r:Ru) (v:D):D:=.agg [.bool r.of.tf,.int .i64 r.of.n,v,.bool r.never]
def xx (b:Nat):Fa:=⟨true,b⟩
def zl (n:Int):Fa:=⟨false,n⟩
def AU (b a:Nat) (t:Term):Ru:=⟨xx b,bS [t.a]++[xx a],false⟩
def sW (b:Nat) (x:aH):Ru:=⟨zl (dA x.d),bS [x.a,x.b,x.c]++[xx b],dD x⟩
def gb (b:Nat) (xs:List aH):List Ru:=(xs.filter fun x=>decide (0<=dA x.d)).map (sW b)
def yF (t:Term):List Ru:=if 0<=dA t.d then [⟨zl (dA t.d),[],true⟩] else []
def Lx (b:Nat):Ru:=⟨xx b,[],true⟩
def tf (c:Code) (b:Nat):Block:=(c.b[b]?).getD default
theorem pj {c:Code}{b:Nat}{B:Block}(h:c.b[b]?=some B):tf c b=B:=by unfold tf;rw[h];rfl
def gz (c:Code) (b:Nat) (dep:List Nat):List Ru:=dep.map fun a=>AU b a (tf c a).t
def rb (c:Code) (R:List Bool) (Dp:List (List Nat)) (b:Nat):List Ru :=
 if hasB R b then gz c b (gL Dp b)++gb b (tf c b).i++yF (tf c b).t else [Lx b]
def ga (c:Code) (R:List Bool) (Dp:List (List Nat)) (n:Nat):List Ru:=(List.range n).flatMap (rb c R Dp)
def tK (c:Code) (R:List Bool) (Dp:List (List Nat)):List Ru:=ga c R Dp c.b.length
theorem wP {c:Code}{R:List Bool}{Dp:List (List Nat)}{n:Nat}:ga c R Dp (n+1)=ga c R Dp n++rb c R Dp n:=by
 unfold ga;rw[List.range_succ,List.flatMap_append];simp
def zw (N:Nat) (R:Int) (f:Fa):Prop:=0<=f.n/\(f.tf=true->f.n<(N:Int))/\(f.tf=false->f.n<R)
structure vF (N:Nat) (R:Int) (r:Ru):Prop where
 of:zw N R r.of
 needs:∀f∈r.needs,zw N R f
 len:r.needs.length<=10
structure kU (c:Code):Prop where
 g:dW c
 i:∀B∈c.b,∀x∈B.i,xh c.regs x
 len:∀B∈c.b,B.i.length<=100
 rg:1<=c.regs/\c.regs<=100
theorem rX.u {c:Code}(h:rX c):kU c:=by
 refine⟨h.g,fun B hB x hx=>?_,fun B hB=>Nat.le_trans (h.b B hB).len (by omega),?_⟩
 ·obtain⟨k,hk⟩:=List.getElem?_of_mem hx
  exact((h.b B hB).xs k x hk).1
 ·have:=h.regs;have:=h.nl;omega
theorem jR {R:Int}{o:cF}(h:mH R o):o.kind=2/\0<=o.n/\o.n<R:=by obtain⟨r,h1,h2,rfl⟩:=h;exact⟨rfl,h1,h2⟩
theorem mj {R:Int}{o:cF}(h:pv R o):o.kind=2->0<=o.n/\o.n<R:=by
 rcases h with h|⟨v,-,-,rfl⟩
 ·exact fun _=>(jR h).2
 ·intro h;cases h
def vG (R:Int) (o:cF):Prop:=o.kind=2->0<=o.n/\o.n<R
theorem cG {R:Int}:vG R au:=fun h=>by cases h
theorem xh.MF {R:Int}{x:aH}(h:xh R x):vG R x.d/\vG R x.a/\vG R x.b/\vG R x.c:=by
 cases h with
 | mov d a h1 h2=>exact⟨fun _=>(jR h1).2,mj h2,cG,cG⟩
 | un s d a h0 h1 h2=>exact⟨fun _=>(jR h1).2,mj h2,cG,cG⟩
 | bin s d a b h0 h1 h2 h3=>exact⟨fun _=>(jR h1).2,mj h2,mj h3,cG⟩
 | sel d a b c h1 h2 h3 h4=>exact⟨fun _=>(jR h1).2,mj h2,mj h3,mj h4⟩
 | id s d h0 h1=>exact⟨fun _=>(jR h1).2,cG,cG,cG⟩
 | param n d h0 h1=>exact⟨fun _=>(jR h1).2,cG,cG,cG⟩
 | load n d a h0 h1 h2=>exact⟨fun _=>(jR h1).2,fun _=>(jR h2).2,cG,cG⟩
 | store n a b h0 h1 h2=>exact⟨cG,fun _=>(jR h1).2,mj h2,cG⟩
 | atom s n a b hs h0 h1 h2=>exact⟨cG,fun _=>(jR h1).2,mj h2,cG⟩
 | fence s h0=>exact⟨cG,cG,cG,cG⟩
theorem y3.MF {N:Nat}{R:Int}{t:Term}(h:y3 N R t):vG R t.d/\vG R t.a/\vG R t.b:=by
 cases h with
 | jump a h=>exact⟨cG,cG,cG⟩
 | branch o a b ho h1 h2=>exact⟨cG,fun _=>(jR ho).2,cG⟩
 | barrier a h=>exact⟨cG,cG,cG⟩
 | collect s d a b t hs hd ha hb h=>exact⟨fun _=>(jR hd).2,mj ha,mj hb⟩
 | exit=>exact⟨cG,cG,cG⟩
theorem By {N:Nat}{R:Int}{l:List cF}(h:∀o∈l,vG R o):∀f,f∈bS l->zw N R f:=by
 intro f hf
 simp only[bS,List.mem_map,List.mem_filter,decide_eq_true_eq]at hf
 obtain⟨o,⟨ho,hk⟩,rfl⟩:=hf
 exact⟨(h o ho hk).1,fun h=>(by cases h),fun _=>(h o ho hk).2⟩
theorem mc {l:List cF}:(bS l).length<=l.length:=by
 unfold bS;rw[List.length_map];exact List.length_filter_le _ _
theorem CA {N:Nat}{R:Int}{b:Nat}(h:b<N):zw N R (xx b):=⟨by simp[xx],fun _=>by simp only[xx];omega,fun h=>by cases h⟩
theorem HN {N:Nat}{R:Int}{b:Nat}(h:b<N):vF N R (Lx b):=⟨CA h,fun f hf=>by simp[Lx]at hf,by simp[Lx]⟩
theorem E6 {N:Nat}{R:Int}{b a:Nat}{t:Term}(hb:b<N) (ha:a<N) (ht:y3 N R t):vF N R (AU b a t):=by
 refine⟨CA hb,fun f hf=>?_,?_⟩
 ·rcases List.mem_append.1 hf with hf|hf
  ·exact By (fun o ho=>by simp at ho;subst ho;exact ht.MF.2.1) f hf
  ·simp at hf;subst hf;exact CA ha
 ·have:(bS [t.a]).length<=1:=mc
  simp[AU];omega
theorem BJ {N:Nat}{R:Int}{b:Nat}{x:aH}(hb:b<N) (hx:xh R x) (h0:0<=dA x.d):vF N R (sW b x):=by
 refine⟨⟨h0,fun h=>(by cases h),fun _=>?_⟩,fun f hf=>?_,?_⟩
 ·unfold sW zl dA at *
  split at h0
  ·rename_i hk
   simp only[if_pos hk]
   exact(hx.MF.1 hk).2
  ·omega
 ·rcases List.mem_append.1 hf with hf|hf
  ·exact By (fun o ho=>by simp at ho;rcases ho with rfl|rfl|rfl;exact hx.MF.2.1;exact hx.MF.2.2.1;exact hx.MF.2.2.2) f hf
  ·simp at hf;subst hf;exact CA hb
 ·have:(bS [x.a,x.b,x.c]).length<=3:=mc
  simp[sW];omega
theorem E3 {N:Nat}{R:Int}{t:Term}(ht:y3 N R t) (h0:0<=dA t.d):vF N R ⟨zl (dA t.d),[],true⟩:=by
 refine⟨⟨h0,fun h=>(by cases h),fun _=>?_⟩,fun f hf=>(by simp at hf),by simp⟩
 unfold zl dA at *
 split at h0
 ·rename_i hk
  simp only[if_pos hk]
  exact(ht.MF.1 hk).2
 ·omega
end Go.Am
namespace Go.Am
open Go Go.Proofs
section
variable {h:Heap}{L:LSq}{KH:HKq}{K:D->Prop}
theorem Vs.Qj (V:Vs h L){n o:Nat}{s:Slot}(hm:(n,s)∈L):aa PP (.fadd (.c (.ptr n 0 0)) o) h KH=KH (.ptr n 0 o) h:=by
 obtain⟨i,hi⟩:=List.getElem?_of_mem hm;exact V.fa i hi
theorem Vs.MU (V:Vs h L){n j:Nat}{cs:List D}{e:D}(hm:(n,Slot.box (.agg cs))∈L) (he:cs[j]?=some e):aa PP (.ld (.c (.ptr n 0 j)) 1 false) h KH=KH e h:=FP (V.mem hm) he
theorem Vs.P7 (V:Vs h L){n s:Nat}{cs:List D}(hm:(n,Slot.box (.agg cs))∈L) (hl:cs.length=s):aa PP (.ld (.c (.ptr n 0 0)) s true) h KH=KH (.agg cs) h:=by
 obtain⟨i,hi⟩:=List.getElem?_of_mem hm;exact V.wo i hi hl
theorem Vs.OD (V:Vs h L){n:Nat}{d:D}(hm:(n,Slot.box d)∈L) (h1:d.one=true):aa PP (.ld (.c (.ptr n 0 0)) 1 false) h KH=KH d h:=by
 obtain⟨i,hi⟩:=List.getElem?_of_mem hm;exact V.y8 i hi h1
def BW (L:LSq) (v:D) (T:List Bool):Prop:=v=.sl (bL T)\/∃m,v=.ms m 0 T.length/\(m,.arr 1 (bL T))∈L
def FW (L:LSq) (v:D) (T:List Fa):Prop:=(v=.nil/\T=[])\/v=.sl (T.map Fa.e)\/∃m,v=.ms m 0 T.length/\(m,.arr 2 (T.map Fa.e))∈L
theorem BW.mono {L':LSq}{v:D}{T:List Bool}(hs:∀x∈L,x∈L') (w:BW L v T):BW L' v T:=by
 rcases w with h|⟨m,h1,h2⟩
 ·exact Or.inl h
 ·exact Or.inr ⟨m,h1,hs _ h2⟩
theorem FW.mono {L':LSq}{v:D}{T:List Fa}(hs:∀x∈L,x∈L') (w:FW L v T):FW L' v T:=by
 rcases w with h|h|⟨m,h1,h2⟩
 ·exact Or.inl h
 ·exact Or.inr (Or.inl h)
 ·exact Or.inr (Or.inr ⟨m,h1,hs _ h2⟩)
theorem BW.one {v:D}{T:List Bool}(w:BW L v T):v.one=true:=by rcases w with rfl|⟨m,rfl,-⟩<;>rfl
theorem FW.one {v:D}{T:List Fa}(w:FW L v T):v.one=true:=by rcases w with⟨rfl,-⟩|rfl|⟨m,rfl,-⟩<;>rfl
theorem FW.len (V:Vs h L){v:D}{T:List Fa}(w:FW L v T):ba v h K=K (.int .i64 (T.length:Int)):=by
 rcases w with⟨rfl,rfl⟩|rfl|⟨m,rfl,hm⟩
 ·rw[qv];rfl
 ·rw[fv,List.length_map]
 ·rw[br,V.mem hm]
  apply propext
  exact⟨fun hh=>hh.2,fun hk=>⟨rfl,hk⟩⟩
theorem FW.get (V:Vs h L){v:D}{T:List Fa}(w:FW L v T){i:Nat}{f:Fa}(hf:T[i]?=some f) (hK:KH f.e h):aa PP (.iadd (.c v) (.c (.int .i64 (i:Int))) 2) h fun a h1=>aa PP (.ld (.c a) 2 true) h1 KH:=by
 have hi:=(List.getElem?_eq_some_iff.1 hf).1
 rcases w with⟨-,rfl⟩|rfl|⟨m,rfl,hm⟩
 ·simp at hf
 ·rw[oj (esz:=2) (d:=f.e) (by omega) (by rw[Int.toNat_natCast,List.getElem?_map,hf];rfl) rfl,show f.e=.agg [.bool f.tf,.int .i64 f.n] from rfl,FO (s:=2) rfl]
  exact hK
 ·obtain⟨k,hk⟩:=List.getElem?_of_mem hm
  rw[V.ia k hk (by omega) (by omega),Int.toNat_natCast,V.MT k hk (j:=i) (cs:=[.bool f.tf,.int .i64 f.n]) (by rw[List.getElem?_map,hf];rfl) rfl]
  exact hK
theorem BW.len (V:Vs h L){v:D}{T:List Bool}(w:BW L v T):ba v h K=K (.int .i64 (T.length:Int)):=by
 rcases w with rfl|⟨m,rfl,hm⟩
 ·rw[fv];simp[bL]
 ·rw[br,V.mem hm]
  apply propext
  exact⟨fun hh=>hh.2,fun hk=>⟨rfl,hk⟩⟩
def PA (L:LSq) (v:D) (T:List Bool) (i:Nat) (p:D):Prop:=(v=.sl (bL T)/\p=.vp (.bool (hasB T i)) 0)\/∃m,v=.ms m 0 T.length/\(m,.arr 1 (bL T))∈L/\p=.ptr m i 0
theorem BW.at (V:Vs h L){v:D}{T:List Bool}(w:BW L v T){a:Int}(h0:0<=a) (hi:a<T.length) (hK:∀p,PA L v T a.toNat p->KH p h):aa PP (.iadd (.c v) (.c (.int .i64 a)) 1) h KH:=by
 rcases w with rfl|⟨m,rfl,hm⟩
 ·rw[oj (esz:=1) (d:=.bool (hasB T a.toNat)) h0 (tX (fC (by omega))) rfl]
  exact hK _ (Or.inl ⟨rfl,rfl⟩)
 ·obtain⟨k,hk⟩:=List.getElem?_of_mem hm
  rw[V.ia k hk h0 hi]
  exact hK _ (Or.inr ⟨m,rfl,hm,rfl⟩)
theorem PA.read (V:Vs h L){v p:D}{T:List Bool}{i:Nat}(w:PA L v T i p) (hi:i<T.length) (hK:KH (.bool (hasB T i)) h):aa PP (.fadd (.c p) 0) h fun a h1=>aa PP (.ld (.c a) 1 false) h1 KH:=by
 rcases w with⟨-,rfl⟩|⟨m,-,hm,rfl⟩
 ·rw[OZ,AD rfl];exact hK
 ·obtain⟨k,hk⟩:=List.getElem?_of_mem hm
  rw[iY,V.mem hm]
  refine⟨rfl,?_⟩
  rw[Nat.zero_add,V.y7 k hk (tX (fC hi)) rfl]
  exact hK
end
def xm (U R:List Bool) (f:Fa):List Bool:=if f.tf then U else R
def la (U R:List Bool) (f:Fa):Bool:=hasB (xm U R f) f.n.toNat
def mZ (U R:List Bool) (r:Ru):Bool:= !la U R r.of||(!r.never&&r.needs.all (la U R))
section
variable {h:Heap}{L:LSq}{KH:HKq}{vU vR:D}{U R:List Bool}
theorem NJ (V:Vs h L) (wU:BW L vU U) (wR:BW L vR R){f:Fa}(hf:zw U.length R.length f) (hK:∀p h',Vs h' L->PA L (if f.tf then vU else vR) (xm U R f) f.n.toNat p->KH p h'):ag PP dn [.agg [vU,vR],f.e] h KH:=by
 refine aU pV (av _ _ _) rfl (xz _ _ _) ?_
 unfold vt
 refine V.box (fun x hx=>?_) fun n3 h4 V4=>?_
 ·simp at hx;rcases hx with rfl|rfl
  ·exact wU.one
  ·exact wR.one
 refine V4.box f.gM.one fun n5 h6 V6=>?_
 rw[V6.fa 0 rfl,V6.fV 0 (j:=0) rfl rfl]
 obtain⟨b,n⟩:=f
 cases b
 ·rw[ah,V6.fa 1 rfl,V6.fV 1 (j:=1) rfl rfl,V6.fa 0 rfl,V6.fV 0 (j:=1) rfl rfl]
  refine(wR.mono (L':=_::_::L) (fun x hx=>by simp[hx])).at V6 hf.1 (hf.2.2 rfl) fun p hp=>hK p _ V6.pop.pop ?_
  rcases hp with hp|⟨m,h1,h2,h3⟩
  ·exact Or.inl hp
  ·rcases wR with rfl|⟨m',rfl,hm'⟩
   ·cases h1
   ·cases h1;exact Or.inr ⟨_,rfl,hm',h3⟩
 ·rw[ai,V6.fa 1 rfl,V6.fV 1 (j:=0) rfl rfl,V6.fa 0 rfl,V6.fV 0 (j:=1) rfl rfl]
  refine(wU.mono (L':=_::_::L) (fun x hx=>by simp[hx])).at V6 hf.1 (hf.2.1 rfl) fun p hp=>hK p _ V6.pop.pop ?_
  rcases hp with hp|⟨m,h1,h2,h3⟩
  ·exact Or.inl hp
  ·rcases wU with rfl|⟨m',rfl,hm'⟩
   ·cases h1
   ·cases h1;exact Or.inr ⟨_,rfl,hm',h3⟩
theorem CT {v cl:D}{T:List Fa}{p:Fa->Bool}(V:Vs h L) (w:FW L v T) (hl:T.length<=1000000)
  (hp:∀y∈T,∀h' (KH:HKq),Vs h' L->(∀h'',Vs h'' L->KH (.bool (p y)) h'')->aa PP (.callv (.c cl) [.c y.e]) h' KH) (hK:∀h',Vs h' L->KH (.bool (T.any p)) h'):ag PP aL [v,cl] h KH:=by
 refine aU bq (av _ _ _) rfl (cL _ _ _) ?_
 unfold bB
 have key:∀KH:HKq,(∀(i:Int) h',Vs h' L->(0<=i↔T.any p=true)->KH (.int .i64 i) h')->ag PP aN [v,cl] h KH:=by
  intro KH hk
  refine aU bD (av _ _ _) rfl (cY _ _ _) ?_
  unfold bN
  refine⟨fun _ h'=>Vs h' L/\T.any p=false,?_,?_⟩
  ·rintro f h' ⟨V',hn⟩
   exact hk (-1) h' V' (by simp[hn])
  rw[w.len V]
  unfold bA
  refine⟨fun m q h'=>Vs h' L/\∃i:Nat,i<=T.length/\m=T.length-i/\q=[.int .i64 (i:Int)]/\(T.take i).any p=false,_,⟨V,0,by omega,rfl,rfl,by simp⟩,?_⟩
  rintro m f h1 ⟨V1,i,hi,hm,hq,hn⟩
  simp only[List.cons.injEq,and_true]at hq
  rw[hq]
  by_cases hlt:i<T.length
  ·obtain⟨y,hy⟩:∃y,T[i]?=some y:=⟨T[i],List.getElem?_eq_getElem hlt⟩
   have hyT:=List.mem_of_getElem? hy
   rw[sf (by omega),ai]
   refine w.get V1 hy ?_
   refine hp y hyT _ _ V1 fun h2 V2=>?_
   cases hpy:p y
   ·rw[ah,gd (by omega) (by omega)]
    simp only[ab,true_and]
    refine⟨_,by omega,V2,i+1,by omega,rfl,by simp,?_⟩
    rw[List.take_add_one,hy]
    simp[hn,hpy]
   ·rw[ai]
    exact hk i _ V2 (by simp only[Int.natCast_nonneg,true_iff,List.any_eq_true];exact⟨y,hyT,hpy⟩)
  ·have:i=T.length:=by omega
   subst this
   rw[qK (by omega),ah]
   simp only[ab,true_and]
   rw[List.take_length]at hn
   exact⟨V1,hn⟩
 refine key _ fun i h' V' hi=>?_
 rw[xZ]
 have:decide ((0:Int)<=i)=T.any p:=by
  cases ht:T.any p
  ·rw[ht]at hi;simpa using hi
  ·rw[ht]at hi;simpa using hi
 rw[this]
 exact hK h' V'
theorem IH:cE PP eZ=true:=by kernel_rfl
theorem MR {n off len:Nat}{cs:List D}{h:Heap}{KH:HKq}{d:D}(a:h n=.box (.agg cs)) (hl:off+len<=cs.length) (hd:.agg ((cs.drop off).take len)=d):aa PP (.ld (.c (.ptr n 0 off)) len true) h KH=KH d h:=by rw[Kj a hl,hd]
theorem NG (V:Vs h L) (wU:BW L vU U) (wR:BW L vR R){r:Ru}(hr:vF U.length R.length r){nd:D}(wn:FW L nd r.needs) (hK:∀h',Vs h' L->KH (.bool (mZ U R r)) h'):ag PP fx [.agg [vU,vR],r.e nd] h KH:=by
 refine aU nH (av _ _ _) rfl (vr _ _ _) ?_
 unfold rC
 have hsel:∀f:Fa,zw U.length R.length f->f.n.toNat<(xm U R f).length:=fun f hf=>by
  obtain⟨b,n⟩:=f
  obtain⟨h1,h2,h3⟩:=hf
  cases b
  ·have g1:n<(R.length:Int):=h3 rfl
   have g2:0<=n:=h1
   show n.toNat<R.length;omega
  ·have g1:n<(U.length:Int):=h2 rfl
   have g2:0<=n:=h1
   show n.toNat<U.length;omega
 refine V.box (fun x hx=>?_) fun n3 h4 V4=>?_
 ·simp at hx;rcases hx with rfl|rfl
  ·exact wU.one
  ·exact wR.one
 refine V4.box (fun x hx=>?_) fun n5 h6 V6=>?_
 ·simp[Ru.e]at hx;rcases hx with rfl|rfl|rfl|rfl
  ·rfl
  ·rfl
  ·exact wn.one
  ·rfl
 have sub:∀x∈L,x∈(n5,Slot.box (r.e nd))::(n3,.box (.agg [vU,vR]))::L:=fun x hx=>by simp[hx]
 rw[V6.wo 1 (s:=2) rfl rfl,V6.fa 0 rfl,MR (d:=r.of.e) (V6.get 0 _ _ rfl) (by simp) rfl]
 refine NJ V6 (wU.mono sub) (wR.mono sub) hr.of fun p h14 V14 hp=>?_
 refine hp.read V14 (hsel _ hr.of) ?_
 rw[show hasB (xm U R r.of) r.of.n.toNat=la U R r.of from rfl]
 have hk:mZ U R r=(!la U R r.of||(!r.never&&r.needs.all (la U R))):=rfl
 cases ho:la U R r.of
 ·simp only[↓gS]
  rw[ho]at hk
  have:=hK _ V14.pop.pop
  rw[hk]at this
  exact this
 ·simp only[↓gS]
  rw[ho]at hk
  rw[V14.fa 0 rfl,V14.fV 0 (j:=3) rfl rfl]
  cases hn:r.never
  ·simp only[↓gS]
   rw[hn]at hk
   rw[V14.fa 0 rfl,V14.fV 0 (j:=2) rfl rfl,BN]
   refine CT (p:=fun f=> !la U R f) V14 (wn.mono sub) (by have:=hr.len;omega) (fun y hy h' KH' V' hk'=>?_) fun h44 V44=>?_
   ·refine⟨IH,?_⟩
    refine aU kO (av _ _ _) rfl (rj _ _ _) ?_
    unfold nh
    refine V'.box y.gM.one fun n3' h4' V4'=>?_
    show aa PP (.ld (.c (.ptr n3 0 0)) 2 true) h4' _
    rw[V4'.wo 2 (s:=2) rfl rfl,V4'.wo 0 (s:=2) rfl rfl]
    have sub':∀x∈L,x∈(n3',Slot.box y.e)::(n5,Slot.box (r.e nd))::(n3,.box (.agg [vU,vR]))::L:=fun x hx=>by simp[hx]
    refine NJ V4' (wU.mono sub') (wR.mono sub') (hr.needs y hy) fun p h8 V8 hp'=>?_
    refine hp'.read V8 (hsel _ (hr.needs y hy)) ?_
    rw[pK]
    exact hk' _ V8.pop
   ·have:=hK _ V44.pop.pop
    rw[hk]at this
    have e:r.needs.all (la U R) = !r.needs.any fun f=> !la U R f:=by
     rw[List.not_any_eq_all_not];simp
    rw[e]at this
    cases hany:r.needs.any fun f=> !la U R f<;>(rw[hany]at this;simp only[↓gS];exact this)
  ·simp only[↓gS]
   rw[hn]at hk
   have:=hK _ V14.pop.pop
   rw[hk]at this
   exact this
end
end Go.Am
namespace Go.Am
open Go Go.Proofs
section
variable {esz:Nat}{h:Heap}{L L':LSq}{v:D}{T:List D}{KH:HKq}
theorem QE.perm (p:L.Perm L') (q:QE esz h L v T):QE esz h L' v T:=by
 rcases q with⟨rfl,rfl,V⟩|⟨m,rfl,V⟩
 ·exact Or.inl ⟨rfl,rfl,V.perm p⟩
 ·exact Or.inr ⟨m,rfl,V.perm (p.cons _)⟩
theorem QE.PS (s:L'.Sublist L) (q:QE esz h L v T):QE esz h L' v T:=by
 rcases q with⟨rfl,rfl,V⟩|⟨m,rfl,V⟩
 ·exact Or.inl ⟨rfl,rfl,V.sub s⟩
 ·exact Or.inr ⟨m,rfl,V.sub (s.cons_cons _)⟩
theorem QE.one (q:QE esz h L v T):v.one=true:=by rcases q with⟨rfl,-⟩|⟨m,rfl,-⟩<;>rfl
theorem QE.K9 (q:QE esz h L v T){d z':D}{bytes:Nat}(hd:vK d) (hc:d.cells.length=esz) (hb:(T.length+1)*bytes<=140737488355328) (hl:T.length+1<=9223372036854775807)
  (hK:∀v h',QE esz h' L v (T++[d])->KH v h'):aa PP (.app (.c v) (.c (.sl [d])) esz bytes z') h KH:=by
 rcases q with⟨rfl,rfl,V⟩|⟨m,rfl,V⟩
 ·rw[BP]
  refine⟨fun e he=>by simp at he;subst he;exact hc,fun y hy=>by simp at hy;subst hy;exact hd.one,⟨by simpa using hb,by simp⟩,fun n t=>?_⟩
  exact hK _ _ (Or.inr ⟨n,by simp,V.push t.free (by simp)⟩)
 ·refine V.D4 (ys:=[d]) (fun {K} hk=>⟨fun e he=>by simp at he;subst he;exact hc,hk⟩) (fun y hy=>by simp at hy;subst hy;exact hd.one) (by simpa using hb) (by simpa using hl) fun n h' V'=>?_
  exact hK _ _ (Or.inr ⟨n,by simp,V'⟩)
theorem Vs.Qw (V:Vs h L){d z:D}(hd:vK d) (hc:d.cells.length=esz) (hK:∀m h',Vs h' ((m,.arr esz [d])::L)->KH (.ms m 0 1) h'):aa PP (.bldS true esz 1 z [(0,.c d)]) h KH :=
 Du hd.vd hd.one hc fun n t=>hK n _ (V.push t.free (by simp))
theorem cF.vone (o:cF):∀y∈o.e.cells,y.vone=true:=fun y hy=>by
 simp[cF.e,cF.cs,D.cells]at hy;rcases hy with rfl|rfl|rfl<;>rfl
theorem Fa.vone (f:Fa):∀y∈f.e.cells,y.vone=true:=fun y hy=>by
 simp[Fa.e,D.cells]at hy;rcases hy with rfl|rfl<;>rfl
theorem KQ {K:D->Prop}{a b c:cF}{h:Heap}(hk:K (.sl ([a,b,c].map cF.e))):ae PP (.bldS false 3 3 (.agg [(.int .i64 0),(.int .i64 0),(.int .i32 0)]) [(0,.c a.e),(1,.c b.e),(2,.c c.e)]) h K:=by
 refine⟨fun p hp=>?_,fun p hp=>?_,fun y hy=>by simp[D.cells]at hy;rcases hy with rfl|rfl<;>rfl,?_⟩
 ·simp[Arg.get]at hp
  rcases hp with rfl|rfl|rfl
  ·exact⟨by show 0<3;omega,rfl,a.gM.one⟩
  ·exact⟨by show 1<3;omega,rfl,b.gM.one⟩
  ·exact⟨by show 2<3;omega,rfl,c.gM.one⟩
 ·simp[Arg.get]at hp
  rcases hp with rfl|rfl|rfl
  ·exact a.vone
  ·exact b.vone
  ·exact c.vone
 ·simpa[Arg.get,setEls,List.replicate] using hk
end
def Yl (nk:Nat) (G:Ru->Prop) (S:List Ru->LSq->Prop) (St:LSq->Prop):Prop :=
 ∀(done:List Ru) (ru:Ru) (Lc:LSq) (h:Heap) (N:LSq) (nd:D) (KH:HKq),S done Lc->done.length<=100000->G ru->QE 2 h (Lc++N) nd (ru.needs.map Fa.e) ->
  (∀Lc' h',S (done++[ru]) Lc'->Vs h' (Lc'++N)->KH (.bool true) h')->(∀Lc' h',St Lc'->Vs h' (Lc'++N)->KH (.bool false) h')->aa PP (.callv (.c (.yld nk)) [.c (ru.e nd)]) h KH
section
variable {c:Code}{nk:Nat}{S:List Ru->LSq->Prop}{St:LSq->Prop}{h:Heap}{W M Lc:LSq}{done:List Ru}{KH:HKq}
theorem Qt {P:Program}{B:Block}:aa P (.ld (.c (.vp B.e 6)) 3 true) h KH=KH B.t.a.e h:=by
 rw[sX,iJ]
 apply propext
 exact⟨fun hh=>hh.2,fun hk=>⟨by show 6+3<=14;omega,hk⟩⟩
theorem Rf {P:Program}{d:D}{o o':Nat}:aa P (.fadd (.c (.vp d o)) o') h KH=KH (.vp d (o+o')) h:=AK
theorem LV {n:Int}{KH:HKq}:aa PP (.bld [(.bool false),(.int .i64 0)] [(0,1,(.c (.bool true))),(1,1,(.c (.int .i64 n)))]) h KH=KH (Fa.e ⟨true,n⟩) h:=iW rfl
theorem Pd {f:Fa}{v:D}(hv:v.one=true){KH:HKq}:aa PP (.bld [(.bool false),(.int .i64 0),.nil,(.bool false)] [(0,2,(.c f.e)),(2,1,(.c v))]) h KH=KH (.agg [.bool f.tf,.int .i64 f.n,v,.bool false]) h:=by
 cases v<;>first|exact iW rfl|cases hv
theorem JR {all:List Ru}(Y:Yl nk (fun r=>vF c.b.length c.regs r/\r∈all) S St) (hc:kU c){n2 n29 b:Nat}{dv:D}{dep:List Nat}(hS:S done Lc) (V:Vs h (W++(Lc++M))) (h2:(n2,.box c.e)∈M) (h29:(n29,.box (xx b).e)∈W) (hb:b<c.b.length) (wd:CW M dv dep) (hd:∀a∈dep,a<c.b.length) (hdl:dep.length<=1000) (hdn:done.length<=90000) (hall:∀r,r∈gz c b dep->r∈all)
  {a2 a3 a23 a7 a9:D}{f:Nat->D}{J:HJq}(hJ:∀Lc' h',S (done++gz c b dep) Lc'->Vs h' (W++(Lc'++M))->J [] h') (hK:∀Lc' h',St Lc'->Vs h' (Lc'++M)->KH (.tup []) h') :
  cQ h (.int .i64 (dep.length:Int)) dv (.ptr n2 0 0) (.ptr n29 0 0) (.yld nk) a2 a3 a23 a7 a9 f J KH:=by
 unfold cQ
 refine⟨fun m q h'=>∃(j:Nat) (Lc:LSq),q=[nD j]/\j<=dep.length/\m=dep.length-j/\S (done++gz c b (dep.take j)) Lc/\Vs h' (W++(Lc++M)),_,⟨0,Lc,rfl,by omega,rfl,by simpa[gz] using hS,V⟩,?_⟩
 rintro m f' h1 ⟨j,Lc1,hq,hj,hm,hS1,V1⟩
 simp only[List.cons.injEq,and_true]at hq
 simp only[hq,nD]
 have hM:∀x∈M,x∈W++(Lc1++M):=fun x hx=>by simp[hx]
 have hW:∀x∈W,x∈W++(Lc1++M):=fun x hx=>by simp[hx]
 by_cases hlt:j<dep.length
 ·rw[sf (by omega),ai]
  obtain⟨a,ha⟩:∃a,dep[j]?=some a:=⟨dep[j],List.getElem?_eq_getElem hlt⟩
  have haN:=hd a (List.mem_of_getElem? ha)
  obtain⟨B,hB⟩:∃B,c.b[a]?=some B:=⟨c.b[a],List.getElem?_eq_getElem haN⟩
  have hTB:=hc.g.t B (List.mem_of_getElem? hB)
  have htk:gz c b (dep.take (j+1))=gz c b (dep.take j)++[AU b a B.t]:=by
   rw[List.take_add_one,ha]
   simp[gz,pj hB]
  rw[CW.get V1 (wd.mono hM) ha,nD,V1.Qj (hM _ h2),V1.MU (hM _ h2) (j:=7) rfl,DX hB,OZ,Rf,Qt]
  refine V1.Qw B.t.a.gM rfl fun m1 h2' V2=>?_
  refine CP (l:=[B.t.a]) V2 (by simp) fun v h3 q3=>?_
  rw[LV]
  refine q3.push (Fa.gM _) rfl ?_ ?_ fun v' h4 q4=>?_
  ·have:(bS [B.t.a]).length<=1:=mc
   rw[List.length_map];omega
  ·have:(bS [B.t.a]).length<=1:=mc
   rw[List.length_map];omega
  rw[q4.vs.P7 (s:=2) (cs:=[.bool true,.int .i64 (b:Int)]) (by simp only[List.mem_cons];exact Or.inr (hW _ h29)) rfl,show D.agg [.bool true,.int .i64 (b:Int)]=(xx b).e from rfl,Pd q4.one]
  have q5:QE 2 h4 (Lc1++(W++M)) v' ((AU b a B.t).needs.map Fa.e):=by
   have q5:=(q4.PS (List.sublist_cons_self _ _)).perm (List.perm_append_comm_assoc W Lc1 M)
   have:(AU b a B.t).needs.map Fa.e=(bS [B.t.a]).map Fa.e++[Fa.e ⟨true,(a:Int)⟩]:=by simp[AU,xx]
   rw[this];exact q5
  refine Y _ (AU b a B.t) Lc1 h4 (W++M) v' _ hS1 (by simp[gz];omega) ⟨E6 hb haN hTB,hall _ (by rw[<- List.take_append_drop (j+1) dep];unfold gz at htk ⊢;rw[List.map_append,htk];simp)⟩ q5 (fun Lc' h5 hS5 V5=>?_) fun Lc' h5 hS5 V5=>?_
  ·rw[pK,Bool.not_true,ah,gd (by omega) (by omega)]
   simp only[ab,true_and]
   refine⟨_,by omega,j+1,Lc',rfl,by omega,rfl,?_,V5.perm (List.perm_append_comm_assoc Lc' W M)⟩
   rw[htk, <- List.append_assoc];exact hS5
  ·rw[pK,Bool.not_false,ai]
   exact hK Lc' h5 hS5 (V5.sub (List.Sublist.append (.refl _) (List.sublist_append_right W M)))
 ·have:j=dep.length:=by omega
  subst this
  rw[qK (by omega),ah]
  simp only[ab,true_and]
  rw[List.take_length]at hS1
  exact hJ Lc1 h1 hS1 V1
end
section
variable {c:Code}{nk:Nat}{S:List Ru->LSq->Prop}{St:LSq->Prop}{h:Heap}{W M Lc:LSq}{done:List Ru}{KH:HKq}{K:D->Prop}
structure GG (h:Heap) (n m:Nat) (x:aH) (f:Fa):Prop where
 x:h n=.box x.e
 f:h m=.box f.e
section
variable {n m:Nat}{x:aH}{f:Fa}
theorem GG.ld (I:GG h n m x f):ae PP (.ld (.c (.ptr n 0 0)) 15 true) h K=K x.e:=by
 rw[lT,show(15:Nat)=x.cs.length from rfl,wo I.x];rfl
theorem GG.fa (I:GG h n m x f){o:Nat}:ae PP (.fadd (.c (.ptr n 0 0)) o) h K=K (.ptr n 0 o):=by
 rw[show ae PP (.fadd (.c (.ptr n 0 0)) o) h K=aa PP (.fadd (.c (.ptr n 0 0)) o) h (fun d _=>K d) from rfl,iY,I.x]
 apply propext
 exact⟨fun hh=>by simpa using hh.2,fun hk=>⟨rfl,by simpa using hk⟩⟩
theorem GG.oa (I:GG h n m x f):ae PP (.ld (.c (.ptr n 0 6)) 3 true) h K=K x.a.e:=by rw[lT];exact Kj I.x (by simp[aH.cs])
theorem GG.ob (I:GG h n m x f):ae PP (.ld (.c (.ptr n 0 9)) 3 true) h K=K x.b.e:=by rw[lT];exact Kj I.x (by simp[aH.cs])
theorem GG.oc (I:GG h n m x f):ae PP (.ld (.c (.ptr n 0 12)) 3 true) h K=K x.c.e:=by rw[lT];exact Kj I.x (by simp[aH.cs])
theorem GG.at (I:GG h n m x f):ae PP (.ld (.c (.ptr m 0 0)) 2 true) h K=K f.e:=by
 rw[lT,show(2:Nat)=[D.bool f.tf,.int .i64 f.n].length from rfl,wo I.f];rfl
end
theorem Nl {n:Int}{K:D->Prop}:ae PP (.bld [(.bool false),(.int .i64 0)] [(1,1,(.c (.int .i64 n)))]) h K=K (Fa.e ⟨false,n⟩):=ly rfl
theorem Nk {f:Fa}{v:D}{t:Bool}(hv:v.one=true){K:D->Prop}:ae PP (.bld [(.bool false),(.int .i64 0),.nil,(.bool false)] [(0,2,(.c f.e)),(2,1,(.c v)),(3,1,(.c (.bool t)))]) h K=K (.agg [.bool f.tf,.int .i64 f.n,v,.bool t]):=by
 cases v<;>first|exact ly rfl|cases hv
theorem wY {b k:Nat}{xs:List aH}{x:aH}(hx:xs[k]?=some x):gb b (xs.take (k+1))=gb b (xs.take k)++if 0<=dA x.d then [sW b x] else []:=by
 rw[List.take_add_one,hx]
 unfold gb
 simp only[Option.toList_some,List.filter_append,List.map_append]
 congr 1
 by_cases h:0<=dA x.d<;>simp[h]
theorem tS {b:Nat}{xs:List aH}:(gb b xs).length<=xs.length:=by
 unfold gb;rw[List.length_map];exact List.length_filter_le _ _
theorem Ht {all:List Ru}(Y:Yl nk (fun r=>vF c.b.length c.regs r/\r∈all) S St){n29 b:Nat}{xs:List aH}(hx:∀x∈xs,xh c.regs x) (hxl:xs.length<=100) (hdn:done.length<=99000) (hall:∀r,r∈gb b xs->r∈all) (hS:S done Lc) (V:Vs h (W++(Lc++M))) (h29:(n29,.box (xx b).e)∈W) (hb:b<c.b.length)
  {a1 a2 a3 a23 a7 a9:D}{f:Nat->D}{J:HJq}(hJ:∀Lc' h',S (done++gb b xs) Lc'->Vs h' (W++(Lc'++M))->J [] h') (hK:∀Lc' h',St Lc'->Vs h' (Lc'++M)->KH (.tup []) h') :
  eW h (.int .i64 (xs.length:Int)) (.sl (xs.map aH.e)) (.ptr n29 0 0) (.yld nk) a1 a2 a3 a23 a7 a9 f J KH:=by
 unfold eW
 refine⟨fun m q h'=>∃(j:Nat) (Lc:LSq),q=[nD j]/\j<=xs.length/\m=xs.length-j/\S (done++gb b (xs.take j)) Lc/\Vs h' (W++(Lc++M)),_,⟨0,Lc,rfl,by omega,rfl,by simpa[gb] using hS,V⟩,?_⟩
 rintro m f' h1 ⟨j,Lc1,hq,hj,hm,hS1,V1⟩
 simp only[List.cons.injEq,and_true]at hq
 simp only[hq,nD]
 by_cases hlt:j<xs.length
 ·rw[sf (by omega),ai]
  obtain⟨x,hxj⟩:∃x,xs[j]?=some x:=⟨xs[j],List.getElem?_eq_getElem hlt⟩
  have hIx:=hx x (List.mem_of_getElem? hxj)
  rw[oj (esz:=15) (d:=x.e) (by omega) (by rw[Int.toNat_natCast,List.getElem?_map,hxj];rfl) rfl,show x.e=.agg x.cs from rfl,FO (s:=15) rfl]
  refine V1.alloc fun n101 h102 V102=>?_
  refine V102.zE 0 rfl rfl rfl (fun y hy=>x.gM.one y hy) fun h104 V104=>?_
  simp only[List.set_cons_zero]at V104
  rw[show D.agg x.cs=x.e from rfl]at V104
  have inb:∀{h':Heap}{X:LSq},Vs h' X->(∀y,y∈(n101,Slot.box x.e)::(W++(Lc1++M))->y∈X)->GG h' n101 n29 x (xx b):=fun V' hs=>⟨V'.mem (hs _ (by simp)),V'.mem (hs _ (by simp[h29]))⟩
  have I:=inb V104 fun _ h=>h
  simp only[↓I.ld,↓I.fa,↓I.oa,↓I.ob,↓I.oc,↓I.at]
  refine KQ ?_
  refine DJ (d:=(xx b).e) (Fa.gM _).one rfl (Fa.vone _) (fun y hy=>by simp[D.cells]at hy;rcases hy with rfl|rfl<;>rfl) ?_
  refine gg Nx (fun d hd=>by simp at hd;subst hd;exact x.gM.pair) ?_
  rintro _ rfl
  refine⟨by simp only[↓I.ld,↓I.fa,↓I.oa,↓I.ob,↓I.oc,↓I.at,ab,and_self],?_⟩
  rw[Nl]
  refine A4 (l:=[x.a,x.b,x.c]) V104 (by simp) fun v h128 q=>?_
  have I2:=inb q.vs fun _ h=>h
  refine⟨by simp only[↓I2.ld,↓I2.at,ab,and_self],?_⟩
  refine q.K9 (Fa.gM _) rfl ?_ ?_ fun v' h132 q132=>?_
  ·have:(bS [x.a,x.b,x.c]).length<=3:=mc
   rw[List.length_map];omega
  ·have:(bS [x.a,x.b,x.c]).length<=3:=mc
   rw[List.length_map];omega
  have I3:=inb q132.vs fun _ h=>h
  refine⟨by simp only[↓I3.ld,ab,and_self],?_⟩
  refine gg IJ (fun d hd=>by simp at hd;subst hd;exact x.gM.pair) ?_
  rintro _ rfl
  rw[show(⟨false,dA x.d⟩:Fa)=zl (dA x.d) from rfl,Nk q132.one]
  refine q132.alloc fun n137 h138 q138=>?_
  have I4:=inb q138.vs fun y h=>List.mem_cons_of_mem _ h
  refine⟨by simp only[↓I4.ld,↓I4.fa,↓I4.oa,↓I4.ob,↓I4.oc,↓I4.at,ab,and_self],?_⟩
  refine q138.zE rfl rfl (fun y hy=>?_) fun h149 q149=>?_
  ·simp only[List.mem_cons,List.not_mem_nil,or_false]at hy
   rcases hy with rfl|rfl|rfl|rfl
   ·rfl
   ·rfl
   ·exact q132.one
   ·rfl
  have V149:=q149.vs
  rw[V149.fa 0 rfl,V149.fa 0 rfl,V149.fV 0 (j:=1) rfl rfl,xZ]
  by_cases h0:0<=dA x.d
  ·rw[show(zl (dA x.d)).n=dA x.d from rfl,decide_eq_true h0]
   simp only[↓gS]
   rw[V149.wo 0 (s:=4) rfl rfl]
   have q5:QE 2 h149 (Lc1++(((n137,Slot.box (.agg [.bool (zl (dA x.d)).tf,.int .i64 (zl (dA x.d)).n,v',.bool (dD x)]))::(n101,.box x.e)::W)++M)) v' ((sW b x).needs.map Fa.e):=by
    have q5:=q149.perm (List.perm_append_comm_assoc ((n137,Slot.box (.agg [.bool (zl (dA x.d)).tf,.int .i64 (zl (dA x.d)).n,v',.bool (dD x)]))::(n101,.box x.e)::W) Lc1 M)
    have:(sW b x).needs.map Fa.e=(bS [x.a,x.b,x.c]).map Fa.e++[(xx b).e]:=by simp[sW]
    rw[this];exact q5
   refine Y _ (sW b x) Lc1 h149 _ v' _ hS1 (by have:=tS (b:=b) (xs:=xs.take j);rw[List.length_take]at this;rw[List.length_append];omega) ⟨BJ hb hIx h0,hall _ (List.mem_map.2 ⟨x,List.mem_filter.2 ⟨List.mem_of_getElem? hxj,by simpa using h0⟩,rfl⟩)⟩ q5 (fun Lc' h5 hS5 V5=>?_) fun Lc' h5 hS5 V5=>?_
   ·simp only[↓gS]
    rw[gd (by omega) (by omega)]
    simp only[ab,true_and]
    refine⟨_,by omega,j+1,Lc',rfl,by omega,rfl,?_,?_⟩
    ·rw[wY hxj,if_pos h0, <- List.append_assoc];exact hS5
    ·exact(V5.sub (List.Sublist.append (.refl _) (List.Sublist.append (.cons _ (.cons _ (.refl _))) (.refl _)))).perm (List.perm_append_comm_assoc Lc' W M)
   ·simp only[↓gS]
    exact hK Lc' h5 hS5 (V5.sub (List.Sublist.append (.refl _) (List.sublist_append_right _ M)))
  ·rw[show(zl (dA x.d)).n=dA x.d from rfl,decide_eq_false h0]
   simp only[↓gS]
   rw[gd (by omega) (by omega)]
   simp only[ab,true_and]
   refine⟨_,by omega,j+1,Lc1,rfl,by omega,rfl,?_,V149.pop.pop⟩
   rw[wY hxj,if_neg h0,List.append_nil];exact hS1
 ·have:j=xs.length:=by omega
  subst this
  rw[qK (by omega),ah]
  simp only[ab,true_and]
  rw[List.take_length]at hS1
  exact hJ Lc1 h1 hS1 V1
end
section
variable {c:Code}{nk:Nat}{S:List Ru->LSq->Prop}{St:LSq->Prop}{h:Heap}{M Lc:LSq}{KH:HKq}
theorem LU {f:Fa}{KH:HKq}:aa PP (.bld [(.bool false),(.int .i64 0),.nil,(.bool false)] [(0,2,(.c f.e)),(3,1,(.c (.bool true)))]) h KH=KH (.agg [.bool f.tf,.int .i64 f.n,.nil,.bool true]) h:=iW rfl
theorem IU {R:List Bool}{Dp:List (List Nat)}{b:Nat}(hc:kU c) (hD:∀l∈Dp,(∀a∈l,a<c.b.length)/\l.length<=1000):(rb c R Dp b).length<=1200:=by
 unfold rb
 split
 ·have h1:(gz c b (gL Dp b)).length<=1000:=by
   unfold gz gL;rw[List.length_map]
   cases hl:Dp[b]? with
   | none=>simp
   | some l=>exact(hD l (List.mem_of_getElem? hl)).2
  have h2:(gb b (tf c b).i).length<=100:=by
   refine Nat.le_trans tS ?_
   unfold tf
   cases hB:c.b[b]? with
   | none=>exact Nat.zero_le _
   | some B=>exact hc.len B (List.mem_of_getElem? hB)
  have h3:(yF (tf c b).t).length<=1:=by unfold yF;split<;>simp
  simp only[List.length_append];omega
 ·simp
theorem tJ {R:List Bool}{Dp:List (List Nat)}(hc:kU c) (hD:∀l∈Dp,(∀a∈l,a<c.b.length)/\l.length<=1000):∀n,(ga c R Dp n).length<=1200*n
 | 0=>by simp[ga]
 | n+1=>by
  rw[wP,List.length_append]
  have:=tJ (R:=R) hc hD n
  have:=IU (R:=R) (b:=n) hc hD
  omega
theorem Gx {R:List Bool}{Dp:List (List Nat)}(Y:Yl nk (fun r=>vF c.b.length c.regs r/\r∈tK c R Dp) S St) (hc:kU c){n2 pr pd:Nat}{dv:D}(hS:S [] Lc) (V:Vs h (Lc++M)) (h2:(n2,.box c.e)∈M) (hr:(pr,.box (.sl (bL R)))∈M) (hR:R.length=c.b.length)
  (hd:(pd,.box dv)∈M) (wd:LR M dv Dp) (hDl:Dp.length=c.b.length) (hD:∀l∈Dp,(∀a∈l,a<c.b.length)/\l.length<=1000)
  (hJ:∀Lc' h',S (tK c R Dp) Lc'->Vs h' (Lc'++M)->KH (.tup []) h') (hK:∀Lc' h',St Lc'->Vs h' (Lc'++M)->KH (.tup []) h') :
  ag PP bu [.yld nk,.ptr n2 0 0,.ptr pr 0 0,.ptr pd 0 0] h KH:=by
 have hnb:=hc.g.nb
 refine aU jO (av _ _ _) rfl (qh _ _ _ _ _) ?_
 unfold mz
 have inM:∀{Lc:LSq} x,x∈M->x∈Lc++M:=fun x hx=>by simp[hx]
 rw[V.Qj (inM _ h2),V.MU (inM _ h2) (j:=7) rfl,fv,List.length_map]
 unfold jK
 refine⟨fun m q h'=>∃(b:Nat) (Lc:LSq),q=[nD b]/\b<=c.b.length/\m=c.b.length-b/\S (ga c R Dp b) Lc/\Vs h' (Lc++M),_,⟨0,Lc,rfl,by omega,rfl,by simpa[ga] using hS,V⟩,?_⟩
 rintro m f h1 ⟨b,Lc1,hq,hb,hm,hS1,V1⟩
 simp only[List.cons.injEq,and_true]at hq
 simp only[hq,nD]
 by_cases hlt:b<c.b.length
 ·rw[sf (by omega),ai]
  obtain⟨B,hB⟩:∃B,c.b[b]?=some B:=⟨c.b[b],List.getElem?_eq_getElem hlt⟩
  have hBm:=List.mem_of_getElem? hB
  have hTB:=hc.g.t B hBm
  refine⟨fun _ h'=>∃Lc,S (ga c R Dp (b+1)) Lc/\Vs h' (Lc++M),?_,?_⟩
  ·rintro f' h' ⟨Lc',hS',V'⟩
   rw[gd (by omega) (by omega)]
   simp only[ab,true_and]
   exact⟨_,by omega,b+1,Lc',rfl,by omega,rfl,hS',V'⟩
  rw[DX hB,show B.e=.agg (.sl (B.i.map aH.e)::B.t.cs) from rfl,FO (s:=14) rfl]
  refine V1.alloc fun n23 h24 V24=>?_
  refine V24.zE 0 rfl rfl rfl (fun x hx=>B.gM.one x hx) fun h26 V26=>?_
  simp only[List.set_cons_zero]at V26
  rw[LV,show Fa.e ⟨true,(b:Int)⟩=.agg [.bool true,.int .i64 (b:Int)] from rfl]
  refine V26.alloc fun n29 h30 V30=>?_
  refine V30.zE 0 rfl rfl rfl (fun x hx=>(xx b).gM.one x hx) fun h32 V32=>?_
  simp only[List.set_cons_zero]at V32
  let W:LSq:=[(n29,.box (xx b).e),(n23,.box B.e)]
  have VW:Vs h32 (W++(Lc1++M)):=V32
  have inW:∀{Lc:LSq} x,x∈M->x∈W++(Lc++M):=fun x hx=>by simp[hx]
  have hRb:R[b]?=some (hasB R b):=fC (by omega)
  have hln:=tJ (R:=R) hc hD b
  have hin:∀r,r∈rb c R Dp b->r∈tK c R Dp:=fun r hr=>List.mem_flatMap.2 ⟨b,List.mem_range.2 hlt,hr⟩
  rw[V32.OD (inW _ hr) rfl,oj (esz:=1) (d:=.bool (hasB R b)) (by omega) (by rw[Int.toNat_natCast];exact tX hRb) rfl,AD rfl]
  have hsucc:ga c R Dp (b+1)=ga c R Dp b++rb c R Dp b:=wP
  have drop:∀{h':Heap}{Lc':LSq},Vs h' (Lc'++(W++M))->Vs h' (Lc'++M):=fun V5=>V5.sub (List.Sublist.append (.refl _) (List.sublist_append_right W M))
  cases hRv:hasB R b
  ·have hbk:rb c R Dp b=[Lx b]:=by unfold rb;rw[hRv];rfl
   simp only[↓gS]
   rw[V32.wo 0 (s:=2) rfl rfl,show D.agg [.bool true,.int .i64 (b:Int)]=(xx b).e from rfl,LU]
   refine Y _ (Lx b) Lc1 h32 (W++M) .nil _ hS1 (by omega) ⟨HN hlt,hin _ (by rw[hbk];simp)⟩ (Or.inl ⟨rfl,rfl,VW.perm (List.perm_append_comm_assoc W Lc1 M)⟩) (fun Lc' h5 hS5 V5=>?_) fun Lc' h5 hS5 V5=>?_
   ·rw[pK,Bool.not_true,ah]
    simp only[ab,true_and]
    exact⟨Lc',by rw[hsucc,hbk];exact hS5,drop V5⟩
   ·rw[pK,Bool.not_false,ai]
    exact hK Lc' h5 hS5 (drop V5)
  ·have hd1:(gz c b (gL Dp b)).length<=1000:=by
    unfold gz gL;rw[List.length_map]
    cases hl:Dp[b]? with
    | none=>simp
    | some l=>exact(hD l (List.mem_of_getElem? hl)).2
   have hi1:(gb b B.i).length<=100:=Nat.le_trans tS (hc.len B hBm)
   have hbk:rb c R Dp b=gz c b (gL Dp b)++gb b B.i++yF B.t:=by unfold rb;rw[hRv,if_pos rfl,pj hB]
   simp only[↓gS]
   refine⟨fun _ h'=>∃Lc,S (ga c R Dp b++gz c b (gL Dp b)) Lc/\Vs h' (W++(Lc++M)),?_,?_⟩
   ·rintro f2 h49 ⟨Lc2,hS2,V2⟩
    refine⟨fun _ h'=>∃Lc,S (ga c R Dp b++gz c b (gL Dp b)++gb b B.i) Lc/\Vs h' (W++(Lc++M)),?_,?_⟩
    ·rintro f3 h52 ⟨Lc3,hS3,V3⟩
     rw[V3.fa 1 rfl,MR (d:=B.t.e) (V3.get 1 _ _ rfl) (by show 0+1+13<=14;omega) rfl]
     refine gg KW (fun d hd=>by simp at hd;subst hd;exact B.t.gM.pair) ?_
     rintro _ rfl
     rw[xZ]
     by_cases h0:0<=dA B.t.d
     ·have he:yF B.t=[⟨zl (dA B.t.d),[],true⟩]:=by unfold yF;rw[if_pos h0]
      rw[decide_eq_true h0]
      simp only[↓gS]
      rw[IV,show(⟨false,dA B.t.d⟩:Fa)=zl (dA B.t.d) from rfl,LU]
      refine Y _ ⟨zl (dA B.t.d),[],true⟩ Lc3 h52 (W++M) .nil _ hS3 (by rw[List.length_append,List.length_append];omega) ⟨E3 hTB h0,hin _ (by rw[hbk,he];simp)⟩ (Or.inl ⟨rfl,rfl,V3.perm (List.perm_append_comm_assoc W Lc3 M)⟩) (fun Lc' h5 hS5 V5=>?_) fun Lc' h5 hS5 V5=>?_
      ·simp only[↓gS]
       simp only[ab,true_and]
       exact⟨Lc',by rw[hsucc,hbk,he, <- List.append_assoc, <- List.append_assoc];exact hS5,drop V5⟩
      ·simp only[↓gS]
       exact hK Lc' h5 hS5 (drop V5)
     ·have he:yF B.t=[]:=by unfold yF;rw[if_neg h0]
      rw[decide_eq_false h0]
      simp only[↓gS]
      simp only[ab,true_and]
      refine⟨Lc3,?_,V3.pop.pop⟩
      rw[hsucc,hbk,he,List.append_nil, <- List.append_assoc];exact hS3
    ·rw[V2.fa 1 rfl,V2.fV 1 (j:=0) rfl rfl,fv,List.length_map]
     exact Ht Y (hc.i B hBm) (hc.len B hBm) (by rw[List.length_append];omega) (fun r hr=>hin r (by rw[hbk];simp[hr])) hS2 V2 (by simp[W]) hlt (fun Lc' h' hS' V'=>⟨Lc',hS',V'⟩) hK
   ·rw[V32.OD (inW _ hd) wd.one]
    obtain⟨l,hl⟩:∃l,Dp[b]?=some l:=⟨Dp[b]'(by omega),List.getElem?_eq_getElem _⟩
    have hgl:gL Dp b=l:=by unfold gL;rw[hl];rfl
    obtain⟨hl1,hl2⟩:=hD l (List.mem_of_getElem? hl)
    have hlr:∀e,CW M e l->ba e h32 (fun a183=>cQ h32 a183 e (.ptr n2 0 0) (.ptr n29 0 0) (.yld nk) (.ptr pr 0 0) (.ptr pd 0 0) (.ptr n23 0 0) (.sl (c.b.map Block.e)) (.int .i64 (c.b.length:Int)) f (fun _ h'=>∃Lc,S (ga c R Dp b++gz c b (gL Dp b)) Lc/\Vs h' (W++(Lc++M))) KH):=fun e we=>by
     rw[CW.len VW (we.mono inW)]
     refine JR Y hc hS1 VW h2 (by simp[W]) hlt we hl1 hl2 (by omega) (fun r hr=>hin r (by rw[hbk,hgl];simp[hr])) (fun Lc' h' hS' V'=>⟨Lc',by rw[hgl];exact hS',V'⟩) hK
    exact LR.OO VW inW wd hl hlr
 ·have:b=c.b.length:=by omega
  subst this
  rw[qK (by omega),ah]
  exact hJ Lc1 h1 hS1 V1
end
end Go.Am
namespace Go.Am
open Go Go.Proofs
theorem Pv.cg {pre pre':Nat->List Nat}{bad:Nat->Prop}{s x:Nat}(h:∀a b,a∈pre b↔a∈pre' b) (k:Pv pre bad s x):Pv pre' bad s x:=by
 induction k with
 | refl h=>exact .refl h
 | step _ e hb ih=>exact .step ih ((h _ _).1 e) hb
theorem Dm.cg {pre pre':Nat->List Nat}{r d x:Nat}(h:∀a b,a∈pre b↔a∈pre' b):Dm r pre d x↔Dm r pre' d x :=
 not_congr ⟨Pv.cg h,Pv.cg fun a b=>(h a b).symm⟩
structure CV (c d:Code):Prop where
 len:c.b.length=d.b.length
 e:∀b,edg c b=edg d b
 x:∀b,EY c b=EY d b
theorem CV.refl (c:Code):CV c c:=⟨rfl,fun _=>rfl,fun _=>rfl⟩
section
variable {c d:Code}{O O' P P':List Nat}{at1 at2 U1 U2:List Int}
theorem CV.dp (s:CV c d) (hc:dW c) (hd:dW d) (D1:y9 c O O' at1 U1) (D2:y9 d P P' at2 U2) (a b:Nat):C3 c O O' a b↔C3 d P P' a b:=by
 have eE:m6 c=m6 d:=by
  unfold m6;rw[s.len]
  exact List.map_congr_left fun b _=>s.e b
 have h1:=D1.b.ord
 have h2:=D2.b.ord
 rw[eE,s.len]at h1
 have eO:O=P:=h1.O4 h2
 subst eO
 have eX:EY c=EY d:=funext s.x
 have eF:pc c O=pc d O:=by unfold pc;rw[eE,eX]
 have eT:oU (m6 c) O c.b.length (pc c O)=oU (m6 d) O d.b.length (pc d O):=by rw[eE,eF,s.len]
 have mem:∀x,x∈O'↔x∈P':=fun x=>by rw[D1.b.g.path,D2.b.g.path,eT,s.len]
 have pre:∀q x,q∈pB c O O' x↔q∈pB d O P' x:=fun q x=>by
  show q∈gL (vM (oU (m6 c) O c.b.length (pc c O)) O' (c.b.length+1)) x↔q∈gL (vM (oU (m6 d) O d.b.length (pc d O)) P' (d.b.length+1)) x
  rw[m9 (D1.oU hc),m9 (D2.oU hd),mem,eT]
 have eD:∀y x,Dm c.b.length (pB c O O') y x↔Dm d.b.length (pB d O P') y x:=fun y x=>by rw[s.len];exact Dm.cg pre
 unfold C3
 rw[s.e a,eD b a]
 refine and_congr_right fun _=>and_congr_right fun _=>and_congr_left fun _=>?_
 exact exists_congr fun t=>and_congr_right fun _=>eD b t
end
def O0 (c:Code) (a b:Nat):Prop:=∃O O' at' U,y9 c O O' at' U/\C3 c O O' a b
theorem KD {c:Code}(hc:dW c){O O':List Nat}{at' U:List Int}(D:y9 c O O' at' U){a b:Nat}:O0 c a b↔C3 c O O' a b :=
 ⟨fun ⟨_,_,_,_,D',h⟩=>((CV.refl c).dp hc hc D' D a b).1 h,fun h=>⟨_,_,_,_,D,h⟩⟩
noncomputable def xw (c:Code):List (List Nat):=(List.range c.b.length).map fun b=>FN c.b.length fun a=>O0 c a b
theorem KI {c:Code}(hc:dW c){O O':List Nat}{at' U:List Int}(D:y9 c O O' at' U):od c O O' c.b.length=xw c:=by
 unfold od xw
 refine List.map_congr_left fun b _=>?_
 congr 1
 funext a
 exact propext (KD hc D).symm
theorem Iv {c:Code}:(xw c).length=c.b.length:=by simp[xw]
theorem AN {c:Code}{b:Nat}(hb:b<c.b.length):gL (xw c) b=FN c.b.length fun a=>O0 c a b:=by
 unfold gL xw
 rw[List.getElem?_map,List.getElem?_range hb];rfl
theorem E7 {c:Code}(hc:dW c):∀l,l∈xw c->(∀a∈l,a<c.b.length)/\l.length<=1000:=fun l hl=>by
 simp only[xw,List.mem_map]at hl
 obtain⟨b,-,rfl⟩:=hl
 have:=hc.nb
 exact⟨fun a ha=>(xL.1 ha).1,Nat.le_trans EI (by omega)⟩
noncomputable def p7 (c:Code):List Bool:=(List.range c.b.length).map fun k=>@decide (Path (edg c) 0 k) (Classical.propDecidable _)
theorem ye {c:Code}:(p7 c).length=c.b.length:=by simp[p7]
theorem iw {c:Code}{k:Nat}(hk:k<c.b.length):hasB (p7 c) k=true↔Path (edg c) 0 k:=by
 unfold hasB p7
 rw[List.getElem?_map,List.getElem?_range hk]
 simp
theorem EB {c:Code}{S:List Bool}(hl:S.length=c.b.length) (h:∀k,hasB S k=true↔Path (edg c) 0 k):S=p7 c:=by
 apply List.ext_getElem (by rw[hl,ye])
 intro i h1 h2
 have e1:=fC h1
 have e2:=fC h2
 rw[List.getElem?_eq_getElem h1]at e1
 rw[List.getElem?_eq_getElem h2]at e2
 have e1:=Option.some.inj e1
 have e2:=Option.some.inj e2
 rw[e1,e2,Bool.eq_iff_iff,h,iw (by omega)]
noncomputable def ug (c:Code):List Ru:=tK c (p7 c) (xw c)
theorem MB {c:Code}(hc:kU c):∀r,r∈ug c->vF c.b.length c.regs r:=by
 intro r hr
 simp only[ug,tK,ga,List.mem_flatMap,List.mem_range]at hr
 obtain⟨b,hb,hr⟩:=hr
 obtain⟨B,hB⟩:∃B,c.b[b]?=some B:=⟨c.b[b],List.getElem?_eq_getElem hb⟩
 have hBm:=List.mem_of_getElem? hB
 unfold rb at hr
 split at hr
 ·rw[pj hB]at hr
  rcases List.mem_append.1 hr with hr|hr
  ·rcases List.mem_append.1 hr with hr|hr
   ·simp only[gz,List.mem_map]at hr
    obtain⟨a,ha,rfl⟩:=hr
    rw[AN hb]at ha
    have haN:=(xL.1 ha).1
    refine E6 hb haN ?_
    obtain⟨A,hA⟩:∃A,c.b[a]?=some A:=⟨c.b[a],List.getElem?_eq_getElem haN⟩
    rw[pj hA]
    exact hc.g.t A (List.mem_of_getElem? hA)
   ·simp only[gb,List.mem_map,List.mem_filter,decide_eq_true_eq]at hr
    obtain⟨x,⟨hx,h0⟩,rfl⟩:=hr
    exact BJ hb (hc.i B hBm x hx) h0
  ·unfold yF at hr
   split at hr
   ·rename_i h0
    simp at hr;subst hr
    exact E3 (hc.g.t B hBm) h0
   ·cases hr
 ·simp at hr;subst hr;exact HN hb
section
variable {c:Code}{h:Heap}{L:LSq}{KH:HKq}
structure NS (c:Code) (W:LSq) (n2 pr pd:Nat) (dv:D):Prop where
 h2:(n2,.box c.e)∈W
 hr:(pr,.box (.sl (bL (p7 c))))∈W
 hd:(pd,.box dv)∈W
 wd:LR W dv (xw c)
theorem Gm:cE PP bu=true:=by kernel_rfl
theorem Le (hc:kU c) (V:Vs h L) (hK:∀W n2 pr pd dv h',NS c W n2 pr pd dv->(∃O O' at' U,y9 c O O' at' U)->Vs h' (W++L)->KH (.fn bu [] [.ptr n2 0 0,.ptr pr 0 0,.ptr pd 0 0]) h'):ag PP eK [c.e] h KH:=by
 refine aU mI (av _ _ _) rfl (tY _ _) ?_
 unfold pQ
 refine V.box c.gM.one fun n2 h3 V3=>?_
 have ld:∀{h':Heap}{K:D->Prop},h' n2=.box c.e->ae PP (.ld (.c (.ptr n2 0 0)) 8 true) h' K=K c.e:=fun hn=>by
  rw[lT,show c.e=.agg [.int .i64 c.group,.int .i64 c.sub,.int .i64 c.regs,.int .i64 c.slots,.int .i64 c.params,.sl (c.arrays.map sQ.e),.sl (c.loops.map Loop.e),.sl (c.b.map Block.e)] from rfl]at *
  rw[show(8:Nat)=[D.int .i64 c.group,.int .i64 c.sub,.int .i64 c.regs,.int .i64 c.slots,.int .i64 c.params,.sl (c.arrays.map sQ.e),.sl (c.loops.map Loop.e),.sl (c.b.map Block.e)].length from rfl,wo hn]
 have g3:=V3.get 0 _ _ rfl
 simp only[↓ld g3]
 refine gg (Fb hc.g) (fun d hd=>by simp at hd;subst hd;exact c.gM.pair) ?_
 rintro _ ⟨R,rfl,hRl,hRi⟩
 have eR:=EB hRl hRi
 subst eR
 refine⟨by simp only[↓ld g3,ab,and_self],?_⟩
 refine Gz hc.g V3 fun v h10 O O' at' U G R10=>?_
 obtain⟨X,V10,wd⟩:=R10.lr
 rw[KI hc.g G]at wd
 refine V10.alloc fun n11 h12 V12=>?_
 have g12:h12 n2=.box c.e:=V12.mem (by simp)
 refine⟨by simp only[↓ld g12,ab,and_self],?_⟩
 refine V12.alloc fun n15 h16 V16=>?_
 have g16:h16 n2=.box c.e:=V16.mem (by simp)
 refine⟨by simp only[↓ld g16,ab,and_self],?_⟩
 refine V16.Jk 1 rfl rfl rfl fun h20 V20=>?_
 simp only[List.set_cons_succ,List.set_cons_zero]at V20
 refine V20.Jk 0 rfl rfl wd.one fun h22 V22=>?_
 simp only[List.set_cons_zero]at V22
 rw[BN]
 refine hK ((n15,.box v)::(n11,.box (.sl (bL (p7 c))))::(X++[(n2,.box c.e)])) n2 n11 n15 v h22 ⟨by simp,by simp,by simp,wd.mono fun x hx=>by simp[hx]⟩ ⟨O,O',at',U,G⟩ ?_
 have e:(n15,Slot.box v)::(n11,.box (.sl (bL (p7 c))))::(X++(n2,.box c.e)::L)=((n15,.box v)::(n11,.box (.sl (bL (p7 c))))::(X++[(n2,.box c.e)]))++L:=by simp
 rw[<- e];exact V22
end
end Go.Am
namespace Go.Am
open Go Go.Proofs
def EX (esz:Nat) (v:D) (T:List D) (A:LSq):Prop:=(v=.nil/\T=[]/\A=[])\/∃m,v=.ms m 0 T.length/\A=[(m,.arr esz T)]
section
variable {esz:Nat}{h:Heap}{L A:LSq}{v:D}{T:List D}{KH:HKq}{K:D->Prop}
theorem EX.qe (x:EX esz v T A) (V:Vs h (A++L)):QE esz h L v T:=by
 rcases x with⟨rfl,rfl,rfl⟩|⟨m,rfl,rfl⟩
 ·exact Or.inl ⟨rfl,rfl,V⟩
 ·exact Or.inr ⟨m,rfl,V⟩
theorem QE.ex (q:QE esz h L v T):∃A,EX esz v T A/\Vs h (A++L):=by
 rcases q with⟨rfl,rfl,V⟩|⟨m,rfl,V⟩
 ·exact⟨[],Or.inl ⟨rfl,rfl,rfl⟩,V⟩
 ·exact⟨_,Or.inr ⟨m,rfl,rfl⟩,V⟩
theorem EX.one (x:EX esz v T A):v.one=true:=by rcases x with⟨rfl,-⟩|⟨m,rfl,-⟩<;>rfl
theorem EX.len {L:LSq}(x:EX esz v T A) (hs:∀y∈A,y∈L) (V:Vs h L):ba v h K=K (.int .i64 (T.length:Int)):=by
 rcases x with⟨rfl,rfl,rfl⟩|⟨m,rfl,rfl⟩
 ·rw[qv];rfl
 ·rw[br,V.mem (hs (m,.arr esz T) (by simp))]
  apply propext
  exact⟨fun hh=>hh.2,fun hk=>⟨rfl,hk⟩⟩
theorem EX.get {L:LSq}(x:EX esz v T A) (hs:∀y∈A,y∈L) (V:Vs h L){i:Nat}{cs:List D}(hd:T[i]?=some (.agg cs)) (hc:cs.length=esz) (hK:KH (.agg cs) h):aa PP (.iadd (.c v) (.c (.int .i64 (i:Int))) esz) h fun a h1=>aa PP (.ld (.c a) esz true) h1 KH:=by
 have hi:=(List.getElem?_eq_some_iff.1 hd).1
 rcases x with⟨rfl,rfl,rfl⟩|⟨m,rfl,rfl⟩
 ·simp at hd
 ·obtain⟨k,hk⟩:=List.getElem?_of_mem (hs _ (List.mem_singleton.2 rfl))
  rw[V.ia k hk (by omega) (by omega),Int.toNat_natCast,V.MT k hk (j:=i) hd hc]
  exact hK
theorem QE.Qz (q:QE esz h L v T){d x z':D}{bytes:Nat}(hx:∀{K:List D->Prop},K [d]->velems esz x h K) (hd:aE d) (hb:(T.length+1)*bytes<=140737488355328) (hl:T.length+1<=9223372036854775807)
  (hK:∀m h',Vs h' ((m,.arr esz (T++[d]))::L)->KH (.ms m 0 (T.length+1)) h'):aa PP (.app (.c v) (.c x) esz bytes z') h KH:=by
 rcases q with⟨rfl,rfl,V⟩|⟨m,rfl,V⟩
 ·rw[BP]
  refine hx ⟨fun y hy=>by simp at hy;subst hy;exact hd,⟨by simpa using hb,by simp⟩,fun n t=>?_⟩
  exact hK n _ (V.push t.free (by simp))
 ·refine V.D4 (ys:=[d]) hx (fun y hy=>by simp at hy;subst hy;exact hd) (by simpa using hb) (by simpa using hl) fun n h' V'=>?_
  exact hK _ _ V'
def QR (r:Ru) (d:D):Prop:=∃nv,d=r.e nv/\FW [] nv r.needs
structure y4 (rs:List Ru) (ds:List D):Prop where
 len:ds.length=rs.length
 el:∀(i:Nat) (r:Ru) (d:D),rs[i]?=some r->ds[i]?=some d->QR r d
theorem y4.nil:y4 [] []:=⟨rfl,fun i r d h=>by simp at h⟩
theorem y4.snoc {rs:List Ru}{ds:List D}(h:y4 rs ds){r:Ru}{d:D}(k:QR r d):y4 (rs++[r]) (ds++[d]):=by
 refine⟨by simp[h.len],fun i r' d' h1 h2=>?_⟩
 have hl:=h.len
 by_cases hi:i<rs.length
 ·rw[List.getElem?_append_left hi]at h1
  rw[List.getElem?_append_left (by omega)]at h2
  exact h.el i r' d' h1 h2
 ·have hi1:=(List.getElem?_eq_some_iff.1 h1).1
  simp at hi1
  have:i=rs.length:=by omega
  subst this
  simp at h1
  rw[<- hl]at h2
  simp at h2
  subst h1;subst h2;exact k
theorem Ru.one {r:Ru}{v:D}(h:v.one=true):aE (r.e v):=fun x hx=>by
 simp[Ru.e]at hx;rcases hx with rfl|rfl|rfl|rfl
 ·rfl
 ·rfl
 ·exact h
 ·rfl
theorem K1 {r:Ru}{nd z:D}(q:QE 2 h L nd (r.needs.map Fa.e)) (hK:∀n nv h',FW [] nv r.needs->Vs h' ((n,.arr 4 [r.e nv])::L)->KH (.ms n 0 1) h'):aa PP (.bldS true 4 1 z [(0,.c (r.e nd))]) h KH:=by
 have ho:=q.one
 refine⟨fun p hp=>?_,fun _ p hp=>?_,fun n t=>?_⟩
 ·simp[Arg.get]at hp;subst hp
  exact⟨by show 0<1;omega,rfl,Ru.one ho⟩
 ·simp[Arg.get]at hp;subst hp
  intro x hx
  simp[Ru.e,D.cells]at hx
  rcases hx with rfl|rfl|rfl|rfl
  ·trivial
  ·trivial
  ·rcases q with⟨rfl,-,-⟩|⟨m,rfl,V⟩
   ·trivial
   ·refine⟨2,_,by rw[V.get 0 _ _ rfl];rfl,by simp,fun y hy w hw=>?_⟩
    have hy:=List.mem_of_mem_drop (List.mem_of_mem_take hy)
    obtain⟨f,-,rfl⟩:=List.mem_map.1 hy
    exact f.vone w hw
  ·trivial
 ·rcases q with⟨rfl,h0,V⟩|⟨m,rfl,V⟩
  ·have:KH (.ms n 0 1) (aq h n (.arr 4 [r.e .nil])):=hK n .nil _ (Or.inl ⟨rfl,by simpa using h0⟩) (V.push t.free (by simp))
   simpa[Arg.get,setEls,D.fz,D.fzc,D.nm,D.jA,Ru.e,Heap.freezeAll,List.replicate] using this
  ·have hm:=V.get 0 _ _ rfl
   have hrow:(h m).row=some (2,r.needs.map Fa.e):=by rw[hm];rfl
   have hmf:h m≠.free:=by rw[hm];simp
   have hne:n≠m:=by rintro rfl;exact hmf t.free
   have V1:Vs (h.freezeAll [m]) L:=V.pop.yr fun k s ⟨i,hi⟩=>eL [m] (by
    simp only[List.mem_singleton]
    exact V.ne (i+1) 0 k m s _ (by simpa using hi) rfl (by omega))
   have hnf:(h.freezeAll [m]) n=.free:=mv [m] t.free
   have:KH (.ms n 0 1) (aq (h.freezeAll [m]) n (.arr 4 [r.e (.sl (r.needs.map Fa.e))])):=hK n (.sl (r.needs.map Fa.e)) _ (Or.inr (Or.inl rfl)) (V1.push hnf (by simp))
   have e1:(r.e (.ms m 0 (r.needs.map Fa.e).length)).fz h=r.e (.sl (r.needs.map Fa.e)):=by
    simp only[Ru.e,D.fz,List.map_cons,List.map_nil,D.fzc,hrow,List.drop_zero,List.take_length]
   have e2:(r.e (.ms m 0 (r.needs.map Fa.e).length)).nm=[m]:=by simp[Ru.e,D.nm,D.jA]
   simp only[Arg.get,setEls,List.map_cons,List.map_nil,List.flatMap_cons,List.flatMap_nil,List.append_nil,if_true,e1,e2,List.replicate,List.set_cons_zero]
   exact this
def Rk (nk pa:Nat) (B:bk) (done:List Ru) (Lc:LSq):Prop:=∃v els A,y4 done els/\EX 4 v els A/\Lc=(nk,.lp .ready B)::(pa,.box v)::A
theorem C6 {nk pa:Nat}{B:bk}{G:Ru->Prop}(hps:B.ps=[7]) (hlt:∀p,p∈[7]->p<B.nt) (he:B.env=LEnv.get [(2,.ptr pa 0 0)]) (hAs:vH PP aZ B.nt B.assign) (hBs:vH PP aY B.nt B.body) :
  Yl nk G (Rk nk pa B) (fun _=>False):=by
 rintro done ru Lc h N nd KH ⟨v,els,A,hv,hx,rfl⟩ hdn-q hT -
 have q0:QE 2 h ((nk,.lp .ready B)::(pa,.box v)::(A++N)) nd (ru.needs.map Fa.e):=q
 have V0:=q0.vs
 have hel:=hv.len
 rw[H5]
 refine⟨⟨_,_,V0.get 0 _ _ rfl⟩,?_⟩
 refine pn (e:=[(2,.ptr pa 0 0)]) (V0.get 0 _ _ rfl) hps hAs hBs (by simp) hlt rfl he ?_
 rw[show([Arg.c (ru.e nd)].map fun x=>x.get [])=[ru.e nd] from rfl, <- cM]
 unfold bC
 refine q0.alloc fun n1 h1 q1=>?_
 refine q1.zE (cs':=[.bool ru.of.tf,.int .i64 ru.of.n,nd,.bool ru.never]) rfl rfl (fun x hx=>Ru.one q.one x hx) fun h2 q2=>?_
 refine⟨rfl,q2.vs.get 1 _ _ rfl,?_⟩
 have q3:=q2.b6 1 rfl (s':=.lp .busy B) (by simp)
 simp only[List.set_cons_succ,List.set_cons_zero]at q3
 rw[q3.vs.y8 2 rfl hx.one,q3.vs.wo 0 (s:=4) rfl rfl]
 rw[show D.agg [.bool ru.of.tf,.int .i64 ru.of.n,nd,.bool ru.never]=ru.e nd from rfl]
 refine K1 q3 fun n nv h5 hnv V5=>?_
 have qa:QE 4 h5 ((n,.arr 4 [ru.e nv])::(n1,.box (ru.e nd))::(nk,.lp .busy B)::(pa,.box v)::N) v els:=hx.qe (V5.perm (List.perm_append_comm_assoc [_,_,_,_] A N))
 refine qa.Qz (d:=ru.e nv) (fun {K} hk=>⟨[ru.e nv],by rw[V5.get 0 _ _ rfl];rfl,by simp,by simpa using hk⟩) (Ru.one hnv.one) (by omega) (by omega) fun m h6 V6=>?_
 refine V6.Jk 4 rfl hx.one rfl fun h7 V7=>?_
 simp only[List.set_cons_succ,List.set_cons_zero]at V7
 refine⟨V7.get 3 _ _ rfl,?_⟩
 have V8:=V7.b6 3 rfl (s':=.lp .ready B) (by simp)
 simp only[List.set_cons_succ,List.set_cons_zero]at V8
 refine hT ((nk,.lp .ready B)::(pa,.box (.ms m 0 (els.length+1)))::[(m,.arr 4 (els++[ru.e nv]))]) _ ⟨.ms m 0 (els.length+1),els++[ru.e nv],_,hv.snoc ⟨nv,rfl,hnv⟩,Or.inr ⟨m,by simp,rfl⟩,rfl⟩ ?_
 have V9:Vs _ ((m,Slot.arr 4 (els++[ru.e nv]))::(nk,.lp .ready B)::(pa,.box (.ms m 0 (els.length+1)))::N):=V8.sub (.cons_cons _ (.cons _ (.cons _ (.refl _))))
 exact V9.perm (List.perm_append_comm_assoc [_] [_,_] N)
theorem CU {c:Code}(hc:kU c){W:LSq}{n2 pr pd:Nat}{dv:D}(rm:NS c W n2 pr pd dv) (V:Vs h W){KH:HKq}(hK:∀v els A h',y4 (ug c) els->EX 4 v els A->Vs h' (A++W)->KH v h') :
  ag PP aO [.nil,.fn bu [] [.ptr n2 0 0,.ptr pr 0 0,.ptr pd 0 0]] h KH:=by
 refine aU bE (av _ _ _) rfl (cZ _ _ _) ?_
 unfold bO
 refine V.box (fun x hx=>by simp at hx;subst hx;rfl) fun pa h4 V4=>?_
 refine⟨fun _ h'=>∃v els A,y4 (ug c) els/\EX 4 v els A/\Vs h' ((pa,.box v)::(A++W)),?_,?_⟩
 ·rintro f h7 ⟨v,els,A,hv,hx,V7⟩
  rw[V7.y8 0 rfl hx.one]
  exact hK v els A h7 hv hx V7.pop
 refine⟨rfl,Gm,fun nk B ht he hps _ hlt hAs hBs=>?_⟩
 have V5:Vs (aq h4 nk (.lp .ready B)) ([(nk,.lp .ready B),(pa,.box .nil)]++W):=V4.push ht.free (by simp)
 refine Gx (R:=p7 c) (Dp:=xw c) (C6 hps hlt he hAs hBs) hc ⟨.nil,[],[],.nil,Or.inl ⟨rfl,rfl,rfl⟩,rfl⟩ V5 rm.h2 rm.hr ye rm.hd rm.wd Iv (E7 hc.g) (fun Lc' h' hS V'=>?_) fun Lc' h' hS V'=>hS.elim
 obtain⟨v,els,A,hv,hx,rfl⟩:=hS
 have V6:Vs h' ((nk,.lp .ready B)::(pa,.box v)::(A++W)):=V'
 have hget:h' nk=.lp .ready B:=V6.get 0 _ _ rfl
 show l7 _ _ _ _ _
 unfold l7
 rw[hget]
 simp only[ab,true_and]
 exact⟨v,els,A,hv,hx,(V6.b6 0 rfl (s':=.dead) (by simp)).pop⟩
theorem GB {c:Code}(hc:kU c){W:LSq}{n2 pr pd:Nat}{dv:D}(rm:NS c W n2 pr pd dv) (V:Vs h W){KH:HKq}(hK:∀v els A h',y4 (ug c) els->EX 4 v els A->Vs h' (A++W)->KH v h') :
  ag PP bH [.fn bu [] [.ptr n2 0 0,.ptr pr 0 0,.ptr pd 0 0]] h KH:=by
 refine aU dq (av _ _ _) rfl (jj _ _) ?_
 unfold dU
 exact CU hc rm V hK
end
end Go.Am
namespace Go.Am
open Go Go.Proofs
def Ee (rs:List Ru) (s:Fa->Prop):Prop:=∀r∈rs,s r.of->r.never=false/\∀f∈r.needs,s f
def Gf (rs:List Ru) (f:Fa):Prop:=∃s,Ee rs s/\s f
theorem Gf.closed (rs:List Ru):Ee rs (Gf rs):=by
 rintro r hr ⟨s,hs,h⟩
 obtain⟨h1,h2⟩:=hs r hr h
 exact⟨h1,fun f hf=>⟨s,hs,h2 f hf⟩⟩
def uz (U R:List Bool) (f:Fa):List Bool×List Bool:=if f.tf then(U.set f.n.toNat false,R) else(U,R.set f.n.toNat false)
def u9 (U R:List Bool):Nat:=U.count true+R.count true
theorem count_set {L:List Bool}:∀{i:Nat},hasB L i=true->(L.set i false).count true+1=L.count true:=by
 induction L with
 | nil=>intro i h;simp[hasB]at h
 | cons b L ih =>
  intro i h
  cases i with
  | zero =>
   simp[hasB]at h;subst h
   simp
  | succ i =>
   have h:hasB L i=true:=by simpa[hasB] using h
   have:=ih h
   rw[List.set_cons_succ,List.count_cons,List.count_cons]
   omega
theorem FY {L:List Bool}{i k:Nat}:hasB (L.set i false) k=(hasB L k && !decide (k=i)):=by
 unfold hasB
 rw[List.getElem?_set]
 by_cases h:i=k
 ·subst h
  rw[if_pos rfl]
  by_cases hl:i<L.length
  ·rw[if_pos hl];simp
  ·rw[if_neg hl,List.getElem?_eq_none (by omega)];simp
 ·rw[if_neg h]
  simp[Ne.symm h]
theorem IB {U R:List Bool}{f:Fa}(h:la U R f=true):u9 (uz U R f).1 (uz U R f).2+1=u9 U R:=by
 obtain⟨b,n⟩:=f
 cases b
 ·have:=count_set (L:=R) (i:=n.toNat) h
  simp only[uz,u9,Bool.false_eq_true,if_false];omega
 ·have:=count_set (L:=U) (i:=n.toNat) h
  simp only[uz,u9,if_true];omega
theorem F0 {U R:List Bool}{f g:Fa}(hf:0<=f.n) (hg:0<=g.n):la (uz U R f).1 (uz U R f).2 g=true↔la U R g=true/\g≠f:=by
 obtain⟨b,n⟩:=f
 obtain⟨b',n'⟩:=g
 have hne:(n'.toNat=n.toNat)↔n'=n:=by
  simp only at hf hg;omega
 cases b<;>cases b'<;>simp[la,xm,uz,FY,hne]
structure UV (c:Code) (rs:List Ru) (U R:List Bool):Prop where
 ul:U.length=c.b.length
 rl:R.length=c.regs.toNat
 up:∀f,zw c.b.length c.regs f->Gf rs f->la U R f=true
theorem wq {U R:List Bool}{r:Ru}:mZ U R r=true↔(la U R r.of=true->r.never=false/\∀f∈r.needs,la U R f=true):=by
 unfold mZ
 cases h1:la U R r.of<;>cases h2:r.never<;>simp[h1,h2]
theorem UV.drop {c:Code}{rs:List Ru}{U R:List Bool}(u:UV c rs U R){r:Ru}(hr:r∈rs) (ok:vF c.b.length c.regs r) (hk:mZ U R r=false):la U R r.of=true/\UV c rs (uz U R r.of).1 (uz U R r.of).2:=by
 have hg:la U R r.of=true:=by
  cases h:la U R r.of
  ·exfalso
   have:mZ U R r=true:=wq.2 fun h'=>by rw[h]at h';cases h'
   rw[hk]at this;cases this
  ·rfl
 have hng:¬Gf rs r.of:=by
  intro hG
  obtain⟨h1,h2⟩:=Gf.closed rs r hr hG
  have:mZ U R r=true:=wq.2 fun _=>⟨h1,fun f hf=>u.up f (ok.needs f hf) (h2 f hf)⟩
  rw[hk]at this;cases this
 refine⟨hg,⟨?_,?_,fun f hf hG=>?_⟩⟩
 ·unfold uz;split
  ·rw[List.length_set];exact u.ul
  ·exact u.ul
 ·unfold uz;split
  ·exact u.rl
  ·rw[List.length_set];exact u.rl
 ·rw[F0 ok.of.1 hf.1]
  refine⟨u.up f hf hG,?_⟩
  rintro rfl
  exact hng hG
noncomputable def FZ (c:Code) (rs:List Ru):List Bool:=(List.range c.b.length).map fun b=>@decide (Gf rs (xx b)) (Classical.propDecidable _)
noncomputable def C2 (c:Code) (rs:List Ru):List Bool:=(List.range c.regs.toNat).map fun k:Nat=>@decide (Gf rs (zl (k:Int))) (Classical.propDecidable _)
theorem uX {c:Code}{rs:List Ru}:(FZ c rs).length=c.b.length:=by simp[FZ]
theorem AL {c:Code}{rs:List Ru}:(C2 c rs).length=c.regs.toNat:=by simp[C2]
theorem EN {c:Code}{rs:List Ru}{b:Nat}(h:b<c.b.length):hasB (FZ c rs) b=true↔Gf rs (xx b):=by
 unfold hasB FZ
 rw[List.getElem?_map,List.getElem?_range h];simp
theorem EO {c:Code}{rs:List Ru}{k:Nat}(h:k<c.regs.toNat):hasB (C2 c rs) k=true↔Gf rs (zl (k:Int)):=by
 unfold hasB C2
 rw[List.getElem?_map,List.getElem?_range h];simp
theorem uW {A B:List Bool}(hl:A.length=B.length) (h:∀k,k<A.length->(hasB A k=true↔hasB B k=true)):A=B:=by
 apply List.ext_getElem hl
 intro i h1 h2
 have e1:=fC h1
 have e2:=fC h2
 rw[List.getElem?_eq_getElem h1]at e1
 rw[List.getElem?_eq_getElem h2]at e2
 rw[Option.some.inj e1,Option.some.inj e2,Bool.eq_iff_iff]
 exact h i h1
theorem UV.fin {c:Code}{rs:List Ru}{U R:List Bool}(u:UV c rs U R) (ok:∀r∈rs,vF c.b.length c.regs r) (hk:∀r∈rs,mZ U R r=true):U=FZ c rs/\R=C2 c rs:=by
 have hcl:Ee rs fun f=>zw c.b.length c.regs f/\la U R f=true:=by
  rintro r hr ⟨-,hg⟩
  obtain⟨h1,h2⟩:=wq.1 (hk r hr) hg
  exact⟨h1,fun f hf=>⟨(ok r hr).needs f hf,h2 f hf⟩⟩
 have key:∀f,zw c.b.length c.regs f->(la U R f=true↔Gf rs f):=fun f hf=>⟨fun h=>⟨_,hcl,hf,h⟩,u.up f hf⟩
 constructor
 ·refine uW (by rw[u.ul,uX]) fun k hkl=>?_
  have hkl:k<c.b.length:=by rw[<- u.ul];exact hkl
  rw[EN hkl, <- key (xx k) (CA hkl)];rfl
 ·refine uW (by rw[u.rl,AL]) fun k hkl=>?_
  have hkl:k<c.regs.toNat:=by rw[<- u.rl];exact hkl
  have:=key (zl (k:Int)) ⟨by simp[zl],fun h=>(by cases h),fun _=>by simp only[zl];omega⟩
  rw[EO hkl, <- this];rfl
theorem UV.start {c:Code}{rs:List Ru}(hr:0<=c.regs):UV c rs (List.replicate c.b.length true) (List.replicate c.regs.toNat true):=by
 refine⟨by simp,by simp,fun f hf _=>?_⟩
 obtain⟨b,n⟩:=f
 obtain⟨h0,h1,h2⟩:=hf
 cases b
 ·have h2:n<c.regs:=h2 rfl
  simp only at h0
  simp[la,xm,hasB,show n.toNat<c.regs.toNat by omega]
 ·have h1:n<c.b.length:=h1 rfl
  simp only at h0
  simp[la,xm,hasB,show n.toNat<c.b.length by omega]
def uE (U R:List Bool):D:=.agg [.sl (bL U),.sl (bL R)]
noncomputable def uF (c:Code):D:=uE (FZ c (ug c)) (C2 c (ug c))
end Go.Am
namespace Go.Am
open Go Go.Proofs
def kG (n i:Nat):List Bool:=(List.range n).map fun k=>decide (k<i)
theorem BU {n i:Nat}:(kG n i).length=n:=by simp[kG]
theorem Ia {n:Nat}:kG n 0=List.replicate n false:=by
 apply List.ext_getElem (by simp[kG]);intro i h1 h2;simp[kG]
theorem H9 {n:Nat}:kG n n=List.replicate n true:=by
 apply List.ext_getElem (by simp[kG]);intro i h1 h2;simp[kG]at h1 ⊢;omega
theorem BT {n i:Nat}:(kG n i).set i true=kG n (i+1):=by
 apply List.ext_getElem (by simp[kG])
 intro k h1 h2
 rw[List.getElem_set]
 simp only[kG,List.getElem_map,List.getElem_range]
 by_cases h:i=k
 ·subst h;simp
 ·rw[if_neg h]
  exact decide_eq_decide.2 (by omega)
section
variable {c:Code}{h:Heap}{KH:HKq}
theorem LG {P:Program}{bytes l:Nat}{h:Heap}{KH:HKq}(hb:l*bytes<=140737488355328) (hl:l<=9223372036854775807) (hK:KH .undef h):aa P (.mkc bytes (.c (.int .i64 (l:Int))) (.c (.int .i64 (l:Int)))) h KH :=
 ⟨by omega,by omega,by have:=Int.ofNat_le.2 hb;simpa using this,by omega,hK⟩
def gE (c:Code) (nU nR nu n4 n2 nr:Nat) (U R:List Bool) (X:LSq):LSq :=
 (nu,.box (.agg [.ms nU 0 c.b.length,.ms nR 0 nr]))::(nR,.arr 1 (bL R))::(nU,.arr 1 (bL U))::(n4,.box (.agg [.nil,.nil]))::(n2,.box c.e)::X
section
variable {nU nR nu n4 n2 nr:Nat}{U R:List Bool}{X A:LSq}
theorem Ij (hn:c.b.length<=1000) (V:Vs h (gE c nU nR nu n4 n2 nr (kG c.b.length 0) R X)){J:HJq}(hJ:∀h',Vs h' (gE c nU nR nu n4 n2 nr (kG c.b.length c.b.length) R X)->J [] h') :
  jf h (.int .i64 (c.b.length:Int)) (.ptr nu 0 0) (.ptr n2 0 0) (.ptr n4 0 0) J:=by
 unfold jf
 refine⟨fun m q h'=>∃i:Nat,q=[nD i]/\i<=c.b.length/\m=c.b.length-i/\Vs h' (gE c nU nR nu n4 n2 nr (kG c.b.length i) R X),_,⟨0,rfl,by omega,rfl,V⟩,?_⟩
 rintro m f h1 ⟨i,hq,hi,hm,V1⟩
 simp only[List.cons.injEq,and_true]at hq
 simp only[hq,nD]
 by_cases hlt:i<c.b.length
 ·rw[sf (by omega),ai,V1.fa 0 rfl,V1.fV 0 (j:=0) rfl rfl,V1.ia 2 rfl (by omega) (by omega),Int.toNat_natCast]
  refine V1.Br 2 rfl (by rw[bL,List.length_map,BU];exact hlt) rfl (rf _) fun h2 V2=>?_
  rw[re,BT]at V2
  rw[gd (by omega) (by omega)]
  simp only[ab,true_and]
  exact⟨_,by omega,i+1,rfl,by omega,rfl,V2⟩
 ·have:i=c.b.length:=by omega
  subst this
  rw[qK (by omega),ah]
  simp only[ab,true_and]
  exact hJ h1 V1
theorem Ik (hn:nr<=1000) (V:Vs h (gE c nU nR nu n4 n2 nr U (kG nr 0) X)){J:HJq}(hJ:∀h',Vs h' (gE c nU nR nu n4 n2 nr U (kG nr nr) X)->J [] h') :
  jg h (.int .i64 (nr:Int)) (.ptr nu 0 0) (.ptr n2 0 0) (.ptr n4 0 0) J:=by
 unfold jg
 refine⟨fun m q h'=>∃i:Nat,q=[nD i]/\i<=nr/\m=nr-i/\Vs h' (gE c nU nR nu n4 n2 nr U (kG nr i) X),_,⟨0,rfl,by omega,rfl,V⟩,?_⟩
 rintro m f h1 ⟨i,hq,hi,hm,V1⟩
 simp only[List.cons.injEq,and_true]at hq
 simp only[hq,nD]
 by_cases hlt:i<nr
 ·rw[sf (by omega),ai,V1.fa 0 rfl,V1.fV 0 (j:=1) rfl rfl,V1.ia 1 rfl (by omega) (by omega),Int.toNat_natCast]
  refine V1.Br 1 rfl (by rw[bL,List.length_map,BU];exact hlt) rfl (rf _) fun h2 V2=>?_
  rw[re,BT]at V2
  rw[gd (by omega) (by omega)]
  simp only[ab,true_and]
  exact⟨_,by omega,i+1,rfl,by omega,rfl,V2⟩
 ·have:i=nr:=by omega
  subst this
  rw[qK (by omega),ah]
  simp only[ab,true_and]
  exact hJ h1 V1
theorem Kv {rs:List Ru}{els:List D}{v:D}(hr:c.regs=(nr:Int)) (hrl:rs.length<=1000000) (hv:y4 rs els) (hx:EX 4 v els A) (hA:∀y∈A,y∈X) (ok:∀r∈rs,vF c.b.length c.regs r) (u:UV c rs U R) (V:Vs h (gE c nU nR nu n4 n2 nr U R X)){m0:Nat}{I:Nat->HJq}
  (hI:∀ch U' R' h',UV c rs U' R'->(ch=true->u9 U' R'<u9 U R)->(ch=false->U'=U/\R'=R/\∀r∈rs,mZ U R r=true)->Vs h' (gE c nU nR nu n4 n2 nr U' R' X)->∃m,m<m0/\I m [.bool ch] h') :
  ji h (.int .i64 (els.length:Int)) (.ptr n4 0 0) (.ptr nu 0 0) v m0 I:=by
 have hel:=hv.len
 unfold ji
 refine⟨fun m q h'=>∃(i:Nat) (ch:Bool) (U' R':List Bool),q=[.bool ch,nD i]/\i<=els.length/\m=els.length-i/\UV c rs U' R'/\(ch=true->u9 U' R'<u9 U R)/\(ch=false->U'=U/\R'=R/\∀r,r∈rs.take i->mZ U R r=true)/\Vs h' (gE c nU nR nu n4 n2 nr U' R' X),_,
  ⟨0,false,U,R,rfl,by omega,rfl,u,fun h=>(by cases h),fun _=>⟨rfl,rfl,fun r hr=>(by simp at hr)⟩,V⟩,?_⟩
 rintro m f h1 ⟨i,ch,U1,R1,hq,hi,hm,u1,hc1,hc2,V1⟩
 simp only[List.cons.injEq,and_true]at hq
 obtain⟨q1,q2⟩:=hq
 simp only[q1,q2,nD]
 by_cases hlt:i<els.length
 ·rw[sf (by omega),ai]
  obtain⟨r,hri⟩:∃r,rs[i]?=some r:=⟨rs[i]'(by omega),List.getElem?_eq_getElem _⟩
  obtain⟨d,hdi⟩:∃d,els[i]?=some d:=⟨els[i],List.getElem?_eq_getElem hlt⟩
  obtain⟨nv,rfl,wn⟩:=hv.el i r d hri hdi
  have hrm:=List.mem_of_getElem? hri
  have okr:=ok r hrm
  have htk:rs.take (i+1)=rs.take i++[r]:=by rw[List.take_add_one,hri];rfl
  refine⟨fun q h'=>∃(ch:Bool) (U' R':List Bool),q=[.bool ch]/\UV c rs U' R'/\(ch=true->u9 U' R'<u9 U R)/\(ch=false->U'=U/\R'=R/\∀r,r∈rs.take (i+1)->mZ U R r=true)/\Vs h' (gE c nU nR nu n4 n2 nr U' R' X),?_,?_⟩
  ·rintro f' h' ⟨ch',U2,R2,hq',u2,g1,g2,V2⟩
   simp only[List.cons.injEq,and_true]at hq'
   rw[hq',gd (by omega) (by omega)]
   simp only[ab,true_and]
   exact⟨_,by omega,i+1,ch',U2,R2,rfl,by omega,rfl,u2,g1,g2,V2⟩
  refine hx.get (fun y hy=>by have:=hA y hy;simp[gE,this]) V1 hdi rfl ?_
  refine V1.alloc fun n72 h73 V73=>?_
  refine V73.zE 0 rfl rfl rfl (fun x hx=>Ru.one wn.one x hx) fun h75 V75=>?_
  simp only[List.set_cons_zero]at V75
  have V75:Vs h75 ((n72,.box (r.e nv))::gE c nU nR nu n4 n2 nr U1 R1 X):=V75
  have hUl:U1.length=c.b.length:=u1.ul
  have hRl:R1.length=nr:=by rw[u1.rl,hr];rfl
  have wU:∀{L:LSq},(∀x,x∈gE c nU nR nu n4 n2 nr U1 R1 X->x∈L)->BW L (.ms nU 0 c.b.length) U1:=fun hs=>Or.inr ⟨nU,by rw[hUl],hs _ (by simp[gE])⟩
  have wR:∀{L:LSq},(∀x,x∈gE c nU nR nu n4 n2 nr U1 R1 X->x∈L)->BW L (.ms nR 0 nr) R1:=fun hs=>Or.inr ⟨nR,by rw[hRl],hs _ (by simp[gE])⟩
  have sub1:∀x,x∈gE c nU nR nu n4 n2 nr U1 R1 X->x∈(n72,Slot.box (r.e nv))::gE c nU nR nu n4 n2 nr U1 R1 X:=fun x hx=>List.mem_cons_of_mem _ hx
  have okr':vF U1.length R1.length r:=by rw[hUl,hRl, <- hr];exact okr
  rw[V75.wo 1 (s:=2) rfl rfl,V75.wo 0 (s:=4) rfl rfl]
  refine NG V75 (wU sub1) (wR sub1) okr' (wn.mono fun x hx=>by simp at hx) fun h81 V81=>?_
  rw[pK]
  cases hk:mZ U1 R1 r
  ·rw[Bool.not_false,ai,V81.wo 1 (s:=2) rfl rfl,V81.fa 0 rfl,MR (d:=r.of.e) (V81.get 0 _ _ rfl) (by simp) rfl]
   obtain⟨hg,u2⟩:=u1.drop hrm okr hk
   have hcnt:=IB hg
   refine NJ V81 (wU sub1) (wR sub1) okr'.of fun p h90 V90 hp=>?_
   have hfin:∀h',Vs h' (gE c nU nR nu n4 n2 nr (uz U1 R1 r.of).1 (uz U1 R1 r.of).2 X)->∃(ch:Bool) (U' R':List Bool),[D.bool true]=[.bool ch]/\UV c rs U' R'/\(ch=true->u9 U' R'<u9 U R)/\(ch=false->U'=U/\R'=R/\∀r,r∈rs.take (i+1)->mZ U R r=true)/\Vs h' (gE c nU nR nu n4 n2 nr U' R' X):=fun h' V'=>by
    refine⟨true,_,_,rfl,u2,fun _=>?_,fun h=>(by cases h),V'⟩
    cases ch with
    | true=>have:=hc1 rfl;omega
    | false=>obtain⟨rfl,rfl,-⟩:=hc2 rfl;omega
   have hb:∀f:Fa,zw U1.length R1.length f->f.n.toNat<(xm U1 R1 f).length:=fun f hf=>by
    obtain⟨b,n⟩:=f
    obtain⟨h1,h2,h3⟩:=hf
    cases b
    ·have g1:n<(R1.length:Int):=h3 rfl
     have g2:0<=n:=h1
     show n.toNat<R1.length;omega
    ·have g1:n<(U1.length:Int):=h2 rfl
     have g2:0<=n:=h1
     show n.toNat<U1.length;omega
   have hbl:=hb _ okr'.of
   have eset:∀b,b=r.of.tf->(uz U1 R1 r.of)=if b then(U1.set r.of.n.toNat false,R1) else(U1,R1.set r.of.n.toNat false):=fun b hb=>by subst hb;rfl
   cases hblk:r.of.tf
   ·have e1:xm U1 R1 r.of=R1:=by unfold xm;rw[hblk];rfl
    rw[e1]at hp hbl
    rw[hblk]at hp
    rcases hp with⟨hp,-⟩|⟨m',hp,-,rfl⟩
    ·cases hp
    ·cases hp
     rw[iY,V90.get 2 _ _ rfl]
     refine⟨rfl,?_⟩
     rw[Nat.zero_add]
     refine V90.Br 2 rfl (by simpa[bL] using hbl) rfl (rf _) fun h94 V94=>?_
     rw[re]at V94
     simp only[ab,true_and]
     refine hfin h94 ?_
     rw[eset false hblk.symm]
     exact V94.pop
   ·have e1:xm U1 R1 r.of=U1:=by unfold xm;rw[hblk];rfl
    rw[e1]at hp hbl
    rw[hblk]at hp
    rcases hp with⟨hp,-⟩|⟨m',hp,-,rfl⟩
    ·cases hp
    ·simp only[if_true,D.ms.injEq]at hp
     obtain⟨rfl,-,-⟩:=hp
     rw[iY,V90.get 3 _ _ rfl]
     refine⟨rfl,?_⟩
     rw[Nat.zero_add]
     refine V90.Br 3 rfl (by simpa[bL] using hbl) rfl (rf _) fun h94 V94=>?_
     rw[re]at V94
     simp only[ab,true_and]
     refine hfin h94 ?_
     rw[eset true hblk.symm]
     exact V94.pop
  ·rw[Bool.not_true,ah]
   simp only[ab,true_and]
   refine⟨ch,U1,R1,rfl,u1,hc1,fun h0=>?_,V81.pop⟩
   obtain⟨rfl,rfl,h3⟩:=hc2 h0
   refine⟨rfl,rfl,fun r' hr'=>?_⟩
   rw[htk]at hr'
   rcases List.mem_append.1 hr' with hr'|hr'
   ·exact h3 r' hr'
   ·simp at hr';subst hr';exact hk
 ·have:i=els.length:=by omega
  subst this
  rw[qK (by omega),ah]
  simp only[ab,true_and]
  refine hI ch U1 R1 h1 u1 hc1 (fun h0=>?_) V1
  obtain⟨e1,e2,h3⟩:=hc2 h0
  rw[hel,List.take_length]at h3
  exact⟨e1,e2,h3⟩
theorem Kw {rs:List Ru}{els:List D}{v:D}(hr:c.regs=(nr:Int)) (hrl:rs.length<=1000000) (hv:y4 rs els) (hx:EX 4 v els A) (hA:∀y∈A,y∈X) (ok:∀r∈rs,vF c.b.length c.regs r) (u:UV c rs U R) (V:Vs h (gE c nU nR nu n4 n2 nr U R X)){J:HJq}
  (hJ:∀h',Vs h' (gE c nU nR nu n4 n2 nr (FZ c rs) (C2 c rs) X)->J [] h'):jh h v (.ptr n4 0 0) (.ptr nu 0 0) J:=by
 unfold jh
 refine⟨fun m q h'=>∃(ch:Bool) (U R:List Bool),q=[.bool ch]/\m=2*u9 U R+(if ch then 1 else 0)/\UV c rs U R/\(ch=false->∀r∈rs,mZ U R r=true)/\Vs h' (gE c nU nR nu n4 n2 nr U R X),_,⟨true,U,R,rfl,rfl,u,fun h=>(by cases h),V⟩,?_⟩
 rintro m f h1 ⟨ch,U1,R1,hq,hm,u1,hk,V1⟩
 simp only[List.cons.injEq,and_true]at hq
 rw[hq]
 cases ch with
 | true =>
  rw[ai,hx.len (fun y hy=>by have:=hA y hy;simp[gE,this]) V1]
  refine Kv hr hrl hv hx hA ok u1 V1 fun ch' U2 R2 h2 u2 g1 g2 V2=>?_
  refine⟨2*u9 U2 R2+(if ch' then 1 else 0),?_,ch',U2,R2,rfl,rfl,u2,fun h0=>?_,V2⟩
  ·subst hm
   cases ch' with
   | true=>have:=g1 rfl;simp;omega
   | false=>obtain⟨rfl,rfl,-⟩:=g2 rfl;simp
  ·obtain⟨rfl,rfl,h3⟩:=g2 h0;exact h3
 | false =>
  rw[ah]
  simp only[ab,true_and]
  obtain⟨rfl,rfl⟩:=u1.fin ok (hk rfl)
  exact hJ h1 V1
end
end
end Go.Am
namespace Go.Am
open Go Go.Proofs
theorem Iz {d:D}{h:Heap}{K:D->Prop}:ae PP (.len (.c d)) h K=ba d h K:=rfl
theorem NS.mono {c:Code}{W W':LSq}{n2 pr pd:Nat}{dv:D}(hs:∀x∈W,x∈W') (r:NS c W n2 pr pd dv):NS c W' n2 pr pd dv:=⟨hs _ r.h2,hs _ r.hr,hs _ r.hd,r.wd.mono hs⟩
def QH (c:Code):Prop:=∃O O' at' U,y9 c O O' at' U
theorem JS {c:Code}(hc:kU c):(ug c).length<=1000000:=by
 have:=tJ (R:=p7 c) hc (E7 hc.g) c.b.length
 have:=hc.g.nb
 unfold ug tK;omega
theorem IX {n:Nat}{b:Bool}:bL (List.replicate n b)=List.replicate n (.bool b):=by simp[bL]
theorem Nw {c:Code}(hc:kU c):aT PP dJ [c.e] (fun r=>r=uF c/\QH c):=by
 have hnb:=hc.g.nb
 obtain⟨nr,hr⟩:∃nr:Nat,c.regs=(nr:Int):=⟨c.regs.toNat,by have:=hc.rg;omega⟩
 have hr1:=hc.rg
 refine dB nI (av _ _ _) rfl (vu _ _) ?_
 unfold rD
 refine Vs.nil.box c.gM.one fun n2 h3 V3=>?_
 refine V3.alloc fun n4 h5 V5=>?_
 rw[V5.qg 1 rfl,V5.u5 1 (j:=7) rfl rfl,fv,List.length_map,V5.qg 1 rfl,V5.u5 1 (j:=2) rfl rfl,hr]
 refine LG (by omega) (by omega) ?_
 refine LG (by omega) (by omega) ?_
 refine V5.Ly (by omega) (by omega) fun nU h16 V16=>?_
 refine⟨by simp only[↓V16.qg 2 rfl,↓V16.u5 2 (j:=0+2) rfl rfl,hr,ab,and_self],?_⟩
 refine V16.Ly (by omega) (by omega) fun nR h20 V20=>?_
 refine⟨by simp only[↓V20.qg 3 rfl,↓V20.u5 3 (j:=0+7) rfl rfl,Iz,fv,List.length_map,ab,and_self],?_⟩
 rw[ly rfl]
 refine V20.alloc fun nu h26 V26=>?_
 refine⟨by simp only[↓V26.qg 4 rfl,↓V26.u5 4 (j:=0+7) rfl rfl,↓V26.u5 4 (j:=0+2) rfl rfl,Iz,fv,List.length_map,hr,ab,and_self],?_⟩
 refine V26.zE 0 (cs':=[.ms nU 0 c.b.length,.ms nR 0 nr]) rfl rfl rfl (fun x hx=>by simp at hx;rcases hx with rfl|rfl<;>rfl) fun h33 V33=>?_
 simp only[List.set_cons_zero]at V33
 have V33:Vs h33 (gE c nU nR nu n4 n2 nr (kG c.b.length 0) (kG nr 0) []):=by
  unfold gE;rw[Ia,Ia,IX,IX];exact V33
 refine⟨fun _ h'=>Vs h' (gE c nU nR nu n4 n2 nr (kG c.b.length c.b.length) (kG nr 0) []),?_,?_⟩
 ·rintro f h36 V36
  refine⟨fun _ h'=>Vs h' (gE c nU nR nu n4 n2 nr (kG c.b.length c.b.length) (kG nr nr) []),?_,?_⟩
  ·rintro f2 h39 V39
   rw[V39.wo 4 (s:=8) rfl rfl]
   refine Le hc V39 fun W m2 pr pd dv h43 rm hD V43=>?_
   refine GB hc (rm.mono (W':=W++gE c nU nR nu n4 n2 nr (kG c.b.length c.b.length) (kG nr nr) []) fun x hx=>by simp[hx]) V43 fun v els A h45 hv hx V45=>?_
   have V45':Vs h45 (gE c nU nR nu n4 n2 nr (List.replicate c.b.length true) (List.replicate c.regs.toNat true) (A++W)):=by
    rw[H9,H9, <- List.append_assoc]at V45
    have e:c.regs.toNat=nr:=by omega
    rw[e]
    exact V45.perm List.perm_append_comm
   refine⟨fun _ h'=>Vs h' (gE c nU nR nu n4 n2 nr (FZ c (ug c)) (C2 c (ug c)) (A++W)),?_,Kw hr (JS hc) hv hx (fun y hy=>by simp[hy]) (MB hc) (UV.start (by omega)) V45' fun h' V'=>V'⟩
   rintro f3 h48 V48
   rw[V48.wo 0 (s:=2) rfl rfl]
   refine V48.zE 3 rfl rfl rfl (fun x hx=>by simp at hx;rcases hx with rfl|rfl<;>rfl) fun h52 V52=>?_
   simp only[gE,List.set_cons_succ,List.set_cons_zero]at V52
   rw[V52.wo 3 (s:=2) rfl rfl]
   have e1:(h52 nU).row=some (1,bL (FZ c (ug c))):=by rw[V52.get 2 _ _ rfl];rfl
   have e2:(h52 nR).row=some (1,bL (C2 c (ug c))):=by rw[V52.get 1 _ _ rfl];rfl
   have l1:(bL (FZ c (ug c))).length=c.b.length:=by rw[bL,List.length_map,uX]
   have l2:(bL (C2 c (ug c))).length=nr:=by rw[bL,List.length_map,AL];omega
   have bv:∀(S:List Bool) x,x∈bL S->∀y∈x.cells,y.vone=true:=fun S x hx y hy=>by
    simp only[bL,List.mem_map]at hx;obtain⟨b,-,rfl⟩:=hx
    simp[D.cells]at hy;subst hy;rfl
   have ef:(D.agg [.ms nU 0 c.b.length,.ms nR 0 nr]).fzt h52=uF c:=by
    simp only[D.fzt,D.fz,D.fzc,List.map_cons,List.map_nil,e1,e2,List.drop_zero]
    rw[List.take_of_length_le (by omega),List.take_of_length_le (by omega)];rfl
   refine⟨fun x hx=>?_,fun x hx=>?_,?_,?_⟩
   ·simp[D.cells]at hx;rcases hx with rfl|rfl<;>rfl
   ·simp[D.cells]at hx
    rcases hx with rfl|rfl
    ·exact⟨1,_,e1,by omega,fun x hx y hy=>bv _ x (List.mem_of_mem_drop (List.mem_of_mem_take hx)) y hy⟩
    ·exact⟨1,_,e2,by omega,fun x hx y hy=>bv _ x (List.mem_of_mem_drop (List.mem_of_mem_take hx)) y hy⟩
   ·rw[ef];rfl
   ·rw[ef];exact⟨rfl,hD⟩
  ·rw[V36.fa 0 rfl,V36.fV 0 (j:=0+1) rfl rfl,br,V36.get 1 _ _ rfl]
   exact⟨rfl,Ik (by omega) V36 fun h' V'=>V'⟩
 ·rw[V33.fa 0 rfl,V33.fV 0 (j:=0+0) rfl rfl,br,V33.get 2 _ _ rfl]
  exact⟨rfl,Ij (by omega) V33 fun h' V'=>V'⟩
end Go.Am
namespace Go.Am
open Go Go.Proofs
def CD (v:D) (T:List Bool):Prop:=v=.sl (bL T)\/(v=.nil/\T=[])
theorem CD.one {v:D}{T:List Bool}(w:CD v T):v.one=true:=by rcases w with rfl|⟨rfl,-⟩<;>rfl
theorem CD.len {v:D}{T:List Bool}(w:CD v T){h:Heap}{K:D->Prop}:ba v h K=K (.int .i64 (T.length:Int)):=by
 rcases w with rfl|⟨rfl,rfl⟩
 ·rw[fv];simp[bL]
 ·rw[qv];rfl
theorem CD.sl {v:D}{T:List Bool}(w:CD v T) (h:1<=T.length):v=.sl (bL T):=by
 rcases w with h|⟨-,rfl⟩
 ·exact h
 ·simp at h
section
variable {h:Heap}{L:LSq}{KH:HKq}
end
end Go.Am
namespace Go.Am
open Go Go.Proofs
def ko (p:Nat×Block):D:=.agg (.ms p.1 0 p.2.i.length::p.2.t.cs)
def sT (p:Nat×Block):Nat×Slot:=(p.1,.arr 15 (p.2.i.map aH.e))
theorem AT (p:Nat×Block):aE (ko p):=fun x hx=>by
 simp[ko,Term.cs]at hx
 rcases hx with rfl|rfl|rfl|rfl|rfl|rfl|rfl|rfl|rfl|rfl|rfl|rfl|rfl|rfl<;>rfl
section
variable {h:Heap}{L:LSq}{KH:HKq}
theorem Vs.Pe {z d:D}(V:Vs h L) (ho:aE d) (hc:d.cells.length=14) (hK:∀n h',Vs h' ((n,.arr 14 [d])::L)->KH (.ms n 0 1) h'):aa PP (.bldS false 14 1 z [(0,.c d)]) h KH:=by
 refine⟨fun p hp=>?_,fun h=>(by cases h),fun n t=>?_⟩
 ·simp[Arg.get]at hp;subst hp
  exact⟨Nat.one_pos,hc,ho⟩
 ·have:=hK n _ (V.push t.free (s:=.arr 14 [d]) (by simp))
  simpa[Arg.get,setEls,List.replicate] using this
theorem Lh {c:Code}(hc:rX c) (V0:Vs h L)
  (hK:∀h' nA nL nB (A:List (Nat×Block)),A.map Prod.snd=c.b->Vs h' ((nB,.arr 14 (A.map ko))::(A.map sT++(nL,.arr 3 (c.loops.map Loop.e))::(nA,.arr 4 (c.arrays.map sQ.e))::L)) ->
   KH (sq c (.ms nA 0 c.arrays.length) (.ms nL 0 c.loops.length) (.ms nB 0 c.b.length)) h'):ag PP lN [c.e] h KH:=by
 have hnb:=hc.nb
 have hnl:=hc.nl
 have hna:c.arrays.length=5:=by rw[hc.arrays];rfl
 refine aU wJ (av _ _ _) rfl (wF _ _) ?_
 unfold th
 refine V0.box c.gM.one fun n2 h3 V1=>?_
 refine V1.alloc fun n4 h5 V2=>?_
 refine V2.K3 fun nA0 h7 V3=>?_
 simp only[↓V3.fa 2 rfl,Nat.zero_add,↓V3.fV 2 (j:=5) rfl rfl]
 refine V3.D4 (els:=[]) (ys:=c.arrays.map sQ.e) (fun hk=>xT (g:=sQ.e) (l:=c.arrays) (fun _=>rfl) hk) (Az fun x=>x.gM) (by simp[hna]) (by simp[hna]) fun nA h13 V4=>?_
 simp only[List.length_nil,Nat.zero_add,List.length_map,List.nil_append]at V4 ⊢
 simp only[↓V4.fa 2 rfl,Nat.zero_add]
 refine V4.Pq 2 (j:=5) rfl (by simp) rfl fun h17 V5=>?_
 refine V5.K3 fun nL0 h19 V6=>?_
 simp only[↓V6.fa 3 rfl,Nat.zero_add,↓V6.fV 3 (j:=6) rfl rfl]
 refine V6.D4 (els:=[]) (ys:=c.loops.map Loop.e) (fun hk=>xT (g:=Loop.e) (l:=c.loops) (fun _=>rfl) hk) (Az fun x=>x.gM) (by simp;omega) (by simp;omega) fun nL h25 V7=>?_
 simp only[List.length_nil,Nat.zero_add,List.length_map,List.nil_append]at V7 ⊢
 simp only[↓V7.fa 3 rfl,Nat.zero_add]
 refine V7.Pq 3 (j:=6) rfl (by simp) rfl fun h29 V8=>?_
 refine V8.K3 fun nB0 h31 V9=>?_
 let BL:LSq:=[(nL,.arr 3 (c.loops.map Loop.e)),(nA,.arr 4 (c.arrays.map sQ.e)),(n4,.box (.agg [.int .i64 0,.int .i64 0,.int .i64 0,.int .i64 0,.int .i64 0,.nil,.nil,.nil])),(n2,.box (sq c (.ms nA 0 c.arrays.length) (.ms nL 0 c.loops.length) (.sl (c.b.map Block.e))))]++L
 replace V9:Vs h31 ((nB0,.arr 14 [])::BL):=V9
 refine⟨fun l h=>∃(nB:Nat) (A:List (Nat×Block)),A.map Prod.snd=c.b/\l=[.ms nB 0 c.b.length]/\Vs h ((nB,.arr 14 (A.map ko))::(A.map sT++BL)),?_,?_⟩
 ·rintro f h34 ⟨nB,A,hA,hl,V⟩
  simp only[List.cons.injEq,and_true]at hl
  rw[hl]
  have V:Vs h34 (BL++((nB,.arr 14 (A.map ko))::A.map sT)):=V.perm (List.perm_append_comm (l₁:=(nB,.arr 14 (A.map ko))::A.map sT) (l₂:=BL))
  simp only[↓V.fa 3 rfl,Nat.zero_add]
  refine V.Pq 3 (j:=7) rfl (by simp) rfl fun h38 V'=>?_
  simp only[↓V'.wo 3 (s:=8) rfl rfl]
  refine V'.zE (cs':=[.int .i64 c.group,.int .i64 c.sub,.int .i64 c.regs,.int .i64 c.slots,.int .i64 c.params,.ms nA 0 c.arrays.length,.ms nL 0 c.loops.length,.ms nB 0 c.b.length]) 2 rfl rfl rfl (fun y hy=>by simp at hy;rcases hy with rfl|rfl|rfl|rfl|rfl|rfl|rfl|rfl<;>rfl) fun h42 V''=>?_
  rw[V''.wo 2 (s:=8) rfl rfl]
  have V3:=(V''.erase 2).erase 2
  have V4:Vs h42 ((nL,Slot.arr 3 (c.loops.map Loop.e))::(nA,.arr 4 (c.arrays.map sQ.e))::(L++(nB,.arr 14 (A.map ko))::A.map sT)):=V3
  refine hK _ nA nL nB A hA (V4.perm ?_)
  have:=List.perm_append_comm (l₁:=(nL,Slot.arr 3 (c.loops.map Loop.e))::(nA,.arr 4 (c.arrays.map sQ.e))::L) (l₂:=(nB,Slot.arr 14 (A.map ko))::A.map sT)
  simpa using this
 unfold oM
 refine⟨fun m l h=>∃(i nB:Nat) (A:List (Nat×Block)),i<=c.b.length/\m=c.b.length-i/\l=[.ms nB 0 i,.int .i64 (i:Int)]/\A.map Prod.snd=c.b.take i/\Vs h ((nB,.arr 14 (A.map ko))::(A.map sT++BL)),_,⟨0,nB0,[],by omega,rfl,rfl,rfl,V9⟩,?_⟩
 rintro m f h47 ⟨i,nB,A,hi,hm,hl,hA,V⟩
 simp only[List.cons.injEq,and_true]at hl
 obtain⟨e3,e4⟩:=hl
 have hAl:A.length=i:=by have:=congrArg List.length hA;simp at this;omega
 have m2:∀{X:LSq} x,x∈BL->x∈X++BL:=fun x hx=>List.mem_append_right _ hx
 have V:Vs h47 (((nB,.arr 14 (A.map ko))::A.map sT)++BL):=V
 have hn2:(n2,Slot.box (sq c (.ms nA 0 c.arrays.length) (.ms nL 0 c.loops.length) (.sl (c.b.map Block.e))))∈BL:=by simp[BL]
 have dfaM:∀{h:Heap}{K:D->Prop}{X:LSq}{o:Nat},Vs h (X++BL)->ae PP (.fadd (.c (.ptr n2 0 0)) o) h K=K (.ptr n2 0 o):=fun V=>by
  obtain⟨k,hk⟩:=List.getElem?_of_mem (m2 _ hn2)
  rw[V.qg k hk]
 have dldM:∀{h:Heap}{K:D->Prop}{X:LSq},Vs h (X++BL)->ae PP (.ld (.c (.ptr n2 0 7)) 1 false) h K=K (.sl (c.b.map Block.e)):=fun V=>by
  obtain⟨k,hk⟩:=List.getElem?_of_mem (m2 _ hn2)
  rw[V.u5 k (j:=7) hk rfl]
 simp only[e3,e4,↓V.Qj (m2 _ hn2),↓V.MU (m2 _ hn2) (j:=7) rfl,fv,List.length_map,um]
 by_cases hlt:i<c.b.length
 ·have hB:c.b[i]?=some c.b[i]:=List.getElem?_eq_getElem hlt
  have BO:=hc.b _ (List.mem_of_getElem? hB)
  generalize c.b[i]=B at hB BO
  have hil:=BO.len
  have dblk0:∀{h:Heap}{K:D->Prop},ae PP (.ld (.c (.vp B.e 0)) 1 false) h K=K (.sl (B.i.map aH.e)):=fun {h K}=>by rw[lT];exact Oz rfl
  have dfav0:∀{h:Heap}{K:D->Prop}{o:Nat},ae PP (.fadd (.c (.vp B.e 0)) o) h K=K (.vp B.e o):=fun {h K o}=>Qp
  simp only[show((i:Int)<(c.b.length:Int))=True from eq_true (by omega),decide_true,↓ai,↓dfaM V,↓dldM V,↓Iy hB,↓dfav0,↓dblk0,↓Ix]
  refine V.K3 fun n64 h65 V1=>?_
  have V1':Vs h65 (((n64,.arr 15 [])::(nB,.arr 14 (A.map ko))::A.map sT)++BL):=V1
  refine⟨by simp only[↓dfaM V1',↓dldM V1',↓Iy hB,↓dfav0,↓dblk0,↓Ix,ab,and_self],?_⟩
  refine V1.D4 (els:=[]) (ys:=B.i.map aH.e) (fun hk=>xT (g:=aH.e) (l:=B.i) (fun _=>rfl) hk) (Az fun x=>x.gM) (by simp;omega) (by simp;omega) fun n76 h77 V2=>?_
  simp only[List.length_nil,Nat.zero_add,List.nil_append,List.length_map]at V2 ⊢
  have V2':Vs h77 (((n76,.arr 15 (B.i.map aH.e))::(nB,.arr 14 (A.map ko))::A.map sT)++BL):=V2
  refine⟨by simp only[↓dfaM V2',↓dldM V2',↓Iy hB,↓dfav0,↓dblk0,↓Ix,ab,and_self],?_⟩
  rw[ly rfl]
  refine V2.Pe (d:=ko (n76,B)) (AT _) rfl fun n84 h85 V3=>?_
  have hlen:(A.map ko).length=i:=by simp[hAl]
  have row84:=V3.get 0 _ _ rfl
  have V3':Vs h85 ((nB,.arr 14 (A.map ko))::(n84,.arr 14 [ko (n76,B)])::(n76,.arr 15 (B.i.map aH.e))::(A.map sT++BL)):=V3.perm ((List.Perm.cons _ (List.Perm.swap _ _ _)).trans (List.Perm.swap _ _ _))
  rw[show D.ms nB 0 i=.ms nB 0 (A.map ko).length by rw[hlen]]
  refine Vs.D4 (ys:=[ko (n76,B)]) V3' (fun hk=>⟨[ko (n76,B)],by rw[row84];rfl,by simp,hk⟩) (fun y hy=>by simp at hy;subst hy;exact AT _) (by rw[hlen];simp;omega) (by rw[hlen];simp;omega) fun n86 h87 V4=>?_
  rw[gd (by omega) (by omega),hlen]
  simp only[ab,true_and]
  refine⟨_,by omega,i+1,n86,A++[(n76,B)],by omega,rfl,by simp,?_,?_⟩
  ·rw[List.map_append,hA,List.take_add_one,hB];rfl
  ·have V5:=V4.erase 1
   simp only[List.eraseIdx_cons_succ,List.eraseIdx_cons_zero]at V5
   rw[show(A++[(n76,B)]).map ko=A.map ko++[ko (n76,B)] by simp,show(A++[(n76,B)]).map sT=A.map sT++[sT (n76,B)] by simp,List.append_assoc]
   refine V5.perm (.cons _ ?_)
   exact(List.perm_middle (l₁:=A.map sT) (l₂:=BL) (a:=sT (n76,B))).symm
 ·have:i=c.b.length:=by omega
  subst this
  rw[List.take_length]at hA
  simp only[show((c.b.length:Int)<(c.b.length:Int))=False from eq_false (by omega),decide_false,↓ah,ab,true_and]
  exact⟨nB,A,hA,rfl,V⟩
end
end Go.Am
namespace Go.Am
open Go Go.Proofs
theorem Ri {a b:Bool}{h:Heap}{K:D->Prop}:ae PP (.eqv true false [.b] (.c (.bool a)) (.c (.bool b))) h K=K (.bool (!decide (a=b))):=by
 rw[LS,LF]
 apply propext
 have e:veqv true [.b] (.bool a) (.bool b) (fun d=>K d)=K (.bool (!decide (a=b))):=by
  cases a<;>cases b<;>rfl
 constructor
 ·exact fun hh=>by have:=hh.2.2;rw[<- e];exact this
 ·exact fun hk=>⟨rfl,rfl,by rw[<- e]at hk;exact hk⟩
theorem QP {T:List Bool}{i:Nat}{h:Heap}{K:D->Prop}(hi:i<T.length):ae PP (.iadd (.c (.sl (bL T))) (.c (.int .i64 (i:Int))) 1) h (fun a=>ae PP (.ld (.c a) 1 false) h K)=K (.bool (hasB T i)):=by
 rw[Qn (esz:=1) (d:=.bool (hasB T i)) (by omega) (by rw[Int.toNat_natCast];exact tX (fC hi)) rfl,O1 rfl]
theorem Cz {T:List Bool}{h:Heap}{K:D->Prop}:ba (.sl (bL T)) h K=K (.int .i64 (T.length:Int)):=by rw[fv];simp[bL]
theorem Cm {A B:List Bool}(hl:A.length<=1000000):aT PP bp [.sl (bL A),.sl (bL B)] (· = .bool (decide (A=B))):=by
 refine dB kP (av _ _ _) rfl (rE _ _ _) ?_
 unfold ni
 rw[Cz,Cz,xX]
 by_cases hAB:A.length=B.length
 ·rw[decide_eq_true (by omega),Bool.not_true,ah]
  refine⟨fun _ _=>A=B,?_,?_⟩
  ·rintro f h' e
   rw[eU,decide_eq_true e]
  unfold kJ
  refine⟨fun m q h'=>h'=fw/\∃i:Nat,q=[nD i]/\i<=A.length/\m=A.length-i/\∀k,k<i->hasB A k=hasB B k,_,⟨rfl,0,rfl,by omega,rfl,fun k hk=>(by omega)⟩,?_⟩
  rintro m f h1 ⟨rfl,i,hq,hi,hm,hk⟩
  simp only[List.cons.injEq,and_true]at hq
  rw[hq,Cz]
  by_cases hlt:i<A.length
  ·rw[nD,sf (by omega),ai,QP hlt,QP (by omega),Ri]
   by_cases he:hasB A i=hasB B i
   ·rw[decide_eq_true he,Bool.not_true,ah,gd (by omega) (by omega)]
    simp only[ab,true_and]
    refine⟨_,by omega,i+1,rfl,by omega,rfl,fun k hk'=>?_⟩
    by_cases e:k=i
    ·subst e;exact he
    ·exact hk k (by omega)
   ·rw[decide_eq_false he,Bool.not_false,ai,eU]
    rw[decide_eq_false (fun e=>he (by rw[e]))]
  ·have:i=A.length:=by omega
   subst this
   rw[nD,qK (by omega),ah]
   simp only[ab,true_and]
   exact uW hAB fun k hk'=>by rw[hk k hk']
 ·rw[decide_eq_false (by omega),Bool.not_false,ai,eU,decide_eq_false (fun e=>hAB (by rw[e]))]
theorem uy {α:Type}{l:List α}{i:Nat}{a:α}(h:l[i]?=some a):l.set i a=l:=by
 refine List.ext_getElem? fun j=>?_
 rw[List.getElem?_set]
 by_cases e:i=j
 ·subst e
  have:=(List.getElem?_eq_some_iff.1 h).1
  rw[if_pos rfl,if_pos this,h]
 ·rw[if_neg e]
def OB (h:Heap) (nB:Nat) (A:List (Nat×Block)) (F:LSq):Prop:=Vs h ((nB,.arr 14 (A.map ko))::(A.map sT++F))
section
variable {h:Heap}{F:LSq}{KH:HKq}{K:D->Prop}{nB b w k:Nat}{A:List (Nat×Block)}{B:Block}{x:aH}
theorem OB.mem (V:OB h nB A F){y:Nat×Slot}(hy:y∈F):y∈(nB,Slot.arr 14 (A.map ko))::(A.map sT++F):=by simp[hy]
theorem OB.vs (V:OB h nB A F):Vs h ((nB,.arr 14 (A.map ko))::(A.map sT++F)):=V
theorem OB.hB (V:OB h nB A F):h nB=.arr 14 (A.map ko):=Vs.get V 0 _ _ rfl
theorem OB.hw (V:OB h nB A F) (hA:A[b]?=some (w,B)):h w=.arr 15 (B.i.map aH.e):=by
 refine Vs.mem V (s:=.arr 15 (B.i.map aH.e)) ?_
 have:sT (w,B)∈A.map sT:=List.mem_map_of_mem (List.mem_of_getElem? hA)
 simp only[List.mem_cons,List.mem_append]
 exact Or.inr (Or.inl this)
theorem OB.len (V:OB h nB A F){n:Nat}:ba (.ms nB 0 n) h K=K (.int .i64 (n:Int)):=by
 rw[br,V.hB];apply propext;exact⟨fun hh=>hh.2,fun hk=>⟨rfl,hk⟩⟩
theorem OB.ia (V:OB h nB A F){n:Nat}(hb:b<n):aa PP (.iadd (.c (.ms nB 0 n)) (.c (.int .i64 (b:Int))) 14) h KH=KH (.ptr nB b 0) h:=by
 rw[Vs.ia V 0 rfl (by omega) (by omega),Int.toNat_natCast]
theorem OB.C4 (V:OB h nB A F){n:Nat}(hb:b<n):ae PP (.iadd (.c (.ms nB 0 n)) (.c (.int .i64 (b:Int))) 14) h K=K (.ptr nB b 0):=by rw[lb,V.ia hb]
theorem OB.fa (V:OB h nB A F){o:Nat}:aa PP (.fadd (.c (.ptr nB b 0)) o) h KH=KH (.ptr nB b o) h:=by
 rw[iY,V.hB];apply propext;exact⟨fun hh=>by simpa using hh.2,fun hk=>⟨rfl,by simpa using hk⟩⟩
theorem OB.QO (V:OB h nB A F){j o:Nat}:aa PP (.fadd (.c (.ptr nB b j)) o) h KH=KH (.ptr nB b (j+o)) h:=by
 rw[iY,V.hB];apply propext;exact⟨fun hh=>hh.2,fun hk=>⟨rfl,hk⟩⟩
theorem OB.qg (V:OB h nB A F){o:Nat}:ae PP (.fadd (.c (.ptr nB b 0)) o) h K=K (.ptr nB b o):=V.fa (KH:=fun d _=>K d)
theorem OB.Qq (V:OB h nB A F){j o:Nat}:ae PP (.fadd (.c (.ptr nB b j)) o) h K=K (.ptr nB b (j+o)):=V.QO (KH:=fun d _=>K d)
theorem OB.el (hA:A[b]?=some (w,B)):(A.map ko)[b]?=some (ko (w,B)):=by rw[List.getElem?_map,hA];rfl
theorem OA {n j off len esz:Nat}{els cs:List D}{d:D}(hn:h n=.arr esz els) (he:els[j]?=some (.agg cs)) (hl:off+len<=cs.length) (hd:.agg ((cs.drop off).take len)=d):aa PP (.ld (.c (.ptr n j off)) len true) h KH=KH d h:=by
 rw[qO,hn]
 obtain⟨h1,h2⟩:=List.getElem?_eq_some_iff.1 he
 simp[iJ,h1,h2,D.cells,hl,hd]
theorem OC {n j off esz:Nat}{els cs:List D}{d:D}(hn:h n=.arr esz els) (he:els[j]?=some (.agg cs)) (hd:cs[off]?=some d):aa PP (.ld (.c (.ptr n j off)) 1 false) h KH=KH d h:=by
 rw[qO,hn]
 obtain⟨h1,h2⟩:=List.getElem?_eq_some_iff.1 he
 simp[dX,h1,h2,D.cells,hd]
theorem OB.Pw (V:OB h nB A F) (hA:A[b]?=some (w,B)):aa PP (.ld (.c (.ptr nB b 0)) 1 false) h KH=KH (.ms w 0 B.i.length) h:=OC V.hB (OB.el hA) rfl
theorem OB.Qo (V:OB h nB A F) (hA:A[b]?=some (w,B)):ae PP (.ld (.c (.ptr nB b 0)) 1 false) h K=K (.ms w 0 B.i.length):=by rw[lT,V.Pw hA]
theorem OB.Q7 (V:OB h nB A F) (hA:A[b]?=some (w,B)):aa PP (.ld (.c (.ptr nB b 1)) 1 false) h KH=KH (.int .i64 B.t.kind) h:=OC V.hB (OB.el hA) rfl
theorem OB.PL (V:OB h nB A F) (hA:A[b]?=some (w,B)){n:Nat}:ba (.ms w 0 n) h K=K (.int .i64 (n:Int)):=by
 rw[br,V.hw hA];apply propext;exact⟨fun hh=>hh.2,fun hk=>⟨rfl,hk⟩⟩
theorem OB.PM (V:OB h nB A F) (hA:A[b]?=some (w,B)){n:Nat}(hk:k<n):aa PP (.iadd (.c (.ms w 0 n)) (.c (.int .i64 (k:Int))) 15) h KH=KH (.ptr w k 0) h:=by
 rw[kF]
 apply propext
 constructor
 ·exact fun hh=>by simpa using hh.2.2.2
 ·exact fun hk'=>⟨by omega,by omega,⟨B.i.map aH.e,by rw[V.hw hA];rfl⟩,by simpa using hk'⟩
theorem OB.Qm (V:OB h nB A F) (hA:A[b]?=some (w,B)){n:Nat}(hk:k<n):ae PP (.iadd (.c (.ms w 0 n)) (.c (.int .i64 (k:Int))) 15) h K=K (.ptr w k 0):=by rw[lb,V.PM hA hk]
theorem OB.Q6 (V:OB h nB A F) (hA:A[b]?=some (w,B)) (hx:B.i[k]?=some x):aa PP (.ld (.c (.ptr w k 0)) 15 true) h KH=KH x.e h :=
 OA (cs:=x.cs) (V.hw hA) (by rw[List.getElem?_map,hx];rfl) (by show 0+15<=15;omega) rfl
theorem OB.QU (V:OB h nB A F) (hA:A[b]?=some (w,B)){o:Nat}:aa PP (.fadd (.c (.ptr w k 0)) o) h KH=KH (.ptr w k o) h:=by
 rw[iY,V.hw hA];apply propext;exact⟨fun hh=>by simpa using hh.2,fun hk=>⟨rfl,by simpa using hk⟩⟩
theorem OB.Ls (V:OB h nB A F) (hA:A[b]?=some (w,B)){B':Block}(hl:B'.i.length=B.i.length) (ht:B'.t=B.t):OB (aq h w (.arr 15 (B'.i.map aH.e))) nB (A.set b (w,B')) F:=by
 have hb:=(List.getElem?_eq_some_iff.1 hA).1
 have ix:((nB,Slot.arr 14 (A.map ko))::(A.map sT++F))[b+1]?=some (w,.arr 15 (B.i.map aH.e)):=by
  rw[List.getElem?_cons_succ,List.getElem?_append_left (by simpa using hb),List.getElem?_map,hA];rfl
 have:=Vs.b6 V (b+1) ix (s':=.arr 15 (B'.i.map aH.e)) (by simp)
 rw[List.set_cons_succ,List.set_append_left _ _ (by simpa using hb)]at this
 have e1:(A.set b (w,B')).map ko=A.map ko:=by
  rw[List.map_set]
  have:ko (w,B')=ko (w,B):=by unfold ko;simp only[hl,ht]
  rw[this]
  exact uy (OB.el hA)
 unfold OB
 rw[e1,List.map_set]
 exact this
theorem OB.N0 (V:OB h nB A F) (hA:A[b]?=some (w,B)){t':Term}:OB (aq h nB (.arr 14 ((A.map ko).set b (ko (w,{ B with t:=t' }))))) nB (A.set b (w,{ B with t:=t' })) F:=by
 have hb:=(List.getElem?_eq_some_iff.1 hA).1
 have:=Vs.b6 V 0 rfl (s':=.arr 14 ((A.map ko).set b (ko (w,{ B with t:=t' })))) (by simp)
 rw[List.set_cons_zero]at this
 have e1:(A.set b (w,{ B with t:=t' })).map sT=A.map sT:=by
  rw[List.map_set]
  have e:sT (w,{ B with t:=t' })=sT (w,B):=rfl
  rw[e]
  exact uy (by rw[List.getElem?_map,hA];rfl)
 unfold OB
 rw[e1,List.map_set]
 exact this
theorem OB.QY (V:OB h nB A F) (hA:A[b]?=some (w,B)) (hx:B.i[k]?=some x){x':aH}(hK:∀h',OB h' nB (A.set b (w,{ B with i:=B.i.set k x' })) F->KH .undef h'):aa PP (.st (.c (.ptr w k 0)) (.c x'.e) 15) h KH:=by
 have hk:=(List.getElem?_eq_some_iff.1 hx).1
 rw[lR,V.hw hA]
 refine⟨rfl,x'.gM.one,by simpa using hk,by omega,fun y hy=>?_⟩
 rw[List.getElem?_map,hx]at hy
 cases hy
 have e:setCells x.e 0 x'.e.cells=x'.e:=by
  show D.agg (x.cs.take 0++x'.cs++x.cs.drop (0+x'.cs.length))=.agg x'.cs
  simp[aH.cs]
 rw[e]
 have:=V.Ls hA (B':={ B with i:=B.i.set k x' }) (by simp) rfl
 rw[List.map_set]at this
 exact hK _ this
theorem OB.Q0 (V:OB h nB A F) (hA:A[b]?=some (w,B)) (hx:B.i[k]?=some x){s:Int}(hK:∀h',OB h' nB (A.set b (w,{ B with i:=B.i.set k { x with sub:=s } })) F->KH .undef h'):aa PP (.st (.c (.ptr w k 1)) (.c (.int .i64 s)) 1) h KH:=by
 have hk:=(List.getElem?_eq_some_iff.1 hx).1
 rw[lR,V.hw hA]
 refine⟨rfl,fun y hy=>(by simp[D.cells]at hy;subst hy;rfl),by simpa using hk,by omega,fun y hy=>?_⟩
 rw[List.getElem?_map,hx]at hy
 cases hy
 have e:setCells x.e 1 (D.int .i64 s).cells=({ x with sub:=s }:aH).e:=rfl
 rw[e]
 have:=V.Ls hA (B':={ B with i:=B.i.set k { x with sub:=s } }) (by simp) rfl
 rw[List.map_set]at this
 exact hK _ this
theorem OB.QZ (V:OB h nB A F) (hA:A[b]?=some (w,B)){t':Term}(hK:∀h',OB h' nB (A.set b (w,{ B with t:=t' })) F->KH .undef h'):aa PP (.st (.c (.ptr nB b 1)) (.c t'.e) 13) h KH:=by
 have hb:=(List.getElem?_eq_some_iff.1 hA).1
 rw[lR,V.hB]
 refine⟨rfl,t'.gM.one,by simpa using hb,by omega,fun y hy=>?_⟩
 rw[OB.el hA]at hy
 cases hy
 have e:setCells (ko (w,B)) 1 t'.e.cells=ko (w,{ B with t:=t' }):=rfl
 rw[e]
 exact hK _ (V.N0 hA)
theorem OB.Q9 (V:OB h nB A F):∃h',C5 h h'/\Vs h' ((nB,.arr 14 ((A.map Prod.snd).map Block.e))::F):=by
 have I:=Vs.iff.1 V
 have hW:∀p∈A,h p.1=.arr 15 (p.2.i.map aH.e):=fun p hp=>by
  obtain⟨k,hk⟩:=List.getElem?_of_mem hp
  exact OB.hw V (b:=k) (w:=p.1) (B:=p.2) hk
 have nd:=I.2
 simp only[List.map_cons,List.map_append,List.nodup_cons,List.mem_append,not_or]at nd
 have ndWF:=List.nodup_append.1 nd.2
 have hfz:∀p∈A,(ko p).fz h=p.2.e/\lX h (ko p)/\(ko p).nm=[p.1]:=by
  intro p hp
  have hr:(h p.1).row=some (15,p.2.i.map aH.e):=by rw[hW p hp];rfl
  refine⟨?_,fun x hx=>?_,?_⟩
  ·simp only[ko,D.fz,List.map_cons,D.fzc,hr,List.drop_zero]
   rw[List.take_of_length_le (by simp)]
   rfl
  ·simp only[ko,D.cells,List.mem_cons,Term.cs,List.not_mem_nil,or_false]at hx
   rcases hx with rfl|rfl|rfl|rfl|rfl|rfl|rfl|rfl|rfl|rfl|rfl|rfl|rfl|rfl
   ·exact⟨15,_,hr,by simp,fun x hx y hy=>Km x (List.mem_of_mem_drop (List.mem_of_mem_take hx)) y hy⟩
   all_goals trivial
  ·simp[ko,D.nm,D.jA,Term.cs]
 have nmW:∀n,n∈(A.map ko).flatMap D.nm->n∈(A.map sT).map Prod.fst:=fun n hn=>by
  obtain⟨e,he,hn⟩:=List.mem_flatMap.1 hn
  obtain⟨p,hp,rfl⟩:=List.mem_map.1 he
  rw[(hfz p hp).2.2]at hn
  simp at hn;subst hn
  exact List.mem_map.2 ⟨sT p,List.mem_map.2 ⟨p,hp,rfl⟩,rfl⟩
 have hd:CY h nB 14 (A.map ko):=by
  refine⟨fun hm=>nd.1.1 (nmW nB hm),fun e he=>?_⟩
  obtain⟨p,hp,rfl⟩:=List.mem_map.1 he
  obtain⟨g1,g2,-⟩:=hfz p hp
  refine⟨AT p,g2,fun y hy=>?_⟩
  rw[g1]at hy
  simp only[Block.e,D.cells,List.mem_cons,Term.cs,List.not_mem_nil,or_false]at hy
  rcases hy with rfl|rfl|rfl|rfl|rfl|rfl|rfl|rfl|rfl|rfl|rfl|rfl|rfl|rfl<;>rfl
 refine⟨AF h nB 14 (A.map ko),.step V.hB hd (.refl _),?_⟩
 have emap:(A.map ko).map (D.fz h)=(A.map Prod.snd).map Block.e:=by
  rw[List.map_map,List.map_map]
  exact List.map_congr_left fun p hp=>(hfz p hp).1
 rw[Vs.iff]
 refine⟨fun n s hs=>?_,?_⟩
 ·rcases List.mem_cons.1 hs with e|hs
  ·cases e
   exact⟨by rw[zM,emap],by simp⟩
  ·have hnF:n∈F.map Prod.fst:=List.mem_map.2 ⟨_,hs,rfl⟩
   have hI:=I.1 n s (by simp[hs])
   refine⟨?_,hI.2⟩
   rw[yu (fun e:n=nB=>nd.1.2 (by rw[<- e];exact hnF)) (fun hn=>ndWF.2.2 n (nmW n hn) n hnF rfl)]
   exact hI.1
 ·rw[List.map_cons,List.nodup_cons]
  exact⟨nd.1.2,ndWF.2.1⟩
end
structure CO (c:Code) (nA nL nB:Nat) (sA sL sB:Slot):Prop where
 a:sA.row=some (4,c.arrays.map sQ.e)
 l:sL.row=some (3,c.loops.map Loop.e)
 b:sB.row=some (14,c.b.map Block.e)
theorem Ck {c:Code}{h:Heap}{F:LSq}{KH:HKq}{f:FuncId}{R:D->Prop}{nA nL nB na nl nb:Nat}{sA sL sB:Slot}(O:CO c nA nL nB sA sL sB) (V:Vs h ((nB,sB)::(nL,sL)::(nA,sA)::F)) (hv:aT PP f [c.e] R) (ea:na=c.arrays.length) (el:nl=c.loops.length) (eb:nb=c.b.length)
  (hK:∀r h' sA' sL' sB',R r->CO c nA nL nB sA' sL' sB'->Vs h' ((nB,sB')::(nL,sL')::(nA,sA')::F)->KH r h'):ag PP f [sq c (.ms nA 0 na) (.ms nL 0 nl) (.ms nB 0 nb)] h KH:=by
 subst ea;subst el;subst eb
 have hB:=V.get 0 _ _ rfl
 have hL:=V.get 1 _ _ rfl
 have hA:=V.get 2 _ _ rfl
 have rB:(h nB).row=some (14,c.b.map Block.e):=by rw[hB];exact O.b
 have rL:(h nL).row=some (3,c.loops.map Loop.e):=by rw[hL];exact O.l
 have rA:(h nA).row=some (4,c.arrays.map sQ.e):=by rw[hA];exact O.a
 have ez:(sq c (.ms nA 0 c.arrays.length) (.ms nL 0 c.loops.length) (.ms nB 0 c.b.length)).fz h=c.e:=by
  have e1:(c.b.map Block.e).take c.b.length=c.b.map Block.e:=List.take_of_length_le (by rw[List.length_map];omega)
  have e2:(c.loops.map Loop.e).take c.loops.length=c.loops.map Loop.e:=List.take_of_length_le (by rw[List.length_map];omega)
  have e3:(c.arrays.map sQ.e).take c.arrays.length=c.arrays.map sQ.e:=List.take_of_length_le (by rw[List.length_map];omega)
  simp only[D.fz,List.map_cons,List.map_nil,D.fzc,rA,rL,rB,List.drop_zero,e1,e2,e3]
  rfl
 refine ag.mono ?_ (dO (K:=R) (by rw[List.map_cons,ez];exact hv) fun d hd=>?_)
 ·rintro r h' ⟨hr,k1,k2⟩
  by_cases hf:r.flat=true\/[sq c (.ms nA 0 c.arrays.length) (.ms nL 0 c.loops.length) (.ms nB 0 c.b.length)].flatMap D.nm=[]
  ·rw[k1 hf]
   exact hK r h sA sL sB hr O V
  ·rw[k2 hf]
   have enm:[sq c (.ms nA 0 c.arrays.length) (.ms nL 0 c.loops.length) (.ms nB 0 c.b.length)].flatMap D.nm=[nA,nL,nB]:=by simp[D.nm,D.jA]
   rw[enm]
   refine hK r _ (.frz 4 (c.arrays.map sQ.e)) (.frz 3 (c.loops.map Loop.e)) (.frz 14 (c.b.map Block.e)) hr ⟨rfl,rfl,rfl⟩ ?_
   have I:=Vs.iff.1 V
   have nd:=I.2
   rw[Vs.iff]
   refine⟨fun n s hs=>?_,by simpa using nd⟩
   simp only[List.mem_cons]at hs
   rcases hs with e|e|e|hs
   ·cases e;exact⟨cc _ rB (by simp),by simp⟩
   ·cases e;exact⟨cc _ rL (by simp),by simp⟩
   ·cases e;exact⟨cc _ rA (by simp),by simp⟩
   ·have hI:=I.1 n s (by simp[hs])
    refine⟨?_,hI.2⟩
    have hnF:n∈F.map Prod.fst:=List.mem_map.2 ⟨_,hs,rfl⟩
    simp only[List.map_cons,List.nodup_cons,List.mem_cons,not_or]at nd
    rw[eL]
    ·exact hI.1
    ·simp only[List.mem_cons,List.not_mem_nil,or_false,not_or]
     exact⟨fun e=>nd.2.2.1 (e ▸ hnF),fun e=>nd.2.1.2 (e ▸ hnF),fun e=>nd.1.2.2 (e ▸ hnF)⟩
 ·simp at hd;subst hd
  refine⟨fun x hx=>by simp[D.cells]at hx;rcases hx with rfl|rfl|rfl|rfl|rfl|rfl|rfl|rfl<;>rfl,?_,by rw[ez];exact c.gM.vd⟩
  intro x hx
  simp only[D.cells,List.mem_cons,List.not_mem_nil,or_false]at hx
  rcases hx with rfl|rfl|rfl|rfl|rfl|rfl|rfl|rfl
  iterate 5 trivial
  ·refine⟨4,_,rA,by simp,fun x hx y hy=>?_⟩
   have hx':x∈c.arrays.map sQ.e:=List.mem_of_mem_drop (List.mem_of_mem_take hx)
   simp only[List.mem_map]at hx'
   obtain⟨a,-,rfl⟩:=hx'
   simp[sQ.e,D.cells]at hy;rcases hy with rfl|rfl|rfl|rfl<;>rfl
  ·refine⟨3,_,rL,by simp,fun x hx y hy=>?_⟩
   have hx':x∈c.loops.map Loop.e:=List.mem_of_mem_drop (List.mem_of_mem_take hx)
   simp only[List.mem_map]at hx'
   obtain⟨a,-,rfl⟩:=hx'
   simp[Loop.e,D.cells]at hy;rcases hy with rfl|rfl|rfl<;>rfl
  ·refine⟨14,_,rB,by simp,fun x hx y hy=>?_⟩
   have hx':x∈c.b.map Block.e:=List.mem_of_mem_drop (List.mem_of_mem_take hx)
   simp only[List.mem_map]at hx'
   obtain⟨a,-,rfl⟩:=hx'
   simp[Block.e,Term.cs,D.cells]at hy
   rcases hy with rfl|rfl|rfl|rfl|rfl|rfl|rfl|rfl|rfl|rfl|rfl|rfl|rfl|rfl<;>rfl
end Go.Am
namespace Go.Am
open Go Go.Proofs
theorem y9.path {c:Code}{O O':List Nat}{at' U:List Int}(hc:dW c) (D:y9 c O O' at' U){x:Nat}:x∈O↔Path (edg c) 0 x:=by
 have hnb:=hc.nb
 obtain⟨S,hv⟩:=D.b.ord
 have nd:O.Nodup:=by
  obtain⟨m,h1,e⟩:=hv
  obtain⟨N,e2,F⟩:=h1.spec (n:=c.b.length) (fun p b=>pO (mw hc)) (fun x=>pO (mw hc)) (by simp)
  have e3:O=0::N:=by
   have:=congrArg Prod.snd e
   simp only at this
   rw[this,e2];simp
  rw[e3]
  refine List.nodup_cons.2 ⟨fun h=>?_,F.nd⟩
  have h2:=(F.new 0 h).1
  simp only at h2
  rw[cA (by simp;omega)]at h2
  simp at h2
 have G:=zv.gr (at':=(List.range c.b.length).map fun x=>if x∈O then((sD O x:Nat):Int) else -1) (mw hc) lS (by omega) ⟨S,hv⟩ (by simp) (fun i x hx=>by
  have hxO:=List.mem_of_getElem? hx
  have hxN:=D.b.lt x hxO
  rw[List.getElem?_map,List.getElem?_range hxN]
  simp[hxO,vZ nd hx]) (fun x hx hn=>by
  rw[List.getElem?_map,List.getElem?_range hx]
  simp[hn])
 have e:gL (m6 c)=edg c:=funext fun b=>yz
 rw[G.path,e]
theorem Ir {c:Code}(hc:dW c){a b:Nat}(h:O0 c a b):Path (edg c) 0 a:=by
 obtain⟨O,O',at',U,D,h1,-⟩:=h
 exact(D.path hc).1 h1
inductive Pn (c:Code):Ru->Prop
 | no {b:Nat}(hb:b<c.b.length) (hp:¬Path (edg c) 0 b):Pn c (Lx b)
 | dep {b a:Nat}{A:Block}(hb:b<c.b.length) (hp:Path (edg c) 0 b) (hd:O0 c a b) (hA:c.b[a]?=some A):Pn c (AU b a A.t)
 | inst {b:Nat}{B:Block}{x:aH}(hB:c.b[b]?=some B) (hp:Path (edg c) 0 b) (hx:x∈B.i) (h0:0<=dA x.d):Pn c (sW b x)
 | fin {b:Nat}{B:Block}(hB:c.b[b]?=some B) (hp:Path (edg c) 0 b) (h0:0<=dA B.t.d):Pn c ⟨zl (dA B.t.d),[],true⟩
theorem Et {c:Code}{r:Ru}:r∈ug c↔Pn c r:=by
 constructor
 ·intro hr
  simp only[ug,tK,ga,List.mem_flatMap,List.mem_range]at hr
  obtain⟨b,hb,hr⟩:=hr
  obtain⟨B,hB⟩:∃B,c.b[b]?=some B:=⟨c.b[b],List.getElem?_eq_getElem hb⟩
  unfold rb at hr
  cases hp:hasB (p7 c) b
  ·rw[hp]at hr
   simp at hr;subst hr
   exact .no hb fun k=>by rw[(iw hb).2 k]at hp;cases hp
  ·have hp':=(iw hb).1 hp
   rw[hp,if_pos rfl,pj hB]at hr
   rcases List.mem_append.1 hr with hr|hr
   ·rcases List.mem_append.1 hr with hr|hr
    ·simp only[gz,List.mem_map]at hr
     obtain⟨a,ha,rfl⟩:=hr
     rw[AN hb]at ha
     obtain⟨haN,hd⟩:=xL.1 ha
     obtain⟨A,hA⟩:∃A,c.b[a]?=some A:=⟨c.b[a],List.getElem?_eq_getElem haN⟩
     rw[pj hA]
     exact .dep hb hp' hd hA
    ·simp only[gb,List.mem_map,List.mem_filter,decide_eq_true_eq]at hr
     obtain⟨x,⟨hx,h0⟩,rfl⟩:=hr
     exact .inst hB hp' hx h0
   ·unfold yF at hr
    split at hr
    ·rename_i h0
     simp at hr;subst hr
     exact .fin hB hp' h0
    ·cases hr
 ·intro h
  have key:∀{b:Nat},b<c.b.length->r∈rb c (p7 c) (xw c) b->r∈ug c:=fun hb hr=>List.mem_flatMap.2 ⟨_,List.mem_range.2 hb,hr⟩
  cases h with
  | @no b hb hp =>
   refine key hb ?_
   unfold rb
   have:hasB (p7 c) b=false:=by
    cases h:hasB (p7 c) b
    ·rfl
    ·exact absurd ((iw hb).1 h) hp
   rw[this];simp
  | @dep b a A hb hp hd hA =>
   refine key hb ?_
   unfold rb
   rw[(iw hb).2 hp,if_pos rfl]
   refine List.mem_append_left _ (List.mem_append_left _ ?_)
   simp only[gz,List.mem_map]
   refine⟨a,?_,by rw[pj hA]⟩
   rw[AN hb]
   exact xL.2 ⟨(List.getElem?_eq_some_iff.1 hA).1,hd⟩
  | @inst b B x hB hp hx h0 =>
   have hb:=(List.getElem?_eq_some_iff.1 hB).1
   refine key hb ?_
   unfold rb
   rw[(iw hb).2 hp,if_pos rfl,pj hB]
   refine List.mem_append_left _ (List.mem_append_right _ ?_)
   exact List.mem_map.2 ⟨x,List.mem_filter.2 ⟨hx,by simpa using h0⟩,rfl⟩
  | @fin b B hB hp h0 =>
   have hb:=(List.getElem?_eq_some_iff.1 hB).1
   refine key hb ?_
   unfold rb
   rw[(iw hb).2 hp,if_pos rfl,pj hB]
   refine List.mem_append_right _ ?_
   unfold yF;rw[if_pos h0];simp
theorem NO {c:Code}{b:Nat}(hb:b<c.b.length) (h:Gf (ug c) (xx b)):Path (edg c) 0 b:=by
 by_cases hp:Path (edg c) 0 b
 ·exact hp
 ·obtain⟨s,hs,hb'⟩:=h
  have:=(hs _ (Et.2 (.no hb hp)) hb').1
  cases this
theorem NP {c:Code}(hc:dW c) (hi:∀(b:Nat) (B:Block) (x:aH),c.b[b]?=some B->x∈B.i->0<=dA x.d->dD x=false) (ht:∀(b:Nat) (B:Block),c.b[b]?=some B->dA B.t.d<0){f:Fa}(hf:f.tf=true->Path (edg c) 0 f.n.toNat):Gf (ug c) f:=by
 refine⟨fun f=>f.tf=true->Path (edg c) 0 f.n.toNat,?_,hf⟩
 intro r hr hs
 have hrg:∀{l:List cF}{f:Fa},f∈bS l->f.tf=true->Path (edg c) 0 f.n.toNat:=fun hf h=>by
  simp only[bS,List.mem_map]at hf
  obtain⟨o,-,rfl⟩:=hf
  cases h
 cases Et.1 hr with
 | no hb hp=>exact absurd (hs rfl) (by simpa[Lx,xx] using hp)
 | dep hb hp hd hA =>
  refine⟨rfl,fun f hf=>?_⟩
  rcases List.mem_append.1 hf with hf|hf
  ·exact hrg hf
  ·simp at hf;subst hf
   exact fun _=>by simpa[xx] using Ir hc hd
 | inst hB hp hx h0 =>
  refine⟨hi _ _ _ hB hx h0,fun f hf=>?_⟩
  rcases List.mem_append.1 hf with hf|hf
  ·exact hrg hf
  ·simp at hf;subst hf
   exact fun _=>by simpa[xx] using hp
 | fin hB hp h0=>have:=ht _ _ hB;omega
def kY (k:Nat) (x:aH):aH:=if x.op=5 then { x with sub:=3+((k % 3:Nat):Int) } else if x.op=7 then ⟨6,0,((k % 3:Nat):Int),x.d,au,au,au⟩ else x
def Fx (t:Term):Term:=if t.kind=4 then ⟨3,0,au,au,au,t.to0,t.to1⟩ else t
def p6 (B:Block):Block:=⟨B.i.mapIdx kY,Fx B.t⟩
def fq (c:Code):Code:={ c with b:=c.b.map p6 }
theorem JH {R:Int}{k:Nat}{x:aH}(h:xh R x):xh R (kY k x):=by
 have hk:k % 3<3:=Nat.mod_lt _ (by omega)
 cases h with
 | id s d h0 h1=>exact .id _ d ⟨by omega,by omega⟩ h1
 | load n d a h0 h1 h2=>exact .param _ d ⟨by omega,by omega⟩ h1
 | mov d a h1 h2=>exact .mov d a h1 h2
 | un s d a h0 h1 h2=>exact .un s d a h0 h1 h2
 | bin s d a b h0 h1 h2 h3=>exact .bin s d a b h0 h1 h2 h3
 | sel d a b c h1 h2 h3 h4=>exact .sel d a b c h1 h2 h3 h4
 | param n d h0 h1=>exact .param n d h0 h1
 | store n a b h0 h1 h2=>exact .store n a b h0 h1 h2
 | atom s n a b hs h0 h1 h2=>exact .atom s n a b hs h0 h1 h2
 | fence s h0=>exact .fence s h0
theorem Hc {R:Int}{k:Nat}{x:aH}(h:xh R x) (h0:0<=dA (kY k x).d):dD (kY k x)=false:=by
 have hk:k % 3=0\/k % 3=1\/k % 3=2:=by omega
 cases h with
 | id s d h0 h1=>rcases hk with e|e|e<;>simp[kY,dD,e]
 | load n d a h0 h1 h2=>simp[kY,dD]
 | mov d a h1 h2=>simp[kY,dD]
 | un s d a h0 h1 h2=>simp[kY,dD]
 | bin s d a b h0 h1 h2 h3=>simp[kY,dD]
 | sel d a b c h1 h2 h3 h4=>simp[kY,dD]
 | param n d h0 h1=>simp[kY,dD]
 | store n a b _ h1 h2=>simp[kY,dA,au]at h0
 | atom s n a b hs _ h1 h2=>simp[kY,dA,au]at h0
 | fence s _=>simp[kY,dA,au]at h0
theorem JE {N:Nat}{R:Int}{t:Term}(h:y3 N R t):y3 N R (Fx t):=by
 cases h with
 | jump a h=>exact .jump a h
 | branch o a b ho h1 h2=>exact .branch o a b ho h1 h2
 | barrier a h=>exact .barrier a h
 | collect s d a b t hs hd ha hb h=>exact .barrier t h
 | exit=>exact .exit
theorem Hb {N:Nat}{R:Int}{t:Term}(h:y3 N R t):dA (Fx t).d<0:=by
 cases h<;>simp[Fx,dA,au]
theorem Ep {c:Code}(hc:kU c):kU (fq c):=by
 have hl:(fq c).b.length=c.b.length:=by simp[fq]
 refine⟨⟨by rw[hl];exact hc.g.nb,fun B hB=>?_⟩,fun B hB x hx=>?_,fun B hB=>?_,hc.rg⟩
 ·rw[hl]
  simp only[fq,List.mem_map]at hB
  obtain⟨B0,hB0,rfl⟩:=hB
  exact JE (hc.g.t B0 hB0)
 ·simp only[fq,List.mem_map]at hB
  obtain⟨B0,hB0,rfl⟩:=hB
  simp only[p6]at hx
  obtain⟨k,hk⟩:=List.getElem?_of_mem hx
  rw[List.getElem?_mapIdx]at hk
  simp only[Option.map_eq_some_iff]at hk
  obtain⟨y,hy,rfl⟩:=hk
  exact JH (hc.i B0 hB0 y (List.mem_of_getElem? hy))
 ·simp only[fq,List.mem_map]at hB
  obtain⟨B0,hB0,rfl⟩:=hB
  simp only[p6,List.length_mapIdx]
  exact hc.len B0 hB0
theorem Ha {c:Code}(hc:kU c){f:Fa}(hf:f.tf=true->Path (edg (fq c)) 0 f.n.toNat):Gf (ug (fq c)) f:=by
 have get:∀{b:Nat}{B:Block},(fq c).b[b]?=some B->∃B0,B0∈c.b/\B=p6 B0:=fun hB=>by
  simp only[fq,List.getElem?_map,Option.map_eq_some_iff]at hB
  obtain⟨B0,h0,rfl⟩:=hB
  exact⟨B0,List.mem_of_getElem? h0,rfl⟩
 refine NP (Ep hc).g (fun b B x hB hx h0=>?_) (fun b B hB=>?_) hf
 ·obtain⟨B0,hB0,rfl⟩:=get hB
  simp only[p6]at hx
  obtain⟨k,hk⟩:=List.getElem?_of_mem hx
  rw[List.getElem?_mapIdx]at hk
  simp only[Option.map_eq_some_iff]at hk
  obtain⟨y,hy,rfl⟩:=hk
  exact Hc (hc.i B0 hB0 y (List.mem_of_getElem? hy)) h0
 ·obtain⟨B0,hB0,rfl⟩:=get hB
  exact Hb (hc.g.t B0 hB0)
theorem N3 {c:Code}(hc:kU c):FZ (fq c) (ug (fq c))=p7 (fq c):=by
 refine uW (by rw[uX,ye]) fun k hk=>?_
 rw[uX]at hk
 rw[EN hk,iw hk]
 exact⟨NO hk,fun h=>Ha hc fun _=>by simpa[xx] using h⟩
theorem N4 {c:Code}(hc:kU c){k:Nat}(hk:k<c.regs.toNat):hasB (C2 (fq c) (ug (fq c))) k=true:=by
 have:hasB (C2 (fq c) (ug (fq c))) k=true↔_:=EO (c:=fq c) hk
 rw[this]
 exact Ha hc fun h=>by cases h
end Go.Am
