/- What the functions of this chapter give, on plain data. No condition. -/
import Derived.Test.YtjhjndjghaagiaaP1
set_option linter.unnecessarySimpa false
set_option linter.defProp false
set_option linter.unusedSectionVars false
set_option linter.unusedSimpArgs false
set_option linter.unusedVariables false
namespace Go.Am
open Go Go.Proofs Go.RowKit Go.Sort
theorem AX {ks:List Int}{cur:Array Value}{i:Nat}(hi:i<ks.length) (hs:ks.length<=cur.size):(putCells encI 0 ks.toArray cur).getD i Go.undef=.int .i64 (ks[i]'hi):=by
 have h1:(putCells encI 0 ks.toArray cur)[i]?=some (encI (ks[i]'hi)):=by
  unfold putCells
  rw[Array.getElem?_mapIdx]
  rw[Array.getElem?_eq_getElem (by omega)]
  simp[hi]
 simp[Array.getD_eq_getD_getElem?,h1]
theorem ow {ks:List Int}{cur:Array Value}:(putCells encI 0 ks.toArray cur).size=cur.size:=by simp[putCells]
theorem E6 {c:Ctx}{w w':World}(hp:c.hp=w.heap) (hr:an c){m g:Nat}{ks ks':List Int}{cur:Array Value}{ty:TypeId}(hm:c.h m=.arr 1 (eH ks)) (hρ:c.ρ m=some g) (hg:c.hp[g]?=some (Obj.cells cur ty (0,0))) (hsz:ks.length<=cur.size) (hl:ks'.length=ks.length){n:Nat}{os:Array Obj}
  (hw:w'=grow (putRow encI (Sort.ahead w n) g 0 ks'.toArray) os):c.le ⟨c.ρ,c.X,aq c.h m (.arr 1 (eH ks')),w'.heap⟩/\an ⟨c.ρ,c.X,aq c.h m (.arr 1 (eH ks')),w'.heap⟩/\WS w w'/\w'.heap[g]?=some (Obj.cells (putCells encI 0 ks'.toArray cur) ty (0,0)):=by
 have hgl:g<c.hp.size:=(Array.getElem?_eq_some_iff.1 hg).1
 have hheap:w'.heap=(w.heap.modify g (onCells (putCells encI 0 ks'.toArray)))++os:=by rw[hw];rfl
 have hsize:c.hp.size<=w'.heap.size:=by rw[hheap,hp];simp
 have hoth:∀k,k<c.hp.size->k≠g->w'.heap[k]?=c.hp[k]?:=fun k hk hne=>by
  rw[hheap,Array.getElem?_append_left (by rw[Array.size_modify, <- hp];exact hk),Array.getElem?_modify,if_neg (fun e=>hne e.symm),hp]
 have hat:w'.heap[g]?=some (Obj.cells (putCells encI 0 ks'.toArray cur) ty (0,0)):=by
  rw[hheap,Array.getElem?_append_left (by rw[Array.size_modify, <- hp];exact hgl),Array.getElem?_modify,if_pos rfl, <- hp,hg];rfl
 have st:gG c ⟨c.ρ,c.X,aq c.h m (.arr 1 (eH ks')),w'.heap⟩ m m g:={
  X:=rfl
  hother:=fun k hk _=>ag _ _ hk
  ρother:=fun _ _=>rfl
  hn:=Or.inl rfl
  hm:=fun h=>absurd rfl h
  mine:=by show(aq c.h m _ m).mine;rw[aj];trivial
  ρn:=hρ
  tn:=by show Trans (c.h m) (aq c.h m _ m);rw[aj,hm];exact .arrArr _ _ _ (by rw[lX,lX];omega)
  Hh:=fun _=>hρ
  size:=hsize
  hp:=hoth
  shape:=fun cur' ty' fr h=>by rw[hg]at h;cases h;exact⟨_,hat,ow⟩
  loop:=fun r h=>by rw[hg]at h;cases h
  from':=Or.inr ⟨by rw[hm];trivial,hρ⟩ }
 refine⟨st.le,st.heap hr ?_,?_,hat⟩
 ·show cn _ m (aq c.h m _ m)
  rw[aj]
  have hcell:∀i j d,aE (eH ks') i j=some d->j=0/\∃(k:Int) (hi:i<ks'.length),ks'[i]=k/\d=.int .i64 k:=by
   intro i j d hd
   simp only[aE,Option.bind_eq_some_iff,eH,List.getElem?_map,Option.map_eq_some_iff]at hd
   obtain⟨x,⟨k,hk,rfl⟩,hx⟩:=hd
   obtain⟨hi,hk⟩:=List.getElem?_eq_some_iff.1 hk
   cases j with
   | zero=>simp[D.cells]at hx;exact⟨rfl,k,hi,hk,hx.symm⟩
   | succ j=>simp[D.cells]at hx
  refine⟨Nat.one_pos,fun e he=>?_,fun i j d hd=>?_,Or.inr ⟨g,_,ty,hρ,hat,by rw[lX,ow];omega,fun i j d hd=>?_⟩⟩
  ·simp only[eH,List.mem_map]at he;obtain⟨k,-,rfl⟩:=he;rfl
  ·obtain⟨-,k,-,-,rfl⟩:=hcell i j d hd;rfl
  ·obtain⟨rfl,k,hi,hk,rfl⟩:=hcell i j d hd
   rw[Nat.mul_one,Nat.add_zero,AX hi (by omega),hk]
   exact .int _ _
 ·rw[hw];exact⟨rfl,rfl,rfl⟩
theorem E8 {c:Ctx}{w:World}(hp:c.hp=w.heap) (hr:an c){m:Nat}{ks:List Int}(hm:c.h m=.arr 1 (eH ks)) (h0:1<=ks.length){va:Value}(hv:ar c (.ms m 0 ks.length) va) :
  ∃(g cap:Nat) (cur:Array Value) (ty:TypeId),va=.slice (some ⟨g,0,none⟩) ks.length cap/\c.ρ m=some g/\c.hp[g]?=some (Obj.cells cur ty (0,0))/\ks.length<=cur.size/\ks.length<=cap/\cap<=maxLen/\cap<=cur.size/\Holds encI w g 0 ks.toArray:=by
 have hsl:=hr.slot m
 rw[hm]at hsl
 obtain⟨-,-,-,hrow⟩:=hsl
 rcases hrow with⟨-,he⟩|⟨g,cur,ty,q1,q2,q3,q4⟩
 ·have:(eH ks).length=0:=by rw[he];rfl
  rw[lX]at this;omega
 generalize hn:ks.length=len at hv
 cases hv with
 | msDead _ _ _ _ _ _ hd=>rw[hm]at hd;cases hd
 | msNil _ _ els hrow hρ=>omega
 | msE _ _ _ _ els hrow=>omega
 | ms _ _ _ g' esz' cap els' cur' ty' fr hrow' hρ hl hg hcap hc hmax =>
  rw[hm]at hrow'
  simp[Slot.row]at hrow'
  obtain⟨rfl,rfl⟩:=hrow'
  rw[hρ]at q1;cases q1
  rw[q2]at hg;cases hg
  rw[lX]at q3
  refine⟨g,cap,cur,ty,by simp,hρ,q2,by omega,hc,hmax,by omega,fun j hj=>?_⟩
  have hj':j<ks.length:=by simpa using hj
  have hc2:j<cur.size:=by omega
  refine⟨?_,?_⟩
  ·rw[oX, <- hp,Nat.zero_add,dU q2 hc2]
   have:=q4 j 0 (.int .i64 ks[j]) (by simp[aE,eH,hj',D.cells])
   rw[Nat.mul_one,Nat.add_zero]at this
   generalize cur.getD j Go.undef=x at this
   cases this
   simp[hj']
  ·simp[World.frozen?, <- hp,q2]
theorem Fi {vals:Array Value}{d:D}{c:Ctx}(hs:vals.size=[d].length) (hrel:∀(i:Nat) (d':D),[d][i]?=some d'->ar c d' (vals.getD i Go.undef)):∃va,vals = #[va]/\ar c d va:=by
 obtain⟨l⟩:=vals
 match l,hs with
 | [x],_=>exact⟨x,rfl,hrel 0 _ rfl⟩
def nc (ks:List Int):List Int:=ks.mergeSort fun x y=>decide (x<=y)
theorem wG {ks:List Int}:(nc ks).length=ks.length:=by simp[nc]
theorem Ov {h:Heap}{KH:HKq}{m:Nat}{ks:List Int}(hm:h m=.arr 1 (eH ks)) (h0:1<=ks.length) (hl:ks.length<=1000000) (hK:KH (.tup []) (aq h m (.arr 1 (eH (nc ks))))):af PP bA [.ms m 0 ks.length] h KH:=by
 intro c w vals hh hp hr hs hrel
 subst hh
 obtain⟨va,rfl,r0⟩:=Fi hs hrel
 obtain⟨g,cap,cur,ty,rfl,hρ,hg,h1,h2,h3,h4,hH⟩:=E8 hp hr hm h0 r0
 refine(AnyM.slices_Sort_int OS g 0 cap ks w hH (by rw[<- hp];exact(Array.getElem?_eq_some_iff.1 hg).1) (by omega)).mono ?_
 rintro e w' ⟨rfl,n,os,hw⟩
 obtain⟨g1,g2,g3,-⟩:=E6 (ks':=nc ks) hp hr hm hρ hg h1 wG hw
 exact⟨_,.tup [],c.ρ,_,rfl,g1,g2,g3,.tup _ _ rfl (fun i d hd=>by simp at hd),hK⟩
def vz (ks:List Int):List Int:=Lib.compact ks++List.replicate (ks.length-(Lib.compact ks).length) 0
theorem G8 {h:Heap}{KH:HKq}{m:Nat}{ks:List Int}(hm:h m=.arr 1 (eH ks)) (h0:1<=ks.length) (hl:ks.length<=1000000) (hc:(Lib.compact ks).length<=ks.length) (hK:KH (.ms m 0 (Lib.compact ks).length) (aq h m (.arr 1 (eH (vz ks))))):af PP bm [.ms m 0 ks.length] h KH:=by
 intro c w vals hh hp hr hs hrel
 subst hh
 obtain⟨va,rfl,r0⟩:=Fi hs hrel
 obtain⟨g,cap,cur,ty,rfl,hρ,hg,h1,h2,h3,h4,hH⟩:=E8 hp hr hm h0 r0
 refine(Any.slices_Compact_int PU g 0 cap ks w hH (by omega) h2).mono ?_
 rintro e w' ⟨rfl,q,hw⟩
 have hlen:(vz ks).length=ks.length:=by simp[vz];omega
 obtain⟨g1,g2,g3,g4⟩:=E6 (w':=w') (ks':=vz ks) (n:=q) (os:= #[]) hp hr hm hρ hg h1 hlen (by rw[grow_empty,hw];rfl)
 refine⟨_,.ms m 0 (Lib.compact ks).length,c.ρ,_,rfl,g1,g2,g3,?_,hK⟩
 have:=ar.ms (c:=⟨c.ρ,c.X,aq c.h m (.arr 1 (eH (vz ks))),w'.heap⟩) m 0 (Lib.compact ks).length g 1 cap (eH (vz ks)) _ ty (0,0) (by show(aq c.h m _ m).row=_;rw[aj];rfl) hρ (by rw[lX];omega) g4 (by rw[ow];omega) (by omega) h3
 simpa using this
end Go.Am
namespace Go.Am
open Go Go.Proofs Go.RowKit
theorem xt {zs:List Int}:(Lib.compact zs).length<=zs.length:=by
 unfold Lib.compact Lib.compactUpTo
 rw[List.length_map]
 have:=List.length_filter_le (Lib.keeps zs.toArray) (List.range zs.length)
 simpa using this
theorem vt {zs:List Int}{j:Nat}(h:j<zs.length):(zs.toArray[j]!)=zs[j]:=by simp[h]
theorem CW {zs:List Int}{x:Int}:x∈Lib.compact zs↔x∈zs:=by
 unfold Lib.compact Lib.compactUpTo
 simp only[List.mem_map,List.mem_filter,List.mem_range]
 constructor
 ·rintro⟨j,⟨hj,-⟩,rfl⟩
  rw[vt hj];exact List.getElem_mem _
 ·intro hx
  have:∀(j:Nat) (hj:j<zs.length),zs[j]=x->∃a,(a<zs.length/\Lib.keeps zs.toArray a=true)/\(zs.toArray[a]!)=x:=by
   intro j
   induction j with
   | zero=>intro hj e;exact⟨0,⟨hj,by simp[Lib.keeps]⟩,by rw[vt hj,e]⟩
   | succ j ih =>
    intro hj e
    by_cases h:zs[j]=x
    ·exact ih (by omega) h
    ·refine⟨j+1,⟨hj,?_⟩,by rw[vt hj,e]⟩
     unfold Lib.keeps
     rw[decide_eq_true_eq,Nat.add_sub_cancel,vt hj,vt (by omega),e]
     exact Or.inr fun q=>h q.symm
  obtain⟨j,hj,e⟩:=List.mem_iff_getElem.1 hx
  exact this j hj e
theorem CX {zs:List Int}(h:zs.Pairwise (· <= ·)):(Lib.compact zs).Pairwise (· < ·):=by
 unfold Lib.compact Lib.compactUpTo
 rw[List.pairwise_map]
 have h1:((List.range zs.length).filter (Lib.keeps zs.toArray)).Pairwise (· < ·):=List.Pairwise.filter _ List.pairwise_lt_range
 refine List.Pairwise.imp_of_mem ?_ h1
 intro a b ha hb hab
 simp only[List.mem_filter,List.mem_range]at ha hb
 rw[vt ha.1,vt hb.1]
 have hk:=hb.2
 unfold Lib.keeps at hk
 rw[decide_eq_true_eq,vt hb.1,vt (by omega)]at hk
 have hne:=hk.resolve_left (by omega)
 have hp:=List.pairwise_iff_getElem.1 h
 have h2:zs[b-1]'(by omega)<=zs[b]:=hp (b-1) b (by omega) hb.1 (by omega)
 have h3:zs[a]<=zs[b-1]'(by omega):=by
  by_cases e:a=b-1
  ·subst e;exact Int.le_refl _
  ·exact hp a (b-1) ha.1 (by omega) (by omega)
 have:zs[b-1]'(by omega)<zs[b]:=by
  rcases Int.lt_or_eq_of_le h2 with h|h
  ·exact h
  ·exact absurd h.symm hne
 exact Int.lt_of_le_of_lt h3 this
theorem DR {ks:List Int}:(nc ks).Perm ks:=List.mergeSort_perm _ _
theorem HN {ks:List Int}:(nc ks).Pairwise (· <= ·):=by
 have:=List.pairwise_mergeSort (le:=fun x y:Int=>decide (x<=y)) (fun a b c h1 h2=>by simp at h1 h2 ⊢;omega) (fun a b=>by simp;omega) ks
 exact this.imp fun h=>by simpa using h
def DT (ks:List Int):List Int:=Lib.compact (nc ks)
theorem HS {ks:List Int}{x:Int}:x∈DT ks↔x∈ks:=by rw[DT,CW,DR.mem_iff]
theorem HU {ks:List Int}:(DT ks).Pairwise (· < ·):=CX HN
theorem HT {ks:List Int}:(DT ks).length<=ks.length:=Nat.le_trans xt (by rw[wG];exact Nat.le_refl _)
end Go.Am
namespace Go.Am
open Go Go.Proofs
def WL (nk pb pu pl nU n:Nat) (s:LSt) (B:bl) (cur:Nat) (lv:D) (M:LSq):LSq:=(nk,.lp s B)::(pb,.box (nD cur))::(pu,.box (.ms nU 0 n))::(pl,.box lv)::M
section
variable {h:Heap}{M:LSq}{nk pb pu pl nU n pUv pA iv iU iA cur a w:Nat}{B:bl}{lv:D}{T:List Nat}{U:List Int}{K:HKq}
theorem Ia (hv:M[iv]?=some (pUv,.box (.ms nU 0 n))) (hU:M[iU]?=some (nU,.arr 1 (eH U))) (hA:M[iA]?=some (pA,.box (nD a))) (hUn:U.length=n) (hw:U[a]?=some (w:Int)) (hT:T.length<=1000000) (q:QD h (WL nk pb pu pl nU n .ready B cur lv M) lv (bU T))
  {z1 z3 z4 z24 z25 z26 z47 z48 z49:D}(h1:cur=w->∀h',QD h' (WL nk pb pu pl nU n (.done (.exit 4)) B cur lv M) lv (bU T)->K (.bool false) h') (h2:cur≠w->∀h' lv',QD h' (WL nk pb pu pl nU n .ready B cur lv' M) lv' (bU (T++[cur]))->K (.bool true) h') :
  kg nk B (nD cur) z1 z3 z4 (.ptr pUv 0 0) (.ptr pA 0 0) (.ptr pl 0 0) z24 z25 z26 z47 z48 z49 h K:=by
 unfold kg
 have V:=q.vs
 refine⟨rfl,V.get 0 _ _ rfl,?_⟩
 have q1:QD (aq h nk (.lp .busy B)) (WL nk pb pu pl nU n .busy B cur lv M) lv (bU T):=q.b6 0 rfl (by simp)
 have V1:=q1.vs
 have ix:∀{s:LSt}{lv:D}{i:Nat}{x:Nat×Slot},M[i]?=some x->(WL nk pb pu pl nU n s B cur lv M)[i+4]?=some x:=fun hi=>by simpa[WL] using hi
 have ha:=(List.getElem?_eq_some_iff.1 hw).1
 rw[V1.zB _ (ix hv) rfl,V1.zB _ (ix hA) rfl,nD,V1.ia _ (ix hU) (by omega) (by omega),Int.toNat_natCast,V1.zA _ (ix hU) (kr hw) rfl,nD,cO]
 by_cases hc:cur=w
 ·rw[decide_eq_true (by omega),ai]
  refine⟨V1.get 0 _ _ rfl,h1 hc _ ?_⟩
  exact q1.b6 0 rfl (by simp)
 ·rw[decide_eq_false (by omega),ah]
  have hlo:lv.one=true:=by
   rcases q1 with⟨rfl,-,-⟩|⟨m,rfl,-⟩<;>rfl
  rw[V1.zB 3 rfl hlo]
  refine q1.push aS rfl (by rw[bn];omega) (by rw[bn];omega) fun lv' h2' q2=>?_
  have e2:bU T++[nD cur]=bU (T++[cur]):=by simp[bU]
  have e3:bU T++[D.int .i64 (cur:Int)]=bU (T++[cur]):=by simp[bU,nD]
  rw[e3]at q2
  rcases q2 with⟨-,h0,-⟩|⟨m,rfl,V2⟩
  ·simp[bU]at h0
  refine V2.JZ 4 rfl hlo rfl fun h3 V3=>?_
  simp only[WL,List.set_cons_succ,List.set_cons_zero]at V3
  refine⟨V3.get 1 _ _ rfl,h2 hc _ (.ms m 0 (bU (T++[cur])).length) ?_⟩
  have q3:QD h3 (WL nk pb pu pl nU n .busy B cur (.ms m 0 (bU (T++[cur])).length) M) (.ms m 0 (bU (T++[cur])).length) (bU (T++[cur])):=Or.inr ⟨m,rfl,V3⟩
  exact q3.b6 0 rfl (by simp)
end
inductive JU (r:Nat) (up:Nat->Option Nat) (w:Nat):Nat->List Nat->Prop
 | stop:JU r up w w []
 | top {b:Nat}(h:b≠w) (hu:up b=some b):JU r up w b [b]
 | step {b y:Nat}{l:List Nat}(h:b≠w) (hy:up b=some y) (hb:y≠b) (k:JU r up w y l):JU r up w b (b::l)
section
variable {h:Heap}{M:LSq}{nk pb pu pl nU n pUv pA iv iU iA a w r:Nat}{U:List Int}{O:List Nat}{B:bl}
theorem Kc {P:Program}{A:(D->Prop)->Prop}{K:D->Prop}:au (.bool false) true A K=K gU:=by
 rw[iL];simp
theorem MO {P:Program}{A:(D->Prop)->Prop}{K:D->Prop}:au (.bool true) true A K=A K:=by
 rw[iL];simp
theorem Ob:cG PP fF=true:=by kernel_rfl
theorem Om (hv:M[iv]?=some (pUv,.box (.ms nU 0 n))) (hU:M[iU]?=some (nU,.arr 1 (eH U))) (hA:M[iA]?=some (pA,.box (nD a))) (hUn:U.length=n) (hn:n<=1000) (hw:U[a]?=some (w:Int)) (T:Tr r (sV O) (· ∈ O) (upF U)) (hr0:sV O r=0)
  {to:Nat}(hto:upF U to≠none) {T0:List Nat}(hT:T0.length<=1000) (hOn:sV O to<=1000) {lv:D}(q:QD h (WL nk pb pu pl nU n .ready B to lv M) lv (bU T0)) {z1 z3 z4 z24 z25 z26 z47 z48 z49:D}{KH:HKq}
  (hps:B.ps=[56]) (hAs:v7 PP kn B.nt B.assign) (hBs:v7 PP km B.nt B.body) (hlt:∀p,p∈[56]->p<B.nt) (he:B.env=LEnv.get [(1,z1),(3,z3),(4,z4),(5,.ptr pUv 0 0),(6,.ptr pA 0 0),(9,.ptr pl 0 0),(24,z24),(25,z25),(26,z26),(47,z47),(48,z48),(49,z49)])
  (hK:∀(s:LSt) (cur:Nat) (lv':D) (l:List Nat) (h':Heap),JU r (upF U) w to l->(s=.ready\/s=.done (.exit 4))->QD h' (WL nk pb pu pl nU n s B cur lv' M) lv' (bU (T0++l))->KH (.tup []) h') :
  af PP fF [.yld nk,.ptr pb 0 0,.ptr pu 0 0] h KH:=by
 refine aU om (av _ _ _) rfl (vV _ _ _ _) ?_
 unfold sf nW
 refine⟨fun m q' h'=>∃(cur:Nat) (lv:D) (l:List Nat),q'=[]/\m=sV O cur/\upF U cur≠none/\l.length+sV O cur<=sV O to/\(∀l',JU r (upF U) w cur l'->JU r (upF U) w to (l++l'))/\QD h' (WL nk pb pu pl nU n .ready B cur lv M) lv (bU (T0++l)),_,
  ⟨to,lv,[],rfl,rfl,hto,by simp,fun l' k=>k,by rw[List.append_nil];exact q⟩,?_⟩
 rintro m f h7 ⟨cur,lv,l,-,hm,hcu,hl,hseg,q7⟩
 have V7:=q7.vs
 have ix:∀{s:LSt}{cur:Nat}{lv:D}{i:Nat}{x:Nat×Slot},M[i]?=some x->(WL nk pb pu pl nU n s B cur lv M)[i+4]?=some x:=fun hi=>by simpa[WL] using hi
 rw[V7.y5 1 rfl rfl,IL]
 refine⟨⟨_,_,V7.get 0 _ _ rfl⟩,?_⟩
 refine pM (e:=[(1,z1),(3,z3),(4,z4),(5,.ptr pUv 0 0),(6,.ptr pA 0 0),(9,.ptr pl 0 0),(24,z24),(25,z25),(26,z26),(47,z47),(48,z48),(49,z49)]) (V7.get 0 _ _ rfl) hps hAs hBs (by simp) hlt rfl he ?_
 rw[show([Arg.c (nD cur)].map fun x=>x.get [])=[nD cur] from rfl, <- th]
 refine Ia hv hU hA hUn hw (by simp;omega) q7 (fun hc h' q'=>?_) fun hc h' lv' q'=>?_
 ·
  subst hc
  have hs:=hseg [] .stop
  rw[List.append_nil]at hs
  have hfin:=hK _ _ _ l h' hs (Or.inr rfl) q'
  simp only[Kc (P:=PP),fH,gX,Bool.false_eq_true,if_false]
  rw[ah]
  exact hfin
 ·obtain⟨y,hy⟩:∃y,upF U cur=some y:=by
   cases hy:upF U cur with
   | none=>exact absurd hy hcu
   | some y=>exact⟨y,rfl⟩
  have hyU:=oN hy
  have hcl:=(List.getElem?_eq_some_iff.1 hyU).1
  have V':=q'.vs
  simp only[MO (P:=PP),↓V'.y5 2 rfl rfl,↓V'.y5 1 rfl rfl,nD,↓V'.FI _ (ix hU) (show(0:Int)<=(cur:Int) by omega) (show(cur:Int)<(n:Int) by omega),Int.toNat_natCast,↓V'.Ej _ (ix hU) (kr hyU) rfl,ym,fH,gX,if_true]
  by_cases hyc:y=cur
  ·subst hyc
   rw[decide_eq_true rfl]
   simp only[Bool.not_true]
   rw[ah]
   have hs:=hseg [y] (.top hc hy)
   rw[List.append_assoc]at q'
   exact hK _ _ _ (l++[y]) h' hs (Or.inl rfl) q'
  ·rw[decide_eq_false (by omega)]
   simp only[Bool.not_false]
   rw[ai,V'.zB 2 rfl rfl,V'.zB 1 rfl rfl,nD,V'.ia _ (ix hU) (by omega) (by omega),Int.toNat_natCast,V'.zA _ (ix hU) (kr hyU) rfl]
   have hcr:cur≠r:=by
    rintro rfl
    have:=T.rt
    rw[hy]at this;cases this
    exact hyc rfl
   have hplt:=T.lt cur y hy hcr
   rcases q' with⟨-,h0,-⟩|⟨m',rfl,V2⟩
   ·simp[bU]at h0
   refine V2.JZ 2 rfl rfl rfl fun h45 V45=>?_
   simp only[WL,List.set_cons_succ,List.set_cons_zero]at V45
   simp only[ae,true_and]
   refine⟨sV O y,by omega,y,.ms m' 0 (bU ((T0++l)++[cur])).length,l++[cur],rfl,(T.nd cur y hy).2,by simp;omega,fun l' k=>?_,Or.inr ⟨m',by rw[List.append_assoc],?_⟩⟩
   ·rw[List.append_assoc];exact hseg _ (.step hc hy hyc k)
   ·rw[<- List.append_assoc];exact V45
end
end Go.Am
namespace Go.Am
open Go Go.Proofs
section
variable {r:Nat}{A:Nat->Nat}{node:Nat->Prop}{up:Nat->Option Nat}{w:Nat}
theorem JU.mem (T:Tr r A node up){b:Nat}{l:List Nat}(s:JU r up w b l) (hw:Ch r up b w){x:Nat}:x∈l↔Ch r up b x/\¬Ch r up w x:=by
 induction s with
 | stop=>simp
 | @top b h hu =>
  exfalso
  cases hw with
  | refl _=>exact h rfl
  | step hr hy k =>
   have:=T.lt b b hu hr
   omega
 | @step b y l h hy hb k ih =>
  have hbr:b≠r:=by
   rintro rfl
   have:=T.rt
   rw[hy]at this;cases this
   exact hb rfl
  have hyw:Ch r up y w:=by
   cases hw with
   | refl _=>exact absurd rfl h
   | step hr hy' k'=>rw[hy]at hy';cases hy';exact k'
  rw[List.mem_cons,ih hyw]
  constructor
  ·rintro (rfl|⟨h1,h2⟩)
   ·exact⟨.refl _,fun k'=>h (hw.EK T k').symm⟩
   ·exact⟨.step hbr hy h1,h2⟩
  ·rintro⟨h1,h2⟩
   cases h1 with
   | refl _=>exact Or.inl rfl
   | step hr hy' k'=>rw[hy]at hy';cases hy';exact Or.inr ⟨k',h2⟩
theorem JU.len (T:Tr r A node up){b:Nat}{l:List Nat}(s:JU r up w b l):l.length<=A b+1:=by
 induction s with
 | stop=>simp
 | top h hu=>simp
 | @step b y l h hy hb k ih =>
  have hbr:b≠r:=by
   rintro rfl
   have:=T.rt
   rw[hy]at this;cases this
   exact hb rfl
  have:=T.lt b y hy hbr
  simp only[List.length_cons];omega
end
section
variable {h:Heap}{L:LSq}{v:D}{Bs:List (List Nat)}{KH:HKq}
theorem jO.split (q:jO h L v Bs):∃X,Vs h (X++L)/\LR X v Bs/\∀h' L',Vs h' (X++L')->jO h' L' v Bs:=by
 obtain⟨nB,els,W,nm,rfl,V,R⟩:=q
 refine⟨(nB,.arr 1 els)::W,V,Or.inr ⟨nB,els,rfl,by simp,R.len,fun b e l he hl=>?_⟩,fun h' L' V'=>⟨nB,els,W,nm,rfl,V',R⟩⟩
 refine⟨R.one e (List.mem_of_getElem? he),?_⟩
 rcases R.el b l hl with⟨h1,h2⟩|⟨-,h2,h3⟩
 ·rw[he]at h2;cases h2;exact Or.inl ⟨rfl,h1⟩
 ·rw[he]at h2;cases h2;exact Or.inr (Or.inr ⟨_,rfl,by simp[h3]⟩)
theorem jO.take (q:jO h L v Bs){b x:Nat}{l:List Nat}(hb:Bs[b]?=some l):∃(nB:Nat) (els:List D) (W0:LSq) (e:D),v=.ms nB 0 Bs.length/\els.length=Bs.length/\(∀y∈els,y.one=true)/\els[b]?=some e/\QD h ((nB,.arr 1 els)::(W0++L)) e (bU l) /\
  ∀h' m,Vs h' ((m,.arr 1 (bU (l++[x])))::(nB,.arr 1 (els.set b (.ms m 0 (l.length+1))))::(W0++L))->jO h' L v (Bs.set b (l++[x])):=by
 obtain⟨nB,els,W,nm,rfl,V,R⟩:=q
 have hbl:=(List.getElem?_eq_some_iff.1 hb).1
 obtain⟨e,he⟩:∃e,els[b]?=some e:=⟨els[b]'(by rw[R.len];exact hbl),List.getElem?_eq_getElem _⟩
 have hx:∃W0,QD h ((nB,.arr 1 els)::(W0++L)) e (bU l)/\∀(b':Nat) (l':List Nat),b'≠b->Bs[b']?=some l'->l'≠[]->(nm b',.arr 1 (bU l'))∈W0:=by
  rcases R.el b l hb with⟨h1,h2⟩|⟨h0,h2,h3⟩
  ·rw[he]at h2;cases h2;subst h1
   refine⟨W,Or.inl ⟨rfl,rfl,V⟩,fun b' l' hne hb' hl'=>?_⟩
   rcases R.el b' l' hb' with⟨g1,-⟩|⟨-,-,g3⟩
   ·exact absurd g1 hl'
   ·exact g3
  ·rw[he]at h2;cases h2
   obtain⟨S,T,rfl⟩:=List.append_of_mem h3
   refine⟨S++T,Or.inr ⟨nm b,by rw[bn],V.perm ?_⟩,fun b' l' hne hb' hl'=>?_⟩
   ·have:((nB,Slot.arr 1 els)::(S++(nm b,.arr 1 (bU l))::T++L)).Perm ((nm b,.arr 1 (bU l))::(nB,.arr 1 els)::(S++T++L)):=by
     refine(List.Perm.cons _ ?_).trans (.swap _ _ _)
     simp only[List.append_assoc,List.cons_append]
     exact List.perm_middle
    exact this
   ·rcases R.el b' l' hb' with⟨g1,-⟩|⟨-,-,g3⟩
    ·exact absurd g1 hl'
    ·have hnn:nm b'≠nm b:=fun e=>hne (R.inj b' b l' l hb' hb hl' h0 e)
     rcases List.mem_append.1 g3 with g|g
     ·exact List.mem_append_left _ g
     ·rcases List.mem_cons.1 g with g|g
      ·exact absurd (congrArg Prod.fst g) hnn
      ·exact List.mem_append_right _ g
 obtain⟨W0,Q,hoth⟩:=hx
 have hel:b<els.length:=by rw[R.len];exact hbl
 refine⟨nB,els,W0,e,rfl,R.len,R.one,he,Q,fun h' m V'=>⟨nB,els.set b (.ms m 0 (l.length+1)),(m,.arr 1 (bU (l++[x])))::W0,fun y=>if y=b then m else nm y,by simp,V'.swap,?_⟩⟩
 have hmW:∀s,(m,s)∉W0:=by
  intro s hs
  have:=(Vs.iff.1 V').2
  simp only[List.map_cons,List.nodup_cons,List.map_append,List.mem_cons,List.mem_append,not_or]at this
  exact this.1.2.1 (List.mem_map.2 ⟨(m,s),hs,rfl⟩)
 refine⟨by simp[R.len],fun b' l' hb'=>?_,fun b1 b2 l1 l2 h1 h2 n1 n2 hnm=>?_⟩
 ·rw[List.getElem?_set]at hb' ⊢
  by_cases hbb:b=b'
  ·subst hbb
   simp only[if_true]at hb' ⊢
   rw[if_pos hbl]at hb';cases hb'
   rw[if_pos hel]
   refine Or.inr ⟨by simp,?_,by simp⟩
   simp
  ·rw[if_neg hbb]at hb' ⊢
   rw[if_neg (fun e=>hbb e.symm)]
   rcases R.el b' l' hb' with⟨g1,g2⟩|⟨g1,g2,g3⟩
   ·exact Or.inl ⟨g1,g2⟩
   ·exact Or.inr ⟨g1,g2,List.mem_cons_of_mem _ (hoth b' l' (fun e=>hbb e.symm) hb' g1)⟩
 ·have key:∀(b':Nat) (l':List Nat),b'≠b->(Bs.set b (l++[x]))[b']?=some l'->l'≠[]->nm b'≠m:=fun b' l' hne hb' hn e=>by
   rw[List.getElem?_set,if_neg (fun e=>hne e.symm)]at hb'
   exact hmW _ (e ▸ hoth b' l' hne hb' hn)
  by_cases e1:b1=b
  ·by_cases e2:b2=b
   ·rw[e1,e2]
   ·simp only[e1,if_true,if_neg e2]at hnm
    exact absurd hnm.symm (key b2 l2 e2 h2 n2)
  ·by_cases e2:b2=b
   ·simp only[e2,if_true,if_neg e1]at hnm
    exact absurd hnm (key b1 l1 e1 h1 n1)
   ·simp only[if_neg e1,if_neg e2]at hnm
    rw[List.getElem?_set,if_neg (fun e=>e1 e.symm)]at h1
    rw[List.getElem?_set,if_neg (fun e=>e2 e.symm)]at h2
    exact R.inj b1 b2 l1 l2 h1 h2 n1 n2 hnm
end
end Go.Am
namespace Go.Am
open Go Go.Proofs
theorem N0 {c:Code}{h:Heap}{L:LSq}{v:D}{Bs:List (List Nat)}{m n2 pA a im i2 iA:Nat}{row:List D}{S:List Nat}{a13 a17 a26 a28:D}{f:Nat->D}{J:HJq}(R:jO h L v Bs) (hBs:Bs.length=c.b.length) (hm:L[im]?=some (m,.arr 1 row)) (hrow:∀(i b:Nat),S[i]?=some b->row[i]?=some (nD b))
  (h2:L[i2]?=some (n2,.box c.e)) (hA:L[iA]?=some (pA,.box (nD a))) (hS:S.length<=10000) (hlen:∀b,(gL Bs b).length<=10000) (hN:c.b.length<=1000) (hJ:∀h',jO h' L v (S.foldl (gh a) Bs)->J [] h') :
  fW h (.int .i64 (S.length:Int)) (.ptr n2 0 0) v a13 a17 (.ptr pA 0 0) a26 a28 f (.ms m 0 S.length) J:=by
 unfold fW
 refine⟨fun k q h'=>∃i:Nat,q=[nD i]/\i<=S.length/\k=S.length-i/\(∀b,(gL ((S.take i).foldl (gh a) Bs) b).length<=10000+i)/\jO h' L v ((S.take i).foldl (gh a) Bs),_,⟨0,rfl,by omega,rfl,by simpa using hlen,R⟩,?_⟩
 rintro k g h1 ⟨i,hq,hi,hk,hl1,R1⟩
 simp only[List.cons.injEq,and_true]at hq
 simp only[hq,nD]
 by_cases hlt:i<S.length
 ·rw[sC (by omega),ai]
  obtain⟨b,hb⟩:∃b,S[i]?=some b:=⟨S[i],List.getElem?_eq_getElem hlt⟩
  have V1:=R1.vs
  let B1:=(S.take i).foldl (gh a) Bs
  have hB1:B1.length=c.b.length:=by simp only[B1];rw[mo,hBs]
  have htk:(S.take (i+1)).foldl (gh a) Bs=gh a B1 b:=by
   rw[List.take_add_one,hb]
   simp only[Option.toList_some,List.foldl_append,List.foldl_cons,List.foldl_nil]
   rfl
  have hnext:∀y,(gL (gh a B1 b) y).length<=10000+(i+1):=fun y=>by
   by_cases hbN:b<c.b.length
   ·rw[ya (by rw[hB1];exact hbN)]
    split
    ·have:=hl1 b;simp only[List.length_append,List.length_cons,List.length_nil];simp only[B1];omega
    ·have:=hl1 y;simp only[B1];omega
   ·have:gh a B1 b=B1:=by
     unfold gh
     rw[List.set_eq_of_length_le (by omega)]
    rw[this]
    have:=hl1 y;simp only[B1];omega
  refine⟨fun _ h'=>jO h' L v (gh a B1 b),fun f' h' R'=>?_,?_⟩
  ·rw[fV (by omega) (by omega)]
   simp only[ae,true_and]
   exact⟨_,by omega,i+1,rfl,by omega,rfl,by rw[htk];exact hnext,by rw[htk];exact R'⟩
  rw[V1.ia im hm (by omega) (by omega),Int.toNat_natCast,V1.zA im hm (hrow i b hb) rfl,V1.fa i2 h2,V1.fv i2 (j:=7) h2 rfl,fy,List.length_map,nD]
  by_cases hbN:b<c.b.length
  ·rw[sC (by omega),ai]
   have hget:B1[b]?=some (gL B1 b):=by unfold gL;rw[List.getElem?_eq_getElem (by omega)];rfl
   obtain⟨nB,els,W0,e,rfl,hel,hone,he,Q,fin⟩:=jO.take (x:=a) R1 hget
   have V2:=Q.vs
   have ix:∀{els:List D}{i:Nat}{x:Nat×Slot},L[i]?=some x->((nB,Slot.arr 1 els)::(W0++L))[W0.length+i+1]?=some x:=fun hi=>by
    rw[List.getElem?_cons_succ,List.getElem?_append_right (by omega),Nat.add_sub_cancel_left];exact hi
   have hB1':((S.take i).foldl (gh a) Bs).length=c.b.length:=hB1
   simp only[↓V2.FI 0 rfl (show(0:Int)<=(b:Int) by omega) (show(b:Int)<(((S.take i).foldl (gh a) Bs).length:Int) by omega),Int.toNat_natCast,↓V2.Ej 0 rfl he (hone e (List.mem_of_getElem? he)),↓V2.y5 _ (ix hA) rfl]
   refine Jl ?_
   refine Q.LS aS rfl (by rw[bn];have:=hl1 b;simp only[B1];omega) (by rw[bn];have:=hl1 b;simp only[B1];omega) fun v' h' Q'=>?_
   have e2:bU (gL B1 b)++[nD a]=bU (gL B1 b++[a]):=by simp[bU]
   rw[e2]at Q'
   rcases Q' with⟨-,h0,-⟩|⟨m',rfl,V'⟩
   ·simp[bU]at h0
   simp only[↓V'.FI 1 rfl (show(0:Int)<=(b:Int) by omega) (show(b:Int)<(((S.take i).foldl (gh a) Bs).length:Int) by omega),Int.toNat_natCast,ae,true_and]
   refine V'.B6 1 rfl (by rw[hel,hB1'];exact hbN) rfl hone fun h3 V3=>?_
   simp only[List.set_cons_succ,List.set_cons_zero]at V3
   simp only[↓V3.FI 1 rfl (show(0:Int)<=(b:Int) by omega) (show(b:Int)<(((S.take i).foldl (gh a) Bs).length:Int) by omega),Int.toNat_natCast,ae,true_and]
   have:=fin h3 m' (by rw[bn,List.length_append]at V3;exact V3)
   exact this
  ·rw[qY (by omega),ah]
   simp only[ae,true_and]
   have:gh a B1 b=B1:=by
    unfold gh
    rw[List.set_eq_of_length_le (by omega)]
   rw[this]
   exact R1
 ·have:i=S.length:=by omega
  subst this
  rw[qY (by omega),ah]
  simp only[ae,true_and]
  rw[List.take_length]at R1
  exact hJ h1 R1
end Go.Am
namespace Go.Am
open Go Go.Proofs
section
variable {h:Heap}{L:LSq}{v:D}{T:List D}{KH:HKq}
theorem QD.more (q:QD h L v T){n:Nat}(hn:h n=.free){s:Slot}(hs:s≠.free):QD (aq h n s) ((n,s)::L) v T:=by
 rcases q with⟨rfl,rfl,V⟩|⟨m,rfl,V⟩
 ·exact Or.inl ⟨rfl,rfl,V.push hn hs⟩
 ·exact Or.inr ⟨m,rfl,(V.push hn hs).swap⟩
theorem QD.less {x:Nat×Slot}(q:QD h (x::L) v T):QD h L v T:=by
 rcases q with⟨rfl,rfl,V⟩|⟨m,rfl,V⟩
 ·exact Or.inl ⟨rfl,rfl,V.pop⟩
 ·exact Or.inr ⟨m,rfl,V.swap.pop⟩
theorem QD.box (q:QD h L v T){d:D}(hd:d.one=true) (hK:∀n h',QD h' ((n,.box d)::L) v T->KH (.ptr n 0 0) h'):aa PP (.box (.c d)) h KH:=by
 rw[Ao]
 exact⟨fun x hx=>by rw[ir hd]at hx;simp at hx;subst hx;exact hd,fun n t=>hK n _ (q.more t.free (by simp))⟩
end
section
variable {h:Heap}{M:LSq}{pl nU n pUv pA iv iU iA a w r:Nat}{U:List Int}{O ts:List Nat}{lv:D}
theorem Je (hv:M[iv]?=some (pUv,.box (.ms nU 0 n))) (hU:M[iU]?=some (nU,.arr 1 (eH U))) (hA:M[iA]?=some (pA,.box (nD a))) (hUn:U.length=n) (hn:n<=1000) (hw:U[a]?=some (w:Int)) (T:Tr r (sV O) (· ∈ O) (upF U)) (hr0:sV O r=0) (hOl:O.length<=400)
  (hts:∀t∈ts,upF U t≠none/\Ch r (upF U) t w) (htl:ts.length<=2) (q:QD h ((pl,.box lv)::M) lv []) {a2 a9 a13 a26 a28:D}{f:Nat->D}{J:HJq}{K:HKq}
  (hJ:∀(lv':D) (l:List Nat) (h':Heap),l.length<=802->(∀x,x∈l ↔ ∃t,t∈ts/\Ch r (upF U) t x/\¬Ch r (upF U) w x)->QD h' ((pl,.box lv')::M) lv' (bU l)->J [] h') :
  ki h (.int .i64 (ts.length:Int)) a2 a9 a13 (.ptr pUv 0 0) (.ptr pA 0 0) (.ptr pl 0 0) a26 a28 f (.sl (bU ts)) J K:=by
 have hplc:∀x,sV O x<=400:=fun x=>Nat.le_trans List.idxOf_le_length hOl
 unfold ki
 refine⟨fun k q' h'=>∃(j:Nat) (lv:D) (l:List Nat),q'=[nD j]/\j<=ts.length/\k=ts.length-j/\l.length<=401*j/\(∀x,x∈l ↔ ∃t,t∈ts.take j/\Ch r (upF U) t x/\¬Ch r (upF U) w x)/\QD h' ((pl,.box lv)::M) lv (bU l),_,⟨0,lv,[],rfl,by omega,rfl,by simp,by simp,q⟩,?_⟩
 rintro k g h1 ⟨j,lv1,l,hq,hj,hk,hl,hmem,q1⟩
 simp only[List.cons.injEq,and_true]at hq
 simp only[hq,nD]
 by_cases hlt:j<ts.length
 ·rw[sC (by omega),ai]
  obtain⟨to,hto⟩:∃to,ts[j]?=some to:=⟨ts[j],List.getElem?_eq_getElem hlt⟩
  have htoM:=List.mem_of_getElem? hto
  have htk:ts.take (j+1)=ts.take j++[to]:=by rw[List.take_add_one,hto];rfl
  refine⟨fun _ h'=>∃(lv:D) (l:List Nat),l.length<=401*(j+1)/\(∀x,x∈l ↔ ∃t,t∈ts.take (j+1)/\Ch r (upF U) t x/\¬Ch r (upF U) w x)/\QD h' ((pl,.box lv)::M) lv (bU l),?_,?_⟩
  ·rintro f' h' ⟨lv2,l2,b1,b2,b3⟩
   rw[fV (by omega) (by omega)]
   simp only[ae,true_and]
   exact⟨_,by omega,j+1,lv2,l2,rfl,by omega,rfl,b1,b2,b3⟩
  have V1:=q1.vs
  refine RB hto ?_
  rw[V1.zB (iv+1) (by simpa using hv) rfl]
  refine aU so (av _ _ _) rfl (zo _ _ _) ?_
  unfold xz
  refine q1.box rfl fun pu h4 q4=>?_
  refine q4.box rfl fun pb h6 q6=>?_
  rw[Cw]
  refine⟨rfl,Ob,fun nk B ht he hps _ hlt' hAs hBs=>?_⟩
  have q7:QD (aq h6 nk (.lp .ready B)) (WL nk pb pu pl nU n .ready B to lv1 M) lv1 (bU l):=q6.more ht.free (by simp)
  refine Om hv hU hA hUn hn hw T hr0 (hts to htoM).1 (by omega) (by have:=hplc to;omega) q7 hps hAs hBs hlt' he fun s cur lv' l' h' hseg hs q8=>?_
  have V8:=q8.vs
  have hget:h' nk=.lp s B:=V8.get 0 _ _ rfl
  have q9:QD (aq h' nk .dead) ((pl,.box lv')::M) lv' (bU (l++l')):=(q8.b6 0 rfl (by simp)).less.less.less
  have hfin:∃(lv:D) (l:List Nat),l.length<=401*(j+1)/\(∀x,x∈l ↔ ∃t,t∈ts.take (j+1)/\Ch r (upF U) t x/\¬Ch r (upF U) w x)/\QD (aq h' nk .dead) ((pl,.box lv)::M) lv (bU l):=by
   refine⟨lv',l++l',?_,fun x=>?_,q9⟩
   ·have h1:=hseg.len T
    have h2:=hplc to
    simp only[List.length_append];omega
   ·rw[List.mem_append,hmem,hseg.mem T (hts to htoM).2,htk]
    constructor
    ·rintro (⟨t,h1,h2⟩|h2)
     ·exact⟨t,by simp[h1],h2⟩
     ·exact⟨to,by simp,h2⟩
    ·rintro⟨t,h1,h2⟩
     rcases List.mem_append.1 h1 with h1|h1
     ·exact Or.inl ⟨t,h1,h2⟩
     ·simp at h1;subst h1;exact Or.inr h2
  show mg _ _ _ _ _
  unfold mg
  rw[hget]
  rcases hs with rfl|rfl
  ·simp only[ae,true_and]
   exact hfin
  ·simp only[ae,true_and,or_false]
   exact hfin
 ·have:j=ts.length:=by omega
  subst this
  rw[qY (by omega),ah]
  simp only[ae,true_and]
  rw[List.take_length]at hmem
  exact hJ lv1 l h1 (by omega) hmem q1
end
end Go.Am
namespace Go.Am
open Go Go.Proofs
theorem F7 {t:Term}{x y:Nat}(h:gy t=[x,y]) (h0:0<=t.to0) (h1:0<=t.to1):x≠y:=by
 unfold gy at h
 split at h
 ·cases h
 ·split at h
  ·rename_i hk
   simp only[List.cons.injEq,and_true]at h
   rintro rfl
   exact hk.2 (by omega)
  ·cases h
noncomputable def pB (c:Code) (O O':List Nat):Nat->List Nat:=preB (wo (po (nG c) O c.b.length (pH c O)) O' (c.b.length+1))
structure ye (c:Code) (O O':List Nat) (at' U:List Int):Prop where
 b:MI c O O' at'
 u:P4 c.b.length O' (wo (po (nG c) O c.b.length (pH c O)) O' (c.b.length+1)) (c.b.length+1) U
def DF (c:Code) (O O':List Nat) (a b:Nat):Prop:=a∈O/\(edg c a).length=2/\(∃t,t∈edg c a/\Dm c.b.length (pB c O O') b t)/\(b=a\/¬Dm c.b.length (pB c O O') b a)
section
variable {c:Code}{O O':List Nat}{at' U:List Int}
theorem ye.po (hc:eW c) (D:ye c O O' at' U):∀l,l∈Go.Am.po (nG c) O c.b.length (pH c O)->(∀x∈l,x<c.b.length+1)/\l.length<=1000 :=
 DM hc D.b.lt D.b.sub (by have:=D.b.len.2;omega) D.b.len.1
theorem ye.mem (hc:eW c) (D:ye c O O' at' U){a:Nat}(ha:a<c.b.length):a∈O'↔a∈O:=by
 refine⟨fun h=>?_,D.b.all a⟩
 have:Path (gL (Go.Am.po (nG c) O c.b.length (pH c O))) c.b.length a->a=c.b.length\/a∈O:=fun h=>by
  cases h with
  | refl=>exact Or.inl rfl
  | @step x _ _ e =>
   rw[yV]at e
   split at e
   ·rw[nJ (mF hc)]at e
    exact Or.inr e.1
   ·split at e
    ·exact Or.inr (D.b.sub _ e)
    ·cases e
 rcases this (D.b.g.path.1 h) with e|h
 ·omega
 ·exact h
theorem ye.pre (hc:eW c) (D:ye c O O' at' U){a t:Nat}(ha:a∈O) (ht:t∈edg c a):t∈pB c O O' a/\t∈O':=by
 have haN:=D.b.lt a ha
 have htO:t∈O:=by
  obtain⟨S,hv⟩:=D.b.ord
  have G:=zU.gr (at':=(List.range c.b.length).map fun x=>if x∈O then((sV O x:Nat):Int) else -1) (mF hc) lZ (by omega) ⟨S,hv⟩ (by simp) (fun i x hx=>?_) (fun x hx hn=>?_)
  ·refine G.cl a t ha ?_
   have:t∈gL (nG c) a:=by rw[yW];exact ht
   exact this
  ·have hxO:=List.mem_of_getElem? hx
   have hxN:=D.b.lt x hxO
   have nd:O.Nodup:=by
    obtain⟨m,h1,e⟩:=hv
    obtain⟨N,e2,F⟩:=h1.spec (n:=c.b.length) (fun p b=>p9 (mF hc)) (fun x=>p9 (mF hc)) (by simp)
    have e3:O=0::N:=by
     have:=congrArg Prod.snd e
     simp only at this
     rw[this,e2];simp
    rw[e3]
    refine List.nodup_cons.2 ⟨fun h=>?_,F.nd⟩
    have h2:=(F.new 0 h).1
    simp only at h2
    rw[cC (by simp;omega)]at h2
    simp at h2
   rw[List.getElem?_map,List.getElem?_range hxN]
   simp[hxO,wJ nd hx]
  ·rw[List.getElem?_map,List.getElem?_range hx]
   simp[hn]
 have htO':=D.b.all t htO
 have htN:=D.b.lt t htO
 refine⟨?_,htO'⟩
 have:t∈gL (wo (Go.Am.po (nG c) O c.b.length (pH c O)) O' (c.b.length+1)) a:=by
  rw[nJ (D.po hc)]
  refine⟨htO',?_⟩
  rw[yV,if_pos htN,nJ (mF hc),yW]
  exact⟨ha,ht⟩
 exact this
theorem ye.up (hc:eW c) (D:ye c O O' at' U){a:Nat}(ha:a∈O):∃w,upF U a=some w/\(∀t,t∈edg c a->upF U t≠none/\Ch c.b.length (upF U) t w)/\∀x,Ch c.b.length (upF U) w x↔Ch c.b.length (upF U) a x/\x≠a:=by
 have haN:=D.b.lt a ha
 have har:a≠c.b.length:=by omega
 have haO':=D.b.all a ha
 obtain⟨w,hw⟩:∃w,upF U a=some w:=by
  cases hy:upF U a with
  | none=>exact absurd hy (D.u.al a haO')
  | some y=>exact⟨y,rfl⟩
 have hlt:=D.u.tr.lt a w hw har
 have hne:w≠a:=by rintro rfl;omega
 have hcw:Ch c.b.length (upF U) a w:=.step har hw (.refl _)
 refine⟨w,hw,fun t ht=>?_,fun x=>?_⟩
 ·obtain⟨h1,h2⟩:=D.pre hc ha ht
  refine⟨D.u.al t h2,(D.u.ch t w h2).2 ?_⟩
  exact Ei ((D.u.ch a w haO').1 hcw) h1 hne.symm
 ·constructor
  ·intro h
   refine⟨.step har hw h,?_⟩
   rintro rfl
   rcases h.le D.u.tr with e|h
   ·exact hne e.symm
   ·omega
  ·rintro⟨h1,h2⟩
   cases h1 with
   | refl _=>exact absurd rfl h2
   | step _ hy k=>rw[hw]at hy;cases hy;exact k
theorem ye.dep (hc:eW c) (D:ye c O O' at' U){a w b:Nat}(ha:a∈O) (h2:(edg c a).length=2) (hw:upF U a=some w):(∃t,t∈edg c a/\Ch c.b.length (upF U) t b/\¬Ch c.b.length (upF U) w b)↔DF c O O' a b:=by
 obtain⟨w',hw',-,hx⟩:=D.up hc ha
 rw[hw]at hw';cases hw'
 have haO':=D.b.all a ha
 have hch:∀{t:Nat},t∈edg c a->(Ch c.b.length (upF U) t b↔Dm c.b.length (pB c O O') b t):=fun ht=>D.u.ch _ _ (D.pre hc ha ht).2
 have hcw:¬Ch c.b.length (upF U) w b↔(b=a\/¬Dm c.b.length (pB c O O') b a):=by
  rw[hx,D.u.ch a b haO']
  constructor
  ·intro h
   by_cases e:b=a
   ·exact Or.inl e
   ·exact Or.inr fun k=>h ⟨k,e⟩
  ·rintro (e|h) ⟨k1,k2⟩
   ·exact k2 e
   ·exact h k1
 constructor
 ·rintro⟨t,ht,h3,h4⟩
  exact⟨ha,h2,⟨t,ht,(hch ht).1 h3⟩,hcw.1 h4⟩
 ·rintro⟨-,-,⟨t,ht,h3⟩,h4⟩
  exact⟨t,ht,(hch ht).2 h3,hcw.2 h4⟩
end
end Go.Am
namespace Go.Am
open Go Go.Proofs
noncomputable def oz (c:Code) (O O':List Nat) (k:Nat):List (List Nat):=(List.range c.b.length).map fun b=>Gp k fun a=>DF c O O' a b
theorem gE {c:Code}{O O':List Nat}{k:Nat}:(oz c O O' k).length=c.b.length:=by simp[oz]
theorem sF {c:Code}{O O':List Nat}{k b:Nat}(hb:b<c.b.length):gL (oz c O O' k) b=Gp k fun a=>DF c O O' a b:=by
 unfold gL oz
 rw[List.getElem?_map,List.getElem?_range hb];rfl
theorem yJ {k:Nat}{p:Nat->Prop}:(p k->Gp (k+1) p=Gp k p++[k])/\(¬p k->Gp (k+1) p=Gp k p):=by
 unfold Gp
 rw[List.range_succ,List.filter_append]
 refine⟨fun h=>?_,fun h=>?_⟩
 ·congr 1
  simp[h]
 ·simp[h]
theorem Cz {p b:Nat}:∀{S:List Nat}{Bs:List (List Nat)},S.Nodup->b<Bs.length->gL (S.foldl (gh p) Bs) b=if b∈S then gL Bs b++[p] else gL Bs b
 | [],_,_,_=>by simp
 | s::S,Bs,hn,hb=>by
  rw[List.nodup_cons]at hn
  rw[List.foldl_cons,Cz hn.2 (by rw[vK];exact hb)]
  have e1:gL (gh p Bs s) b=if b=s then gL Bs s++[p] else gL Bs b:=by
   by_cases hs:s<Bs.length
   ·exact ya hs
   ·unfold gh
    rw[List.set_eq_of_length_le (by omega),if_neg (by omega)]
  rw[e1]
  by_cases hbs:b=s
  ·subst hbs
   rw[if_neg hn.1,if_pos rfl,if_pos (by simp)]
  ·rw[if_neg hbs]
   by_cases hbS:b∈S
   ·rw[if_pos hbS,if_pos (by simp[hbS])]
   ·rw[if_neg hbS,if_neg (by simp[hbS,hbs])]
theorem D8 {A B:List (List Nat)}(hl:A.length=B.length) (h:∀b,b<A.length->gL A b=gL B b):A=B:=by
 apply List.ext_getElem hl
 intro i h1 h2
 have:=h i h1
 unfold gL at this
 rwa [List.getElem?_eq_getElem h1,List.getElem?_eq_getElem h2]at this
theorem N3 {c:Code}{O O':List Nat}:oz c O O' 0=List.replicate c.b.length []:=by
 refine D8 (by simp[gE]) fun b hb=>?_
 rw[gE]at hb
 rw[sF hb]
 unfold gL
 rw[List.getElem?_replicate,if_pos hb];rfl
theorem Ay {c:Code}{O O':List Nat}{k:Nat}(h:∀b,¬DF c O O' k b):oz c O O' (k+1)=oz c O O' k:=by
 refine D8 (by simp[gE]) fun b hb=>?_
 rw[gE]at hb
 rw[sF hb,sF hb,(yJ (p:=fun a=>DF c O O' a b)).2 (h b)]
theorem Jf {c:Code}{O O' S:List Nat}{k:Nat}(hS:S.Nodup) (h:∀b,b∈S↔DF c O O' k b):S.foldl (gh k) (oz c O O' k)=oz c O O' (k+1):=by
 refine D8 (by rw[mo,gE,gE]) fun b hb=>?_
 rw[mo,gE]at hb
 rw[Cz hS (by rw[gE];exact hb),sF hb,sF hb]
 by_cases hp:DF c O O' k b
 ·rw[if_pos ((h b).2 hp),(yJ (p:=fun a=>DF c O O' a b)).1 hp]
 ·rw[if_neg (fun k=>hp ((h b).1 k)),(yJ (p:=fun a=>DF c O O' a b)).2 hp]
theorem Kt {l:List Nat}:∃S:List Nat,DT (l.map fun n:Nat=>(n:Int))=S.map (fun n:Nat=>(n:Int))/\S.Pairwise (· < ·)/\∀x,x∈S↔x∈l:=by
 have hm:=fun x=>HS (ks:=l.map fun n:Nat=>(n:Int)) (x:=x)
 have hi:=HU (ks:=l.map fun n:Nat=>(n:Int))
 generalize DT (l.map fun n:Nat=>(n:Int))=Z at hm hi
 have hnn:∀x∈Z,0<=x:=fun x hx=>by
  have:=(hm x).1 hx
  simp only[List.mem_map]at this
  obtain⟨n,-,rfl⟩:=this
  omega
 refine⟨Z.map Int.toNat,?_,?_,fun x=>?_⟩
 ·rw[List.map_map]
  have:Z.map ((fun n:Nat=>(n:Int)) ∘ Int.toNat)=Z.map id:=List.map_congr_left fun x hx=>by
   have:=hnn x hx
   simp only[Function.comp_apply,id];omega
  rw[this,List.map_id]
 ·rw[List.pairwise_map]
  refine hi.imp_of_mem fun ha hb hab=>?_
  have:=hnn _ ha
  have:=hnn _ hb
  omega
 ·rw[List.mem_map]
  constructor
  ·rintro⟨z,hz,rfl⟩
   have:=(hm z).1 hz
   simp only[List.mem_map]at this
   obtain⟨n,hn,rfl⟩:=this
   simpa using hn
  ·intro hx
   exact⟨(x:Int),(hm _).2 (List.mem_map.2 ⟨x,hx,rfl⟩),by simp⟩
end Go.Am
namespace Go.Am
open Go Go.Proofs
theorem Hq {P:Program}{A:(D->Prop)->Prop}{K:D->Prop}:au (.bool true) false A K=K gU:=by
 rw[iL];simp
theorem Kb {P:Program}{A:(D->Prop)->Prop}{K:D->Prop}:au (.bool false) false A K=A K:=by
 rw[iL];simp
section
variable {h:Heap}{L:LSq}{v:D}{Bs:List (List Nat)}{KH:HKq}
theorem jO.sub {L':LSq}(s:L'.Sublist L) (q:jO h L v Bs):jO h L' v Bs:=by
 obtain⟨X,V,-,lift⟩:=q.split
 exact lift h L' (V.sub (List.Sublist.append (.refl X) s))
theorem L0 {m n:Nat}{l:List Nat}(V:Vs h ((m,.arr 1 (bU l))::L)) (hn:n=l.length) (h0:1<=l.length) (hl:l.length<=100000) (hK:∀h',Vs h' ((m,.arr 1 (eH (nc (l.map fun n:Nat=>(n:Int)))))::L)->KH (.tup []) h'):af PP bA [.ms m 0 n] h KH:=by
 have hm:=V.get 0 _ _ rfl
 rw[Pp]at hm
 have:=Ov (KH:=KH) hm (by rw[List.length_map];exact h0) (by rw[List.length_map];omega) (hK _ (V.b6 0 rfl (by simp)))
 rw[List.length_map]at this
 rw[hn]
 exact this
theorem L2 {m n:Nat}{ks:List Int}(V:Vs h ((m,.arr 1 (eH ks))::L)) (hn:n=ks.length) (h0:1<=ks.length) (hl:ks.length<=100000) (hK:∀h',Vs h' ((m,.arr 1 (eH (vz ks)))::L)->KH (.ms m 0 (Lib.compact ks).length) h'):af PP bm [.ms m 0 n] h KH:=by
 rw[hn]
 exact G8 (V.get 0 _ _ rfl) h0 (by omega) xt (hK _ (V.b6 0 rfl (by simp)))
end
section
variable {c:Code}{O O':List Nat}{at' U:List Int}{h:Heap}{L:LSq}{v:D}{K:HKq}
theorem Lm (hc:eW c){a pl pbk pA n2 i2:Nat}{X:LSq}{tb:D}{lv:D}{l:List Nat}(hl:l.length<=802) (hl0:1<=l.length) (hmem:∀x,x∈l↔DF c O O' a x) (h2:L[i2]?=some (n2,.box c.e)) (ha:a<=20)
  (q:QD h ((pl,.box lv)::(pbk,.box tb)::(pA,.box (nD a))::(X++L)) lv (bU l)) (lift:∀h' L',Vs h' (X++L')->jO h' L' v (oz c O O' a)) {a13 a17 a26 a28:D}{f:Nat->D}{J:HJq}(hJ:∀h',jO h' L v (oz c O O' (a+1))->J [] h') :
  aa PP (.ld (.c (.ptr pl 0 0)) 1 false) h fun a80 h81 =>
  af PP bA [a80] h81 fun a82 h83 =>
  aa PP (.ld (.c (.ptr pl 0 0)) 1 false) h83 fun a84 h85 =>
  af PP bm [a84] h85 fun a86 h87 =>
  ba a86 h87 fun a88 =>
  fW h87 a88 (.ptr n2 0 0) v a13 a17 (.ptr pA 0 0) a26 a28 f a86 J:=by
 have hnb:=hc.nb
 rcases q with⟨-,h0,-⟩|⟨m,rfl,V⟩
 ·have:(bU l).length=0:=by rw[h0];rfl
  rw[bn]at this;omega
 rw[V.zB 1 rfl rfl]
 refine L0 V bn hl0 (by omega) fun h83 V83=>?_
 rw[V83.zB 1 rfl rfl]
 have hsl:(nc (l.map fun n:Nat=>(n:Int))).length=l.length:=by rw[wG,List.length_map]
 refine L2 V83 (by rw[bn,hsl]) (by omega) (by omega) fun h87 V87=>?_
 obtain⟨S,hS,hinc,hSm⟩:=Kt (l:=l)
 have hSl:(Lib.compact (nc (l.map fun n:Nat=>(n:Int)))).length=S.length:=by
  have:(DT (l.map fun n:Nat=>(n:Int))).length=S.length:=by rw[hS,List.length_map]
  exact this
 have hSle:S.length<=l.length:=by
  have:=HT (ks:=l.map fun n:Nat=>(n:Int))
  rw[hS,List.length_map,List.length_map]at this;exact this
 rw[bt,V87.get 0 _ _ rfl]
 refine⟨rfl,?_⟩
 rw[hSl]
 have R:=lift h87 ((m,.arr 1 (eH (vz (nc (l.map fun n:Nat=>(n:Int))))))::(pl,.box (.ms m 0 (bU l).length))::(pbk,.box tb)::(pA,.box (nD a))::L) (V87.perm (List.perm_append_comm_assoc [_,_,_,_] X L))
 refine N0 (im:=0) (i2:=i2+4) (iA:=3) R gE rfl (fun i b hb=>?_) (by simpa using h2) rfl (by omega) (fun b=>?_) (by omega) fun h' R'=>?_
 ·have e:vz (nc (l.map fun n:Nat=>(n:Int)))=(S.map fun n:Nat=>(n:Int))++List.replicate ((nc (l.map fun n:Nat=>(n:Int))).length-(Lib.compact (nc (l.map fun n:Nat=>(n:Int)))).length) 0:=by
   rw[<- hS];rfl
  rw[e]
  have hi:=(List.getElem?_eq_some_iff.1 hb).1
  simp only[eH,List.getElem?_map]
  rw[List.getElem?_append_left (by simpa using hi),List.getElem?_map,hb]
  rfl
 ·by_cases hb:b<c.b.length
  ·rw[sF hb]
   exact Nat.le_trans Fm (by omega)
  ·unfold gL
   rw[List.getElem?_eq_none (by rw[gE];omega)]
   simp
 ·rw[Jf (hinc.imp fun h=>by omega) fun b=>by rw[hSm,hmem]]at R'
  refine hJ h' (R'.sub ?_)
  exact .cons _ (.cons _ (.cons _ (.cons _ (.refl _))))
end
end Go.Am
namespace Go.Am
open Go Go.Proofs
theorem HL {N:Nat}{R:Int}{t:Term}(h:zD N R t){x y:Nat}(he:gy t=[x,y]):x≠y:=by
 cases h with
 | branch o a b ho h1 h2=>exact F7 he (by simp) (by simp)
 | _=>simp[gy]at he
section
variable {c:Code}{O O':List Nat}{at' U:List Int}{h:Heap}{L:LSq}{v:D}{K:HKq}
theorem Ln (hc:eW c) (G:ye c O O' at' U){n2 nU nA nO ng pUv i2 iU ig iA iv:Nat}{w0:D}(h2:L[i2]?=some (n2,.box c.e)) (hv:L[iv]?=some (pUv,.box (.ms nU 0 (c.b.length+1)))) (hU:L[iU]?=some (nU,.arr 1 (eH U))) (hg:L[ig]?=some (ng,Fu w0 nO O'.length nA (c.b.length+1))) (hA:L[iA]?=some (nA,.arr 1 (eH at')))
  (R:jO h L v (oz c O O' 0)) {J:HJq}(hJ:∀h',jO h' L v (oz c O O' c.b.length)->J [] h') :
  kh h (.int .i64 (c.b.length:Int)) (.ptr n2 0 0) v (.ptr ng 0 0) (.ptr pUv 0 0) (.sl (c.b.map Block.e)) J K:=by
 have hnb:=hc.nb
 unfold kh
 refine⟨fun m q h'=>∃a:Nat,q=[nD a]/\a<=c.b.length/\m=c.b.length-a/\jO h' L v (oz c O O' a),_,⟨0,rfl,by omega,rfl,R⟩,?_⟩
 rintro m f h32 ⟨a,hq,ha,hm,R1⟩
 simp only[List.cons.injEq,and_true]at hq
 simp only[hq,nD]
 by_cases hlt:a<c.b.length
 ·rw[sC (by omega),ai]
  obtain⟨B,hB⟩:∃B,c.b[a]?=some B:=⟨c.b[a],List.getElem?_eq_getElem hlt⟩
  have hTB:=hc.t B (List.mem_of_getElem? hB)
  refine⟨fun _ h'=>jO h' L v (oz c O O' (a+1)),fun f' h' R'=>?_,?_⟩
  ·rw[fV (by omega) (by omega)]
   simp only[ae,true_and]
   exact⟨_,by omega,a+1,rfl,by omega,rfl,R'⟩
  obtain⟨X,V,-,lift⟩:=R1.split
  rw[ED hB,show B.e=.agg (.sl (B.i.map aG.e)::B.t.cs) from rfl,Gq (s:=14) rfl]
  refine V.alloc fun pA h43 V43=>?_
  refine V43.alloc fun pbk h45 V45=>?_
  refine V45.JZ 1 rfl rfl rfl fun h47 V47=>?_
  simp only[List.set_cons_succ,List.set_cons_zero]at V47
  refine V47.zz 0 rfl rfl rfl (fun x hx=>B.eJ.one x hx) fun h49 V49=>?_
  simp only[List.set_cons_zero]at V49
  rw[V49.fa 0 rfl,Fo (V49.get 0 _ _ rfl) (by show 0+1+13<=14;omega)]
  have eT:((D.sl (B.i.map aG.e)::B.t.cs).drop (0+1)).take 13=B.t.cs:=rfl
  rw[eT]
  refine dP (Ez hTB) (fun d hd=>by simp at hd;subst hd;exact B.t.eJ.pair) ?_
  rintro _ rfl
  rw[<- rD hB]
  let M:LSq:=(pbk,.box (.agg (.sl (B.i.map aG.e)::B.t.cs)))::(pA,.box (.int .i64 (a:Int)))::(X++L)
  have ix:∀{i:Nat}{x:Nat×Slot},L[i]?=some x->M[X.length+i+2]?=some x:=fun hi=>by
   simp only[M,List.getElem?_cons_succ]
   rw[List.getElem?_append_right (by omega),Nat.add_sub_cancel_left];exact hi
  have VM:Vs h49 M:=V49
  have back:∀h',Vs h' M->jO h' L v (oz c O O' a):=fun h' V'=>lift h' L V'.pop.pop
  obtain⟨k,hk,hk0⟩:∃k:Int,at'[a]?=some k/\(a∈O'->0<=k)/\(a∉O'->k<0):=by
   by_cases haO:a∈O'
   ·obtain⟨i,hi⟩:=List.getElem?_of_mem haO
    exact⟨_,G.b.g.aat i a hi,fun _=>by omega,fun h=>absurd haO h⟩
   ·exact⟨_,G.b.g.ano a (by rw[pn];omega) haO,fun h=>absurd h haO,fun _=>by omega⟩
  have hal:at'.length=c.b.length+1:=by rw[G.b.g.rP,pn]
  simp only[VM.rG _ (ix hg),VM.uj _ (j:=2) (ix hg) rfl,VM.y5 1 rfl rfl,VM.FI _ (ix hA) (show(0:Int)<=(a:Int) by omega) (show(a:Int)<((c.b.length+1:Nat):Int) by omega),Int.toNat_natCast,VM.Ej _ (ix hA) (kr hk) rfl]
  by_cases haO:a∈O'
  ·rw[qY (hk0.1 haO)]
   simp only[Kb (P:=PP),Iu,fH,gX,Bool.false_eq_true,if_false,ym]
   have haO2:a∈O:=(G.mem hc hlt).1 haO
   by_cases hlen:(edg c a).length=2
   ·rw[decide_eq_true (by omega)]
    simp only[Bool.not_true]
    rw[ah]
    obtain⟨w,hw,hts,hx⟩:=G.up hc haO2
    refine VM.alloc fun pl h76 V76=>?_
    have hmem:∀x,(∃t,t∈edg c a/\Ch c.b.length (upF U) t x/\¬Ch c.b.length (upF U) w x)↔DF c O O' a x:=fun x=>G.dep hc haO2 hlen hw
    have hne:∀l:List Nat,(∀x,x∈l ↔ ∃t,t∈edg c a/\Ch c.b.length (upF U) t x/\¬Ch c.b.length (upF U) w x)->1<=l.length:=fun l hl=>by
     have he:=rD hB
     match hs:edg c a,hlen with
     | [x,y],_ =>
      rw[hs]at he
      have hxy:=HL hTB he.symm
      have hxm:x∈edg c a:=by rw[hs];simp
      have hym:y∈edg c a:=by rw[hs];simp
      have:∃t,t∈edg c a/\¬Ch c.b.length (upF U) w t:=by
       by_cases h1:Ch c.b.length (upF U) w x
       ·refine⟨y,hym,fun h2=>hxy ?_⟩
        have e1:=h1.EK G.u.tr (hts x hxm).2
        have e2:=h2.EK G.u.tr (hts y hym).2
        rw[e1,e2]
       ·exact⟨x,hxm,h1⟩
      obtain⟨t,ht,hn⟩:=this
      have:t∈l:=(hl t).2 ⟨t,ht,.refl _,hn⟩
      exact List.length_pos_of_mem this
    refine⟨fun _ h'=>∃(lv:D) (l:List Nat),l.length<=802/\(∀x,x∈l ↔ ∃t,t∈edg c a/\Ch c.b.length (upF U) t x/\¬Ch c.b.length (upF U) w x)/\QD h' ((pl,.box lv)::M) lv (bU l),?_,?_⟩
    ·rintro f2 h79 ⟨lv,l,hl1,hl2,q⟩
     exact Lm hc hl1 (hne l hl2) (fun x=>(hl2 x).trans (hmem x)) h2 (by omega) q lift fun h' R'=>R'
    ·refine Je (iv:=X.length+iv+2) (iU:=X.length+iU+2) (iA:=1) (r:=c.b.length) (O:=O') (ix hv) (ix hU) rfl G.u.len (by omega) (oN hw) G.u.tr G.b.g.dg.zero ?_ hts (by omega) (Or.inl ⟨rfl,rfl,V76⟩) fun lv' l h' b1 b2 b3=>⟨lv',l,b1,b2,b3⟩
     have:O'.length<=c.b.length+1:=u4 G.b.g.nd fun x hx=>by have:=G.b.g.lt x hx;rwa [pn]at this
     omega
   ·rw[decide_eq_false (by omega)]
    simp only[Bool.not_false]
    rw[ai]
    simp only[ae,true_and]
    rw[Ay fun b hb=>hlen hb.2.1]
    exact back h49 VM
  ·rw[sC (hk0.2 haO)]
   simp only[Hq (P:=PP),fH,gX,if_true]
   rw[ai]
   simp only[ae,true_and]
   rw[Ay fun b hb=>haO ((G.mem hc hlt).2 hb.1)]
   exact back h49 VM
 ·have:a=c.b.length:=by omega
  subst this
  rw[qY (by omega),ah]
  simp only[ae,true_and]
  exact hJ h32 R1
end
end Go.Am
namespace Go.Am
open Go Go.Proofs
theorem G7 {c:Code}(hc:eW c){h:Heap}{L:LSq}{KH:HKq}(V:Vs h L) (hK:∀v h' O O' at' U,ye c O O' at' U->jO h' L v (oz c O O' c.b.length)->KH v h'):af PP ko [c.e] h KH:=by
 have hnb:=hc.nb
 refine aU pf (av _ _ _) rfl (xa _ _) ?_
 unfold tI
 refine V.box c.eJ.one fun n2 h3 V1=>?_
 simp only[↓V1.fa 0 rfl,Nat.zero_add,↓V1.fv 0 (j:=7) rfl rfl,fy,List.length_map]
 refine V1.Mk (by omega) (by omega) fun nB h10 V10=>?_
 have R10:=jO.RC V10
 obtain⟨X,V11,-,lift⟩:=R10.split
 have ix:((X++(n2,Slot.box c.e)::L))[X.length+0]?=some (n2,.box c.e):=by
  rw[List.getElem?_append_right (by omega),Nat.add_sub_cancel_left];rfl
 rw[show aa PP (.ld (.c (.ptr n2 0 0)) 8 true) h10=fun KH=>KH c.e h10 from funext fun KH=>V11.s9 _ ix rfl]
 refine Ot hc V11 fun ng nO nA O O' at' X' w0 h14 BR V14 wE=>?_
 refine P3 (ig:=1) (iO:=0) (iA:=2) (DM hc BR.lt BR.sub (by have:=BR.len.2;omega) BR.len.1) V14 rfl rfl rfl (wE.mono fun x hx=>by simp[hx]) pn (by omega) BR.g fun nU U h16 V16 UR=>?_
 refine V16.alloc fun pUv h18 V18=>?_
 refine V18.JZ 0 rfl rfl rfl fun h20 V20=>?_
 simp only[List.set_cons_zero]at V20
 have D0:ye c O O' at' U:=⟨BR,UR⟩
 let L5:LSq:=(pUv,.box (.ms nU 0 (c.b.length+1)))::(nU,.arr 1 (eH U))::(ng,Fu w0 nO O'.length nA (c.b.length+1))::(nA,.arr 1 (eH at'))::(n2,.box c.e)::L
 have V21:Vs h20 ([(pUv,Slot.box (.ms nU 0 (c.b.length+1))),(nU,.arr 1 (eH U)),(ng,Fu w0 nO O'.length nA (c.b.length+1)),(nA,.arr 1 (eH at'))]++(X++(n2,.box c.e)::L)):=by
  refine V20.sub ?_
  exact .cons_cons _ (.cons_cons _ (.cons _ (.cons_cons _ (.cons_cons _ (List.sublist_append_right X' _)))))
 have R:jO h20 L5 (.ms nB 0 c.b.length) (oz c O O' 0):=by
  rw[N3]
  exact lift h20 L5 (V21.perm (List.perm_append_comm_assoc _ X _))
 refine⟨fun _ h'=>jO h' L5 (.ms nB 0 c.b.length) (oz c O O' c.b.length),fun f h' R'=>hK _ h' O O' at' U D0 (R'.sub ?_),?_⟩
 ·exact .cons _ (.cons _ (.cons _ (.cons _ (.cons _ (.refl _)))))
 have VL:=R.vs
 rw[VL.fa 4 rfl,VL.fv 4 (j:=7) rfl rfl,fy,List.length_map]
 exact Ln hc D0 (i2:=4) (iv:=0) (iU:=1) (ig:=2) (iA:=3) rfl rfl rfl rfl rfl R fun h' R'=>R'
end Go.Am
namespace Go.Am
open Go Go.Proofs
theorem Lw {h:Heap}{L:LSq}{KH:HKq}{m:Nat}{els:List D}{f:FuncId}{d1 r:D}(V:Vs h ((m,.arr 1 els)::L)) (hv:aV PP f [.sl els,d1] (· = r)) (hd:wg d1) (he:∀x∈els,∀y∈x.cells,y.vone=true) (hfl:r.flat=true) (hK:KH r h):af PP f [.ms m 0 els.length,d1] h KH:=by
 have hn:=V.get 0 _ _ rfl
 have hrow:(h m).row=some (1,els):=by rw[hn];rfl
 have e0:(D.ms m 0 els.length).fz h=.sl els:=by simp[D.fz,D.fzc,hrow]
 have e1:[D.ms m 0 els.length,d1].map (D.fz h)=[.sl els,d1]:=by rw[List.map_cons,e0,List.map_cons,(zZ hd.vd).1];rfl
 refine af.mono ?_ (dO (K:=(· = r)) (by rw[e1];exact hv) (fun d hdm=>?_))
 ·rintro r' h' ⟨hr',k2,k3⟩
  rw[hr']at k2 ⊢
  rw[k2 (Or.inl hfl)]
  exact hK
 ·simp only[List.mem_cons,List.not_mem_nil,or_false]at hdm
  rcases hdm with rfl|rfl
  ·refine⟨by simp,?_,by rw[e0];rfl⟩
   intro x hx
   simp only[D.cells,List.mem_singleton]at hx
   subst hx
   exact⟨1,els,hrow,by simp,fun x hx y hy=>he x (by simpa using hx) y hy⟩
  ·exact⟨hd.one,(zZ hd.vd).2.2,by rw[(zZ hd.vd).1];exact hd.vd⟩
theorem QV.three {h:Heap}{L:LSq}(V:Vs h L){z:D}{i j k:Int}{KH:HKq}(hK:∀m h',Vs h' ((m,.arr 1 (eH [i,j,k]))::L)->KH (.ms m 0 3) h'):aa PP (.bldS true 1 3 z [(0,.c (.int .i64 i)),(1,.c (.int .i64 j)),(2,.c (.int .i64 k))]) h KH:=by
 refine⟨fun p hp=>?_,fun hf p hp=>?_,fun n t=>?_⟩
 ·simp[Arg.get]at hp
  rcases hp with rfl|rfl|rfl
  ·exact⟨by show 0<3;omega,rfl,aS.one⟩
  ·exact⟨by show 1<3;omega,rfl,aS.one⟩
  ·exact⟨by show 2<3;omega,rfl,aS.one⟩
 ·simp[Arg.get]at hp
  rcases hp with rfl|rfl|rfl<;>(intro x hx;simp[D.cells]at hx;subst hx;trivial)
 ·have:KH (.ms n 0 3) (aq h n (.arr 1 (eH [i,j,k]))):=hK _ _ (V.push t.free (by simp))
  simpa[Arg.get,setEls,D.fz,D.fzc,D.nm,D.jB,eH,Heap.freezeAll,List.replicate] using this
def pg (x:aG):Bool:= !(decide (x.op=1)||decide (x.op=2)||decide (x.op=3)||decide (x.op=4)||decide (x.op=6)||(decide (x.op=5)&&(decide (x.sub=3)||decide (x.sub=4)||decide (x.sub=5))))
theorem Jv {x:aG}:aV PP fQ [x.e] (· = .bool (pg x)):=by
 refine dm lJ (av _ _ _) rfl (tf _ _) ?_
 unfold o5
 refine Vs.nil.box x.eJ.one fun n2 h3 V=>?_
 rw[V.fa 0 rfl,V.fv 0 (j:=0) rfl rfl]
 refine⟨fun q h'=>h'=h3/\∃t:Bool,q=[.bool t]/\t=(decide (x.op=1)||decide (x.op=2)||decide (x.op=3)||decide (x.op=4)||decide (x.op=6)),?_,?_⟩
 ·rintro f h' ⟨e,t,hq,ht⟩
  subst e
  simp only[List.cons.injEq,and_true]at hq
  rw[hq]
  cases t with
  | true =>
   rw[ai,eY]
   unfold pg
   rw[<- ht];rfl
  | false =>
   rw[ah,cO]
   by_cases h5:x.op=5
   ·rw[decide_eq_true h5,ai]
    refine QV.three V fun m h13 V13=>?_
    rw[V13.fa 1 rfl,V13.fv 1 (j:=1) rfl rfl]
    refine Lw V13 (C3 (l:=[3,4,5]) (k:=x.sub) (by simp)) aS (fun y hy w hw=>by simp only[eH,List.mem_map]at hy;obtain⟨k,-,rfl⟩:=hy;simp[D.cells]at hw;subst hw;rfl) rfl ?_
    rw[p5,eY]
    unfold pg
    rw[<- ht,decide_eq_true h5]
    simp only[Bool.false_or,Bool.true_and]
    congr 2
    simp only[List.mem_cons,List.not_mem_nil,or_false,Bool.decide_or,Bool.or_assoc]
   ·rw[decide_eq_false h5,ah,eY]
    unfold pg
    rw[<- ht,decide_eq_false h5];rfl
 ·simp only[cO,ae,true_and]
  by_cases h1:x.op=1
  ·rw[decide_eq_true h1,ai];exact⟨true,rfl,by simp[h1]⟩
  rw[decide_eq_false h1,ah]
  by_cases h2:x.op=2
  ·rw[decide_eq_true h2,ai];exact⟨true,rfl,by simp[h2]⟩
  rw[decide_eq_false h2,ah]
  by_cases h3':x.op=3
  ·rw[decide_eq_true h3',ai];exact⟨true,rfl,by simp[h3']⟩
  rw[decide_eq_false h3',ah]
  by_cases h4:x.op=4
  ·rw[decide_eq_true h4,ai];exact⟨true,rfl,by simp[h4]⟩
  rw[decide_eq_false h4,ah]
  exact⟨_,rfl,by simp[h1,h2,h3',h4]⟩
end Go.Am
namespace Go.Am
open Go Go.Proofs
def QE (esz:Nat) (h:Heap) (L:LSq) (v:D) (T:List D):Prop :=
 (v=.nil/\T=[]/\Vs h L)\/∃m,v=.ms m 0 T.length/\Vs h ((m,.arr esz T)::L)
section
variable {esz:Nat}{h:Heap}{L:LSq}{v:D}{T:List D}{KH:HKq}
theorem QE.vs (q:QE esz h L v T):Vs h L:=by
 rcases q with⟨-,-,V⟩|⟨m,-,V⟩
 ·exact V
 ·exact V.pop
theorem QE.b6 (q:QE esz h L v T) (i:Nat){n:Nat}{s s':Slot}(hi:L[i]?=some (n,s)) (hs:s'≠.free):QE esz (aq h n s') (L.set i (n,s')) v T:=by
 rcases q with⟨rfl,rfl,V⟩|⟨m,rfl,V⟩
 ·exact Or.inl ⟨rfl,rfl,V.b6 i hi hs⟩
 ·exact Or.inr ⟨m,rfl,by have:=V.b6 (i+1) (n:=n) (s:=s) (by simpa using hi) hs;simpa using this⟩
theorem QE.more (q:QE esz h L v T){n:Nat}(hn:h n=.free){s:Slot}(hs:s≠.free):QE esz (aq h n s) ((n,s)::L) v T:=by
 rcases q with⟨rfl,rfl,V⟩|⟨m,rfl,V⟩
 ·exact Or.inl ⟨rfl,rfl,V.push hn hs⟩
 ·exact Or.inr ⟨m,rfl,(V.push hn hs).swap⟩
theorem QE.less {x:Nat×Slot}(q:QE esz h (x::L) v T):QE esz h L v T:=by
 rcases q with⟨rfl,rfl,V⟩|⟨m,rfl,V⟩
 ·exact Or.inl ⟨rfl,rfl,V.pop⟩
 ·exact Or.inr ⟨m,rfl,V.swap.pop⟩
theorem QE.push (q:QE esz h L v T){d z z':D}{bytes:Nat}(hd:wg d) (hc:d.cells.length=esz) (hb:(T.length+1)*bytes<=140737488355328) (hl:T.length+1<=9223372036854775807)
  (hK:∀v h',QE esz h' L v (T++[d])->KH v h'):aa PP (.bldS true esz 1 z [(0,.c d)]) h fun x h1=>aa PP (.app (.c v) (.c x) esz bytes z') h1 KH:=by
 have hlen:T.length+1=(T++[d]).length:=by simp
 rcases q with⟨rfl,rfl,V⟩|⟨m,rfl,V⟩
 ·refine wV (els:=[]) (Or.inl ⟨rfl,rfl⟩) hd hc hb hl fun m h' hm hm' hk=>hK _ _ (Or.inr ⟨m,rfl,?_⟩)
  have Vk:=V.yP (h':=h') fun k s ⟨i,hi⟩=>hk k (fun e=>by subst e;exact V.lv i k s hi ((V.get i k s hi).symm.trans hm)) (by simp[D.jB]) (by rw[V.get i k s hi];exact V.lv i k s hi)
  rw[Vs.iff]at Vk ⊢
  refine⟨fun k s hs=>?_,?_⟩
  ·rcases List.mem_cons.1 hs with e|hs
   ·cases e;exact⟨hm',by simp⟩
   ·exact Vk.1 k s hs
  ·rw[List.map_cons,List.nodup_cons]
   refine⟨fun hmm=>?_,Vk.2⟩
   obtain⟨⟨k,s⟩,hks,rfl⟩:=List.mem_map.1 hmm
   obtain⟨i,hi⟩:=List.getElem?_of_mem hks
   exact V.lv i _ _ hi ((V.get i _ _ hi).symm.trans hm)
 ·refine wV (els:=T) (Or.inr ⟨m,rfl,V.get 0 _ _ rfl⟩) hd hc hb hl fun m' h' hm hm' hk=>hK _ _ (Or.inr ⟨m',by rw[hlen],?_⟩)
  have V1:=V.pop
  have Vk:=V1.yP (h':=h') fun k s ⟨i,hi⟩=>hk k (fun e=>by subst e;exact V1.lv i k s hi ((V1.get i k s hi).symm.trans hm)) (fun e=>by
   simp[D.jB]at e
   exact V.ne (i+1) 0 k m s _ (by simpa using hi) rfl (by omega) e) (by rw[V1.get i k s hi];exact V1.lv i k s hi)
  rw[Vs.iff]at Vk ⊢
  refine⟨fun k s hs=>?_,?_⟩
  ·rcases List.mem_cons.1 hs with e|hs
   ·cases e;exact⟨hm',by simp⟩
   ·exact Vk.1 k s hs
  ·rw[List.map_cons,List.nodup_cons]
   refine⟨fun hmm=>?_,Vk.2⟩
   obtain⟨⟨k,s⟩,hks,rfl⟩:=List.mem_map.1 hmm
   obtain⟨i,hi⟩:=List.getElem?_of_mem hks
   exact V1.lv i _ _ hi ((V1.get i _ _ hi).symm.trans hm)
end
section
variable {esz:Nat}{h:Heap}{L:LSq}{v:D}{T:List D}{KH:HKq}
theorem QE.alloc (q:QE esz h L v T){d:D}(hK:∀n h',QE esz h' ((n,.box d)::L) v T->KH (.ptr n 0 0) h'):aa PP (.alloc d) h KH:=by
 rw[fS]
 exact fun n t=>hK n _ (q.more t.free (by simp))
theorem QE.zz {n s:Nat}{cs cs':List D}(q:QE esz h ((n,.box (.agg cs))::L) v T) (hl:cs.length=s) (hl':cs'.length=s) (ho:∀x,x∈cs'->x.one=true) (hK:∀h',QE esz h' ((n,.box (.agg cs'))::L) v T->KH .undef h'):aa PP (.st (.c (.ptr n 0 0)) (.c (.agg cs')) s) h KH:=by
 rcases q with⟨rfl,rfl,V⟩|⟨m,rfl,V⟩
 ·exact V.zz 0 rfl hl hl' ho fun h' V'=>hK h' (Or.inl ⟨rfl,rfl,V'⟩)
 ·exact V.zz 1 rfl hl hl' ho fun h' V'=>hK h' (Or.inr ⟨m,rfl,V'⟩)
theorem Vs.NC (V:Vs h L) (i:Nat){n j s:Nat}{els cs:List D}(hi:L[i]?=some (n,.arr s els)) (hd:els[j]?=some (.agg cs)) (hl:cs.length=s):aa PP (.ld (.c (.ptr n j 0)) s true) h KH=KH (.agg cs) h:=by
 rw[re,V.get i _ _ hi]
 obtain⟨h1,he⟩:=List.getElem?_eq_some_iff.1 hd
 subst hl
 simp[iK,h1,he,D.cells]
end
structure Fa where
 vF:Bool
 n:Int
def Fa.e (f:Fa):D:=.agg [.bool f.vF,.int .i64 f.n]
theorem Fa.eJ (f:Fa):wg f.e:=jc (by simp)
def bB (l:List b8):List Fa:=(l.filter fun o=>decide (o.kind=2)).map fun o=>⟨false,o.n⟩
theorem JH {n:Int}{h:Heap}{KH:HKq}:aa PP (.bld [(.bool false),(.int .i64 0)] [(1,1,(.c (.int .i64 n)))]) h KH=KH (Fa.e ⟨false,n⟩) h:=by
 rw[oW]
 apply propext
 constructor
 ·exact fun hh=>hh.2
 ·refine fun hk=>⟨fun p hp=>?_,hk⟩
  simp[Arg.get]at hp
  subst hp
  exact⟨rfl,by show 1+1<=2;omega,fun d hd=>by simp[D.cells]at hd;subst hd;rfl⟩
theorem Du {l:List b8}{h:Heap}{L:LSq}{KH:HKq}{m:Nat}(V:Vs h ((m,.arr 3 (l.map b8.e))::L)) (hl:l.length<=100) (hK:∀v h',QE 2 h' ((m,.arr 3 (l.map b8.e))::L) v ((bB l).map Fa.e)->KH v h'):af PP bH [.ms m 0 l.length] h KH:=by
 refine aU et (av _ _ _) rfl (jf _ _) ?_
 unfold gj
 refine⟨fun q h'=>∃v,q=[v]/\QE 2 h' ((m,.arr 3 (l.map b8.e))::L) v ((bB l).map Fa.e),?_,?_⟩
 ·rintro f h' ⟨v,hq,q⟩
  simp only[List.cons.injEq,and_true]at hq
  rw[hq]
  exact hK v h' q
 rw[bt,V.get 0 _ _ rfl]
 refine⟨rfl,?_⟩
 unfold eh
 refine⟨fun k q h'=>∃(i:Nat) (v:D),q=[v,nD i]/\i<=l.length/\k=l.length-i/\QE 2 h' ((m,.arr 3 (l.map b8.e))::L) v ((bB (l.take i)).map Fa.e),_,⟨0,.nil,rfl,by omega,rfl,Or.inl ⟨rfl,rfl,V⟩⟩,?_⟩
 rintro k f h1 ⟨i,v,hq,hi,hk,q⟩
 simp only[List.cons.injEq,and_true]at hq
 obtain⟨q1,q2⟩:=hq
 simp only[q1,q2,nD]
 by_cases hlt:i<l.length
 ·rw[sC (by omega),ai]
  obtain⟨o,ho⟩:∃o,l[i]?=some o:=⟨l[i],List.getElem?_eq_getElem hlt⟩
  have htk:l.take (i+1)=l.take i++[o]:=by rw[List.take_add_one,ho];rfl
  refine⟨fun q' h'=>∃v,q'=[v]/\QE 2 h' ((m,.arr 3 (l.map b8.e))::L) v ((bB (l.take (i+1))).map Fa.e),?_,?_⟩
  ·rintro f' h' ⟨v',hq',q'⟩
   simp only[List.cons.injEq,and_true]at hq'
   rw[hq',fV (by omega) (by omega)]
   simp only[ae,true_and]
   exact⟨_,by omega,i+1,v',rfl,by omega,rfl,q'⟩
  have V1:=q.vs
  rw[V1.ia 0 rfl (by omega) (by omega),Int.toNat_natCast,V1.NC 0 rfl (j:=i) (cs:=o.cs) (by simp[ho,b8.e]) rfl]
  refine q.alloc fun n19 h20 q20=>?_
  refine q20.zz rfl rfl (fun x hx=>o.eJ.one x hx) fun h22 q22=>?_
  have V22:=q22.vs
  rw[V22.fa 0 rfl,V22.fv 0 (j:=0) rfl rfl,cO]
  by_cases hk2:o.kind=2
  ·rw[decide_eq_true hk2,ai,V22.fa 0 rfl,V22.fv 0 (j:=1) rfl rfl,JH]
   refine q22.less.push (Fa.eJ _) rfl ?_ ?_ fun v' h' q'=>?_
   ·have:=List.length_filter_le (fun o:b8=>decide (o.kind=2)) (l.take i)
    rw[List.length_take]at this
    simp only[bB,List.length_map];omega
   ·have:=List.length_filter_le (fun o:b8=>decide (o.kind=2)) (l.take i)
    rw[List.length_take]at this
    simp only[bB,List.length_map];omega
   ·simp only[ae,true_and]
    refine⟨v',rfl,?_⟩
    have:(bB (l.take (i+1))).map Fa.e=(bB (l.take i)).map Fa.e++[Fa.e ⟨false,o.n⟩]:=by
     rw[htk];simp[bB,List.filter_append,hk2]
    rw[this]
    exact q'
  ·rw[decide_eq_false hk2,ah]
   simp only[ae,true_and]
   refine⟨v,rfl,?_⟩
   have:(bB (l.take (i+1))).map Fa.e=(bB (l.take i)).map Fa.e:=by
    rw[htk];simp[bB,List.filter_append,hk2]
   rw[this]
   exact q22.less
 ·have:i=l.length:=by omega
  subst this
  rw[qY (by omega),ah]
  simp only[ae,true_and]
  rw[List.take_length]at q
  exact⟨v,rfl,q⟩
end Go.Am
namespace Go.Am
open Go Go.Proofs
def dw (o:b8):Int:=if o.kind=2 then o.n else -1
theorem Jy {o:b8}:aV PP jW [o.e] (· = .int .i64 (dw o)):=by
 refine dm tK (av _ _ _) rfl (zS _ _) ?_
 unfold zp
 refine Vs.nil.box o.eJ.one fun n2 h3 V=>?_
 rw[V.fa 0 rfl,V.fv 0 (j:=0) rfl rfl,ym]
 unfold dw
 by_cases hk:o.kind=2
 ·rw[decide_eq_true hk,Bool.not_true,ah,V.fa 0 rfl,V.fv 0 (j:=1) rfl rfl,mq,if_pos hk]
 ·rw[decide_eq_false hk,Bool.not_false,ai,mq,if_neg hk]
theorem Pl {P:Program}{h:Heap}{KH:HKq}{n:Nat}{x:Term}(a:h n=.box x.e):aa P (.ld (.c (.ptr n 0 2)) 3 true) h KH=KH x.d.e h:=Fo a (by simp[Term.cs])
theorem Mm {P:Program}{h:Heap}{KH:HKq}{n:Nat}{x:aG}(a:h n=.box x.e):aa P (.ld (.c (.ptr n 0 3)) 3 true) h KH=KH x.d.e h:=Fo a (by simp[aG.cs])
theorem Of {x:aG}:aV PP pz [x.e] (· = .int .i64 (dw x.d)):=by
 refine dm tL (av _ _ _) rfl (zT _ _) ?_
 unfold zt
 refine Vs.nil.box x.eJ.one fun n2 h3 V=>?_
 rw[V.fa 0 rfl,Mm (V.get 0 _ _ rfl)]
 refine dP Jy (fun d hd=>by simp at hd;subst hd;exact x.d.eJ.pair) ?_
 rintro _ rfl
 rw[mq]
theorem LC {x:Term}:aV PP nq [x.e] (· = .int .i64 (dw x.d)):=by
 refine dm sr (av _ _ _) rfl (zr _ _) ?_
 unfold xB
 refine Vs.nil.box x.eJ.one fun n2 h3 V=>?_
 rw[V.fa 0 rfl,Pl (V.get 0 _ _ rfl)]
 refine dP Jy (fun d hd=>by simp at hd;subst hd;exact x.d.eJ.pair) ?_
 rintro _ rfl
 rw[mq]
theorem BD {l:List b8}{h:Heap}{L:LSq}{KH:HKq}(V:Vs h L) (hl:l.length<=100) (hK:∀v h',QE 2 h' L v ((bB l).map Fa.e)->KH v h'):af PP bH [.sl (l.map b8.e)] h KH:=by
 refine aU et (av _ _ _) rfl (jf _ _) ?_
 unfold gj
 refine⟨fun q h'=>∃v,q=[v]/\QE 2 h' L v ((bB l).map Fa.e),?_,?_⟩
 ·rintro f h' ⟨v,hq,q⟩
  simp only[List.cons.injEq,and_true]at hq
  rw[hq]
  exact hK v h' q
 rw[fy,List.length_map]
 unfold eh
 refine⟨fun k q h'=>∃(i:Nat) (v:D),q=[v,nD i]/\i<=l.length/\k=l.length-i/\QE 2 h' L v ((bB (l.take i)).map Fa.e),_,⟨0,.nil,rfl,by omega,rfl,Or.inl ⟨rfl,rfl,V⟩⟩,?_⟩
 rintro k f h1 ⟨i,v,hq,hi,hk,q⟩
 simp only[List.cons.injEq,and_true]at hq
 obtain⟨q1,q2⟩:=hq
 simp only[q1,q2,nD]
 by_cases hlt:i<l.length
 ·rw[sC (by omega),ai]
  obtain⟨o,ho⟩:∃o,l[i]?=some o:=⟨l[i],List.getElem?_eq_getElem hlt⟩
  have htk:l.take (i+1)=l.take i++[o]:=by rw[List.take_add_one,ho];rfl
  refine⟨fun q' h'=>∃v,q'=[v]/\QE 2 h' L v ((bB (l.take (i+1))).map Fa.e),?_,?_⟩
  ·rintro f' h' ⟨v',hq',q'⟩
   simp only[List.cons.injEq,and_true]at hq'
   rw[hq',fV (by omega) (by omega)]
   simp only[ae,true_and]
   exact⟨_,by omega,i+1,v',rfl,by omega,rfl,q'⟩
  rw[oQ (esz:=3) (d:=o.e) (by omega) (by rw[Int.toNat_natCast,List.getElem?_map,ho];rfl) rfl,show o.e=.agg o.cs from rfl,Gq (s:=3) rfl]
  refine q.alloc fun n19 h20 q20=>?_
  refine q20.zz rfl rfl (fun x hx=>o.eJ.one x hx) fun h22 q22=>?_
  have V22:=q22.vs
  rw[V22.fa 0 rfl,V22.fv 0 (j:=0) rfl rfl,cO]
  by_cases hk2:o.kind=2
  ·rw[decide_eq_true hk2,ai,V22.fa 0 rfl,V22.fv 0 (j:=1) rfl rfl,JH]
   have hlf:(bB (l.take i)).length<=100:=by
    have:=List.length_filter_le (fun o:b8=>decide (o.kind=2)) (l.take i)
    rw[List.length_take]at this
    simp only[bB,List.length_map];omega
   refine q22.less.push (Fa.eJ _) rfl (by rw[List.length_map];omega) (by rw[List.length_map];omega) fun v' h' q'=>?_
   ·simp only[ae,true_and]
    refine⟨v',rfl,?_⟩
    have:(bB (l.take (i+1))).map Fa.e=(bB (l.take i)).map Fa.e++[Fa.e ⟨false,o.n⟩]:=by
     rw[htk];simp[bB,List.filter_append,hk2]
    rw[this]
    exact q'
  ·rw[decide_eq_false hk2,ah]
   simp only[ae,true_and]
   refine⟨v,rfl,?_⟩
   have:(bB (l.take (i+1))).map Fa.e=(bB (l.take i)).map Fa.e:=by
    rw[htk];simp[bB,List.filter_append,hk2]
   rw[this]
   exact q22.less
 ·have:i=l.length:=by omega
  subst this
  rw[qY (by omega),ah]
  simp only[ae,true_and]
  rw[List.take_length]at q
  exact⟨v,rfl,q⟩
structure Ru where
 of:Fa
 needs:List Fa
 never:Bool
def Ru.e (r:Ru) (v:D):D:=.agg [.bool r.of.vF,.int .i64 r.of.n,v,.bool r.never]
def zC (b:Nat):Fa:=⟨true,b⟩
def wh (n:Int):Fa:=⟨false,n⟩
def wZ (b a:Nat) (t:Term):Ru:=⟨zC b,bB [t.a]++[zC a],false⟩
def nC (b:Nat) (x:aG):Ru:=⟨wh (dw x.d),bB [x.a,x.b,x.c]++[zC b],pg x⟩
def gg (b:Nat) (xs:List aG):List Ru:=(xs.filter fun x=>decide (0<=dw x.d)).map (nC b)
def y4 (t:Term):List Ru:=if 0<=dw t.d then [⟨wh (dw t.d),[],true⟩] else []
def Mj (b:Nat):Ru:=⟨zC b,[],true⟩
def vF (c:Code) (b:Nat):Block:=(c.b[b]?).getD default
theorem pL {c:Code}{b:Nat}{B:Block}(h:c.b[b]?=some B):vF c b=B:=by unfold vF;rw[h];rfl
def gD (c:Code) (b:Nat) (dep:List Nat):List Ru:=dep.map fun a=>wZ b a (vF c a).t
def rM (c:Code) (R:List Bool) (Dp:List (List Nat)) (b:Nat):List Ru :=
 if hasB R b then gD c b (gL Dp b)++gg b (vF c b).i++y4 (vF c b).t else [Mj b]
def gf (c:Code) (R:List Bool) (Dp:List (List Nat)) (n:Nat):List Ru:=(List.range n).flatMap (rM c R Dp)
def tY (c:Code) (R:List Bool) (Dp:List (List Nat)):List Ru:=gf c R Dp c.b.length
theorem xi {c:Code}{R:List Bool}{Dp:List (List Nat)}{n:Nat}:gf c R Dp (n+1)=gf c R Dp n++rM c R Dp n:=by
 unfold gf;rw[List.range_succ,List.flatMap_append];simp
def zV (N:Nat) (R:Int) (f:Fa):Prop:=0<=f.n/\(f.vF=true->f.n<(N:Int))/\(f.vF=false->f.n<R)
structure vY (N:Nat) (R:Int) (r:Ru):Prop where
 of:zV N R r.of
 needs:∀f∈r.needs,zV N R f
 len:r.needs.length<=10
structure mV (c:Code):Prop where
 g:eW c
 i:∀B∈c.b,∀x∈B.i,xU c.regs x
 len:∀B∈c.b,B.i.length<=100
 rg:1<=c.regs/\c.regs<=100
theorem ss.u {c:Code}(h:ss c):mV c:=by
 refine⟨h.g,fun B hB x hx=>?_,fun B hB=>Nat.le_trans (h.b B hB).len (by omega),?_⟩
 ·obtain⟨k,hk⟩:=List.getElem?_of_mem hx
  exact((h.b B hB).xs k x hk).1
 ·have:=h.regs;have:=h.nl;omega
theorem jT {R:Int}{o:b8}(h:lx R o):o.kind=2/\0<=o.n/\o.n<R:=by obtain⟨r,h1,h2,rfl⟩:=h;exact⟨rfl,h1,h2⟩
theorem mw {R:Int}{o:b8}(h:oC R o):o.kind=2->0<=o.n/\o.n<R:=by
 rcases h with h|⟨v,-,-,rfl⟩
 ·exact fun _=>(jT h).2
 ·intro h;cases h
def vZ (R:Int) (o:b8):Prop:=o.kind=2->0<=o.n/\o.n<R
theorem cH {R:Int}:vZ R aw:=fun h=>by cases h
theorem xU.Np {R:Int}{x:aG}(h:xU R x):vZ R x.d/\vZ R x.a/\vZ R x.b/\vZ R x.c:=by
 cases h with
 | mov d a h1 h2=>exact⟨fun _=>(jT h1).2,mw h2,cH,cH⟩
 | un s d a h0 h1 h2=>exact⟨fun _=>(jT h1).2,mw h2,cH,cH⟩
 | bin s d a b h0 h1 h2 h3=>exact⟨fun _=>(jT h1).2,mw h2,mw h3,cH⟩
 | sel d a b c h1 h2 h3 h4=>exact⟨fun _=>(jT h1).2,mw h2,mw h3,mw h4⟩
 | id s d h0 h1=>exact⟨fun _=>(jT h1).2,cH,cH,cH⟩
 | param n d h0 h1=>exact⟨fun _=>(jT h1).2,cH,cH,cH⟩
 | load n d a h0 h1 h2=>exact⟨fun _=>(jT h1).2,fun _=>(jT h2).2,cH,cH⟩
 | store n a b h0 h1 h2=>exact⟨cH,fun _=>(jT h1).2,mw h2,cH⟩
 | atom s n a b hs h0 h1 h2=>exact⟨cH,fun _=>(jT h1).2,mw h2,cH⟩
 | fence s h0=>exact⟨cH,cH,cH,cH⟩
theorem zD.Np {N:Nat}{R:Int}{t:Term}(h:zD N R t):vZ R t.d/\vZ R t.a/\vZ R t.b:=by
 cases h with
 | jump a h=>exact⟨cH,cH,cH⟩
 | branch o a b ho h1 h2=>exact⟨cH,fun _=>(jT ho).2,cH⟩
 | barrier a h=>exact⟨cH,cH,cH⟩
 | collect s d a b t hs hd ha hb h=>exact⟨fun _=>(jT hd).2,mw ha,mw hb⟩
 | exit=>exact⟨cH,cH,cH⟩
theorem Cd {N:Nat}{R:Int}{l:List b8}(h:∀o∈l,vZ R o):∀f,f∈bB l->zV N R f:=by
 intro f hf
 simp only[bB,List.mem_map,List.mem_filter,decide_eq_true_eq]at hf
 obtain⟨o,⟨ho,hk⟩,rfl⟩:=hf
 exact⟨(h o ho hk).1,fun h=>(by cases h),fun _=>(h o ho hk).2⟩
theorem mj {l:List b8}:(bB l).length<=l.length:=by
 unfold bB;rw[List.length_map];exact List.length_filter_le _ _
theorem De {N:Nat}{R:Int}{b:Nat}(h:b<N):zV N R (zC b):=⟨by simp[zC],fun _=>by simp only[zC];omega,fun h=>by cases h⟩
theorem Is {N:Nat}{R:Int}{b:Nat}(h:b<N):vY N R (Mj b):=⟨De h,fun f hf=>by simp[Mj]at hf,by simp[Mj]⟩
theorem FK {N:Nat}{R:Int}{b a:Nat}{t:Term}(hb:b<N) (ha:a<N) (ht:zD N R t):vY N R (wZ b a t):=by
 refine⟨De hb,fun f hf=>?_,?_⟩
 ·rcases List.mem_append.1 hf with hf|hf
  ·exact Cd (fun o ho=>by simp at ho;subst ho;exact ht.Np.2.1) f hf
  ·simp at hf;subst hf;exact De ha
 ·have:(bB [t.a]).length<=1:=mj
  simp[wZ];omega
theorem Cs {N:Nat}{R:Int}{b:Nat}{x:aG}(hb:b<N) (hx:xU R x) (h0:0<=dw x.d):vY N R (nC b x):=by
 refine⟨⟨h0,fun h=>(by cases h),fun _=>?_⟩,fun f hf=>?_,?_⟩
 ·unfold nC wh dw at *
  split at h0
  ·rename_i hk
   simp only[if_pos hk]
   exact(hx.Np.1 hk).2
  ·omega
 ·rcases List.mem_append.1 hf with hf|hf
  ·exact Cd (fun o ho=>by simp at ho;rcases ho with rfl|rfl|rfl;exact hx.Np.2.1;exact hx.Np.2.2.1;exact hx.Np.2.2.2) f hf
  ·simp at hf;subst hf;exact De hb
 ·have:(bB [x.a,x.b,x.c]).length<=3:=mj
  simp[nC];omega
theorem FF {N:Nat}{R:Int}{t:Term}(ht:zD N R t) (h0:0<=dw t.d):vY N R ⟨wh (dw t.d),[],true⟩:=by
 refine⟨⟨h0,fun h=>(by cases h),fun _=>?_⟩,fun f hf=>(by simp at hf),by simp⟩
 unfold wh dw at *
 split at h0
 ·rename_i hk
  simp only[if_pos hk]
  exact(ht.Np.1 hk).2
 ·omega
end Go.Am
namespace Go.Am
open Go Go.Proofs
section
variable {h:Heap}{L:LSq}{KH:HKq}{K:D->Prop}
theorem Vs.Q7 (V:Vs h L){n o:Nat}{s:Slot}(hm:(n,s)∈L):aa PP (.fadd (.c (.ptr n 0 0)) o) h KH=KH (.ptr n 0 o) h:=by
 obtain⟨i,hi⟩:=List.getElem?_of_mem hm;exact V.fa i hi
theorem Vs.ND (V:Vs h L){n j:Nat}{cs:List D}{e:D}(hm:(n,Slot.box (.agg cs))∈L) (he:cs[j]?=some e):aa PP (.ld (.c (.ptr n 0 j)) 1 false) h KH=KH e h:=Gr (V.mem hm) he
theorem Vs.QS (V:Vs h L){n s:Nat}{cs:List D}(hm:(n,Slot.box (.agg cs))∈L) (hl:cs.length=s):aa PP (.ld (.c (.ptr n 0 0)) s true) h KH=KH (.agg cs) h:=by
 obtain⟨i,hi⟩:=List.getElem?_of_mem hm;exact V.s9 i hi hl
theorem Vs.Pn (V:Vs h L){n:Nat}{d:D}(hm:(n,Slot.box d)∈L) (h1:d.one=true):aa PP (.ld (.c (.ptr n 0 0)) 1 false) h KH=KH d h:=by
 obtain⟨i,hi⟩:=List.getElem?_of_mem hm;exact V.zB i hi h1
def BW (L:LSq) (v:D) (T:List Bool):Prop:=v=.sl (bL T)\/∃m,v=.ms m 0 T.length/\(m,.arr 1 (bL T))∈L
def FW (L:LSq) (v:D) (T:List Fa):Prop:=(v=.nil/\T=[])\/v=.sl (T.map Fa.e)\/∃m,v=.ms m 0 T.length/\(m,.arr 2 (T.map Fa.e))∈L
theorem BW.mono {L':LSq}{v:D}{T:List Bool}(hs:∀x∈L,x∈L') (w:BW L v T):BW L' v T:=by
 rcases w with h|⟨m,h1,h2⟩
 ·exact Or.inl h
 ·exact Or.inr ⟨m,h1,hs _ h2⟩
theorem FW.mono {L':LSq}{v:D}{T:List Fa}(hs:∀x∈L,x∈L') (w:FW L v T):FW L' v T:=by
 rcases w with h|h|⟨m,h1,h2⟩
 ·exact Or.inl h
 ·exact Or.inr (Or.inl h)
 ·exact Or.inr (Or.inr ⟨m,h1,hs _ h2⟩)
theorem BW.one {v:D}{T:List Bool}(w:BW L v T):v.one=true:=by rcases w with rfl|⟨m,rfl,-⟩<;>rfl
theorem FW.one {v:D}{T:List Fa}(w:FW L v T):v.one=true:=by rcases w with⟨rfl,-⟩|rfl|⟨m,rfl,-⟩<;>rfl
theorem FW.len (V:Vs h L){v:D}{T:List Fa}(w:FW L v T):ba v h K=K (.int .i64 (T.length:Int)):=by
 rcases w with⟨rfl,rfl⟩|rfl|⟨m,rfl,hm⟩
 ·rw[qM];rfl
 ·rw[fy,List.length_map]
 ·rw[bt,V.mem hm]
  apply propext
  exact⟨fun hh=>hh.2,fun hk=>⟨rfl,hk⟩⟩
theorem FW.get (V:Vs h L){v:D}{T:List Fa}(w:FW L v T){i:Nat}{f:Fa}(hf:T[i]?=some f) (hK:KH f.e h):aa PP (.iadd (.c v) (.c (.int .i64 (i:Int))) 2) h fun a h1=>aa PP (.ld (.c a) 2 true) h1 KH:=by
 have hi:=(List.getElem?_eq_some_iff.1 hf).1
 rcases w with⟨-,rfl⟩|rfl|⟨m,rfl,hm⟩
 ·simp at hf
 ·rw[oQ (esz:=2) (d:=f.e) (by omega) (by rw[Int.toNat_natCast,List.getElem?_map,hf];rfl) rfl,show f.e=.agg [.bool f.vF,.int .i64 f.n] from rfl,Gq (s:=2) rfl]
  exact hK
 ·obtain⟨k,hk⟩:=List.getElem?_of_mem hm
  rw[V.ia k hk (by omega) (by omega),Int.toNat_natCast,V.NC k hk (j:=i) (cs:=[.bool f.vF,.int .i64 f.n]) (by rw[List.getElem?_map,hf];rfl) rfl]
  exact hK
theorem BW.len (V:Vs h L){v:D}{T:List Bool}(w:BW L v T):ba v h K=K (.int .i64 (T.length:Int)):=by
 rcases w with rfl|⟨m,rfl,hm⟩
 ·rw[fy];simp[bL]
 ·rw[bt,V.mem hm]
  apply propext
  exact⟨fun hh=>hh.2,fun hk=>⟨rfl,hk⟩⟩
def Ql (L:LSq) (v:D) (T:List Bool) (i:Nat) (p:D):Prop:=(v=.sl (bL T)/\p=.vp (.bool (hasB T i)) 0)\/∃m,v=.ms m 0 T.length/\(m,.arr 1 (bL T))∈L/\p=.ptr m i 0
theorem BW.at (V:Vs h L){v:D}{T:List Bool}(w:BW L v T){a:Int}(h0:0<=a) (hi:a<T.length) (hK:∀p,Ql L v T a.toNat p->KH p h):aa PP (.iadd (.c v) (.c (.int .i64 a)) 1) h KH:=by
 rcases w with rfl|⟨m,rfl,hm⟩
 ·rw[oQ (esz:=1) (d:=.bool (hasB T a.toNat)) h0 (w7 (gC (by omega))) rfl]
  exact hK _ (Or.inl ⟨rfl,rfl⟩)
 ·obtain⟨k,hk⟩:=List.getElem?_of_mem hm
  rw[V.ia k hk h0 hi]
  exact hK _ (Or.inr ⟨m,rfl,hm,rfl⟩)
theorem Ql.read (V:Vs h L){v p:D}{T:List Bool}{i:Nat}(w:Ql L v T i p) (hi:i<T.length) (hK:KH (.bool (hasB T i)) h):aa PP (.fadd (.c p) 0) h fun a h1=>aa PP (.ld (.c a) 1 false) h1 KH:=by
 rcases w with⟨-,rfl⟩|⟨m,-,hm,rfl⟩
 ·rw[PK,Cm rfl];exact hK
 ·obtain⟨k,hk⟩:=List.getElem?_of_mem hm
  rw[lh,V.mem hm]
  refine⟨rfl,?_⟩
  rw[Nat.zero_add,V.zA k hk (w7 (gC hi)) rfl]
  exact hK
end
def xF (U R:List Bool) (f:Fa):List Bool:=if f.vF then U else R
def lg (U R:List Bool) (f:Fa):Bool:=hasB (xF U R f) f.n.toNat
def ny (U R:List Bool) (r:Ru):Bool:= !lg U R r.of||(!r.never&&r.needs.all (lg U R))
section
variable {h:Heap}{L:LSq}{KH:HKq}{vU vR:D}{U R:List Bool}
theorem Ou (V:Vs h L) (wU:BW L vU U) (wR:BW L vR R){f:Fa}(hf:zV U.length R.length f) (hK:∀p h',Vs h' L->Ql L (if f.vF then vU else vR) (xF U R f) f.n.toNat p->KH p h'):af PP du [.agg [vU,vR],f.e] h KH:=by
 refine aU qk (av _ _ _) rfl (xR _ _ _) ?_
 unfold vO
 refine V.box (fun x hx=>?_) fun n3 h4 V4=>?_
 ·simp at hx;rcases hx with rfl|rfl
  ·exact wU.one
  ·exact wR.one
 refine V4.box f.eJ.one fun n5 h6 V6=>?_
 rw[V6.fa 0 rfl,V6.fv 0 (j:=0) rfl rfl]
 obtain⟨b,n⟩:=f
 cases b
 ·rw[ah,V6.fa 1 rfl,V6.fv 1 (j:=1) rfl rfl,V6.fa 0 rfl,V6.fv 0 (j:=1) rfl rfl]
  refine(wR.mono (L':=_::_::L) (fun x hx=>by simp[hx])).at V6 hf.1 (hf.2.2 rfl) fun p hp=>hK p _ V6.pop.pop ?_
  rcases hp with hp|⟨m,h1,h2,h3⟩
  ·exact Or.inl hp
  ·rcases wR with rfl|⟨m',rfl,hm'⟩
   ·cases h1
   ·cases h1;exact Or.inr ⟨_,rfl,hm',h3⟩
 ·rw[ai,V6.fa 1 rfl,V6.fv 1 (j:=0) rfl rfl,V6.fa 0 rfl,V6.fv 0 (j:=1) rfl rfl]
  refine(wU.mono (L':=_::_::L) (fun x hx=>by simp[hx])).at V6 hf.1 (hf.2.1 rfl) fun p hp=>hK p _ V6.pop.pop ?_
  rcases hp with hp|⟨m,h1,h2,h3⟩
  ·exact Or.inl hp
  ·rcases wU with rfl|⟨m',rfl,hm'⟩
   ·cases h1
   ·cases h1;exact Or.inr ⟨_,rfl,hm',h3⟩
theorem Dx {v cl:D}{T:List Fa}{p:Fa->Bool}(V:Vs h L) (w:FW L v T) (hl:T.length<=1000000)
  (hp:∀y∈T,∀h' (KH:HKq),Vs h' L->(∀h'',Vs h'' L->KH (.bool (p y)) h'')->aa PP (.callv (.c cl) [.c y.e]) h' KH) (hK:∀h',Vs h' L->KH (.bool (T.any p)) h'):af PP aM [v,cl] h KH:=by
 refine aU br (av _ _ _) rfl (cM _ _ _) ?_
 unfold bD
 have key:∀KH:HKq,(∀(i:Int) h',Vs h' L->(0<=i↔T.any p=true)->KH (.int .i64 i) h')->af PP aO [v,cl] h KH:=by
  intro KH hk
  refine aU bF (av _ _ _) rfl (da _ _ _) ?_
  unfold bP
  refine⟨fun _ h'=>Vs h' L/\T.any p=false,?_,?_⟩
  ·rintro f h' ⟨V',hn⟩
   exact hk (-1) h' V' (by simp[hn])
  rw[w.len V]
  unfold bC
  refine⟨fun m q h'=>Vs h' L/\∃i:Nat,i<=T.length/\m=T.length-i/\q=[.int .i64 (i:Int)]/\(T.take i).any p=false,_,⟨V,0,by omega,rfl,rfl,by simp⟩,?_⟩
  rintro m f h1 ⟨V1,i,hi,hm,hq,hn⟩
  simp only[List.cons.injEq,and_true]at hq
  rw[hq]
  by_cases hlt:i<T.length
  ·obtain⟨y,hy⟩:∃y,T[i]?=some y:=⟨T[i],List.getElem?_eq_getElem hlt⟩
   have hyT:=List.mem_of_getElem? hy
   rw[sC (by omega),ai]
   refine w.get V1 hy ?_
   refine hp y hyT _ _ V1 fun h2 V2=>?_
   cases hpy:p y
   ·rw[ah,fV (by omega) (by omega)]
    simp only[ae,true_and]
    refine⟨_,by omega,V2,i+1,by omega,rfl,by simp,?_⟩
    rw[List.take_add_one,hy]
    simp[hn,hpy]
   ·rw[ai]
    exact hk i _ V2 (by simp only[Int.natCast_nonneg,true_iff,List.any_eq_true];exact⟨y,hyT,hpy⟩)
  ·have:i=T.length:=by omega
   subst this
   rw[qY (by omega),ah]
   simp only[ae,true_and]
   rw[List.take_length]at hn
   exact⟨V1,hn⟩
 refine key _ fun i h' V' hi=>?_
 rw[yo]
 have:decide ((0:Int)<=i)=T.any p:=by
  cases ht:T.any p
  ·rw[ht]at hi;simpa using hi
  ·rw[ht]at hi;simpa using hi
 rw[this]
 exact hK h' V'
theorem Jt:cG PP ff=true:=by kernel_rfl
theorem NB {n off len:Nat}{cs:List D}{h:Heap}{KH:HKq}{d:D}(a:h n=.box (.agg cs)) (hl:off+len<=cs.length) (hd:.agg ((cs.drop off).take len)=d):aa PP (.ld (.c (.ptr n 0 off)) len true) h KH=KH d h:=by rw[Fo a hl,hd]
theorem Oo (V:Vs h L) (wU:BW L vU U) (wR:BW L vR R){r:Ru}(hr:vY U.length R.length r){nd:D}(wn:FW L nd r.needs) (hK:∀h',Vs h' L->KH (.bool (ny U R r)) h'):af PP fB [.agg [vU,vR],r.e nd] h KH:=by
 refine aU od (av _ _ _) rfl (vM _ _ _) ?_
 unfold rR
 have hsel:∀f:Fa,zV U.length R.length f->f.n.toNat<(xF U R f).length:=fun f hf=>by
  obtain⟨b,n⟩:=f
  obtain⟨h1,h2,h3⟩:=hf
  cases b
  ·have g1:n<(R.length:Int):=h3 rfl
   have g2:0<=n:=h1
   show n.toNat<R.length;omega
  ·have g1:n<(U.length:Int):=h2 rfl
   have g2:0<=n:=h1
   show n.toNat<U.length;omega
 refine V.box (fun x hx=>?_) fun n3 h4 V4=>?_
 ·simp at hx;rcases hx with rfl|rfl
  ·exact wU.one
  ·exact wR.one
 refine V4.box (fun x hx=>?_) fun n5 h6 V6=>?_
 ·simp[Ru.e]at hx;rcases hx with rfl|rfl|rfl|rfl
  ·rfl
  ·rfl
  ·exact wn.one
  ·rfl
 have sub:∀x∈L,x∈(n5,Slot.box (r.e nd))::(n3,.box (.agg [vU,vR]))::L:=fun x hx=>by simp[hx]
 rw[V6.s9 1 (s:=2) rfl rfl,V6.fa 0 rfl,NB (d:=r.of.e) (V6.get 0 _ _ rfl) (by simp) rfl]
 refine Ou V6 (wU.mono sub) (wR.mono sub) hr.of fun p h14 V14 hp=>?_
 refine hp.read V14 (hsel _ hr.of) ?_
 rw[show hasB (xF U R r.of) r.of.n.toNat=lg U R r.of from rfl]
 have hk:ny U R r=(!lg U R r.of||(!r.never&&r.needs.all (lg U R))):=rfl
 cases ho:lg U R r.of
 ·simp only[↓gS]
  rw[ho]at hk
  have:=hK _ V14.pop.pop
  rw[hk]at this
  exact this
 ·simp only[↓gS]
  rw[ho]at hk
  rw[V14.fa 0 rfl,V14.fv 0 (j:=3) rfl rfl]
  cases hn:r.never
  ·simp only[↓gS]
   rw[hn]at hk
   rw[V14.fa 0 rfl,V14.fv 0 (j:=2) rfl rfl,Cw]
   refine Dx (p:=fun f=> !lg U R f) V14 (wn.mono sub) (by have:=hr.len;omega) (fun y hy h' KH' V' hk'=>?_) fun h44 V44=>?_
   ·refine⟨Jt,?_⟩
    refine aU kR (av _ _ _) rfl (rQ _ _ _) ?_
    unfold nM
    refine V'.box y.eJ.one fun n3' h4' V4'=>?_
    show aa PP (.ld (.c (.ptr n3 0 0)) 2 true) h4' _
    rw[V4'.s9 2 (s:=2) rfl rfl,V4'.s9 0 (s:=2) rfl rfl]
    have sub':∀x∈L,x∈(n3',Slot.box y.e)::(n5,Slot.box (r.e nd))::(n3,.box (.agg [vU,vR]))::L:=fun x hx=>by simp[hx]
    refine Ou V4' (wU.mono sub') (wR.mono sub') (hr.needs y hy) fun p h8 V8 hp'=>?_
    refine hp'.read V8 (hsel _ (hr.needs y hy)) ?_
    rw[p5]
    exact hk' _ V8.pop
   ·have:=hK _ V44.pop.pop
    rw[hk]at this
    have e:r.needs.all (lg U R) = !r.needs.any fun f=> !lg U R f:=by
     rw[List.not_any_eq_all_not];simp
    rw[e]at this
    cases hany:r.needs.any fun f=> !lg U R f<;>(rw[hany]at this;simp only[↓gS];exact this)
  ·simp only[↓gS]
   rw[hn]at hk
   have:=hK _ V14.pop.pop
   rw[hk]at this
   exact this
end
end Go.Am
namespace Go.Am
open Go Go.Proofs
section
variable {esz:Nat}{h:Heap}{L L':LSq}{v:D}{T:List D}{KH:HKq}
theorem QE.perm (p:L.Perm L') (q:QE esz h L v T):QE esz h L' v T:=by
 rcases q with⟨rfl,rfl,V⟩|⟨m,rfl,V⟩
 ·exact Or.inl ⟨rfl,rfl,V.perm p⟩
 ·exact Or.inr ⟨m,rfl,V.perm (p.cons _)⟩
theorem QE.QG (s:L'.Sublist L) (q:QE esz h L v T):QE esz h L' v T:=by
 rcases q with⟨rfl,rfl,V⟩|⟨m,rfl,V⟩
 ·exact Or.inl ⟨rfl,rfl,V.sub s⟩
 ·exact Or.inr ⟨m,rfl,V.sub (s.cons_cons _)⟩
theorem QE.one (q:QE esz h L v T):v.one=true:=by rcases q with⟨rfl,-⟩|⟨m,rfl,-⟩<;>rfl
theorem QE.LS (q:QE esz h L v T){d z':D}{bytes:Nat}(hd:wg d) (hc:d.cells.length=esz) (hb:(T.length+1)*bytes<=140737488355328) (hl:T.length+1<=9223372036854775807)
  (hK:∀v h',QE esz h' L v (T++[d])->KH v h'):aa PP (.app (.c v) (.c (.sl [d])) esz bytes z') h KH:=by
 rcases q with⟨rfl,rfl,V⟩|⟨m,rfl,V⟩
 ·rw[Cy]
  refine⟨fun e he=>by simp at he;subst he;exact hc,fun y hy=>by simp at hy;subst hy;exact hd.one,⟨by simpa using hb,by simp⟩,fun n t=>?_⟩
  exact hK _ _ (Or.inr ⟨n,by simp,V.push t.free (by simp)⟩)
 ·refine V.EH (ys:=[d]) (fun {K} hk=>⟨fun e he=>by simp at he;subst he;exact hc,hk⟩) (fun y hy=>by simp at hy;subst hy;exact hd.one) (by simpa using hb) (by simpa using hl) fun n h' V'=>?_
  exact hK _ _ (Or.inr ⟨n,by simp,V'⟩)
theorem Vs.Ro (V:Vs h L){d z:D}(hd:wg d) (hc:d.cells.length=esz) (hK:∀m h',Vs h' ((m,.arr esz [d])::L)->KH (.ms m 0 1) h'):aa PP (.bldS true esz 1 z [(0,.c d)]) h KH :=
 D7 hd.vd hd.one hc fun n t=>hK n _ (V.push t.free (by simp))
theorem b8.vone (o:b8):∀y∈o.e.cells,y.vone=true:=fun y hy=>by
 simp[b8.e,b8.cs,D.cells]at hy;rcases hy with rfl|rfl|rfl<;>rfl
theorem Fa.vone (f:Fa):∀y∈f.e.cells,y.vone=true:=fun y hy=>by
 simp[Fa.e,D.cells]at hy;rcases hy with rfl|rfl<;>rfl
theorem Lu {K:D->Prop}{a b c:b8}{h:Heap}(hk:K (.sl ([a,b,c].map b8.e))):ab PP (.bldS false 3 3 (.agg [(.int .i64 0),(.int .i64 0),(.int .i32 0)]) [(0,.c a.e),(1,.c b.e),(2,.c c.e)]) h K:=by
 refine⟨fun p hp=>?_,fun p hp=>?_,fun y hy=>by simp[D.cells]at hy;rcases hy with rfl|rfl<;>rfl,?_⟩
 ·simp[Arg.get]at hp
  rcases hp with rfl|rfl|rfl
  ·exact⟨by show 0<3;omega,rfl,a.eJ.one⟩
  ·exact⟨by show 1<3;omega,rfl,b.eJ.one⟩
  ·exact⟨by show 2<3;omega,rfl,c.eJ.one⟩
 ·simp[Arg.get]at hp
  rcases hp with rfl|rfl|rfl
  ·exact a.vone
  ·exact b.vone
  ·exact c.vone
 ·simpa[Arg.get,setEls,List.replicate] using hk
end
def Yl (nk:Nat) (G:Ru->Prop) (S:List Ru->LSq->Prop) (St:LSq->Prop):Prop :=
 ∀(done:List Ru) (ru:Ru) (Lc:LSq) (h:Heap) (N:LSq) (nd:D) (KH:HKq),S done Lc->done.length<=100000->G ru->QE 2 h (Lc++N) nd (ru.needs.map Fa.e) ->
  (∀Lc' h',S (done++[ru]) Lc'->Vs h' (Lc'++N)->KH (.bool true) h')->(∀Lc' h',St Lc'->Vs h' (Lc'++N)->KH (.bool false) h')->aa PP (.callv (.c (.yld nk)) [.c (ru.e nd)]) h KH
section
variable {c:Code}{nk:Nat}{S:List Ru->LSq->Prop}{St:LSq->Prop}{h:Heap}{W M Lc:LSq}{done:List Ru}{KH:HKq}
theorem Rm {P:Program}{B:Block}:aa P (.ld (.c (.vp B.e 6)) 3 true) h KH=KH B.t.a.e h:=by
 rw[tu,iK]
 apply propext
 exact⟨fun hh=>hh.2,fun hk=>⟨by show 6+3<=14;omega,hk⟩⟩
theorem R6 {P:Program}{d:D}{o o':Nat}:aa P (.fadd (.c (.vp d o)) o') h KH=KH (.vp d (o+o')) h:=Bi
theorem MB {n:Int}{KH:HKq}:aa PP (.bld [(.bool false),(.int .i64 0)] [(0,1,(.c (.bool true))),(1,1,(.c (.int .i64 n)))]) h KH=KH (Fa.e ⟨true,n⟩) h:=iY rfl
theorem PZ {f:Fa}{v:D}(hv:v.one=true){KH:HKq}:aa PP (.bld [(.bool false),(.int .i64 0),.nil,(.bool false)] [(0,2,(.c f.e)),(2,1,(.c v))]) h KH=KH (.agg [.bool f.vF,.int .i64 f.n,v,.bool false]) h:=by
 cases v<;>first|exact iY rfl|cases hv
theorem Kz {all:List Ru}(Y:Yl nk (fun r=>vY c.b.length c.regs r/\r∈all) S St) (hc:mV c){n2 n29 b:Nat}{dv:D}{dep:List Nat}(hS:S done Lc) (V:Vs h (W++(Lc++M))) (h2:(n2,.box c.e)∈M) (h29:(n29,.box (zC b).e)∈W) (hb:b<c.b.length) (wd:Dz M dv dep) (hd:∀a∈dep,a<c.b.length) (hdl:dep.length<=1000) (hdn:done.length<=90000) (hall:∀r,r∈gD c b dep->r∈all)
  {a2 a3 a23 a7 a9:D}{f:Nat->D}{J:HJq}(hJ:∀Lc' h',S (done++gD c b dep) Lc'->Vs h' (W++(Lc'++M))->J [] h') (hK:∀Lc' h',St Lc'->Vs h' (Lc'++M)->KH (.tup []) h') :
  cU h (.int .i64 (dep.length:Int)) dv (.ptr n2 0 0) (.ptr n29 0 0) (.yld nk) a2 a3 a23 a7 a9 f J KH:=by
 unfold cU
 refine⟨fun m q h'=>∃(j:Nat) (Lc:LSq),q=[nD j]/\j<=dep.length/\m=dep.length-j/\S (done++gD c b (dep.take j)) Lc/\Vs h' (W++(Lc++M)),_,⟨0,Lc,rfl,by omega,rfl,by simpa[gD] using hS,V⟩,?_⟩
 rintro m f' h1 ⟨j,Lc1,hq,hj,hm,hS1,V1⟩
 simp only[List.cons.injEq,and_true]at hq
 simp only[hq,nD]
 have hM:∀x∈M,x∈W++(Lc1++M):=fun x hx=>by simp[hx]
 have hW:∀x∈W,x∈W++(Lc1++M):=fun x hx=>by simp[hx]
 by_cases hlt:j<dep.length
 ·rw[sC (by omega),ai]
  obtain⟨a,ha⟩:∃a,dep[j]?=some a:=⟨dep[j],List.getElem?_eq_getElem hlt⟩
  have haN:=hd a (List.mem_of_getElem? ha)
  obtain⟨B,hB⟩:∃B,c.b[a]?=some B:=⟨c.b[a],List.getElem?_eq_getElem haN⟩
  have hTB:=hc.g.t B (List.mem_of_getElem? hB)
  have htk:gD c b (dep.take (j+1))=gD c b (dep.take j)++[wZ b a B.t]:=by
   rw[List.take_add_one,ha]
   simp[gD,pL hB]
  rw[Dz.get V1 (wd.mono hM) ha,nD,V1.Q7 (hM _ h2),V1.ND (hM _ h2) (j:=7) rfl,ED hB,PK,R6,Rm]
  refine V1.Ro B.t.a.eJ rfl fun m1 h2' V2=>?_
  refine Du (l:=[B.t.a]) V2 (by simp) fun v h3 q3=>?_
  rw[MB]
  refine q3.push (Fa.eJ _) rfl ?_ ?_ fun v' h4 q4=>?_
  ·have:(bB [B.t.a]).length<=1:=mj
   rw[List.length_map];omega
  ·have:(bB [B.t.a]).length<=1:=mj
   rw[List.length_map];omega
  rw[q4.vs.QS (s:=2) (cs:=[.bool true,.int .i64 (b:Int)]) (by simp only[List.mem_cons];exact Or.inr (hW _ h29)) rfl,show D.agg [.bool true,.int .i64 (b:Int)]=(zC b).e from rfl,PZ q4.one]
  have q5:QE 2 h4 (Lc1++(W++M)) v' ((wZ b a B.t).needs.map Fa.e):=by
   have q5:=(q4.QG (List.sublist_cons_self _ _)).perm (List.perm_append_comm_assoc W Lc1 M)
   have:(wZ b a B.t).needs.map Fa.e=(bB [B.t.a]).map Fa.e++[Fa.e ⟨true,(a:Int)⟩]:=by simp[wZ,zC]
   rw[this];exact q5
  refine Y _ (wZ b a B.t) Lc1 h4 (W++M) v' _ hS1 (by simp[gD];omega) ⟨FK hb haN hTB,hall _ (by rw[<- List.take_append_drop (j+1) dep];unfold gD at htk ⊢;rw[List.map_append,htk];simp)⟩ q5 (fun Lc' h5 hS5 V5=>?_) fun Lc' h5 hS5 V5=>?_
  ·rw[p5,Bool.not_true,ah,fV (by omega) (by omega)]
   simp only[ae,true_and]
   refine⟨_,by omega,j+1,Lc',rfl,by omega,rfl,?_,V5.perm (List.perm_append_comm_assoc Lc' W M)⟩
   rw[htk, <- List.append_assoc];exact hS5
  ·rw[p5,Bool.not_false,ai]
   exact hK Lc' h5 hS5 (V5.sub (List.Sublist.append (.refl _) (List.sublist_append_right W M)))
 ·have:j=dep.length:=by omega
  subst this
  rw[qY (by omega),ah]
  simp only[ae,true_and]
  rw[List.take_length]at hS1
  exact hJ Lc1 h1 hS1 V1
end
section
variable {c:Code}{nk:Nat}{S:List Ru->LSq->Prop}{St:LSq->Prop}{h:Heap}{W M Lc:LSq}{done:List Ru}{KH:HKq}{K:D->Prop}
structure He (h:Heap) (n m:Nat) (x:aG) (f:Fa):Prop where
 x:h n=.box x.e
 f:h m=.box f.e
section
variable {n m:Nat}{x:aG}{f:Fa}
theorem He.ld (I:He h n m x f):ab PP (.ld (.c (.ptr n 0 0)) 15 true) h K=K x.e:=by
 rw[mG,show(15:Nat)=x.cs.length from rfl,s9 I.x];rfl
theorem He.fa (I:He h n m x f){o:Nat}:ab PP (.fadd (.c (.ptr n 0 0)) o) h K=K (.ptr n 0 o):=by
 rw[show ab PP (.fadd (.c (.ptr n 0 0)) o) h K=aa PP (.fadd (.c (.ptr n 0 0)) o) h (fun d _=>K d) from rfl,lh,I.x]
 apply propext
 exact⟨fun hh=>by simpa using hh.2,fun hk=>⟨rfl,by simpa using hk⟩⟩
theorem He.oa (I:He h n m x f):ab PP (.ld (.c (.ptr n 0 6)) 3 true) h K=K x.a.e:=by rw[mG];exact Fo I.x (by simp[aG.cs])
theorem He.ob (I:He h n m x f):ab PP (.ld (.c (.ptr n 0 9)) 3 true) h K=K x.b.e:=by rw[mG];exact Fo I.x (by simp[aG.cs])
theorem He.oc (I:He h n m x f):ab PP (.ld (.c (.ptr n 0 12)) 3 true) h K=K x.c.e:=by rw[mG];exact Fo I.x (by simp[aG.cs])
theorem He.at (I:He h n m x f):ab PP (.ld (.c (.ptr m 0 0)) 2 true) h K=K f.e:=by
 rw[mG,show(2:Nat)=[D.bool f.vF,.int .i64 f.n].length from rfl,s9 I.f];rfl
end
theorem N5 {n:Int}{K:D->Prop}:ab PP (.bld [(.bool false),(.int .i64 0)] [(1,1,(.c (.int .i64 n)))]) h K=K (Fa.e ⟨false,n⟩):=nH rfl
theorem N4 {f:Fa}{v:D}{t:Bool}(hv:v.one=true){K:D->Prop}:ab PP (.bld [(.bool false),(.int .i64 0),.nil,(.bool false)] [(0,2,(.c f.e)),(2,1,(.c v)),(3,1,(.c (.bool t)))]) h K=K (.agg [.bool f.vF,.int .i64 f.n,v,.bool t]):=by
 cases v<;>first|exact nH rfl|cases hv
theorem xo {b k:Nat}{xs:List aG}{x:aG}(hx:xs[k]?=some x):gg b (xs.take (k+1))=gg b (xs.take k)++if 0<=dw x.d then [nC b x] else []:=by
 rw[List.take_add_one,hx]
 unfold gg
 simp only[Option.toList_some,List.filter_append,List.map_append]
 congr 1
 by_cases h:0<=dw x.d<;>simp[h]
theorem ug {b:Nat}{xs:List aG}:(gg b xs).length<=xs.length:=by
 unfold gg;rw[List.length_map];exact List.length_filter_le _ _
theorem H4 {all:List Ru}(Y:Yl nk (fun r=>vY c.b.length c.regs r/\r∈all) S St){n29 b:Nat}{xs:List aG}(hx:∀x∈xs,xU c.regs x) (hxl:xs.length<=100) (hdn:done.length<=99000) (hall:∀r,r∈gg b xs->r∈all) (hS:S done Lc) (V:Vs h (W++(Lc++M))) (h29:(n29,.box (zC b).e)∈W) (hb:b<c.b.length)
  {a1 a2 a3 a23 a7 a9:D}{f:Nat->D}{J:HJq}(hJ:∀Lc' h',S (done++gg b xs) Lc'->Vs h' (W++(Lc'++M))->J [] h') (hK:∀Lc' h',St Lc'->Vs h' (Lc'++M)->KH (.tup []) h') :
  fc h (.int .i64 (xs.length:Int)) (.sl (xs.map aG.e)) (.ptr n29 0 0) (.yld nk) a1 a2 a3 a23 a7 a9 f J KH:=by
 unfold fc
 refine⟨fun m q h'=>∃(j:Nat) (Lc:LSq),q=[nD j]/\j<=xs.length/\m=xs.length-j/\S (done++gg b (xs.take j)) Lc/\Vs h' (W++(Lc++M)),_,⟨0,Lc,rfl,by omega,rfl,by simpa[gg] using hS,V⟩,?_⟩
 rintro m f' h1 ⟨j,Lc1,hq,hj,hm,hS1,V1⟩
 simp only[List.cons.injEq,and_true]at hq
 simp only[hq,nD]
 by_cases hlt:j<xs.length
 ·rw[sC (by omega),ai]
  obtain⟨x,hxj⟩:∃x,xs[j]?=some x:=⟨xs[j],List.getElem?_eq_getElem hlt⟩
  have hIx:=hx x (List.mem_of_getElem? hxj)
  rw[oQ (esz:=15) (d:=x.e) (by omega) (by rw[Int.toNat_natCast,List.getElem?_map,hxj];rfl) rfl,show x.e=.agg x.cs from rfl,Gq (s:=15) rfl]
  refine V1.alloc fun n101 h102 V102=>?_
  refine V102.zz 0 rfl rfl rfl (fun y hy=>x.eJ.one y hy) fun h104 V104=>?_
  simp only[List.set_cons_zero]at V104
  rw[show D.agg x.cs=x.e from rfl]at V104
  have inb:∀{h':Heap}{X:LSq},Vs h' X->(∀y,y∈(n101,Slot.box x.e)::(W++(Lc1++M))->y∈X)->He h' n101 n29 x (zC b):=fun V' hs=>⟨V'.mem (hs _ (by simp)),V'.mem (hs _ (by simp[h29]))⟩
  have I:=inb V104 fun _ h=>h
  simp only[↓I.ld,↓I.fa,↓I.oa,↓I.ob,↓I.oc,↓I.at]
  refine Lu ?_
  refine En (d:=(zC b).e) (Fa.eJ _).one rfl (Fa.vone _) (fun y hy=>by simp[D.cells]at hy;rcases hy with rfl|rfl<;>rfl) ?_
  refine dP Of (fun d hd=>by simp at hd;subst hd;exact x.eJ.pair) ?_
  rintro _ rfl
  refine⟨by simp only[↓I.ld,↓I.fa,↓I.oa,↓I.ob,↓I.oc,↓I.at,ae,and_self],?_⟩
  rw[N5]
  refine BD (l:=[x.a,x.b,x.c]) V104 (by simp) fun v h128 q=>?_
  have I2:=inb q.vs fun _ h=>h
  refine⟨by simp only[↓I2.ld,↓I2.at,ae,and_self],?_⟩
  refine q.LS (Fa.eJ _) rfl ?_ ?_ fun v' h132 q132=>?_
  ·have:(bB [x.a,x.b,x.c]).length<=3:=mj
   rw[List.length_map];omega
  ·have:(bB [x.a,x.b,x.c]).length<=3:=mj
   rw[List.length_map];omega
  have I3:=inb q132.vs fun _ h=>h
  refine⟨by simp only[↓I3.ld,ae,and_self],?_⟩
  refine dP Jv (fun d hd=>by simp at hd;subst hd;exact x.eJ.pair) ?_
  rintro _ rfl
  rw[show(⟨false,dw x.d⟩:Fa)=wh (dw x.d) from rfl,N4 q132.one]
  refine q132.alloc fun n137 h138 q138=>?_
  have I4:=inb q138.vs fun y h=>List.mem_cons_of_mem _ h
  refine⟨by simp only[↓I4.ld,↓I4.fa,↓I4.oa,↓I4.ob,↓I4.oc,↓I4.at,ae,and_self],?_⟩
  refine q138.zz rfl rfl (fun y hy=>?_) fun h149 q149=>?_
  ·simp only[List.mem_cons,List.not_mem_nil,or_false]at hy
   rcases hy with rfl|rfl|rfl|rfl
   ·rfl
   ·rfl
   ·exact q132.one
   ·rfl
  have V149:=q149.vs
  rw[V149.fa 0 rfl,V149.fa 0 rfl,V149.fv 0 (j:=1) rfl rfl,yo]
  by_cases h0:0<=dw x.d
  ·rw[show(wh (dw x.d)).n=dw x.d from rfl,decide_eq_true h0]
   simp only[↓gS]
   rw[V149.s9 0 (s:=4) rfl rfl]
   have q5:QE 2 h149 (Lc1++(((n137,Slot.box (.agg [.bool (wh (dw x.d)).vF,.int .i64 (wh (dw x.d)).n,v',.bool (pg x)]))::(n101,.box x.e)::W)++M)) v' ((nC b x).needs.map Fa.e):=by
    have q5:=q149.perm (List.perm_append_comm_assoc ((n137,Slot.box (.agg [.bool (wh (dw x.d)).vF,.int .i64 (wh (dw x.d)).n,v',.bool (pg x)]))::(n101,.box x.e)::W) Lc1 M)
    have:(nC b x).needs.map Fa.e=(bB [x.a,x.b,x.c]).map Fa.e++[(zC b).e]:=by simp[nC]
    rw[this];exact q5
   refine Y _ (nC b x) Lc1 h149 _ v' _ hS1 (by have:=ug (b:=b) (xs:=xs.take j);rw[List.length_take]at this;rw[List.length_append];omega) ⟨Cs hb hIx h0,hall _ (List.mem_map.2 ⟨x,List.mem_filter.2 ⟨List.mem_of_getElem? hxj,by simpa using h0⟩,rfl⟩)⟩ q5 (fun Lc' h5 hS5 V5=>?_) fun Lc' h5 hS5 V5=>?_
   ·simp only[↓gS]
    rw[fV (by omega) (by omega)]
    simp only[ae,true_and]
    refine⟨_,by omega,j+1,Lc',rfl,by omega,rfl,?_,?_⟩
    ·rw[xo hxj,if_pos h0, <- List.append_assoc];exact hS5
    ·exact(V5.sub (List.Sublist.append (.refl _) (List.Sublist.append (.cons _ (.cons _ (.refl _))) (.refl _)))).perm (List.perm_append_comm_assoc Lc' W M)
   ·simp only[↓gS]
    exact hK Lc' h5 hS5 (V5.sub (List.Sublist.append (.refl _) (List.sublist_append_right _ M)))
  ·rw[show(wh (dw x.d)).n=dw x.d from rfl,decide_eq_false h0]
   simp only[↓gS]
   rw[fV (by omega) (by omega)]
   simp only[ae,true_and]
   refine⟨_,by omega,j+1,Lc1,rfl,by omega,rfl,?_,V149.pop.pop⟩
   rw[xo hxj,if_neg h0,List.append_nil];exact hS1
 ·have:j=xs.length:=by omega
  subst this
  rw[qY (by omega),ah]
  simp only[ae,true_and]
  rw[List.take_length]at hS1
  exact hJ Lc1 h1 hS1 V1
end
section
variable {c:Code}{nk:Nat}{S:List Ru->LSq->Prop}{St:LSq->Prop}{h:Heap}{M Lc:LSq}{KH:HKq}
theorem MA {f:Fa}{KH:HKq}:aa PP (.bld [(.bool false),(.int .i64 0),.nil,(.bool false)] [(0,2,(.c f.e)),(3,1,(.c (.bool true)))]) h KH=KH (.agg [.bool f.vF,.int .i64 f.n,.nil,.bool true]) h:=iY rfl
theorem JE {R:List Bool}{Dp:List (List Nat)}{b:Nat}(hc:mV c) (hD:∀l∈Dp,(∀a∈l,a<c.b.length)/\l.length<=1000):(rM c R Dp b).length<=1200:=by
 unfold rM
 split
 ·have h1:(gD c b (gL Dp b)).length<=1000:=by
   unfold gD gL;rw[List.length_map]
   cases hl:Dp[b]? with
   | none=>simp
   | some l=>exact(hD l (List.mem_of_getElem? hl)).2
  have h2:(gg b (vF c b).i).length<=100:=by
   refine Nat.le_trans ug ?_
   unfold vF
   cases hB:c.b[b]? with
   | none=>exact Nat.zero_le _
   | some B=>exact hc.len B (List.mem_of_getElem? hB)
  have h3:(y4 (vF c b).t).length<=1:=by unfold y4;split<;>simp
  simp only[List.length_append];omega
 ·simp
theorem tX {R:List Bool}{Dp:List (List Nat)}(hc:mV c) (hD:∀l∈Dp,(∀a∈l,a<c.b.length)/\l.length<=1000):∀n,(gf c R Dp n).length<=1200*n
 | 0=>by simp[gf]
 | n+1=>by
  rw[xi,List.length_append]
  have:=tX (R:=R) hc hD n
  have:=JE (R:=R) (b:=n) hc hD
  omega
theorem G5 {R:List Bool}{Dp:List (List Nat)}(Y:Yl nk (fun r=>vY c.b.length c.regs r/\r∈tY c R Dp) S St) (hc:mV c){n2 pr pd:Nat}{dv:D}(hS:S [] Lc) (V:Vs h (Lc++M)) (h2:(n2,.box c.e)∈M) (hr:(pr,.box (.sl (bL R)))∈M) (hR:R.length=c.b.length)
  (hd:(pd,.box dv)∈M) (wd:LR M dv Dp) (hDl:Dp.length=c.b.length) (hD:∀l∈Dp,(∀a∈l,a<c.b.length)/\l.length<=1000)
  (hJ:∀Lc' h',S (tY c R Dp) Lc'->Vs h' (Lc'++M)->KH (.tup []) h') (hK:∀Lc' h',St Lc'->Vs h' (Lc'++M)->KH (.tup []) h') :
  af PP bw [.yld nk,.ptr n2 0 0,.ptr pr 0 0,.ptr pd 0 0] h KH:=by
 have hnb:=hc.g.nb
 refine aU jP (av _ _ _) rfl (qz _ _ _ _ _) ?_
 unfold mJ
 have inM:∀{Lc:LSq} x,x∈M->x∈Lc++M:=fun x hx=>by simp[hx]
 rw[V.Q7 (inM _ h2),V.ND (inM _ h2) (j:=7) rfl,fy,List.length_map]
 unfold jL
 refine⟨fun m q h'=>∃(b:Nat) (Lc:LSq),q=[nD b]/\b<=c.b.length/\m=c.b.length-b/\S (gf c R Dp b) Lc/\Vs h' (Lc++M),_,⟨0,Lc,rfl,by omega,rfl,by simpa[gf] using hS,V⟩,?_⟩
 rintro m f h1 ⟨b,Lc1,hq,hb,hm,hS1,V1⟩
 simp only[List.cons.injEq,and_true]at hq
 simp only[hq,nD]
 by_cases hlt:b<c.b.length
 ·rw[sC (by omega),ai]
  obtain⟨B,hB⟩:∃B,c.b[b]?=some B:=⟨c.b[b],List.getElem?_eq_getElem hlt⟩
  have hBm:=List.mem_of_getElem? hB
  have hTB:=hc.g.t B hBm
  refine⟨fun _ h'=>∃Lc,S (gf c R Dp (b+1)) Lc/\Vs h' (Lc++M),?_,?_⟩
  ·rintro f' h' ⟨Lc',hS',V'⟩
   rw[fV (by omega) (by omega)]
   simp only[ae,true_and]
   exact⟨_,by omega,b+1,Lc',rfl,by omega,rfl,hS',V'⟩
  rw[ED hB,show B.e=.agg (.sl (B.i.map aG.e)::B.t.cs) from rfl,Gq (s:=14) rfl]
  refine V1.alloc fun n23 h24 V24=>?_
  refine V24.zz 0 rfl rfl rfl (fun x hx=>B.eJ.one x hx) fun h26 V26=>?_
  simp only[List.set_cons_zero]at V26
  rw[MB,show Fa.e ⟨true,(b:Int)⟩=.agg [.bool true,.int .i64 (b:Int)] from rfl]
  refine V26.alloc fun n29 h30 V30=>?_
  refine V30.zz 0 rfl rfl rfl (fun x hx=>(zC b).eJ.one x hx) fun h32 V32=>?_
  simp only[List.set_cons_zero]at V32
  let W:LSq:=[(n29,.box (zC b).e),(n23,.box B.e)]
  have VW:Vs h32 (W++(Lc1++M)):=V32
  have inW:∀{Lc:LSq} x,x∈M->x∈W++(Lc++M):=fun x hx=>by simp[hx]
  have hRb:R[b]?=some (hasB R b):=gC (by omega)
  have hln:=tX (R:=R) hc hD b
  have hin:∀r,r∈rM c R Dp b->r∈tY c R Dp:=fun r hr=>List.mem_flatMap.2 ⟨b,List.mem_range.2 hlt,hr⟩
  rw[V32.Pn (inW _ hr) rfl,oQ (esz:=1) (d:=.bool (hasB R b)) (by omega) (by rw[Int.toNat_natCast];exact w7 hRb) rfl,Cm rfl]
  have hsucc:gf c R Dp (b+1)=gf c R Dp b++rM c R Dp b:=xi
  have drop:∀{h':Heap}{Lc':LSq},Vs h' (Lc'++(W++M))->Vs h' (Lc'++M):=fun V5=>V5.sub (List.Sublist.append (.refl _) (List.sublist_append_right W M))
  cases hRv:hasB R b
  ·have hbk:rM c R Dp b=[Mj b]:=by unfold rM;rw[hRv];rfl
   simp only[↓gS]
   rw[V32.s9 0 (s:=2) rfl rfl,show D.agg [.bool true,.int .i64 (b:Int)]=(zC b).e from rfl,MA]
   refine Y _ (Mj b) Lc1 h32 (W++M) .nil _ hS1 (by omega) ⟨Is hlt,hin _ (by rw[hbk];simp)⟩ (Or.inl ⟨rfl,rfl,VW.perm (List.perm_append_comm_assoc W Lc1 M)⟩) (fun Lc' h5 hS5 V5=>?_) fun Lc' h5 hS5 V5=>?_
   ·rw[p5,Bool.not_true,ah]
    simp only[ae,true_and]
    exact⟨Lc',by rw[hsucc,hbk];exact hS5,drop V5⟩
   ·rw[p5,Bool.not_false,ai]
    exact hK Lc' h5 hS5 (drop V5)
  ·have hd1:(gD c b (gL Dp b)).length<=1000:=by
    unfold gD gL;rw[List.length_map]
    cases hl:Dp[b]? with
    | none=>simp
    | some l=>exact(hD l (List.mem_of_getElem? hl)).2
   have hi1:(gg b B.i).length<=100:=Nat.le_trans ug (hc.len B hBm)
   have hbk:rM c R Dp b=gD c b (gL Dp b)++gg b B.i++y4 B.t:=by unfold rM;rw[hRv,if_pos rfl,pL hB]
   simp only[↓gS]
   refine⟨fun _ h'=>∃Lc,S (gf c R Dp b++gD c b (gL Dp b)) Lc/\Vs h' (W++(Lc++M)),?_,?_⟩
   ·rintro f2 h49 ⟨Lc2,hS2,V2⟩
    refine⟨fun _ h'=>∃Lc,S (gf c R Dp b++gD c b (gL Dp b)++gg b B.i) Lc/\Vs h' (W++(Lc++M)),?_,?_⟩
    ·rintro f3 h52 ⟨Lc3,hS3,V3⟩
     rw[V3.fa 1 rfl,NB (d:=B.t.e) (V3.get 1 _ _ rfl) (by show 0+1+13<=14;omega) rfl]
     refine dP LC (fun d hd=>by simp at hd;subst hd;exact B.t.eJ.pair) ?_
     rintro _ rfl
     rw[yo]
     by_cases h0:0<=dw B.t.d
     ·have he:y4 B.t=[⟨wh (dw B.t.d),[],true⟩]:=by unfold y4;rw[if_pos h0]
      rw[decide_eq_true h0]
      simp only[↓gS]
      rw[JH,show(⟨false,dw B.t.d⟩:Fa)=wh (dw B.t.d) from rfl,MA]
      refine Y _ ⟨wh (dw B.t.d),[],true⟩ Lc3 h52 (W++M) .nil _ hS3 (by rw[List.length_append,List.length_append];omega) ⟨FF hTB h0,hin _ (by rw[hbk,he];simp)⟩ (Or.inl ⟨rfl,rfl,V3.perm (List.perm_append_comm_assoc W Lc3 M)⟩) (fun Lc' h5 hS5 V5=>?_) fun Lc' h5 hS5 V5=>?_
      ·simp only[↓gS]
       simp only[ae,true_and]
       exact⟨Lc',by rw[hsucc,hbk,he, <- List.append_assoc, <- List.append_assoc];exact hS5,drop V5⟩
      ·simp only[↓gS]
       exact hK Lc' h5 hS5 (drop V5)
     ·have he:y4 B.t=[]:=by unfold y4;rw[if_neg h0]
      rw[decide_eq_false h0]
      simp only[↓gS]
      simp only[ae,true_and]
      refine⟨Lc3,?_,V3.pop.pop⟩
      rw[hsucc,hbk,he,List.append_nil, <- List.append_assoc];exact hS3
    ·rw[V2.fa 1 rfl,V2.fv 1 (j:=0) rfl rfl,fy,List.length_map]
     exact H4 Y (hc.i B hBm) (hc.len B hBm) (by rw[List.length_append];omega) (fun r hr=>hin r (by rw[hbk];simp[hr])) hS2 V2 (by simp[W]) hlt (fun Lc' h' hS' V'=>⟨Lc',hS',V'⟩) hK
   ·rw[V32.Pn (inW _ hd) wd.one]
    obtain⟨l,hl⟩:∃l,Dp[b]?=some l:=⟨Dp[b]'(by omega),List.getElem?_eq_getElem _⟩
    have hgl:gL Dp b=l:=by unfold gL;rw[hl];rfl
    obtain⟨hl1,hl2⟩:=hD l (List.mem_of_getElem? hl)
    have hlr:∀e,Dz M e l->ba e h32 (fun a183=>cU h32 a183 e (.ptr n2 0 0) (.ptr n29 0 0) (.yld nk) (.ptr pr 0 0) (.ptr pd 0 0) (.ptr n23 0 0) (.sl (c.b.map Block.e)) (.int .i64 (c.b.length:Int)) f (fun _ h'=>∃Lc,S (gf c R Dp b++gD c b (gL Dp b)) Lc/\Vs h' (W++(Lc++M))) KH):=fun e we=>by
     rw[Dz.len VW (we.mono inW)]
     refine Kz Y hc hS1 VW h2 (by simp[W]) hlt we hl1 hl2 (by omega) (fun r hr=>hin r (by rw[hbk,hgl];simp[hr])) (fun Lc' h' hS' V'=>⟨Lc',by rw[hgl];exact hS',V'⟩) hK
    exact LR.Pz VW inW wd hl hlr
 ·have:b=c.b.length:=by omega
  subst this
  rw[qY (by omega),ah]
  exact hJ Lc1 h1 hS1 V1
end
end Go.Am
namespace Go.Am
open Go Go.Proofs
theorem Pv.cg {pre pre':Nat->List Nat}{bad:Nat->Prop}{s x:Nat}(h:∀a b,a∈pre b↔a∈pre' b) (k:Pv pre bad s x):Pv pre' bad s x:=by
 induction k with
 | refl h=>exact .refl h
 | step _ e hb ih=>exact .step ih ((h _ _).1 e) hb
theorem Dm.cg {pre pre':Nat->List Nat}{r d x:Nat}(h:∀a b,a∈pre b↔a∈pre' b):Dm r pre d x↔Dm r pre' d x :=
 not_congr ⟨Pv.cg h,Pv.cg fun a b=>(h a b).symm⟩
structure zv (c d:Code):Prop where
 len:c.b.length=d.b.length
 e:∀b,edg c b=edg d b
 x:∀b,Ef c b=Ef d b
theorem zv.refl (c:Code):zv c c:=⟨rfl,fun _=>rfl,fun _=>rfl⟩
section
variable {c d:Code}{O O' P P':List Nat}{at1 at2 U1 U2:List Int}
theorem zv.dp (s:zv c d) (hc:eW c) (hd:eW d) (D1:ye c O O' at1 U1) (D2:ye d P P' at2 U2) (a b:Nat):DF c O O' a b↔DF d P P' a b:=by
 have eE:nG c=nG d:=by
  unfold nG;rw[s.len]
  exact List.map_congr_left fun b _=>s.e b
 have h1:=D1.b.ord
 have h2:=D2.b.ord
 rw[eE,s.len]at h1
 have eO:O=P:=h1.PO h2
 subst eO
 have eX:Ef c=Ef d:=funext s.x
 have eF:pH c O=pH d O:=by unfold pH;rw[eE,eX]
 have eT:po (nG c) O c.b.length (pH c O)=po (nG d) O d.b.length (pH d O):=by rw[eE,eF,s.len]
 have mem:∀x,x∈O'↔x∈P':=fun x=>by rw[D1.b.g.path,D2.b.g.path,eT,s.len]
 have pre:∀q x,q∈pB c O O' x↔q∈pB d O P' x:=fun q x=>by
  show q∈gL (wo (po (nG c) O c.b.length (pH c O)) O' (c.b.length+1)) x↔q∈gL (wo (po (nG d) O d.b.length (pH d O)) P' (d.b.length+1)) x
  rw[nJ (D1.po hc),nJ (D2.po hd),mem,eT]
 have eD:∀y x,Dm c.b.length (pB c O O') y x↔Dm d.b.length (pB d O P') y x:=fun y x=>by rw[s.len];exact Dm.cg pre
 unfold DF
 rw[s.e a,eD b a]
 refine and_congr_right fun _=>and_congr_right fun _=>and_congr_left fun _=>?_
 exact exists_congr fun t=>and_congr_right fun _=>eD b t
end
def Mx (c:Code) (a b:Nat):Prop:=∃O O' at' U,ye c O O' at' U/\DF c O O' a b
theorem Br {c:Code}(hc:eW c){O O':List Nat}{at' U:List Int}(D:ye c O O' at' U){a b:Nat}:Mx c a b↔DF c O O' a b :=
 ⟨fun ⟨_,_,_,_,D',h⟩=>((zv.refl c).dp hc hc D' D a b).1 h,fun h=>⟨_,_,_,_,D,h⟩⟩
noncomputable def xP (c:Code):List (List Nat):=(List.range c.b.length).map fun b=>Gp c.b.length fun a=>Mx c a b
theorem Lo {c:Code}(hc:eW c){O O':List Nat}{at' U:List Int}(D:ye c O O' at' U):oz c O O' c.b.length=xP c:=by
 unfold oz xP
 refine List.map_congr_left fun b _=>?_
 congr 1
 funext a
 exact propext (Br hc D).symm
theorem Jg {c:Code}:(xP c).length=c.b.length:=by simp[xP]
theorem Bk {c:Code}{b:Nat}(hb:b<c.b.length):gL (xP c) b=Gp c.b.length fun a=>Mx c a b:=by
 unfold gL xP
 rw[List.getElem?_map,List.getElem?_range hb];rfl
theorem FL {c:Code}(hc:eW c):∀l,l∈xP c->(∀a∈l,a<c.b.length)/\l.length<=1000:=fun l hl=>by
 simp only[xP,List.mem_map]at hl
 obtain⟨b,-,rfl⟩:=hl
 have:=hc.nb
 exact⟨fun a ha=>(x7.1 ha).1,Nat.le_trans Fm (by omega)⟩
theorem Jd {c d:Code}(s:zv c d) (hc:eW c) (hd:eW d) (hx:∃O O' at' U,ye c O O' at' U) (hy:∃O O' at' U,ye d O O' at' U){a b:Nat}:Mx c a b↔Mx d a b:=by
 obtain⟨_,_,_,_,D1⟩:=hx
 obtain⟨_,_,_,_,D2⟩:=hy
 rw[Br hc D1,Br hd D2]
 exact s.dp hc hd D1 D2 a b
noncomputable def sU (c:Code):List Bool:=(List.range c.b.length).map fun k=>@decide (Path (edg c) 0 k) (Classical.propDecidable _)
theorem Ce {c:Code}:(sU c).length=c.b.length:=by simp[sU]
theorem jZ {c:Code}{k:Nat}(hk:k<c.b.length):hasB (sU c) k=true↔Path (edg c) 0 k:=by
 unfold hasB sU
 rw[List.getElem?_map,List.getElem?_range hk]
 simp
theorem KC {c:Code}{S:List Bool}(hl:S.length=c.b.length) (h:∀k,hasB S k=true↔Path (edg c) 0 k):S=sU c:=by
 apply List.ext_getElem (by rw[hl,Ce])
 intro i h1 h2
 have e1:=gC h1
 have e2:=gC h2
 rw[List.getElem?_eq_getElem h1]at e1
 rw[List.getElem?_eq_getElem h2]at e2
 have e1:=Option.some.inj e1
 have e2:=Option.some.inj e2
 rw[e1,e2,Bool.eq_iff_iff,h,jZ (by omega)]
noncomputable def oH (c:Code):List Ru:=tY c (sU c) (xP c)
theorem Nj {c:Code}(hc:mV c):∀r,r∈oH c->vY c.b.length c.regs r:=by
 intro r hr
 simp only[oH,tY,gf,List.mem_flatMap,List.mem_range]at hr
 obtain⟨b,hb,hr⟩:=hr
 obtain⟨B,hB⟩:∃B,c.b[b]?=some B:=⟨c.b[b],List.getElem?_eq_getElem hb⟩
 have hBm:=List.mem_of_getElem? hB
 unfold rM at hr
 split at hr
 ·rw[pL hB]at hr
  rcases List.mem_append.1 hr with hr|hr
  ·rcases List.mem_append.1 hr with hr|hr
   ·simp only[gD,List.mem_map]at hr
    obtain⟨a,ha,rfl⟩:=hr
    rw[Bk hb]at ha
    have haN:=(x7.1 ha).1
    refine FK hb haN ?_
    obtain⟨A,hA⟩:∃A,c.b[a]?=some A:=⟨c.b[a],List.getElem?_eq_getElem haN⟩
    rw[pL hA]
    exact hc.g.t A (List.mem_of_getElem? hA)
   ·simp only[gg,List.mem_map,List.mem_filter,decide_eq_true_eq]at hr
    obtain⟨x,⟨hx,h0⟩,rfl⟩:=hr
    exact Cs hb (hc.i B hBm x hx) h0
  ·unfold y4 at hr
   split at hr
   ·rename_i h0
    simp at hr;subst hr
    exact FF (hc.g.t B hBm) h0
   ·cases hr
 ·simp at hr;subst hr;exact Is hb
section
variable {c:Code}{h:Heap}{L:LSq}{KH:HKq}
structure OF (c:Code) (W:LSq) (n2 pr pd:Nat) (dv:D):Prop where
 h2:(n2,.box c.e)∈W
 hr:(pr,.box (.sl (bL (sU c))))∈W
 hd:(pd,.box dv)∈W
 wd:LR W dv (xP c)
theorem GU:cG PP bw=true:=by kernel_rfl
theorem LY (hc:mV c) (V:Vs h L) (hK:∀W n2 pr pd dv h',OF c W n2 pr pd dv->(∃O O' at' U,ye c O O' at' U)->Vs h' (W++L)->KH (.fn bw [] [.ptr n2 0 0,.ptr pr 0 0,.ptr pd 0 0]) h'):af PP eL [c.e] h KH:=by
 refine aU mR (av _ _ _) rfl (uq _ _) ?_
 unfold qd
 refine V.box c.eJ.one fun n2 h3 V3=>?_
 have ld:∀{h':Heap}{K:D->Prop},h' n2=.box c.e->ab PP (.ld (.c (.ptr n2 0 0)) 8 true) h' K=K c.e:=fun hn=>by
  rw[mG,show c.e=.agg [.int .i64 c.group,.int .i64 c.sub,.int .i64 c.regs,.int .i64 c.slots,.int .i64 c.params,.sl (c.arrays.map sO.e),.sl (c.loops.map Loop.e),.sl (c.b.map Block.e)] from rfl]at *
  rw[show(8:Nat)=[D.int .i64 c.group,.int .i64 c.sub,.int .i64 c.regs,.int .i64 c.slots,.int .i64 c.params,.sl (c.arrays.map sO.e),.sl (c.loops.map Loop.e),.sl (c.b.map Block.e)].length from rfl,s9 hn]
 have g3:=V3.get 0 _ _ rfl
 simp only[↓ld g3]
 refine dP (Ly hc.g) (fun d hd=>by simp at hd;subst hd;exact c.eJ.pair) ?_
 rintro _ ⟨R,rfl,hRl,hRi⟩
 have eR:=KC hRl hRi
 subst eR
 refine⟨by simp only[↓ld g3,ae,and_self],?_⟩
 refine G7 hc.g V3 fun v h10 O O' at' U G R10=>?_
 obtain⟨X,V10,wd⟩:=R10.lr
 rw[Lo hc.g G]at wd
 refine V10.alloc fun n11 h12 V12=>?_
 have g12:h12 n2=.box c.e:=V12.mem (by simp)
 refine⟨by simp only[↓ld g12,ae,and_self],?_⟩
 refine V12.alloc fun n15 h16 V16=>?_
 have g16:h16 n2=.box c.e:=V16.mem (by simp)
 refine⟨by simp only[↓ld g16,ae,and_self],?_⟩
 refine V16.JZ 1 rfl rfl rfl fun h20 V20=>?_
 simp only[List.set_cons_succ,List.set_cons_zero]at V20
 refine V20.JZ 0 rfl rfl wd.one fun h22 V22=>?_
 simp only[List.set_cons_zero]at V22
 rw[Cw]
 refine hK ((n15,.box v)::(n11,.box (.sl (bL (sU c))))::(X++[(n2,.box c.e)])) n2 n11 n15 v h22 ⟨by simp,by simp,by simp,wd.mono fun x hx=>by simp[hx]⟩ ⟨O,O',at',U,G⟩ ?_
 have e:(n15,Slot.box v)::(n11,.box (.sl (bL (sU c))))::(X++(n2,.box c.e)::L)=((n15,.box v)::(n11,.box (.sl (bL (sU c))))::(X++[(n2,.box c.e)]))++L:=by simp
 rw[<- e];exact V22
end
end Go.Am
namespace Go.Am
open Go Go.Proofs
def EX (esz:Nat) (v:D) (T:List D) (A:LSq):Prop:=(v=.nil/\T=[]/\A=[])\/∃m,v=.ms m 0 T.length/\A=[(m,.arr esz T)]
section
variable {esz:Nat}{h:Heap}{L A:LSq}{v:D}{T:List D}{KH:HKq}{K:D->Prop}
theorem EX.qe (x:EX esz v T A) (V:Vs h (A++L)):QE esz h L v T:=by
 rcases x with⟨rfl,rfl,rfl⟩|⟨m,rfl,rfl⟩
 ·exact Or.inl ⟨rfl,rfl,V⟩
 ·exact Or.inr ⟨m,rfl,V⟩
theorem QE.ex (q:QE esz h L v T):∃A,EX esz v T A/\Vs h (A++L):=by
 rcases q with⟨rfl,rfl,V⟩|⟨m,rfl,V⟩
 ·exact⟨[],Or.inl ⟨rfl,rfl,rfl⟩,V⟩
 ·exact⟨_,Or.inr ⟨m,rfl,rfl⟩,V⟩
theorem EX.one (x:EX esz v T A):v.one=true:=by rcases x with⟨rfl,-⟩|⟨m,rfl,-⟩<;>rfl
theorem EX.len {L:LSq}(x:EX esz v T A) (hs:∀y∈A,y∈L) (V:Vs h L):ba v h K=K (.int .i64 (T.length:Int)):=by
 rcases x with⟨rfl,rfl,rfl⟩|⟨m,rfl,rfl⟩
 ·rw[qM];rfl
 ·rw[bt,V.mem (hs (m,.arr esz T) (by simp))]
  apply propext
  exact⟨fun hh=>hh.2,fun hk=>⟨rfl,hk⟩⟩
theorem EX.get {L:LSq}(x:EX esz v T A) (hs:∀y∈A,y∈L) (V:Vs h L){i:Nat}{cs:List D}(hd:T[i]?=some (.agg cs)) (hc:cs.length=esz) (hK:KH (.agg cs) h):aa PP (.iadd (.c v) (.c (.int .i64 (i:Int))) esz) h fun a h1=>aa PP (.ld (.c a) esz true) h1 KH:=by
 have hi:=(List.getElem?_eq_some_iff.1 hd).1
 rcases x with⟨rfl,rfl,rfl⟩|⟨m,rfl,rfl⟩
 ·simp at hd
 ·obtain⟨k,hk⟩:=List.getElem?_of_mem (hs _ (List.mem_singleton.2 rfl))
  rw[V.ia k hk (by omega) (by omega),Int.toNat_natCast,V.NC k hk (j:=i) hd hc]
  exact hK
theorem QE.Rr (q:QE esz h L v T){d x z':D}{bytes:Nat}(hx:∀{K:List D->Prop},K [d]->velems esz x h K) (hd:aF d) (hb:(T.length+1)*bytes<=140737488355328) (hl:T.length+1<=9223372036854775807)
  (hK:∀m h',Vs h' ((m,.arr esz (T++[d]))::L)->KH (.ms m 0 (T.length+1)) h'):aa PP (.app (.c v) (.c x) esz bytes z') h KH:=by
 rcases q with⟨rfl,rfl,V⟩|⟨m,rfl,V⟩
 ·rw[Cy]
  refine hx ⟨fun y hy=>by simp at hy;subst hy;exact hd,⟨by simpa using hb,by simp⟩,fun n t=>?_⟩
  exact hK n _ (V.push t.free (by simp))
 ·refine V.EH (ys:=[d]) hx (fun y hy=>by simp at hy;subst hy;exact hd) (by simpa using hb) (by simpa using hl) fun n h' V'=>?_
  exact hK _ _ V'
def RG (r:Ru) (d:D):Prop:=∃nv,d=r.e nv/\FW [] nv r.needs
structure zw (rs:List Ru) (ds:List D):Prop where
 len:ds.length=rs.length
 el:∀(i:Nat) (r:Ru) (d:D),rs[i]?=some r->ds[i]?=some d->RG r d
theorem zw.nil:zw [] []:=⟨rfl,fun i r d h=>by simp at h⟩
theorem zw.snoc {rs:List Ru}{ds:List D}(h:zw rs ds){r:Ru}{d:D}(k:RG r d):zw (rs++[r]) (ds++[d]):=by
 refine⟨by simp[h.len],fun i r' d' h1 h2=>?_⟩
 have hl:=h.len
 by_cases hi:i<rs.length
 ·rw[List.getElem?_append_left hi]at h1
  rw[List.getElem?_append_left (by omega)]at h2
  exact h.el i r' d' h1 h2
 ·have hi1:=(List.getElem?_eq_some_iff.1 h1).1
  simp at hi1
  have:i=rs.length:=by omega
  subst this
  simp at h1
  rw[<- hl]at h2
  simp at h2
  subst h1;subst h2;exact k
theorem Ru.one {r:Ru}{v:D}(h:v.one=true):aF (r.e v):=fun x hx=>by
 simp[Ru.e]at hx;rcases hx with rfl|rfl|rfl|rfl
 ·rfl
 ·rfl
 ·exact h
 ·rfl
theorem LJ {r:Ru}{nd z:D}(q:QE 2 h L nd (r.needs.map Fa.e)) (hK:∀n nv h',FW [] nv r.needs->Vs h' ((n,.arr 4 [r.e nv])::L)->KH (.ms n 0 1) h'):aa PP (.bldS true 4 1 z [(0,.c (r.e nd))]) h KH:=by
 have ho:=q.one
 refine⟨fun p hp=>?_,fun _ p hp=>?_,fun n t=>?_⟩
 ·simp[Arg.get]at hp;subst hp
  exact⟨by show 0<1;omega,rfl,Ru.one ho⟩
 ·simp[Arg.get]at hp;subst hp
  intro x hx
  simp[Ru.e,D.cells]at hx
  rcases hx with rfl|rfl|rfl|rfl
  ·trivial
  ·trivial
  ·rcases q with⟨rfl,-,-⟩|⟨m,rfl,V⟩
   ·trivial
   ·refine⟨2,_,by rw[V.get 0 _ _ rfl];rfl,by simp,fun y hy w hw=>?_⟩
    have hy:=List.mem_of_mem_drop (List.mem_of_mem_take hy)
    obtain⟨f,-,rfl⟩:=List.mem_map.1 hy
    exact f.vone w hw
  ·trivial
 ·rcases q with⟨rfl,h0,V⟩|⟨m,rfl,V⟩
  ·have:KH (.ms n 0 1) (aq h n (.arr 4 [r.e .nil])):=hK n .nil _ (Or.inl ⟨rfl,by simpa using h0⟩) (V.push t.free (by simp))
   simpa[Arg.get,setEls,D.fz,D.fzc,D.nm,D.jB,Ru.e,Heap.freezeAll,List.replicate] using this
  ·have hm:=V.get 0 _ _ rfl
   have hrow:(h m).row=some (2,r.needs.map Fa.e):=by rw[hm];rfl
   have hmf:h m≠.free:=by rw[hm];simp
   have hne:n≠m:=by rintro rfl;exact hmf t.free
   have V1:Vs (h.freezeAll [m]) L:=V.pop.yP fun k s ⟨i,hi⟩=>eM [m] (by
    simp only[List.mem_singleton]
    exact V.ne (i+1) 0 k m s _ (by simpa using hi) rfl (by omega))
   have hnf:(h.freezeAll [m]) n=.free:=mE [m] t.free
   have:KH (.ms n 0 1) (aq (h.freezeAll [m]) n (.arr 4 [r.e (.sl (r.needs.map Fa.e))])):=hK n (.sl (r.needs.map Fa.e)) _ (Or.inr (Or.inl rfl)) (V1.push hnf (by simp))
   have e1:(r.e (.ms m 0 (r.needs.map Fa.e).length)).fz h=r.e (.sl (r.needs.map Fa.e)):=by
    simp only[Ru.e,D.fz,List.map_cons,List.map_nil,D.fzc,hrow,List.drop_zero,List.take_length]
   have e2:(r.e (.ms m 0 (r.needs.map Fa.e).length)).nm=[m]:=by simp[Ru.e,D.nm,D.jB]
   simp only[Arg.get,setEls,List.map_cons,List.map_nil,List.flatMap_cons,List.flatMap_nil,List.append_nil,if_true,e1,e2,List.replicate,List.set_cons_zero]
   exact this
def Sa (nk pa:Nat) (B:bl) (done:List Ru) (Lc:LSq):Prop:=∃v els A,zw done els/\EX 4 v els A/\Lc=(nk,.lp .ready B)::(pa,.box v)::A
theorem DH {nk pa:Nat}{B:bl}{G:Ru->Prop}(hps:B.ps=[7]) (hlt:∀p,p∈[7]->p<B.nt) (he:B.env=LEnv.get [(2,.ptr pa 0 0)]) (hAs:v7 PP aZ B.nt B.assign) (hBs:v7 PP aY B.nt B.body) :
  Yl nk G (Sa nk pa B) (fun _=>False):=by
 rintro done ru Lc h N nd KH ⟨v,els,A,hv,hx,rfl⟩ hdn-q hT -
 have q0:QE 2 h ((nk,.lp .ready B)::(pa,.box v)::(A++N)) nd (ru.needs.map Fa.e):=q
 have V0:=q0.vs
 have hel:=hv.len
 rw[IL]
 refine⟨⟨_,_,V0.get 0 _ _ rfl⟩,?_⟩
 refine pM (e:=[(2,.ptr pa 0 0)]) (V0.get 0 _ _ rfl) hps hAs hBs (by simp) hlt rfl he ?_
 rw[show([Arg.c (ru.e nd)].map fun x=>x.get [])=[ru.e nd] from rfl, <- cN]
 unfold bE
 refine q0.alloc fun n1 h1 q1=>?_
 refine q1.zz (cs':=[.bool ru.of.vF,.int .i64 ru.of.n,nd,.bool ru.never]) rfl rfl (fun x hx=>Ru.one q.one x hx) fun h2 q2=>?_
 refine⟨rfl,q2.vs.get 1 _ _ rfl,?_⟩
 have q3:=q2.b6 1 rfl (s':=.lp .busy B) (by simp)
 simp only[List.set_cons_succ,List.set_cons_zero]at q3
 rw[q3.vs.zB 2 rfl hx.one,q3.vs.s9 0 (s:=4) rfl rfl]
 rw[show D.agg [.bool ru.of.vF,.int .i64 ru.of.n,nd,.bool ru.never]=ru.e nd from rfl]
 refine LJ q3 fun n nv h5 hnv V5=>?_
 have qa:QE 4 h5 ((n,.arr 4 [ru.e nv])::(n1,.box (ru.e nd))::(nk,.lp .busy B)::(pa,.box v)::N) v els:=hx.qe (V5.perm (List.perm_append_comm_assoc [_,_,_,_] A N))
 refine qa.Rr (d:=ru.e nv) (fun {K} hk=>⟨[ru.e nv],by rw[V5.get 0 _ _ rfl];rfl,by simp,by simpa using hk⟩) (Ru.one hnv.one) (by omega) (by omega) fun m h6 V6=>?_
 refine V6.JZ 4 rfl hx.one rfl fun h7 V7=>?_
 simp only[List.set_cons_succ,List.set_cons_zero]at V7
 refine⟨V7.get 3 _ _ rfl,?_⟩
 have V8:=V7.b6 3 rfl (s':=.lp .ready B) (by simp)
 simp only[List.set_cons_succ,List.set_cons_zero]at V8
 refine hT ((nk,.lp .ready B)::(pa,.box (.ms m 0 (els.length+1)))::[(m,.arr 4 (els++[ru.e nv]))]) _ ⟨.ms m 0 (els.length+1),els++[ru.e nv],_,hv.snoc ⟨nv,rfl,hnv⟩,Or.inr ⟨m,by simp,rfl⟩,rfl⟩ ?_
 have V9:Vs _ ((m,Slot.arr 4 (els++[ru.e nv]))::(nk,.lp .ready B)::(pa,.box (.ms m 0 (els.length+1)))::N):=V8.sub (.cons_cons _ (.cons _ (.cons _ (.refl _))))
 exact V9.perm (List.perm_append_comm_assoc [_] [_,_] N)
theorem Dy {c:Code}(hc:mV c){W:LSq}{n2 pr pd:Nat}{dv:D}(rm:OF c W n2 pr pd dv) (V:Vs h W){KH:HKq}(hK:∀v els A h',zw (oH c) els->EX 4 v els A->Vs h' (A++W)->KH v h') :
  af PP aP [.nil,.fn bw [] [.ptr n2 0 0,.ptr pr 0 0,.ptr pd 0 0]] h KH:=by
 refine aU bG (av _ _ _) rfl (db _ _ _) ?_
 unfold bQ
 refine V.box (fun x hx=>by simp at hx;subst hx;rfl) fun pa h4 V4=>?_
 refine⟨fun _ h'=>∃v els A,zw (oH c) els/\EX 4 v els A/\Vs h' ((pa,.box v)::(A++W)),?_,?_⟩
 ·rintro f h7 ⟨v,els,A,hv,hx,V7⟩
  rw[V7.zB 0 rfl hx.one]
  exact hK v els A h7 hv hx V7.pop
 refine⟨rfl,GU,fun nk B ht he hps _ hlt hAs hBs=>?_⟩
 have V5:Vs (aq h4 nk (.lp .ready B)) ([(nk,.lp .ready B),(pa,.box .nil)]++W):=V4.push ht.free (by simp)
 refine G5 (R:=sU c) (Dp:=xP c) (DH hps hlt he hAs hBs) hc ⟨.nil,[],[],.nil,Or.inl ⟨rfl,rfl,rfl⟩,rfl⟩ V5 rm.h2 rm.hr Ce rm.hd rm.wd Jg (FL hc.g) (fun Lc' h' hS V'=>?_) fun Lc' h' hS V'=>hS.elim
 obtain⟨v,els,A,hv,hx,rfl⟩:=hS
 have V6:Vs h' ((nk,.lp .ready B)::(pa,.box v)::(A++W)):=V'
 have hget:h' nk=.lp .ready B:=V6.get 0 _ _ rfl
 show mg _ _ _ _ _
 unfold mg
 rw[hget]
 simp only[ae,true_and]
 exact⟨v,els,A,hv,hx,(V6.b6 0 rfl (s':=.dead) (by simp)).pop⟩
theorem G9 {c:Code}(hc:mV c){W:LSq}{n2 pr pd:Nat}{dv:D}(rm:OF c W n2 pr pd dv) (V:Vs h W){KH:HKq}(hK:∀v els A h',zw (oH c) els->EX 4 v els A->Vs h' (A++W)->KH v h') :
  af PP bJ [.fn bw [] [.ptr n2 0 0,.ptr pr 0 0,.ptr pd 0 0]] h KH:=by
 refine aU dA (av _ _ _) rfl (jk _ _) ?_
 unfold dV
 exact Dy hc rm V hK
end
end Go.Am
namespace Go.Am
open Go Go.Proofs
def ES (rs:List Ru) (s:Fa->Prop):Prop:=∀r∈rs,s r.of->r.never=false/\∀f∈r.needs,s f
def Gf (rs:List Ru) (f:Fa):Prop:=∃s,ES rs s/\s f
theorem Gf.closed (rs:List Ru):ES rs (Gf rs):=by
 rintro r hr ⟨s,hs,h⟩
 obtain⟨h1,h2⟩:=hs r hr h
 exact⟨h1,fun f hf=>⟨s,hs,h2 f hf⟩⟩
def uQ (U R:List Bool) (f:Fa):List Bool×List Bool:=if f.vF then(U.set f.n.toNat false,R) else(U,R.set f.n.toNat false)
def vC (U R:List Bool):Nat:=U.count true+R.count true
theorem count_set {L:List Bool}:∀{i:Nat},hasB L i=true->(L.set i false).count true+1=L.count true:=by
 induction L with
 | nil=>intro i h;simp[hasB]at h
 | cons b L ih =>
  intro i h
  cases i with
  | zero =>
   simp[hasB]at h;subst h
   simp
  | succ i =>
   have h:hasB L i=true:=by simpa[hasB] using h
   have:=ih h
   rw[List.set_cons_succ,List.count_cons,List.count_cons]
   omega
theorem Gx {L:List Bool}{i k:Nat}:hasB (L.set i false) k=(hasB L k && !decide (k=i)):=by
 unfold hasB
 rw[List.getElem?_set]
 by_cases h:i=k
 ·subst h
  rw[if_pos rfl]
  by_cases hl:i<L.length
  ·rw[if_pos hl];simp
  ·rw[if_neg hl,List.getElem?_eq_none (by omega)];simp
 ·rw[if_neg h]
  simp[Ne.symm h]
theorem Jm {U R:List Bool}{f:Fa}(h:lg U R f=true):vC (uQ U R f).1 (uQ U R f).2+1=vC U R:=by
 obtain⟨b,n⟩:=f
 cases b
 ·have:=count_set (L:=R) (i:=n.toNat) h
  simp only[uQ,vC,Bool.false_eq_true,if_false];omega
 ·have:=count_set (L:=U) (i:=n.toNat) h
  simp only[uQ,vC,if_true];omega
theorem Gy {U R:List Bool}{f g:Fa}(hf:0<=f.n) (hg:0<=g.n):lg (uQ U R f).1 (uQ U R f).2 g=true↔lg U R g=true/\g≠f:=by
 obtain⟨b,n⟩:=f
 obtain⟨b',n'⟩:=g
 have hne:(n'.toNat=n.toNat)↔n'=n:=by
  simp only at hf hg;omega
 cases b<;>cases b'<;>simp[lg,xF,uQ,Gx,hne]
structure UV (c:Code) (rs:List Ru) (U R:List Bool):Prop where
 ul:U.length=c.b.length
 rl:R.length=c.regs.toNat
 up:∀f,zV c.b.length c.regs f->Gf rs f->lg U R f=true
theorem wP {U R:List Bool}{r:Ru}:ny U R r=true↔(lg U R r.of=true->r.never=false/\∀f∈r.needs,lg U R f=true):=by
 unfold ny
 cases h1:lg U R r.of<;>cases h2:r.never<;>simp[h1,h2]
theorem UV.drop {c:Code}{rs:List Ru}{U R:List Bool}(u:UV c rs U R){r:Ru}(hr:r∈rs) (ok:vY c.b.length c.regs r) (hk:ny U R r=false):lg U R r.of=true/\UV c rs (uQ U R r.of).1 (uQ U R r.of).2:=by
 have hg:lg U R r.of=true:=by
  cases h:lg U R r.of
  ·exfalso
   have:ny U R r=true:=wP.2 fun h'=>by rw[h]at h';cases h'
   rw[hk]at this;cases this
  ·rfl
 have hng:¬Gf rs r.of:=by
  intro hG
  obtain⟨h1,h2⟩:=Gf.closed rs r hr hG
  have:ny U R r=true:=wP.2 fun _=>⟨h1,fun f hf=>u.up f (ok.needs f hf) (h2 f hf)⟩
  rw[hk]at this;cases this
 refine⟨hg,⟨?_,?_,fun f hf hG=>?_⟩⟩
 ·unfold uQ;split
  ·rw[List.length_set];exact u.ul
  ·exact u.ul
 ·unfold uQ;split
  ·exact u.rl
  ·rw[List.length_set];exact u.rl
 ·rw[Gy ok.of.1 hf.1]
  refine⟨u.up f hf hG,?_⟩
  rintro rfl
  exact hng hG
noncomputable def D6 (c:Code) (rs:List Ru):List Bool:=(List.range c.b.length).map fun b=>@decide (Gf rs (zC b)) (Classical.propDecidable _)
noncomputable def zO (c:Code) (rs:List Ru):List Bool:=(List.range c.regs.toNat).map fun k:Nat=>@decide (Gf rs (wh (k:Int))) (Classical.propDecidable _)
theorem sD {c:Code}{rs:List Ru}:(D6 c rs).length=c.b.length:=by simp[D6]
theorem x9 {c:Code}{rs:List Ru}:(zO c rs).length=c.regs.toNat:=by simp[zO]
theorem Bf {c:Code}{rs:List Ru}{b:Nat}(h:b<c.b.length):hasB (D6 c rs) b=true↔Gf rs (zC b):=by
 unfold hasB D6
 rw[List.getElem?_map,List.getElem?_range h];simp
theorem Bg {c:Code}{rs:List Ru}{k:Nat}(h:k<c.regs.toNat):hasB (zO c rs) k=true↔Gf rs (wh (k:Int)):=by
 unfold hasB zO
 rw[List.getElem?_map,List.getElem?_range h];simp
theorem vr {A B:List Bool}(hl:A.length=B.length) (h:∀k,k<A.length->(hasB A k=true↔hasB B k=true)):A=B:=by
 apply List.ext_getElem hl
 intro i h1 h2
 have e1:=gC h1
 have e2:=gC h2
 rw[List.getElem?_eq_getElem h1]at e1
 rw[List.getElem?_eq_getElem h2]at e2
 rw[Option.some.inj e1,Option.some.inj e2,Bool.eq_iff_iff]
 exact h i h1
theorem UV.fin {c:Code}{rs:List Ru}{U R:List Bool}(u:UV c rs U R) (ok:∀r∈rs,vY c.b.length c.regs r) (hk:∀r∈rs,ny U R r=true):U=D6 c rs/\R=zO c rs:=by
 have hcl:ES rs fun f=>zV c.b.length c.regs f/\lg U R f=true:=by
  rintro r hr ⟨-,hg⟩
  obtain⟨h1,h2⟩:=wP.1 (hk r hr) hg
  exact⟨h1,fun f hf=>⟨(ok r hr).needs f hf,h2 f hf⟩⟩
 have key:∀f,zV c.b.length c.regs f->(lg U R f=true↔Gf rs f):=fun f hf=>⟨fun h=>⟨_,hcl,hf,h⟩,u.up f hf⟩
 constructor
 ·refine vr (by rw[u.ul,sD]) fun k hkl=>?_
  have hkl:k<c.b.length:=by rw[<- u.ul];exact hkl
  rw[Bf hkl, <- key (zC k) (De hkl)];rfl
 ·refine vr (by rw[u.rl,x9]) fun k hkl=>?_
  have hkl:k<c.regs.toNat:=by rw[<- u.rl];exact hkl
  have:=key (wh (k:Int)) ⟨by simp[wh],fun h=>(by cases h),fun _=>by simp only[wh];omega⟩
  rw[Bg hkl, <- this];rfl
theorem UV.start {c:Code}{rs:List Ru}(hr:0<=c.regs):UV c rs (List.replicate c.b.length true) (List.replicate c.regs.toNat true):=by
 refine⟨by simp,by simp,fun f hf _=>?_⟩
 obtain⟨b,n⟩:=f
 obtain⟨h0,h1,h2⟩:=hf
 cases b
 ·have h2:n<c.regs:=h2 rfl
  simp only at h0
  simp[lg,xF,hasB,show n.toNat<c.regs.toNat by omega]
 ·have h1:n<c.b.length:=h1 rfl
  simp only at h0
  simp[lg,xF,hasB,show n.toNat<c.b.length by omega]
def uE (U R:List Bool):D:=.agg [.sl (bL U),.sl (bL R)]
noncomputable def uF (c:Code):D:=uE (D6 c (oH c)) (zO c (oH c))
end Go.Am
namespace Go.Am
open Go Go.Proofs
def kJ (n i:Nat):List Bool:=(List.range n).map fun k=>decide (k<i)
theorem CB {n i:Nat}:(kJ n i).length=n:=by simp[kJ]
theorem IS {n:Nat}:kJ n 0=List.replicate n false:=by
 apply List.ext_getElem (by simp[kJ]);intro i h1 h2;simp[kJ]
theorem IQ {n:Nat}:kJ n n=List.replicate n true:=by
 apply List.ext_getElem (by simp[kJ]);intro i h1 h2;simp[kJ]at h1 ⊢;omega
theorem CA {n i:Nat}:(kJ n i).set i true=kJ n (i+1):=by
 apply List.ext_getElem (by simp[kJ])
 intro k h1 h2
 rw[List.getElem_set]
 simp only[kJ,List.getElem_map,List.getElem_range]
 by_cases h:i=k
 ·subst h;simp
 ·rw[if_neg h]
  exact decide_eq_decide.2 (by omega)
section
variable {c:Code}{h:Heap}{KH:HKq}
theorem Mp {P:Program}{bytes l:Nat}{h:Heap}{KH:HKq}(hb:l*bytes<=140737488355328) (hl:l<=9223372036854775807) (hK:KH .undef h):aa P (.mkc bytes (.c (.int .i64 (l:Int))) (.c (.int .i64 (l:Int)))) h KH :=
 ⟨by omega,by omega,by have:=Int.ofNat_le.2 hb;simpa using this,by omega,hK⟩
def gH (c:Code) (nU nR nu n4 n2 nr:Nat) (U R:List Bool) (X:LSq):LSq :=
 (nu,.box (.agg [.ms nU 0 c.b.length,.ms nR 0 nr]))::(nR,.arr 1 (bL R))::(nU,.arr 1 (bL U))::(n4,.box (.agg [.nil,.nil]))::(n2,.box c.e)::X
section
variable {nU nR nu n4 n2 nr:Nat}{U R:List Bool}{X A:LSq}
theorem IY (hn:c.b.length<=1000) (V:Vs h (gH c nU nR nu n4 n2 nr (kJ c.b.length 0) R X)){J:HJq}(hJ:∀h',Vs h' (gH c nU nR nu n4 n2 nr (kJ c.b.length c.b.length) R X)->J [] h') :
  jg h (.int .i64 (c.b.length:Int)) (.ptr nu 0 0) (.ptr n2 0 0) (.ptr n4 0 0) J:=by
 unfold jg
 refine⟨fun m q h'=>∃i:Nat,q=[nD i]/\i<=c.b.length/\m=c.b.length-i/\Vs h' (gH c nU nR nu n4 n2 nr (kJ c.b.length i) R X),_,⟨0,rfl,by omega,rfl,V⟩,?_⟩
 rintro m f h1 ⟨i,hq,hi,hm,V1⟩
 simp only[List.cons.injEq,and_true]at hq
 simp only[hq,nD]
 by_cases hlt:i<c.b.length
 ·rw[sC (by omega),ai,V1.fa 0 rfl,V1.fv 0 (j:=0) rfl rfl,V1.ia 2 rfl (by omega) (by omega),Int.toNat_natCast]
  refine V1.B6 2 rfl (by rw[bL,List.length_map,CB];exact hlt) rfl (rO _) fun h2 V2=>?_
  rw[rN,CA]at V2
  rw[fV (by omega) (by omega)]
  simp only[ae,true_and]
  exact⟨_,by omega,i+1,rfl,by omega,rfl,V2⟩
 ·have:i=c.b.length:=by omega
  subst this
  rw[qY (by omega),ah]
  simp only[ae,true_and]
  exact hJ h1 V1
theorem IZ (hn:nr<=1000) (V:Vs h (gH c nU nR nu n4 n2 nr U (kJ nr 0) X)){J:HJq}(hJ:∀h',Vs h' (gH c nU nR nu n4 n2 nr U (kJ nr nr) X)->J [] h') :
  jh h (.int .i64 (nr:Int)) (.ptr nu 0 0) (.ptr n2 0 0) (.ptr n4 0 0) J:=by
 unfold jh
 refine⟨fun m q h'=>∃i:Nat,q=[nD i]/\i<=nr/\m=nr-i/\Vs h' (gH c nU nR nu n4 n2 nr U (kJ nr i) X),_,⟨0,rfl,by omega,rfl,V⟩,?_⟩
 rintro m f h1 ⟨i,hq,hi,hm,V1⟩
 simp only[List.cons.injEq,and_true]at hq
 simp only[hq,nD]
 by_cases hlt:i<nr
 ·rw[sC (by omega),ai,V1.fa 0 rfl,V1.fv 0 (j:=1) rfl rfl,V1.ia 1 rfl (by omega) (by omega),Int.toNat_natCast]
  refine V1.B6 1 rfl (by rw[bL,List.length_map,CB];exact hlt) rfl (rO _) fun h2 V2=>?_
  rw[rN,CA]at V2
  rw[fV (by omega) (by omega)]
  simp only[ae,true_and]
  exact⟨_,by omega,i+1,rfl,by omega,rfl,V2⟩
 ·have:i=nr:=by omega
  subst this
  rw[qY (by omega),ah]
  simp only[ae,true_and]
  exact hJ h1 V1
theorem Le {rs:List Ru}{els:List D}{v:D}(hr:c.regs=(nr:Int)) (hrl:rs.length<=1000000) (hv:zw rs els) (hx:EX 4 v els A) (hA:∀y∈A,y∈X) (ok:∀r∈rs,vY c.b.length c.regs r) (u:UV c rs U R) (V:Vs h (gH c nU nR nu n4 n2 nr U R X)){m0:Nat}{I:Nat->HJq}
  (hI:∀ch U' R' h',UV c rs U' R'->(ch=true->vC U' R'<vC U R)->(ch=false->U'=U/\R'=R/\∀r∈rs,ny U R r=true)->Vs h' (gH c nU nR nu n4 n2 nr U' R' X)->∃m,m<m0/\I m [.bool ch] h') :
  jj h (.int .i64 (els.length:Int)) (.ptr n4 0 0) (.ptr nu 0 0) v m0 I:=by
 have hel:=hv.len
 unfold jj
 refine⟨fun m q h'=>∃(i:Nat) (ch:Bool) (U' R':List Bool),q=[.bool ch,nD i]/\i<=els.length/\m=els.length-i/\UV c rs U' R'/\(ch=true->vC U' R'<vC U R)/\(ch=false->U'=U/\R'=R/\∀r,r∈rs.take i->ny U R r=true)/\Vs h' (gH c nU nR nu n4 n2 nr U' R' X),_,
  ⟨0,false,U,R,rfl,by omega,rfl,u,fun h=>(by cases h),fun _=>⟨rfl,rfl,fun r hr=>(by simp at hr)⟩,V⟩,?_⟩
 rintro m f h1 ⟨i,ch,U1,R1,hq,hi,hm,u1,hc1,hc2,V1⟩
 simp only[List.cons.injEq,and_true]at hq
 obtain⟨q1,q2⟩:=hq
 simp only[q1,q2,nD]
 by_cases hlt:i<els.length
 ·rw[sC (by omega),ai]
  obtain⟨r,hri⟩:∃r,rs[i]?=some r:=⟨rs[i]'(by omega),List.getElem?_eq_getElem _⟩
  obtain⟨d,hdi⟩:∃d,els[i]?=some d:=⟨els[i],List.getElem?_eq_getElem hlt⟩
  obtain⟨nv,rfl,wn⟩:=hv.el i r d hri hdi
  have hrm:=List.mem_of_getElem? hri
  have okr:=ok r hrm
  have htk:rs.take (i+1)=rs.take i++[r]:=by rw[List.take_add_one,hri];rfl
  refine⟨fun q h'=>∃(ch:Bool) (U' R':List Bool),q=[.bool ch]/\UV c rs U' R'/\(ch=true->vC U' R'<vC U R)/\(ch=false->U'=U/\R'=R/\∀r,r∈rs.take (i+1)->ny U R r=true)/\Vs h' (gH c nU nR nu n4 n2 nr U' R' X),?_,?_⟩
  ·rintro f' h' ⟨ch',U2,R2,hq',u2,g1,g2,V2⟩
   simp only[List.cons.injEq,and_true]at hq'
   rw[hq',fV (by omega) (by omega)]
   simp only[ae,true_and]
   exact⟨_,by omega,i+1,ch',U2,R2,rfl,by omega,rfl,u2,g1,g2,V2⟩
  refine hx.get (fun y hy=>by have:=hA y hy;simp[gH,this]) V1 hdi rfl ?_
  refine V1.alloc fun n72 h73 V73=>?_
  refine V73.zz 0 rfl rfl rfl (fun x hx=>Ru.one wn.one x hx) fun h75 V75=>?_
  simp only[List.set_cons_zero]at V75
  have V75:Vs h75 ((n72,.box (r.e nv))::gH c nU nR nu n4 n2 nr U1 R1 X):=V75
  have hUl:U1.length=c.b.length:=u1.ul
  have hRl:R1.length=nr:=by rw[u1.rl,hr];rfl
  have wU:∀{L:LSq},(∀x,x∈gH c nU nR nu n4 n2 nr U1 R1 X->x∈L)->BW L (.ms nU 0 c.b.length) U1:=fun hs=>Or.inr ⟨nU,by rw[hUl],hs _ (by simp[gH])⟩
  have wR:∀{L:LSq},(∀x,x∈gH c nU nR nu n4 n2 nr U1 R1 X->x∈L)->BW L (.ms nR 0 nr) R1:=fun hs=>Or.inr ⟨nR,by rw[hRl],hs _ (by simp[gH])⟩
  have sub1:∀x,x∈gH c nU nR nu n4 n2 nr U1 R1 X->x∈(n72,Slot.box (r.e nv))::gH c nU nR nu n4 n2 nr U1 R1 X:=fun x hx=>List.mem_cons_of_mem _ hx
  have okr':vY U1.length R1.length r:=by rw[hUl,hRl, <- hr];exact okr
  rw[V75.s9 1 (s:=2) rfl rfl,V75.s9 0 (s:=4) rfl rfl]
  refine Oo V75 (wU sub1) (wR sub1) okr' (wn.mono fun x hx=>by simp at hx) fun h81 V81=>?_
  rw[p5]
  cases hk:ny U1 R1 r
  ·rw[Bool.not_false,ai,V81.s9 1 (s:=2) rfl rfl,V81.fa 0 rfl,NB (d:=r.of.e) (V81.get 0 _ _ rfl) (by simp) rfl]
   obtain⟨hg,u2⟩:=u1.drop hrm okr hk
   have hcnt:=Jm hg
   refine Ou V81 (wU sub1) (wR sub1) okr'.of fun p h90 V90 hp=>?_
   have hfin:∀h',Vs h' (gH c nU nR nu n4 n2 nr (uQ U1 R1 r.of).1 (uQ U1 R1 r.of).2 X)->∃(ch:Bool) (U' R':List Bool),[D.bool true]=[.bool ch]/\UV c rs U' R'/\(ch=true->vC U' R'<vC U R)/\(ch=false->U'=U/\R'=R/\∀r,r∈rs.take (i+1)->ny U R r=true)/\Vs h' (gH c nU nR nu n4 n2 nr U' R' X):=fun h' V'=>by
    refine⟨true,_,_,rfl,u2,fun _=>?_,fun h=>(by cases h),V'⟩
    cases ch with
    | true=>have:=hc1 rfl;omega
    | false=>obtain⟨rfl,rfl,-⟩:=hc2 rfl;omega
   have hb:∀f:Fa,zV U1.length R1.length f->f.n.toNat<(xF U1 R1 f).length:=fun f hf=>by
    obtain⟨b,n⟩:=f
    obtain⟨h1,h2,h3⟩:=hf
    cases b
    ·have g1:n<(R1.length:Int):=h3 rfl
     have g2:0<=n:=h1
     show n.toNat<R1.length;omega
    ·have g1:n<(U1.length:Int):=h2 rfl
     have g2:0<=n:=h1
     show n.toNat<U1.length;omega
   have hbl:=hb _ okr'.of
   have eset:∀b,b=r.of.vF->(uQ U1 R1 r.of)=if b then(U1.set r.of.n.toNat false,R1) else(U1,R1.set r.of.n.toNat false):=fun b hb=>by subst hb;rfl
   cases hblk:r.of.vF
   ·have e1:xF U1 R1 r.of=R1:=by unfold xF;rw[hblk];rfl
    rw[e1]at hp hbl
    rw[hblk]at hp
    rcases hp with⟨hp,-⟩|⟨m',hp,-,rfl⟩
    ·cases hp
    ·cases hp
     rw[lh,V90.get 2 _ _ rfl]
     refine⟨rfl,?_⟩
     rw[Nat.zero_add]
     refine V90.B6 2 rfl (by simpa[bL] using hbl) rfl (rO _) fun h94 V94=>?_
     rw[rN]at V94
     simp only[ae,true_and]
     refine hfin h94 ?_
     rw[eset false hblk.symm]
     exact V94.pop
   ·have e1:xF U1 R1 r.of=U1:=by unfold xF;rw[hblk];rfl
    rw[e1]at hp hbl
    rw[hblk]at hp
    rcases hp with⟨hp,-⟩|⟨m',hp,-,rfl⟩
    ·cases hp
    ·simp only[if_true,D.ms.injEq]at hp
     obtain⟨rfl,-,-⟩:=hp
     rw[lh,V90.get 3 _ _ rfl]
     refine⟨rfl,?_⟩
     rw[Nat.zero_add]
     refine V90.B6 3 rfl (by simpa[bL] using hbl) rfl (rO _) fun h94 V94=>?_
     rw[rN]at V94
     simp only[ae,true_and]
     refine hfin h94 ?_
     rw[eset true hblk.symm]
     exact V94.pop
  ·rw[Bool.not_true,ah]
   simp only[ae,true_and]
   refine⟨ch,U1,R1,rfl,u1,hc1,fun h0=>?_,V81.pop⟩
   obtain⟨rfl,rfl,h3⟩:=hc2 h0
   refine⟨rfl,rfl,fun r' hr'=>?_⟩
   rw[htk]at hr'
   rcases List.mem_append.1 hr' with hr'|hr'
   ·exact h3 r' hr'
   ·simp at hr';subst hr';exact hk
 ·have:i=els.length:=by omega
  subst this
  rw[qY (by omega),ah]
  simp only[ae,true_and]
  refine hI ch U1 R1 h1 u1 hc1 (fun h0=>?_) V1
  obtain⟨e1,e2,h3⟩:=hc2 h0
  rw[hel,List.take_length]at h3
  exact⟨e1,e2,h3⟩
theorem Lf {rs:List Ru}{els:List D}{v:D}(hr:c.regs=(nr:Int)) (hrl:rs.length<=1000000) (hv:zw rs els) (hx:EX 4 v els A) (hA:∀y∈A,y∈X) (ok:∀r∈rs,vY c.b.length c.regs r) (u:UV c rs U R) (V:Vs h (gH c nU nR nu n4 n2 nr U R X)){J:HJq}
  (hJ:∀h',Vs h' (gH c nU nR nu n4 n2 nr (D6 c rs) (zO c rs) X)->J [] h'):ji h v (.ptr n4 0 0) (.ptr nu 0 0) J:=by
 unfold ji
 refine⟨fun m q h'=>∃(ch:Bool) (U R:List Bool),q=[.bool ch]/\m=2*vC U R+(if ch then 1 else 0)/\UV c rs U R/\(ch=false->∀r∈rs,ny U R r=true)/\Vs h' (gH c nU nR nu n4 n2 nr U R X),_,⟨true,U,R,rfl,rfl,u,fun h=>(by cases h),V⟩,?_⟩
 rintro m f h1 ⟨ch,U1,R1,hq,hm,u1,hk,V1⟩
 simp only[List.cons.injEq,and_true]at hq
 rw[hq]
 cases ch with
 | true =>
  rw[ai,hx.len (fun y hy=>by have:=hA y hy;simp[gH,this]) V1]
  refine Le hr hrl hv hx hA ok u1 V1 fun ch' U2 R2 h2 u2 g1 g2 V2=>?_
  refine⟨2*vC U2 R2+(if ch' then 1 else 0),?_,ch',U2,R2,rfl,rfl,u2,fun h0=>?_,V2⟩
  ·subst hm
   cases ch' with
   | true=>have:=g1 rfl;simp;omega
   | false=>obtain⟨rfl,rfl,-⟩:=g2 rfl;simp
  ·obtain⟨rfl,rfl,h3⟩:=g2 h0;exact h3
 | false =>
  rw[ah]
  simp only[ae,true_and]
  obtain⟨rfl,rfl⟩:=u1.fin ok (hk rfl)
  exact hJ h1 V1
end
end
end Go.Am
namespace Go.Am
open Go Go.Proofs
theorem Jk {d:D}{h:Heap}{K:D->Prop}:ab PP (.len (.c d)) h K=ba d h K:=rfl
theorem OF.mono {c:Code}{W W':LSq}{n2 pr pd:Nat}{dv:D}(hs:∀x∈W,x∈W') (r:OF c W n2 pr pd dv):OF c W' n2 pr pd dv:=⟨hs _ r.h2,hs _ r.hr,hs _ r.hd,r.wd.mono hs⟩
def Oz (c:Code):Prop:=∃O O' at' U,ye c O O' at' U
theorem KA {c:Code}(hc:mV c):(oH c).length<=1000000:=by
 have:=tX (R:=sU c) hc (FL hc.g) c.b.length
 have:=hc.g.nb
 unfold oH tY;omega
theorem JK {n:Nat}{b:Bool}:bL (List.replicate n b)=List.replicate n (.bool b):=by simp[bL]
theorem JA {c:Code}(hc:mV c):aV PP cQ [c.e] (fun r=>r=uF c/\Oz c):=by
 have hnb:=hc.g.nb
 obtain⟨nr,hr⟩:∃nr:Nat,c.regs=(nr:Int):=⟨c.regs.toNat,by have:=hc.rg;omega⟩
 have hr1:=hc.rg
 refine dm oe (av _ _ _) rfl (vP _ _) ?_
 unfold rS
 refine Vs.nil.box c.eJ.one fun n2 h3 V3=>?_
 refine V3.alloc fun n4 h5 V5=>?_
 rw[V5.rG 1 rfl,V5.uj 1 (j:=7) rfl rfl,fy,List.length_map,V5.rG 1 rfl,V5.uj 1 (j:=2) rfl rfl,hr]
 refine Mp (by omega) (by omega) ?_
 refine Mp (by omega) (by omega) ?_
 refine V5.Mk (by omega) (by omega) fun nU h16 V16=>?_
 refine⟨by simp only[↓V16.rG 2 rfl,↓V16.uj 2 (j:=0+2) rfl rfl,hr,ae,and_self],?_⟩
 refine V16.Mk (by omega) (by omega) fun nR h20 V20=>?_
 refine⟨by simp only[↓V20.rG 3 rfl,↓V20.uj 3 (j:=0+7) rfl rfl,Jk,fy,List.length_map,ae,and_self],?_⟩
 rw[nH rfl]
 refine V20.alloc fun nu h26 V26=>?_
 refine⟨by simp only[↓V26.rG 4 rfl,↓V26.uj 4 (j:=0+7) rfl rfl,↓V26.uj 4 (j:=0+2) rfl rfl,Jk,fy,List.length_map,hr,ae,and_self],?_⟩
 refine V26.zz 0 (cs':=[.ms nU 0 c.b.length,.ms nR 0 nr]) rfl rfl rfl (fun x hx=>by simp at hx;rcases hx with rfl|rfl<;>rfl) fun h33 V33=>?_
 simp only[List.set_cons_zero]at V33
 have V33:Vs h33 (gH c nU nR nu n4 n2 nr (kJ c.b.length 0) (kJ nr 0) []):=by
  unfold gH;rw[IS,IS,JK,JK];exact V33
 refine⟨fun _ h'=>Vs h' (gH c nU nR nu n4 n2 nr (kJ c.b.length c.b.length) (kJ nr 0) []),?_,?_⟩
 ·rintro f h36 V36
  refine⟨fun _ h'=>Vs h' (gH c nU nR nu n4 n2 nr (kJ c.b.length c.b.length) (kJ nr nr) []),?_,?_⟩
  ·rintro f2 h39 V39
   rw[V39.s9 4 (s:=8) rfl rfl]
   refine LY hc V39 fun W m2 pr pd dv h43 rm hD V43=>?_
   refine G9 hc (rm.mono (W':=W++gH c nU nR nu n4 n2 nr (kJ c.b.length c.b.length) (kJ nr nr) []) fun x hx=>by simp[hx]) V43 fun v els A h45 hv hx V45=>?_
   have V45':Vs h45 (gH c nU nR nu n4 n2 nr (List.replicate c.b.length true) (List.replicate c.regs.toNat true) (A++W)):=by
    rw[IQ,IQ, <- List.append_assoc]at V45
    have e:c.regs.toNat=nr:=by omega
    rw[e]
    exact V45.perm List.perm_append_comm
   refine⟨fun _ h'=>Vs h' (gH c nU nR nu n4 n2 nr (D6 c (oH c)) (zO c (oH c)) (A++W)),?_,Lf hr (KA hc) hv hx (fun y hy=>by simp[hy]) (Nj hc) (UV.start (by omega)) V45' fun h' V'=>V'⟩
   rintro f3 h48 V48
   rw[V48.s9 0 (s:=2) rfl rfl]
   refine V48.zz 3 rfl rfl rfl (fun x hx=>by simp at hx;rcases hx with rfl|rfl<;>rfl) fun h52 V52=>?_
   simp only[gH,List.set_cons_succ,List.set_cons_zero]at V52
   rw[V52.s9 3 (s:=2) rfl rfl]
   have e1:(h52 nU).row=some (1,bL (D6 c (oH c))):=by rw[V52.get 2 _ _ rfl];rfl
   have e2:(h52 nR).row=some (1,bL (zO c (oH c))):=by rw[V52.get 1 _ _ rfl];rfl
   have l1:(bL (D6 c (oH c))).length=c.b.length:=by rw[bL,List.length_map,sD]
   have l2:(bL (zO c (oH c))).length=nr:=by rw[bL,List.length_map,x9];omega
   have bv:∀(S:List Bool) x,x∈bL S->∀y∈x.cells,y.vone=true:=fun S x hx y hy=>by
    simp only[bL,List.mem_map]at hx;obtain⟨b,-,rfl⟩:=hx
    simp[D.cells]at hy;subst hy;rfl
   have ef:(D.agg [.ms nU 0 c.b.length,.ms nR 0 nr]).fzt h52=uF c:=by
    simp only[D.fzt,D.fz,D.fzc,List.map_cons,List.map_nil,e1,e2,List.drop_zero]
    rw[List.take_of_length_le (by omega),List.take_of_length_le (by omega)];rfl
   refine⟨fun x hx=>?_,fun x hx=>?_,?_,?_⟩
   ·simp[D.cells]at hx;rcases hx with rfl|rfl<;>rfl
   ·simp[D.cells]at hx
    rcases hx with rfl|rfl
    ·exact⟨1,_,e1,by omega,fun x hx y hy=>bv _ x (List.mem_of_mem_drop (List.mem_of_mem_take hx)) y hy⟩
    ·exact⟨1,_,e2,by omega,fun x hx y hy=>bv _ x (List.mem_of_mem_drop (List.mem_of_mem_take hx)) y hy⟩
   ·rw[ef];rfl
   ·rw[ef];exact⟨rfl,hD⟩
  ·rw[V36.fa 0 rfl,V36.fv 0 (j:=0+1) rfl rfl,bt,V36.get 1 _ _ rfl]
   exact⟨rfl,IZ (by omega) V36 fun h' V'=>V'⟩
 ·rw[V33.fa 0 rfl,V33.fv 0 (j:=0+0) rfl rfl,bt,V33.get 2 _ _ rfl]
  exact⟨rfl,IY (by omega) V33 fun h' V'=>V'⟩
end Go.Am
namespace Go.Am
open Go Go.Proofs
def CD (v:D) (T:List Bool):Prop:=v=.sl (bL T)\/(v=.nil/\T=[])
theorem CD.one {v:D}{T:List Bool}(w:CD v T):v.one=true:=by rcases w with rfl|⟨rfl,-⟩<;>rfl
theorem CD.len {v:D}{T:List Bool}(w:CD v T){h:Heap}{K:D->Prop}:ba v h K=K (.int .i64 (T.length:Int)):=by
 rcases w with rfl|⟨rfl,rfl⟩
 ·rw[fy];simp[bL]
 ·rw[qM];rfl
theorem CD.sl {v:D}{T:List Bool}(w:CD v T) (h:1<=T.length):v=.sl (bL T):=by
 rcases w with h|⟨-,rfl⟩
 ·exact h
 ·simp at h
section
variable {h:Heap}{L:LSq}{KH:HKq}
end
end Go.Am
namespace Go.Am
open Go Go.Proofs
def ku (p:Nat×Block):D:=.agg (.ms p.1 0 p.2.i.length::p.2.t.cs)
def tp (p:Nat×Block):Nat×Slot:=(p.1,.arr 15 (p.2.i.map aG.e))
theorem Bq (p:Nat×Block):aF (ku p):=fun x hx=>by
 simp[ku,Term.cs]at hx
 rcases hx with rfl|rfl|rfl|rfl|rfl|rfl|rfl|rfl|rfl|rfl|rfl|rfl|rfl|rfl<;>rfl
section
variable {h:Heap}{L:LSq}{KH:HKq}
theorem Vs.P0 {z d:D}(V:Vs h L) (ho:aF d) (hc:d.cells.length=14) (hK:∀n h',Vs h' ((n,.arr 14 [d])::L)->KH (.ms n 0 1) h'):aa PP (.bldS false 14 1 z [(0,.c d)]) h KH:=by
 refine⟨fun p hp=>?_,fun h=>(by cases h),fun n t=>?_⟩
 ·simp[Arg.get]at hp;subst hp
  exact⟨Nat.one_pos,hc,ho⟩
 ·have:=hK n _ (V.push t.free (s:=.arr 14 [d]) (by simp))
  simpa[Arg.get,setEls,List.replicate] using this
theorem L1 {c:Code}(hc:ss c) (V0:Vs h L)
  (hK:∀h' nA nL nB (A:List (Nat×Block)),A.map Prod.snd=c.b->Vs h' ((nB,.arr 14 (A.map ku))::(A.map tp++(nL,.arr 3 (c.loops.map Loop.e))::(nA,.arr 4 (c.arrays.map sO.e))::L)) ->
   KH (tc c (.ms nA 0 c.arrays.length) (.ms nL 0 c.loops.length) (.ms nB 0 c.b.length)) h'):af PP lT [c.e] h KH:=by
 have hnb:=hc.nb
 have hnl:=hc.nl
 have hna:c.arrays.length=5:=by rw[hc.arrays];rfl
 refine aU xc (av _ _ _) rfl (w8 _ _) ?_
 unfold tF
 refine V0.box c.eJ.one fun n2 h3 V1=>?_
 refine V1.alloc fun n4 h5 V2=>?_
 refine V2.LK fun nA0 h7 V3=>?_
 simp only[↓V3.fa 2 rfl,Nat.zero_add,↓V3.fv 2 (j:=5) rfl rfl]
 refine V3.EH (els:=[]) (ys:=c.arrays.map sO.e) (fun hk=>yi (g:=sO.e) (l:=c.arrays) (fun _=>rfl) hk) (A7 fun x=>x.eJ) (by simp[hna]) (by simp[hna]) fun nA h13 V4=>?_
 simp only[List.length_nil,Nat.zero_add,List.length_map,List.nil_append]at V4 ⊢
 simp only[↓V4.fa 2 rfl,Nat.zero_add]
 refine V4.Qa 2 (j:=5) rfl (by simp) rfl fun h17 V5=>?_
 refine V5.LK fun nL0 h19 V6=>?_
 simp only[↓V6.fa 3 rfl,Nat.zero_add,↓V6.fv 3 (j:=6) rfl rfl]
 refine V6.EH (els:=[]) (ys:=c.loops.map Loop.e) (fun hk=>yi (g:=Loop.e) (l:=c.loops) (fun _=>rfl) hk) (A7 fun x=>x.eJ) (by simp;omega) (by simp;omega) fun nL h25 V7=>?_
 simp only[List.length_nil,Nat.zero_add,List.length_map,List.nil_append]at V7 ⊢
 simp only[↓V7.fa 3 rfl,Nat.zero_add]
 refine V7.Qa 3 (j:=6) rfl (by simp) rfl fun h29 V8=>?_
 refine V8.LK fun nB0 h31 V9=>?_
 let BL:LSq:=[(nL,.arr 3 (c.loops.map Loop.e)),(nA,.arr 4 (c.arrays.map sO.e)),(n4,.box (.agg [.int .i64 0,.int .i64 0,.int .i64 0,.int .i64 0,.int .i64 0,.nil,.nil,.nil])),(n2,.box (tc c (.ms nA 0 c.arrays.length) (.ms nL 0 c.loops.length) (.sl (c.b.map Block.e))))]++L
 replace V9:Vs h31 ((nB0,.arr 14 [])::BL):=V9
 refine⟨fun l h=>∃(nB:Nat) (A:List (Nat×Block)),A.map Prod.snd=c.b/\l=[.ms nB 0 c.b.length]/\Vs h ((nB,.arr 14 (A.map ku))::(A.map tp++BL)),?_,?_⟩
 ·rintro f h34 ⟨nB,A,hA,hl,V⟩
  simp only[List.cons.injEq,and_true]at hl
  rw[hl]
  have V:Vs h34 (BL++((nB,.arr 14 (A.map ku))::A.map tp)):=V.perm (List.perm_append_comm (l₁:=(nB,.arr 14 (A.map ku))::A.map tp) (l₂:=BL))
  simp only[↓V.fa 3 rfl,Nat.zero_add]
  refine V.Qa 3 (j:=7) rfl (by simp) rfl fun h38 V'=>?_
  simp only[↓V'.s9 3 (s:=8) rfl rfl]
  refine V'.zz (cs':=[.int .i64 c.group,.int .i64 c.sub,.int .i64 c.regs,.int .i64 c.slots,.int .i64 c.params,.ms nA 0 c.arrays.length,.ms nL 0 c.loops.length,.ms nB 0 c.b.length]) 2 rfl rfl rfl (fun y hy=>by simp at hy;rcases hy with rfl|rfl|rfl|rfl|rfl|rfl|rfl|rfl<;>rfl) fun h42 V''=>?_
  rw[V''.s9 2 (s:=8) rfl rfl]
  have V3:=(V''.erase 2).erase 2
  have V4:Vs h42 ((nL,Slot.arr 3 (c.loops.map Loop.e))::(nA,.arr 4 (c.arrays.map sO.e))::(L++(nB,.arr 14 (A.map ku))::A.map tp)):=V3
  refine hK _ nA nL nB A hA (V4.perm ?_)
  have:=List.perm_append_comm (l₁:=(nL,Slot.arr 3 (c.loops.map Loop.e))::(nA,.arr 4 (c.arrays.map sO.e))::L) (l₂:=(nB,Slot.arr 14 (A.map ku))::A.map tp)
  simpa using this
 unfold o7
 refine⟨fun m l h=>∃(i nB:Nat) (A:List (Nat×Block)),i<=c.b.length/\m=c.b.length-i/\l=[.ms nB 0 i,.int .i64 (i:Int)]/\A.map Prod.snd=c.b.take i/\Vs h ((nB,.arr 14 (A.map ku))::(A.map tp++BL)),_,⟨0,nB0,[],by omega,rfl,rfl,rfl,V9⟩,?_⟩
 rintro m f h47 ⟨i,nB,A,hi,hm,hl,hA,V⟩
 simp only[List.cons.injEq,and_true]at hl
 obtain⟨e3,e4⟩:=hl
 have hAl:A.length=i:=by have:=congrArg List.length hA;simp at this;omega
 have m2:∀{X:LSq} x,x∈BL->x∈X++BL:=fun x hx=>List.mem_append_right _ hx
 have V:Vs h47 (((nB,.arr 14 (A.map ku))::A.map tp)++BL):=V
 have hn2:(n2,Slot.box (tc c (.ms nA 0 c.arrays.length) (.ms nL 0 c.loops.length) (.sl (c.b.map Block.e))))∈BL:=by simp[BL]
 have dfaM:∀{h:Heap}{K:D->Prop}{X:LSq}{o:Nat},Vs h (X++BL)->ab PP (.fadd (.c (.ptr n2 0 0)) o) h K=K (.ptr n2 0 o):=fun V=>by
  obtain⟨k,hk⟩:=List.getElem?_of_mem (m2 _ hn2)
  rw[V.rG k hk]
 have dldM:∀{h:Heap}{K:D->Prop}{X:LSq},Vs h (X++BL)->ab PP (.ld (.c (.ptr n2 0 7)) 1 false) h K=K (.sl (c.b.map Block.e)):=fun V=>by
  obtain⟨k,hk⟩:=List.getElem?_of_mem (m2 _ hn2)
  rw[V.uj k (j:=7) hk rfl]
 simp only[e3,e4,↓V.Q7 (m2 _ hn2),↓V.ND (m2 _ hn2) (j:=7) rfl,fy,List.length_map,uI]
 by_cases hlt:i<c.b.length
 ·have hB:c.b[i]?=some c.b[i]:=List.getElem?_eq_getElem hlt
  have BO:=hc.b _ (List.mem_of_getElem? hB)
  generalize c.b[i]=B at hB BO
  have hil:=BO.len
  have dblk0:∀{h:Heap}{K:D->Prop},ab PP (.ld (.c (.vp B.e 0)) 1 false) h K=K (.sl (B.i.map aG.e)):=fun {h K}=>by rw[mG];exact Pk rfl
  have dfav0:∀{h:Heap}{K:D->Prop}{o:Nat},ab PP (.fadd (.c (.vp B.e 0)) o) h K=K (.vp B.e o):=fun {h K o}=>Rf
  simp only[show((i:Int)<(c.b.length:Int))=True from eq_true (by omega),decide_true,↓ai,↓dfaM V,↓dldM V,↓Jj hB,↓dfav0,↓dblk0,↓Ji]
  refine V.LK fun n64 h65 V1=>?_
  have V1':Vs h65 (((n64,.arr 15 [])::(nB,.arr 14 (A.map ku))::A.map tp)++BL):=V1
  refine⟨by simp only[↓dfaM V1',↓dldM V1',↓Jj hB,↓dfav0,↓dblk0,↓Ji,ae,and_self],?_⟩
  refine V1.EH (els:=[]) (ys:=B.i.map aG.e) (fun hk=>yi (g:=aG.e) (l:=B.i) (fun _=>rfl) hk) (A7 fun x=>x.eJ) (by simp;omega) (by simp;omega) fun n76 h77 V2=>?_
  simp only[List.length_nil,Nat.zero_add,List.nil_append,List.length_map]at V2 ⊢
  have V2':Vs h77 (((n76,.arr 15 (B.i.map aG.e))::(nB,.arr 14 (A.map ku))::A.map tp)++BL):=V2
  refine⟨by simp only[↓dfaM V2',↓dldM V2',↓Jj hB,↓dfav0,↓dblk0,↓Ji,ae,and_self],?_⟩
  rw[nH rfl]
  refine V2.P0 (d:=ku (n76,B)) (Bq _) rfl fun n84 h85 V3=>?_
  have hlen:(A.map ku).length=i:=by simp[hAl]
  have row84:=V3.get 0 _ _ rfl
  have V3':Vs h85 ((nB,.arr 14 (A.map ku))::(n84,.arr 14 [ku (n76,B)])::(n76,.arr 15 (B.i.map aG.e))::(A.map tp++BL)):=V3.perm ((List.Perm.cons _ (List.Perm.swap _ _ _)).trans (List.Perm.swap _ _ _))
  rw[show D.ms nB 0 i=.ms nB 0 (A.map ku).length by rw[hlen]]
  refine Vs.EH (ys:=[ku (n76,B)]) V3' (fun hk=>⟨[ku (n76,B)],by rw[row84];rfl,by simp,hk⟩) (fun y hy=>by simp at hy;subst hy;exact Bq _) (by rw[hlen];simp;omega) (by rw[hlen];simp;omega) fun n86 h87 V4=>?_
  rw[fV (by omega) (by omega),hlen]
  simp only[ae,true_and]
  refine⟨_,by omega,i+1,n86,A++[(n76,B)],by omega,rfl,by simp,?_,?_⟩
  ·rw[List.map_append,hA,List.take_add_one,hB];rfl
  ·have V5:=V4.erase 1
   simp only[List.eraseIdx_cons_succ,List.eraseIdx_cons_zero]at V5
   rw[show(A++[(n76,B)]).map ku=A.map ku++[ku (n76,B)] by simp,show(A++[(n76,B)]).map tp=A.map tp++[tp (n76,B)] by simp,List.append_assoc]
   refine V5.perm (.cons _ ?_)
   exact(List.perm_middle (l₁:=A.map tp) (l₂:=BL) (a:=tp (n76,B))).symm
 ·have:i=c.b.length:=by omega
  subst this
  rw[List.take_length]at hA
  simp only[show((c.b.length:Int)<(c.b.length:Int))=False from eq_false (by omega),decide_false,↓ah,ae,true_and]
  exact⟨nB,A,hA,rfl,V⟩
end
end Go.Am
namespace Go.Am
open Go Go.Proofs
theorem Qi {a b:Bool}{h:Heap}{K:D->Prop}:ab PP (.eqv true false [.b] (.c (.bool a)) (.c (.bool b))) h K=K (.bool (!decide (a=b))):=by
 rw[Mz,Mo]
 apply propext
 have e:veqv true [.b] (.bool a) (.bool b) (fun d=>K d)=K (.bool (!decide (a=b))):=by
  cases a<;>cases b<;>rfl
 constructor
 ·exact fun hh=>by have:=hh.2.2;rw[<- e];exact this
 ·exact fun hk=>⟨rfl,rfl,by rw[<- e]at hk;exact hk⟩
theorem MC {T:List Bool}{i:Nat}{h:Heap}{K:D->Prop}(hi:i<T.length):ab PP (.iadd (.c (.sl (bL T))) (.c (.int .i64 (i:Int))) 1) h (fun a=>ab PP (.ld (.c a) 1 false) h K)=K (.bool (hasB T i)):=by
 rw[Rb (esz:=1) (d:=.bool (hasB T i)) (by omega) (by rw[Int.toNat_natCast];exact w7 (gC hi)) rfl,PL rfl]
theorem Dd {T:List Bool}{h:Heap}{K:D->Prop}:ba (.sl (bL T)) h K=K (.int .i64 (T.length:Int)):=by rw[fy];simp[bL]
theorem C2 {A B:List Bool}(hl:A.length<=1000000):aV PP bq [.sl (bL A),.sl (bL B)] (· = .bool (decide (A=B))):=by
 refine dm kS (av _ _ _) rfl (rT _ _ _) ?_
 unfold nN
 rw[Dd,Dd,ym]
 by_cases hAB:A.length=B.length
 ·rw[decide_eq_true (by omega),Bool.not_true,ah]
  refine⟨fun _ _=>A=B,?_,?_⟩
  ·rintro f h' e
   rw[eY,decide_eq_true e]
  unfold kM
  refine⟨fun m q h'=>h'=fA/\∃i:Nat,q=[nD i]/\i<=A.length/\m=A.length-i/\∀k,k<i->hasB A k=hasB B k,_,⟨rfl,0,rfl,by omega,rfl,fun k hk=>(by omega)⟩,?_⟩
  rintro m f h1 ⟨rfl,i,hq,hi,hm,hk⟩
  simp only[List.cons.injEq,and_true]at hq
  rw[hq,Dd]
  by_cases hlt:i<A.length
  ·rw[nD,sC (by omega),ai,MC hlt,MC (by omega),Qi]
   by_cases he:hasB A i=hasB B i
   ·rw[decide_eq_true he,Bool.not_true,ah,fV (by omega) (by omega)]
    simp only[ae,true_and]
    refine⟨_,by omega,i+1,rfl,by omega,rfl,fun k hk'=>?_⟩
    by_cases e:k=i
    ·subst e;exact he
    ·exact hk k (by omega)
   ·rw[decide_eq_false he,Bool.not_false,ai,eY]
    rw[decide_eq_false (fun e=>he (by rw[e]))]
  ·have:i=A.length:=by omega
   subst this
   rw[nD,qY (by omega),ah]
   simp only[ae,true_and]
   exact vr hAB fun k hk'=>by rw[hk k hk']
 ·rw[decide_eq_false (by omega),Bool.not_false,ai,eY,decide_eq_false (fun e=>hAB (by rw[e]))]
theorem AV {α:Type}{l:List α}{i:Nat}{a:α}(h:l[i]?=some a):l.set i a=l:=by
 refine List.ext_getElem? fun j=>?_
 rw[List.getElem?_set]
 by_cases e:i=j
 ·subst e
  have:=(List.getElem?_eq_some_iff.1 h).1
  rw[if_pos rfl,if_pos this,h]
 ·rw[if_neg e]
def OB (h:Heap) (nB:Nat) (A:List (Nat×Block)) (F:LSq):Prop:=Vs h ((nB,.arr 14 (A.map ku))::(A.map tp++F))
section
variable {h:Heap}{F:LSq}{KH:HKq}{K:D->Prop}{nB b w k:Nat}{A:List (Nat×Block)}{B:Block}{x:aG}
theorem OB.mem (V:OB h nB A F){y:Nat×Slot}(hy:y∈F):y∈(nB,Slot.arr 14 (A.map ku))::(A.map tp++F):=by simp[hy]
theorem OB.vs (V:OB h nB A F):Vs h ((nB,.arr 14 (A.map ku))::(A.map tp++F)):=V
theorem OB.hB (V:OB h nB A F):h nB=.arr 14 (A.map ku):=Vs.get V 0 _ _ rfl
theorem OB.hw (V:OB h nB A F) (hA:A[b]?=some (w,B)):h w=.arr 15 (B.i.map aG.e):=by
 refine Vs.mem V (s:=.arr 15 (B.i.map aG.e)) ?_
 have:tp (w,B)∈A.map tp:=List.mem_map_of_mem (List.mem_of_getElem? hA)
 simp only[List.mem_cons,List.mem_append]
 exact Or.inr (Or.inl this)
theorem OB.len (V:OB h nB A F){n:Nat}:ba (.ms nB 0 n) h K=K (.int .i64 (n:Int)):=by
 rw[bt,V.hB];apply propext;exact⟨fun hh=>hh.2,fun hk=>⟨rfl,hk⟩⟩
theorem OB.ia (V:OB h nB A F){n:Nat}(hb:b<n):aa PP (.iadd (.c (.ms nB 0 n)) (.c (.int .i64 (b:Int))) 14) h KH=KH (.ptr nB b 0) h:=by
 rw[Vs.ia V 0 rfl (by omega) (by omega),Int.toNat_natCast]
theorem OB.FI (V:OB h nB A F){n:Nat}(hb:b<n):ab PP (.iadd (.c (.ms nB 0 n)) (.c (.int .i64 (b:Int))) 14) h K=K (.ptr nB b 0):=by rw[lj,V.ia hb]
theorem OB.fa (V:OB h nB A F){o:Nat}:aa PP (.fadd (.c (.ptr nB b 0)) o) h KH=KH (.ptr nB b o) h:=by
 rw[lh,V.hB];apply propext;exact⟨fun hh=>by simpa using hh.2,fun hk=>⟨rfl,by simpa using hk⟩⟩
theorem OB.rG (V:OB h nB A F){o:Nat}:ab PP (.fadd (.c (.ptr nB b 0)) o) h K=K (.ptr nB b o):=V.fa (KH:=fun d _=>K d)
theorem OB.el (hA:A[b]?=some (w,B)):(A.map ku)[b]?=some (ku (w,B)):=by rw[List.getElem?_map,hA];rfl
theorem Pm {n j off len esz:Nat}{els cs:List D}{d:D}(hn:h n=.arr esz els) (he:els[j]?=some (.agg cs)) (hl:off+len<=cs.length) (hd:.agg ((cs.drop off).take len)=d):aa PP (.ld (.c (.ptr n j off)) len true) h KH=KH d h:=by
 rw[re,hn]
 obtain⟨h1,h2⟩:=List.getElem?_eq_some_iff.1 he
 simp[iK,h1,h2,D.cells,hl,hd]
theorem QU {n j off esz:Nat}{els cs:List D}{d:D}(hn:h n=.arr esz els) (he:els[j]?=some (.agg cs)) (hd:cs[off]?=some d):aa PP (.ld (.c (.ptr n j off)) 1 false) h KH=KH d h:=by
 rw[re,hn]
 obtain⟨h1,h2⟩:=List.getElem?_eq_some_iff.1 he
 simp[dX,h1,h2,D.cells,hd]
theorem OB.QT (V:OB h nB A F) (hA:A[b]?=some (w,B)):aa PP (.ld (.c (.ptr nB b 0)) 1 false) h KH=KH (.ms w 0 B.i.length) h:=QU V.hB (OB.el hA) rfl
theorem OB.Re (V:OB h nB A F) (hA:A[b]?=some (w,B)):ab PP (.ld (.c (.ptr nB b 0)) 1 false) h K=K (.ms w 0 B.i.length):=by rw[mG,V.QT hA]
theorem OB.RT (V:OB h nB A F) (hA:A[b]?=some (w,B)):aa PP (.ld (.c (.ptr nB b 1)) 13 true) h KH=KH B.t.e h:=Pm V.hB (OB.el hA) (by show 1+13<=14;omega) rfl
theorem OB.Qx (V:OB h nB A F) (hA:A[b]?=some (w,B)){n:Nat}:ba (.ms w 0 n) h K=K (.int .i64 (n:Int)):=by
 rw[bt,V.hw hA];apply propext;exact⟨fun hh=>hh.2,fun hk=>⟨rfl,hk⟩⟩
theorem OB.Ry (V:OB h nB A F) (hA:A[b]?=some (w,B)){n:Nat}(hk:k<n):aa PP (.iadd (.c (.ms w 0 n)) (.c (.int .i64 (k:Int))) 15) h KH=KH (.ptr w k 0) h:=by
 rw[kI]
 apply propext
 constructor
 ·exact fun hh=>by simpa using hh.2.2.2
 ·exact fun hk'=>⟨by omega,by omega,⟨B.i.map aG.e,by rw[V.hw hA];rfl⟩,by simpa using hk'⟩
theorem OB.Ra (V:OB h nB A F) (hA:A[b]?=some (w,B)){n:Nat}(hk:k<n):ab PP (.iadd (.c (.ms w 0 n)) (.c (.int .i64 (k:Int))) 15) h K=K (.ptr w k 0):=by rw[lj,V.Ry hA hk]
theorem OB.RS (V:OB h nB A F) (hA:A[b]?=some (w,B)) (hx:B.i[k]?=some x):aa PP (.ld (.c (.ptr w k 0)) 15 true) h KH=KH x.e h :=
 Pm (cs:=x.cs) (V.hw hA) (by rw[List.getElem?_map,hx];rfl) (by show 0+15<=15;omega) rfl
theorem OB.OO (V:OB h nB A F) (hA:A[b]?=some (w,B)){B':Block}(hl:B'.i.length=B.i.length) (ht:B'.t=B.t):OB (aq h w (.arr 15 (B'.i.map aG.e))) nB (A.set b (w,B')) F:=by
 have hb:=(List.getElem?_eq_some_iff.1 hA).1
 have ix:((nB,Slot.arr 14 (A.map ku))::(A.map tp++F))[b+1]?=some (w,.arr 15 (B.i.map aG.e)):=by
  rw[List.getElem?_cons_succ,List.getElem?_append_left (by simpa using hb),List.getElem?_map,hA];rfl
 have:=Vs.b6 V (b+1) ix (s':=.arr 15 (B'.i.map aG.e)) (by simp)
 rw[List.set_cons_succ,List.set_append_left _ _ (by simpa using hb)]at this
 have e1:(A.set b (w,B')).map ku=A.map ku:=by
  rw[List.map_set]
  have:ku (w,B')=ku (w,B):=by unfold ku;simp only[hl,ht]
  rw[this]
  exact AV (OB.el hA)
 unfold OB
 rw[e1,List.map_set]
 exact this
theorem OB.ON (V:OB h nB A F) (hA:A[b]?=some (w,B)){t':Term}:OB (aq h nB (.arr 14 ((A.map ku).set b (ku (w,{ B with t:=t' }))))) nB (A.set b (w,{ B with t:=t' })) F:=by
 have hb:=(List.getElem?_eq_some_iff.1 hA).1
 have:=Vs.b6 V 0 rfl (s':=.arr 14 ((A.map ku).set b (ku (w,{ B with t:=t' })))) (by simp)
 rw[List.set_cons_zero]at this
 have e1:(A.set b (w,{ B with t:=t' })).map tp=A.map tp:=by
  rw[List.map_set]
  have e:tp (w,{ B with t:=t' })=tp (w,B):=rfl
  rw[e]
  exact AV (by rw[List.getElem?_map,hA];rfl)
 unfold OB
 rw[e1,List.map_set]
 exact this
theorem OB.RM (V:OB h nB A F) (hA:A[b]?=some (w,B)) (hx:B.i[k]?=some x){x':aG}(hK:∀h',OB h' nB (A.set b (w,{ B with i:=B.i.set k x' })) F->KH .undef h'):aa PP (.st (.c (.ptr w k 0)) (.c x'.e) 15) h KH:=by
 have hk:=(List.getElem?_eq_some_iff.1 hx).1
 rw[lY,V.hw hA]
 refine⟨rfl,x'.eJ.one,by simpa using hk,by omega,fun y hy=>?_⟩
 rw[List.getElem?_map,hx]at hy
 cases hy
 have e:setCells x.e 0 x'.e.cells=x'.e:=by
  show D.agg (x.cs.take 0++x'.cs++x.cs.drop (0+x'.cs.length))=.agg x'.cs
  simp[aG.cs]
 rw[e]
 have:=V.OO hA (B':={ B with i:=B.i.set k x' }) (by simp) rfl
 rw[List.map_set]at this
 exact hK _ this
theorem OB.RN (V:OB h nB A F) (hA:A[b]?=some (w,B)){t':Term}(hK:∀h',OB h' nB (A.set b (w,{ B with t:=t' })) F->KH .undef h'):aa PP (.st (.c (.ptr nB b 1)) (.c t'.e) 13) h KH:=by
 have hb:=(List.getElem?_eq_some_iff.1 hA).1
 rw[lY,V.hB]
 refine⟨rfl,t'.eJ.one,by simpa using hb,by omega,fun y hy=>?_⟩
 rw[OB.el hA]at hy
 cases hy
 have e:setCells (ku (w,B)) 1 t'.e.cells=ku (w,{ B with t:=t' }):=rfl
 rw[e]
 exact hK _ (V.ON hA)
theorem OB.RW (V:OB h nB A F):∃h',DG h h'/\Vs h' ((nB,.arr 14 ((A.map Prod.snd).map Block.e))::F):=by
 have I:=Vs.iff.1 V
 have hW:∀p∈A,h p.1=.arr 15 (p.2.i.map aG.e):=fun p hp=>by
  obtain⟨k,hk⟩:=List.getElem?_of_mem hp
  exact OB.hw V (b:=k) (w:=p.1) (B:=p.2) hk
 have nd:=I.2
 simp only[List.map_cons,List.map_append,List.nodup_cons,List.mem_append,not_or]at nd
 have ndWF:=List.nodup_append.1 nd.2
 have hfz:∀p∈A,(ku p).fz h=p.2.e/\mc h (ku p)/\(ku p).nm=[p.1]:=by
  intro p hp
  have hr:(h p.1).row=some (15,p.2.i.map aG.e):=by rw[hW p hp];rfl
  refine⟨?_,fun x hx=>?_,?_⟩
  ·simp only[ku,D.fz,List.map_cons,D.fzc,hr,List.drop_zero]
   rw[List.take_of_length_le (by simp)]
   rfl
  ·simp only[ku,D.cells,List.mem_cons,Term.cs,List.not_mem_nil,or_false]at hx
   rcases hx with rfl|rfl|rfl|rfl|rfl|rfl|rfl|rfl|rfl|rfl|rfl|rfl|rfl|rfl
   ·exact⟨15,_,hr,by simp,fun x hx y hy=>K4 x (List.mem_of_mem_drop (List.mem_of_mem_take hx)) y hy⟩
   all_goals trivial
  ·simp[ku,D.nm,D.jB,Term.cs]
 have nmW:∀n,n∈(A.map ku).flatMap D.nm->n∈(A.map tp).map Prod.fst:=fun n hn=>by
  obtain⟨e,he,hn⟩:=List.mem_flatMap.1 hn
  obtain⟨p,hp,rfl⟩:=List.mem_map.1 he
  rw[(hfz p hp).2.2]at hn
  simp at hn;subst hn
  exact List.mem_map.2 ⟨tp p,List.mem_map.2 ⟨p,hp,rfl⟩,rfl⟩
 have hd:DB h nB 14 (A.map ku):=by
  refine⟨fun hm=>nd.1.1 (nmW nB hm),fun e he=>?_⟩
  obtain⟨p,hp,rfl⟩:=List.mem_map.1 he
  obtain⟨g1,g2,-⟩:=hfz p hp
  refine⟨Bq p,g2,fun y hy=>?_⟩
  rw[g1]at hy
  simp only[Block.e,D.cells,List.mem_cons,Term.cs,List.not_mem_nil,or_false]at hy
  rcases hy with rfl|rfl|rfl|rfl|rfl|rfl|rfl|rfl|rfl|rfl|rfl|rfl|rfl|rfl<;>rfl
 refine⟨Bb h nB 14 (A.map ku),.step V.hB hd (.refl _),?_⟩
 have emap:(A.map ku).map (D.fz h)=(A.map Prod.snd).map Block.e:=by
  rw[List.map_map,List.map_map]
  exact List.map_congr_left fun p hp=>(hfz p hp).1
 rw[Vs.iff]
 refine⟨fun n s hs=>?_,?_⟩
 ·rcases List.mem_cons.1 hs with e|hs
  ·cases e
   exact⟨by rw[Ak,emap],by simp⟩
  ·have hnF:n∈F.map Prod.fst:=List.mem_map.2 ⟨_,hs,rfl⟩
   have hI:=I.1 n s (by simp[hs])
   refine⟨?_,hI.2⟩
   rw[yR (fun e:n=nB=>nd.1.2 (by rw[<- e];exact hnF)) (fun hn=>ndWF.2.2 n (nmW n hn) n hnF rfl)]
   exact hI.1
 ·rw[List.map_cons,List.nodup_cons]
  exact⟨nd.1.2,ndWF.2.1⟩
end
structure CO (c:Code) (nA nL nB:Nat) (sA sL sB:Slot):Prop where
 a:sA.row=some (4,c.arrays.map sO.e)
 l:sL.row=some (3,c.loops.map Loop.e)
 b:sB.row=some (14,c.b.map Block.e)
theorem Js {c:Code}{h:Heap}{F:LSq}{KH:HKq}{f:FuncId}{R:D->Prop}{nA nL nB na nl nb:Nat}{sA sL sB:Slot}(O:CO c nA nL nB sA sL sB) (V:Vs h ((nB,sB)::(nL,sL)::(nA,sA)::F)) (hv:aV PP f [c.e] R) (ea:na=c.arrays.length) (el:nl=c.loops.length) (eb:nb=c.b.length)
  (hK:∀r h' sA' sL' sB',R r->CO c nA nL nB sA' sL' sB'->Vs h' ((nB,sB')::(nL,sL')::(nA,sA')::F)->KH r h'):af PP f [tc c (.ms nA 0 na) (.ms nL 0 nl) (.ms nB 0 nb)] h KH:=by
 subst ea;subst el;subst eb
 have hB:=V.get 0 _ _ rfl
 have hL:=V.get 1 _ _ rfl
 have hA:=V.get 2 _ _ rfl
 have rB:(h nB).row=some (14,c.b.map Block.e):=by rw[hB];exact O.b
 have rL:(h nL).row=some (3,c.loops.map Loop.e):=by rw[hL];exact O.l
 have rA:(h nA).row=some (4,c.arrays.map sO.e):=by rw[hA];exact O.a
 have ez:(tc c (.ms nA 0 c.arrays.length) (.ms nL 0 c.loops.length) (.ms nB 0 c.b.length)).fz h=c.e:=by
  have e1:(c.b.map Block.e).take c.b.length=c.b.map Block.e:=List.take_of_length_le (by rw[List.length_map];omega)
  have e2:(c.loops.map Loop.e).take c.loops.length=c.loops.map Loop.e:=List.take_of_length_le (by rw[List.length_map];omega)
  have e3:(c.arrays.map sO.e).take c.arrays.length=c.arrays.map sO.e:=List.take_of_length_le (by rw[List.length_map];omega)
  simp only[D.fz,List.map_cons,List.map_nil,D.fzc,rA,rL,rB,List.drop_zero,e1,e2,e3]
  rfl
 refine af.mono ?_ (dO (K:=R) (by rw[List.map_cons,ez];exact hv) fun d hd=>?_)
 ·rintro r h' ⟨hr,k1,k2⟩
  by_cases hf:r.flat=true\/[tc c (.ms nA 0 c.arrays.length) (.ms nL 0 c.loops.length) (.ms nB 0 c.b.length)].flatMap D.nm=[]
  ·rw[k1 hf]
   exact hK r h sA sL sB hr O V
  ·rw[k2 hf]
   have enm:[tc c (.ms nA 0 c.arrays.length) (.ms nL 0 c.loops.length) (.ms nB 0 c.b.length)].flatMap D.nm=[nA,nL,nB]:=by simp[D.nm,D.jB]
   rw[enm]
   refine hK r _ (.frz 4 (c.arrays.map sO.e)) (.frz 3 (c.loops.map Loop.e)) (.frz 14 (c.b.map Block.e)) hr ⟨rfl,rfl,rfl⟩ ?_
   have I:=Vs.iff.1 V
   have nd:=I.2
   rw[Vs.iff]
   refine⟨fun n s hs=>?_,by simpa using nd⟩
   simp only[List.mem_cons]at hs
   rcases hs with e|e|e|hs
   ·cases e;exact⟨cj _ rB (by simp),by simp⟩
   ·cases e;exact⟨cj _ rL (by simp),by simp⟩
   ·cases e;exact⟨cj _ rA (by simp),by simp⟩
   ·have hI:=I.1 n s (by simp[hs])
    refine⟨?_,hI.2⟩
    have hnF:n∈F.map Prod.fst:=List.mem_map.2 ⟨_,hs,rfl⟩
    simp only[List.map_cons,List.nodup_cons,List.mem_cons,not_or]at nd
    rw[eM]
    ·exact hI.1
    ·simp only[List.mem_cons,List.not_mem_nil,or_false,not_or]
     exact⟨fun e=>nd.2.2.1 (e ▸ hnF),fun e=>nd.2.1.2 (e ▸ hnF),fun e=>nd.1.2.2 (e ▸ hnF)⟩
 ·simp at hd;subst hd
  refine⟨fun x hx=>by simp[D.cells]at hx;rcases hx with rfl|rfl|rfl|rfl|rfl|rfl|rfl|rfl<;>rfl,?_,by rw[ez];exact c.eJ.vd⟩
  intro x hx
  simp only[D.cells,List.mem_cons,List.not_mem_nil,or_false]at hx
  rcases hx with rfl|rfl|rfl|rfl|rfl|rfl|rfl|rfl
  iterate 5 trivial
  ·refine⟨4,_,rA,by simp,fun x hx y hy=>?_⟩
   have hx':x∈c.arrays.map sO.e:=List.mem_of_mem_drop (List.mem_of_mem_take hx)
   simp only[List.mem_map]at hx'
   obtain⟨a,-,rfl⟩:=hx'
   simp[sO.e,D.cells]at hy;rcases hy with rfl|rfl|rfl|rfl<;>rfl
  ·refine⟨3,_,rL,by simp,fun x hx y hy=>?_⟩
   have hx':x∈c.loops.map Loop.e:=List.mem_of_mem_drop (List.mem_of_mem_take hx)
   simp only[List.mem_map]at hx'
   obtain⟨a,-,rfl⟩:=hx'
   simp[Loop.e,D.cells]at hy;rcases hy with rfl|rfl|rfl<;>rfl
  ·refine⟨14,_,rB,by simp,fun x hx y hy=>?_⟩
   have hx':x∈c.b.map Block.e:=List.mem_of_mem_drop (List.mem_of_mem_take hx)
   simp only[List.mem_map]at hx'
   obtain⟨a,-,rfl⟩:=hx'
   simp[Block.e,Term.cs,D.cells]at hy
   rcases hy with rfl|rfl|rfl|rfl|rfl|rfl|rfl|rfl|rfl|rfl|rfl|rfl|rfl|rfl<;>rfl
end Go.Am
namespace Go.Am
open Go Go.Proofs
theorem ye.path {c:Code}{O O':List Nat}{at' U:List Int}(hc:eW c) (D:ye c O O' at' U){x:Nat}:x∈O↔Path (edg c) 0 x:=by
 have hnb:=hc.nb
 obtain⟨S,hv⟩:=D.b.ord
 have nd:O.Nodup:=by
  obtain⟨m,h1,e⟩:=hv
  obtain⟨N,e2,F⟩:=h1.spec (n:=c.b.length) (fun p b=>p9 (mF hc)) (fun x=>p9 (mF hc)) (by simp)
  have e3:O=0::N:=by
   have:=congrArg Prod.snd e
   simp only at this
   rw[this,e2];simp
  rw[e3]
  refine List.nodup_cons.2 ⟨fun h=>?_,F.nd⟩
  have h2:=(F.new 0 h).1
  simp only at h2
  rw[cC (by simp;omega)]at h2
  simp at h2
 have G:=zU.gr (at':=(List.range c.b.length).map fun x=>if x∈O then((sV O x:Nat):Int) else -1) (mF hc) lZ (by omega) ⟨S,hv⟩ (by simp) (fun i x hx=>by
  have hxO:=List.mem_of_getElem? hx
  have hxN:=D.b.lt x hxO
  rw[List.getElem?_map,List.getElem?_range hxN]
  simp[hxO,wJ nd hx]) (fun x hx hn=>by
  rw[List.getElem?_map,List.getElem?_range hx]
  simp[hn])
 have e:gL (nG c)=edg c:=funext fun b=>yW
 rw[G.path,e]
inductive Ox (c:Code):Ru->Prop
 | no {b:Nat}(hb:b<c.b.length) (hp:¬Path (edg c) 0 b):Ox c (Mj b)
 | dep {b a:Nat}{A:Block}(hb:b<c.b.length) (hp:Path (edg c) 0 b) (hd:Mx c a b) (hA:c.b[a]?=some A):Ox c (wZ b a A.t)
 | inst {b:Nat}{B:Block}{x:aG}(hB:c.b[b]?=some B) (hp:Path (edg c) 0 b) (hx:x∈B.i) (h0:0<=dw x.d):Ox c (nC b x)
 | fin {b:Nat}{B:Block}(hB:c.b[b]?=some B) (hp:Path (edg c) 0 b) (h0:0<=dw B.t.d):Ox c ⟨wh (dw B.t.d),[],true⟩
theorem sx {c:Code}{r:Ru}:r∈oH c↔Ox c r:=by
 constructor
 ·intro hr
  simp only[oH,tY,gf,List.mem_flatMap,List.mem_range]at hr
  obtain⟨b,hb,hr⟩:=hr
  obtain⟨B,hB⟩:∃B,c.b[b]?=some B:=⟨c.b[b],List.getElem?_eq_getElem hb⟩
  unfold rM at hr
  cases hp:hasB (sU c) b
  ·rw[hp]at hr
   simp at hr;subst hr
   exact .no hb fun k=>by rw[(jZ hb).2 k]at hp;cases hp
  ·have hp':=(jZ hb).1 hp
   rw[hp,if_pos rfl,pL hB]at hr
   rcases List.mem_append.1 hr with hr|hr
   ·rcases List.mem_append.1 hr with hr|hr
    ·simp only[gD,List.mem_map]at hr
     obtain⟨a,ha,rfl⟩:=hr
     rw[Bk hb]at ha
     obtain⟨haN,hd⟩:=x7.1 ha
     obtain⟨A,hA⟩:∃A,c.b[a]?=some A:=⟨c.b[a],List.getElem?_eq_getElem haN⟩
     rw[pL hA]
     exact .dep hb hp' hd hA
    ·simp only[gg,List.mem_map,List.mem_filter,decide_eq_true_eq]at hr
     obtain⟨x,⟨hx,h0⟩,rfl⟩:=hr
     exact .inst hB hp' hx h0
   ·unfold y4 at hr
    split at hr
    ·rename_i h0
     simp at hr;subst hr
     exact .fin hB hp' h0
    ·cases hr
 ·intro h
  have key:∀{b:Nat},b<c.b.length->r∈rM c (sU c) (xP c) b->r∈oH c:=fun hb hr=>List.mem_flatMap.2 ⟨_,List.mem_range.2 hb,hr⟩
  cases h with
  | @no b hb hp =>
   refine key hb ?_
   unfold rM
   have:hasB (sU c) b=false:=by
    cases h:hasB (sU c) b
    ·rfl
    ·exact absurd ((jZ hb).1 h) hp
   rw[this];simp
  | @dep b a A hb hp hd hA =>
   refine key hb ?_
   unfold rM
   rw[(jZ hb).2 hp,if_pos rfl]
   refine List.mem_append_left _ (List.mem_append_left _ ?_)
   simp only[gD,List.mem_map]
   refine⟨a,?_,by rw[pL hA]⟩
   rw[Bk hb]
   exact x7.2 ⟨(List.getElem?_eq_some_iff.1 hA).1,hd⟩
  | @inst b B x hB hp hx h0 =>
   have hb:=(List.getElem?_eq_some_iff.1 hB).1
   refine key hb ?_
   unfold rM
   rw[(jZ hb).2 hp,if_pos rfl,pL hB]
   refine List.mem_append_left _ (List.mem_append_right _ ?_)
   exact List.mem_map.2 ⟨x,List.mem_filter.2 ⟨hx,by simpa using h0⟩,rfl⟩
  | @fin b B hB hp h0 =>
   have hb:=(List.getElem?_eq_some_iff.1 hB).1
   refine key hb ?_
   unfold rM
   rw[(jZ hb).2 hp,if_pos rfl,pL hB]
   refine List.mem_append_right _ ?_
   unfold y4;rw[if_pos h0];simp
end Go.Am
