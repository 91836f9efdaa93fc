/- What the functions of this chapter give, on plain data. No condition. -/
import Derived.Test.YtjhjndjghaagiaaZ1
set_option linter.unnecessarySimpa false
set_option linter.defProp false
set_option linter.unusedSectionVars false
set_option linter.unusedSimpArgs false
set_option linter.unusedVariables false
namespace Go.Am
open Go Go.Proofs
section
variable {h:Heap}{F:LSq}{KH:HKq}{nB:Nat}{A:List (Nat×Block)}
theorem OB.Qg:OB h nB A F↔Vs h (F++(nB,.arr 14 (A.map Lu))::A.map OM) :=
 ⟨fun V=>Vs.perm (List.perm_append_comm (l₁:=(nB,.arr 14 (A.map Lu))::A.map OM) (l₂:=F)) V,fun V=>V.perm (List.perm_append_comm (l₁:=F) (l₂:=(nB,.arr 14 (A.map Lu))::A.map OM))⟩
theorem OB.alloc (V:OB h nB A F){d:D}(hK:∀n h',OB h' nB A ((n,.box d)::F)->KH (.ptr n 0 0) h'):aa PP (.alloc d) h KH :=
 (OB.Qg.1 V).alloc fun n h' V'=>hK n h' (OB.Qg.2 V')
theorem OB.less {x:Nat×Slot}(V:OB h nB A (x::F)):OB h nB A F:=OB.Qg.2 (OB.Qg.1 V).pop
end
section
variable {c:Code}{h:Heap}{nA nL nB n13 n2:Nat}{bs:List Nat}{A:List (Nat×Block)}
end
end Go.Am
namespace Go.Am
open Go Go.Proofs
theorem JO {c:Code}(hc:ec c):aQ PP fF [c.e] (· = .sl (bL (nK c))) :=
 aQ.mono (fun r hr=>by obtain⟨S,rfl,h1,h2⟩:=hr;rw[Fw h1 h2]) (Gb hc)
theorem Fx (bs:List Nat):uL (ud bs):=gz (by simp[uN])
end Go.Am
namespace Go.Am
open Go Go.Proofs
set_option maxRecDepth 100000
theorem QL:Try.prog.underlying 22=some (.slice 5):=by kernel_rfl
theorem QK:Try.prog.underlying 5=some (.int .u8):=by kernel_rfl
theorem t24:structL Try.prog 24=some [(22,0)]:=by kernel_rfl
theorem z24:Try.prog.cellsOf 24=1:=by kernel_rfl
theorem z22:Try.prog.cellsOf 22=1:=by kernel_rfl
theorem z5:Try.prog.cellsOf 5=1:=by kernel_rfl
theorem HX:IntKind.u8.min=0:=rfl
theorem Mn:IntKind.u8.max=255:=rfl
theorem OU {m:Nat}{ds:List D}(h:HasTy Try.prog (m+2) 22 ds):∃bs:List Nat,ds=[uN bs]/\(∀b∈bs,b<=255)/\bs.length<=9223372036854775807:=by
 obtain⟨xs,h1,h2,h3⟩:=Eo QL QK h
 refine⟨xs.map Int.toNat,?_,fun b hb=>?_,by unfold maxLen at h2;simp;omega⟩
 ·rw[h1,uN,List.map_map]
  congr 2
  refine List.map_congr_left fun x hx=>?_
  have:=h3 x hx
  rw[HX]at this
  show D.int .u8 x=D.int .u8 ((x.toNat:Nat):Int)
  rw[Int.toNat_of_nonneg this.1]
 ·simp only[List.mem_map]at hb
  obtain⟨x,hx,rfl⟩:=hb
  have:=h3 x hx
  rw[HX,Mn]at this
  omega
theorem Np {m:Nat}{ds:List D}(h:HasTy Try.prog (m+3) 24 ds):∃bs:List Nat,mkElem Try.prog 24 ds=ud bs/\(∀b∈bs,b<=255)/\bs.length<=9223372036854775807:=by
 obtain⟨k1,k2⟩:=Bz t24 h
 rw[z24]at k1
 have q:=k2 (22,0) (by simp)
 simp only[z22,List.drop_zero]at q
 match ds,k1 with
 | [d],_ =>
  obtain⟨bs,e1,hb,hbl⟩:=OU q
  simp at e1
  subst e1
  exact⟨bs,by rw[GM t24,ud],hb,hbl⟩
theorem M4 {m:Nat}{ds:List D}(h:HasTy Try.prog (m+1) 5 ds):∃x:Nat,ds=[.int .u8 (x:Int)]/\x<=255:=by
 obtain⟨g,h1,h2,h3⟩:=AG QK h
 rw[HX]at h2;rw[Mn]at h3
 exact⟨g.toNat,by rw[h1,Int.toNat_of_nonneg h2],by omega⟩
end Go.Am
namespace Go.Am
open Go Go.Proofs
def Qn:Term:=⟨5,0,au,au,au,0,0⟩
def N5:Block:=⟨[],Qn⟩
def kr (c:Code):Code:={ c with b:=c.b++[N5] }
theorem gx {c:Code}:(kr c).b.length=c.b.length+1:=by simp[kr]
theorem N4 {c:Code}(hc:pV c):ja (kr c):=by
 have hi:=hc.u
 have hnb:=hc.nb
 refine⟨⟨by rw[gx];omega,fun B hB=>?_⟩,fun B hB x hx=>?_,fun B hB=>?_,hi.rg⟩
 ·rw[gx]
  rcases List.mem_append.1 hB with hB|hB
  ·exact(hi.g.t B hB).mono (by omega) (Int.le_refl _)
  ·simp at hB;subst hB;exact .exit
 ·rcases List.mem_append.1 hB with hB|hB
  ·exact hi.i B hB x hx
  ·simp at hB;subst hB;simp[N5]at hx
 ·rcases List.mem_append.1 hB with hB|hB
  ·exact hi.len B hB
  ·simp at hB;subst hB;simp[N5]
theorem Lr {c:Code}{b:Nat}(h:b<c.b.length):edg (kr c) b=edg c b:=by
 unfold edg kr
 simp only
 rw[List.getElem?_append_left h]
theorem Jj {c:Code}(hc:ec c){x:Nat}(h:Path (edg (kr c)) 0 x):x<c.b.length:=by
 have hnb:=hc.nb
 induction h with
 | refl=>omega
 | step _ e ih=>rw[Lr ih]at e;exact BJ hc e
theorem C4 {c:Code}(hc:ec c):¬Path (edg (kr c)) 0 c.b.length:=fun h=>by have:=Jj hc h;omega
def Nv (c:Code) (n:Int):Prop:=∃r,r∈oA c/\r.of=yO n/\r.never=true
theorem Nv.not {c:Code}{n:Int}(h:Nv c n):¬Gf (oA c) (yO n):=by
 obtain⟨r,hr,e,hn⟩:=h
 rw[<- e]
 intro k
 have:=(Gf.closed _ r hr k).1
 rw[hn]at this;cases this
theorem Nv.RW {c:Code}{n:Nat}{U R:List Bool}(h:Nv c (n:Int)) (hn:n<R.length):kB c U (R.set n true)=false:=by
 obtain⟨r,hr,e,hv⟩:=h
 cases hc:kB c U (R.set n true)
 ·rfl
 ·exfalso
  unfold kB at hc
  simp only[Bool.and_eq_true,List.all_eq_true]at hc
  have:=oJ.1 (hc.2 r hr) (by
   rw[e]
   show hasB (R.set n true) ((n:Int)).toNat=true
   rw[Int.toNat_natCast,bZ hn];simp)
  rw[hv]at this;cases this.1
theorem Dj {c:Code}{U R:List Bool}(h:U.length≠c.b.length):kB c U R=false:=by
 unfold kB;rw[decide_eq_false h];rfl
theorem Di {c:Code}{U R:List Bool}(h:(R.length:Int)≠c.regs):kB c U R=false:=by
 unfold kB;rw[decide_eq_false h];simp
theorem Oi {c:Code}{U R:List Bool}{b:Nat}(hb:b<c.b.length) (hp:¬Path (edg c) 0 b) (hU:b<U.length):kB c (U.set b true) R=false:=by
 cases hc:kB c (U.set b true) R
 ·rfl
 ·exfalso
  unfold kB at hc
  simp only[Bool.and_eq_true,List.all_eq_true]at hc
  have:=oJ.1 (hc.2 _ (yh.2 (.no hb hp))) (by
   show hasB (U.set b true) ((b:Int)).toNat=true
   rw[Int.toNat_natCast,bZ hU];simp)
  cases this.1
theorem Nv.fin {c:Code}{b:Nat}{B:Block}(hB:c.b[b]?=some B) (hp:Path (edg c) 0 b) (h0:0<=du B.t.d):Nv c (du B.t.d):=⟨_,yh.2 (.fin hB hp h0),rfl,rfl⟩
theorem Nv.inst {c:Code}{b:Nat}{B:Block}{x:aP}(hB:c.b[b]?=some B) (hp:Path (edg c) 0 b) (hx:x∈B.i) (h0:0<=du x.d) (hv:eW x=true):Nv c (du x.d):=⟨_,yh.2 (.inst hB hp hx h0),rfl,hv⟩
theorem Ck {x:aP}(h:x.op=7):eW x=true:=by unfold eW;simp[h]
theorem Gt {x:aP}(h:x.op=5) (hs:x.sub=1\/x.sub=2):eW x=true:=by
 unfold eW
 rcases hs with e|e<;>simp[h,e]
end Go.Am
namespace Go.Am
open Go Go.Proofs
structure Gm (c:Code) (sA sL sB:Slot) (els:List D):Prop where
 a:sA.row=some (4,c.arrays.map qJ.e)
 l:sL.row=some (3,c.loops.map Loop.e)
 b:sB.row=some (14,els)
 len:els.length=c.b.length
 wk:Wk (.sl els) (.sl (c.b.map Block.e))
 vo:∀x∈els,∀y∈x.cells,y.vone=true
theorem Gm.frz {c:Code}{sA sL sB:Slot}{els:List D}(O:Gm c sA sL sB els):Gm c (.frz 4 (c.arrays.map qJ.e)) (.frz 3 (c.loops.map Loop.e)) (.frz 14 els) els:=⟨rfl,rfl,rfl,O.len,O.wk,O.vo⟩
def Qp (c:Code) (els:List D):D:=.agg [.int .i64 c.group,.int .i64 c.sub,.int .i64 c.regs,.int .i64 c.slots,.int .i64 c.params,.sl (c.arrays.map qJ.e),.sl (c.loops.map Loop.e),.sl els]
theorem Gm.Rw {c:Code}{sA sL sB:Slot}{els:List D}(O:Gm c sA sL sB els):Wk (Qp c els) c.e :=
 Wk.Mb (.cons (.refl _) (.cons (.refl _) (.cons (.refl _) (.cons (.refl _) (.cons (.refl _) (.cons (.refl _) (.cons (.refl _) (.cons O.wk .nil))))))))
section
variable {c:Code}{h:Heap}{L:LSq}{nA nL nB:Nat}{sA sL sB:Slot}{els:List D}
theorem EF (O:Gm c sA sL sB els) (hA:h nA=sA) (hL:h nL=sL) (hB:h nB=sB) :
  aH (oo c (.ms nA 0 c.arrays.length) (.ms nL 0 c.loops.length) (.ms nB 0 c.b.length))/\kG h (oo c (.ms nA 0 c.arrays.length) (.ms nL 0 c.loops.length) (.ms nB 0 c.b.length))/\(oo c (.ms nA 0 c.arrays.length) (.ms nL 0 c.loops.length) (.ms nB 0 c.b.length)).fz h=Qp c els/\(Qp c els).vd=true:=by
 have rB:(h nB).row=some (14,els):=by rw[hB];exact O.b
 have rL:(h nL).row=some (3,c.loops.map Loop.e):=by rw[hL];exact O.l
 have rA:(h nA).row=some (4,c.arrays.map qJ.e):=by rw[hA];exact O.a
 refine⟨fun x hx=>by simp[D.cells]at hx;rcases hx with rfl|rfl|rfl|rfl|rfl|rfl|rfl|rfl<;>rfl,?_,?_,rfl⟩
 ·intro x hx
  simp only[D.cells,List.mem_cons,List.not_mem_nil,or_false]at hx
  rcases hx with rfl|rfl|rfl|rfl|rfl|rfl|rfl|rfl
  iterate 5 trivial
  ·refine⟨4,_,rA,by simp,fun x hx y hy=>?_⟩
   have hx':x∈c.arrays.map qJ.e:=List.mem_of_mem_drop (List.mem_of_mem_take hx)
   simp only[List.mem_map]at hx'
   obtain⟨a,-,rfl⟩:=hx'
   simp[qJ.e,D.cells]at hy;rcases hy with rfl|rfl|rfl|rfl<;>rfl
  ·refine⟨3,_,rL,by simp,fun x hx y hy=>?_⟩
   have hx':x∈c.loops.map Loop.e:=List.mem_of_mem_drop (List.mem_of_mem_take hx)
   simp only[List.mem_map]at hx'
   obtain⟨a,-,rfl⟩:=hx'
   simp[Loop.e,D.cells]at hy;rcases hy with rfl|rfl|rfl<;>rfl
  ·exact⟨14,_,rB,by rw[O.len];omega,fun x hx y hy=>O.vo x (List.mem_of_mem_drop (List.mem_of_mem_take hx)) y hy⟩
 ·have e1:els.take c.b.length=els:=List.take_of_length_le (by rw[O.len];omega)
  have e2:(c.loops.map Loop.e).take c.loops.length=c.loops.map Loop.e:=List.take_of_length_le (by rw[List.length_map];omega)
  have e3:(c.arrays.map qJ.e).take c.arrays.length=c.arrays.map qJ.e:=List.take_of_length_le (by rw[List.length_map];omega)
  simp only[D.fz,List.map_cons,List.map_nil,D.fzc,rA,rL,rB,List.drop_zero,e1,e2,e3]
  rfl
theorem AT {f:FuncId}{R:D->Prop}{na nl nb:Nat}{KH:HKq}(O:Gm c sA sL sB els) (V:Vs h ((nB,sB)::(nL,sL)::(nA,sA)::L)) (hv:aQ PP f [c.e] R) (ea:na=c.arrays.length) (el:nl=c.loops.length) (eb:nb=c.b.length)
  (hK:∀r h' sA' sL' sB',R r->Gm c sA' sL' sB' els->Vs h' ((nB,sB')::(nL,sL')::(nA,sA')::L)->KH r h'):af PP f [oo c (.ms nA 0 na) (.ms nL 0 nl) (.ms nB 0 nb)] h KH:=by
 subst ea;subst el;subst eb
 obtain⟨g1,g2,g3,g4⟩:=EF O (V.get 2 _ _ rfl) (V.get 1 _ _ rfl) (V.get 0 _ _ rfl)
 have hB:=V.get 0 _ _ rfl
 have hL:=V.get 1 _ _ rfl
 have hA:=V.get 2 _ _ rfl
 have rB:(h nB).row=some (14,els):=by rw[hB];exact O.b
 have rL:(h nL).row=some (3,c.loops.map Loop.e):=by rw[hL];exact O.l
 have rA:(h nA).row=some (4,c.arrays.map qJ.e):=by rw[hA];exact O.a
 refine af.mono ?_ (cL (K:=R) (by rw[List.map_cons,g3];exact aQ.arg (.cons O.Rw .nil) hv) fun d hd=>?_)
 ·rintro r h' ⟨hr,k1,k2⟩
  by_cases hf:r.flat=true\/[oo c (.ms nA 0 c.arrays.length) (.ms nL 0 c.loops.length) (.ms nB 0 c.b.length)].flatMap D.nm=[]
  ·rw[k1 hf]
   exact hK r h sA sL sB hr O V
  ·rw[k2 hf]
   have enm:[oo c (.ms nA 0 c.arrays.length) (.ms nL 0 c.loops.length) (.ms nB 0 c.b.length)].flatMap D.nm=[nA,nL,nB]:=by simp[D.nm,D.jc]
   rw[enm]
   refine hK r _ (.frz 4 (c.arrays.map qJ.e)) (.frz 3 (c.loops.map Loop.e)) (.frz 14 els) hr O.frz ?_
   have I:=Vs.iff.1 V
   have nd:=I.2
   rw[Vs.iff]
   refine⟨fun n s hs=>?_,by simpa using nd⟩
   simp only[List.mem_cons]at hs
   rcases hs with e|e|e|hs
   ·cases e;exact⟨b8 _ rB (by simp),by simp⟩
   ·cases e;exact⟨b8 _ rL (by simp),by simp⟩
   ·cases e;exact⟨b8 _ rA (by simp),by simp⟩
   ·have hI:=I.1 n s (by simp[hs])
    refine⟨?_,hI.2⟩
    have hnF:n∈L.map Prod.fst:=List.mem_map.2 ⟨_,hs,rfl⟩
    simp only[List.map_cons,List.nodup_cons,List.mem_cons,not_or]at nd
    rw[eK]
    ·exact hI.1
    ·simp only[List.mem_cons,List.not_mem_nil,or_false,not_or]
     exact⟨fun e=>nd.2.2.1 (e ▸ hnF),fun e=>nd.2.1.2 (e ▸ hnF),fun e=>nd.1.2.2 (e ▸ hnF)⟩
 ·simp at hd;subst hd
  exact⟨g1,g2,by rw[g3];exact g4⟩
theorem F9 {vU vR:D}{U R:List Bool}(V:Vs h L) (wU:BW L vU U) (wR:BW L vR R):aH (.agg [vU,vR])/\kG h (.agg [vU,vR])/\(D.agg [vU,vR]).fz h=uE U R:=by
 have key:∀{v:D}{T:List Bool},BW L v T->v.one=true/\mo h v/\v.fzc h=.sl (bL T):=fun {v T} w=>by
  rcases w with rfl|⟨m,rfl,hm⟩
  ·exact⟨rfl,trivial,rfl⟩
  ·have hr:(h m).row=some (1,bL T):=by rw[V.mem hm];rfl
   refine⟨rfl,⟨1,_,hr,by simp[bL],fun x hx y hy=>?_⟩,?_⟩
   ·have hx:=List.mem_of_mem_drop (List.mem_of_mem_take hx)
    simp only[bL,List.mem_map]at hx;obtain⟨b,-,rfl⟩:=hx
    simp[D.cells]at hy;subst hy;rfl
   ·simp only[D.fzc,hr,List.drop_zero]
    rw[List.take_of_length_le (by simp[bL])]
 obtain⟨a1,a2,a3⟩:=key wU
 obtain⟨b1,b2,b3⟩:=key wR
 refine⟨fun x hx=>by simp[D.cells]at hx;rcases hx with rfl|rfl<;>assumption,fun x hx=>by simp[D.cells]at hx;rcases hx with rfl|rfl<;>assumption,?_⟩
 simp only[D.fz,List.map_cons,List.map_nil,a3,b3];rfl
theorem P0 (hc:ja c) (O:Gm c sA sL sB els){U R:List Bool}:aQ PP aC [Qp c els,uE U R] (· = .int .i64 (if kB c U R then 0 else 100)) :=
 aQ.arg (.cons O.Rw (.cons (.refl _) .nil)) (LU hc (Or.inl rfl) (Or.inl rfl))
theorem Og {vU vR:D}{U R:List Bool}{K:D->Prop}(hc:ja c) (O:Gm c sA sL sB els) (V:Vs h L) (hA:(nA,sA)∈L) (hL:(nL,sL)∈L) (hB:(nB,sB)∈L) (wU:BW L vU U) (wR:BW L vR R) (hK:K (.int .i64 (if kB c U R then 0 else 100))) :
  ab PP (.call aC [.c (oo c (.ms nA 0 c.arrays.length) (.ms nL 0 c.loops.length) (.ms nB 0 c.b.length)),.c (.agg [vU,vR])]) h K:=by
 obtain⟨g1,g2,g3,g4⟩:=EF O (V.mem hA) (V.mem hL) (V.mem hB)
 obtain⟨k1,k2,k3⟩:=F9 V wU wR
 refine⟨.int .i64 (if kB c U R then 0 else 100),?_,?_,Or.inl rfl,hK⟩
 ·simp only[List.map_cons,List.map_nil,Arg.get,g3,k3]
  exact P0 hc O
 ·intro d hd
  simp only[List.map_cons,List.map_nil,Arg.get,List.mem_cons,List.not_mem_nil,or_false]at hd
  rcases hd with rfl|rfl
  ·exact⟨g1,g2,by rw[g3];exact g4⟩
  ·exact⟨k1,k2,by rw[k3];rfl⟩
theorem OF {vU vR:D}{U R:List Bool}{KH:HKq}(hc:ja c) (O:Gm c sA sL sB els) (V:Vs h L) (hA:(nA,sA)∈L) (hL:(nL,sL)∈L) (hB:(nB,sB)∈L) (wU:BW L vU U) (wR:BW L vR R) (hK:KH (.int .i64 (if kB c U R then 0 else 100)) h) :
  af PP aC [oo c (.ms nA 0 c.arrays.length) (.ms nL 0 c.loops.length) (.ms nB 0 c.b.length),.agg [vU,vR]] h KH:=by
 obtain⟨g1,g2,g3,g4⟩:=EF O (V.mem hA) (V.mem hL) (V.mem hB)
 obtain⟨k1,k2,k3⟩:=F9 V wU wR
 refine af.mono ?_ (cL (K:=(· = .int .i64 (if kB c U R then 0 else 100))) (by simp only[List.map_cons,List.map_nil,g3,k3];exact P0 hc O) fun d hd=>?_)
 ·rintro r h' ⟨rfl,q1,-⟩
  rw[q1 (Or.inl rfl)]
  exact hK
 ·simp only[List.mem_cons,List.not_mem_nil,or_false]at hd
  rcases hd with rfl|rfl
  ·exact⟨g1,g2,by rw[g3];exact g4⟩
  ·exact⟨k1,k2,by rw[k3];rfl⟩
theorem Nl {n k:Nat}{KH:HKq}(hr:(h n).row=some (14,els)){len:Nat}(hk:k<len):aa PP (.iadd (.c (.ms n 0 len)) (.c (.int .i64 (k:Int))) 14) h KH=KH (.ptr n k 0) h:=by
 rw[jT]
 apply propext
 constructor
 ·exact fun hh=>by simpa using hh.2.2.2
 ·exact fun hk'=>⟨by omega,by omega,⟨els,hr⟩,by simpa using hk'⟩
theorem sE {s:Slot}{esz:Nat}{els:List D}(h:s.row=some (esz,els)):s=.arr esz els\/s=.frz esz els:=by
 cases s<;>simp[Slot.row]at h
 ·obtain⟨rfl,rfl⟩:=h;exact Or.inl rfl
 ·obtain⟨rfl,rfl⟩:=h;exact Or.inr rfl
theorem Nm {n k o:Nat}{j:Nat}{KH:HKq}(hr:(h n).row=some (14,els)):aa PP (.fadd (.c (.ptr n k j)) o) h KH=KH (.ptr n k (j+o)) h:=by
 rw[jy]
 rcases sE hr with e|e<;>(rw[e];apply propext;exact⟨fun hh=>hh.2,fun hk=>⟨rfl,hk⟩⟩)
theorem Mt {n k off:Nat}{cs:List D}{d:D}{KH:HKq}(hr:(h n).row=some (14,els)) (he:els[k]?=some (.agg cs)) (hd:cs[off]?=some d):aa PP (.ld (.c (.ptr n k off)) 1 false) h KH=KH d h:=by
 obtain⟨h1,h2⟩:=List.getElem?_eq_some_iff.1 he
 rcases sE hr with e|e<;>(rw[rf,e];simp[eg,h1,h2,D.cells,hd])
theorem Pg {n k off len:Nat}{cs:List D}{d:D}{KH:HKq}(hr:(h n).row=some (14,els)) (he:els[k]?=some (.agg cs)) (hl:off+len<=cs.length) (hd:.agg ((cs.drop off).take len)=d):aa PP (.ld (.c (.ptr n k off)) len true) h KH=KH d h:=by
 obtain⟨h1,h2⟩:=List.getElem?_eq_some_iff.1 he
 rcases sE hr with e|e<;>(rw[rf,e];simp[iu,h1,h2,D.cells,hl,hd])
theorem Ms {n len:Nat}{K:D->Prop}(hr:(h n).row=some (14,els)):aS (.ms n 0 len) h K=K (.int .i64 (len:Int)):=by
 rw[bo]
 rcases sE hr with e|e<;>(rw[e];apply propext;exact⟨fun hh=>hh.2,fun hk=>⟨rfl,hk⟩⟩)
end
end Go.Am
namespace Go.Am
open Go Go.Proofs
def Rt (v:D) (l:List aP):Prop:=v=.sl (l.map aP.e)\/(v=.nil/\l=[])
theorem Rt.len {v:D}{l:List aP}(w:Rt v l){h:Heap}{K:D->Prop}:aS v h K=K (.int .i64 (l.length:Int)):=by
 rcases w with rfl|⟨rfl,rfl⟩
 ·rw[eG,List.length_map]
 ·rw[ox];rfl
structure RE (c:Code) (els:List D):Prop where
 len:els.length=c.b.length
 el:∀(b:Nat) (B:Block),c.b[b]?=some B->∃v,els[b]?=some (.agg (v::B.t.cs))/\Rt v B.i
section
variable {c:Code}{h:Heap}{L:LSq}{nA nL nB n14 n38 y:Nat}{sA sL sB:Slot}{els:List D}
structure P8 (c:Code) (L:LSq) (nA nL nB n14 n38:Nat) (sA sL sB:Slot) (els:List D):Prop where
 o:Gm c sA sL sB els
 e:RE c els
 hA:(nA,sA)∈L
 hL:(nL,sL)∈L
 hB:(nB,sB)∈L
 h14:(n14,.box (oo c (.ms nA 0 c.arrays.length) (.ms nL 0 c.loops.length) (.ms nB 0 c.b.length)))∈L
 h38:(n38,.box (uE (CR c (oA c)) (Ad c (oA c))))∈L
theorem P8.mono {L':LSq}(u:P8 c L nA nL nB n14 n38 sA sL sB els) (hs:∀x∈L,x∈L'):P8 c L' nA nL nB n14 n38 sA sL sB els:=⟨u.o,u.e,hs _ u.hA,hs _ u.hL,hs _ u.hB,hs _ u.h14,hs _ u.h38⟩
def OI (B:Block) (m:Int):Prop:=m=du B.t.d\/∃x,x∈B.i/\m=du x.d/\eW x=true
theorem HT (hc:ja c) (u:P8 c L nA nL nB n14 n38 sA sL sB els) (V:Vs h L){b:Nat}{B:Block}(hB:c.b[b]?=some B) (hy:y<=255){f g:Nat->D}(f1:f 1=.int .u8 (y:Int)) (f6:f 6=.ptr n14 0 0) (gb:g 12=nD b){a103:D}{J:HJq}(hJ:∀m h',OI B m->Vs h' L->J [.int .i64 m] h') :
  cN (.int .i64 (du B.t.d)) h f g a103 J:=by
 have hb:=(List.getElem?_eq_some_iff.1 hB).1
 obtain⟨iv,he,wi⟩:=u.e.el b B hB
 have hBl:=hc.len B (List.mem_of_getElem? hB)
 unfold cN
 refine⟨fun m q h'=>∃(r:Int) (k:Nat),q=[.int .i64 r,nD k]/\k<=B.i.length/\m=B.i.length-k/\OI B r/\Vs h' L,_,⟨du B.t.d,0,rfl,by omega,rfl,Or.inl rfl,V⟩,?_⟩
 rintro m g' h1 ⟨r,k,hq,hk,hm,hr,V1⟩
 simp only[List.cons.injEq,and_true]at hq
 obtain⟨q1,q2⟩:=hq
 have rB:(h1 nB).row=some (14,els):=by rw[V1.mem u.hB];exact u.o.b
 simp only[f1,f6,gb,q1,q2,nD]
 rw[V1.NX u.h14,V1.Ej u.h14 (j:=0+7) rfl,Nl rB hb,Nm rB,Mt rB he rfl,wi.len]
 by_cases hlt:k<B.i.length
 ·obtain⟨x,hx⟩:∃x,B.i[k]?=some x:=⟨B.i[k],List.getElem?_eq_getElem hlt⟩
  have hxm:=List.mem_of_getElem? hx
  have eiv:iv=.sl (B.i.map aP.e):=by
   rcases wi with h|⟨-,h⟩
   ·exact h
   ·rw[h]at hlt;simp at hlt
  subst eiv
  rw[sZ (by omega),ai]
  refine⟨fun q h'=>∃r:Int,q=[.int .i64 r]/\OI B r/\Vs h' L,?_,?_⟩
  ·rintro f' h' ⟨r',hq',hr',V'⟩
   simp only[List.cons.injEq,and_true]at hq'
   rw[hq',gE (by omega) (by omega)]
   simp only[ae,true_and]
   exact⟨_,by omega,r',k+1,rfl,by omega,rfl,hr',V'⟩
  rw[V1.NX u.h14,V1.Ej u.h14 (j:=0+7) rfl,Nl rB hb,Nm rB,Mt rB he rfl,mM (esz:=15) (d:=x.e) (by omega) (by rw[Int.toNat_natCast,List.getElem?_map,hx];rfl) rfl,show x.e=.agg x.cs from rfl,Ei (s:=15) rfl]
  refine V1.alloc fun nx h2 V2=>?_
  refine V2.xt 0 (cs':=x.cs) rfl rfl rfl (fun z hz=>x.gg.one z hz) fun h3 V3=>?_
  simp only[List.set_cons_zero]at V3
  rw[V3.fa 0 rfl,V3.fe 0 (j:=0+0) (cs:=x.cs) rfl rfl,de]
  have fin:∀{h':Heap},Vs h' ((nx,.box (.agg x.cs))::L)->eW x=true->aa PP (.ld (.c (.ptr nx 0 0)) 15 true) h' fun a302 h303=>af PP ju [a302] h303 fun a304 h305=>∃r':Int,[a304]=[.int .i64 r']/\OI B r'/\Vs h305 L:=fun {h'} V' hv=>by
   rw[V'.re 0 (s:=15) rfl rfl,show D.agg x.cs=x.e from rfl]
   refine fv JQ (fun d hd=>by simp at hd;subst hd;exact x.gg.pair) ?_
   rintro _ rfl
   exact⟨du x.d,rfl,Or.inr ⟨x,hxm,rfl,hv⟩,V'.pop⟩
  by_cases h7:x.op=7
  ·rw[decide_eq_true h7]
   simp only[↓gS,ae,true_and]
   exact fin V3 (Ck h7)
  ·rw[decide_eq_false h7]
   simp only[↓gS]
   rw[V3.fa 0 rfl,V3.fe 0 (j:=0+0) (cs:=x.cs) rfl rfl,de]
   by_cases h5:x.op=5
   ·rw[decide_eq_true h5]
    simp only[↓gS]
    have w:IntKind.i64.wrap ((y % 2:Nat):Int)=((y % 2:Nat):Int):=wrap64 (by omega) (by omega)
    rw[V3.fa 0 rfl,V3.fe 0 (j:=0+1) (cs:=x.cs) rfl rfl,cq]
    refine⟨by omega,?_⟩
    rw[show((y:Int).tmod 2)=((y % 2:Nat):Int) from aZ y 2,nP,w,gE (by omega) (by omega),de]
    by_cases hs:x.sub=1+((y % 2:Nat):Int)
    ·rw[decide_eq_true hs]
     simp only[↓gS,ae,true_and]
     refine fin V3 (Gt h5 ?_)
     have:y % 2=0\/y % 2=1:=by omega
     rcases this with e|e
     ·left;rw[hs,e];rfl
     ·right;rw[hs,e];rfl
    ·rw[decide_eq_false hs]
     simp only[↓gS,ae,true_and]
     exact⟨r,rfl,hr,V3.pop⟩
   ·rw[decide_eq_false h5]
    simp only[↓gS,ae,true_and]
    exact⟨r,rfl,hr,V3.pop⟩
 ·have:k=B.i.length:=by omega
  subst this
  rw[sG (by omega),ah]
  simp only[ae,true_and]
  exact hJ r h1 hr V1
theorem OI.nv (hc:ja c){b:Nat}{B:Block}(hB:c.b[b]?=some B) (hp:Path (edg c) 0 b){m:Int}(h0:0<=m) (h:OI B m):Nv c m/\m<c.regs:=by
 have key:Nv c m:=by
  rcases h with rfl|⟨x,hx,rfl,hv⟩
  ·exact Nv.fin hB hp h0
  ·exact Nv.inst hB hp hx h0 hv
 refine⟨key,?_⟩
 obtain⟨r,hr,e,-⟩:=key
 have:=(Ip hc r hr).of
 rw[e]at this
 exact this.2.2 rfl
theorem Gu (hc:ja c) (u:P8 c L nA nL nB n14 n38 sA sL sB els) (V:Vs h L) (hy:y<=255){f:Nat->D}(f1:f 1=.int .u8 (y:Int)) (f6:f 6=.ptr n14 0 0) (f7:f 7=.ptr n38 0 0){J:HJq}{K:HKq}(hJ:∀h',J [] h') :
  cM h f (.sl (bL (nK c))) J K:=by
 have hnb:=hc.g.nb
 have hrg:=hc.rg
 have hUl:(CR c (oA c)).length=c.b.length:=yo
 have hRl:(Ad c (oA c)).length=c.regs.toNat:=yp
 unfold cM
 refine⟨fun m q h'=>∃b:Nat,q=[nD b]/\b<=c.b.length/\m=c.b.length-b/\Vs h' L,_,⟨0,rfl,by omega,rfl,V⟩,?_⟩
 rintro m g h1 ⟨b,hq,hb,hm,V1⟩
 simp only[List.cons.injEq,and_true]at hq
 have rB:∀{h':Heap}{L':LSq},Vs h' L'->(∀x∈L,x∈L')->(h' nB).row=some (14,els):=fun V' hs=>by rw[V'.mem (hs _ u.hB)];exact u.o.b
 simp only[f6,f7,hq,nD]
 rw[V1.NX u.h14,V1.Ej u.h14 (j:=0+7) rfl,Ms (rB V1 fun _ h=>h)]
 by_cases hlt:b<c.b.length
 ·rw[sZ (by omega),ai]
  obtain⟨B,hB⟩:∃B,c.b[b]?=some B:=⟨c.b[b],List.getElem?_eq_getElem hlt⟩
  obtain⟨iv,he,wi⟩:=u.e.el b B hB
  refine⟨fun _ h'=>Vs h' L,?_,?_⟩
  ·rintro f' h' V'
   rw[gE (by omega) (by omega)]
   simp only[ae,true_and]
   exact⟨_,by omega,b+1,rfl,by omega,rfl,V'⟩
  rw[V1.NX u.h14,V1.Ej u.h14 (j:=0+7) rfl,Nl (rB V1 fun _ h=>h) hlt,Nm (rB V1 fun _ h=>h),Pg (d:=B.t.e) (rB V1 fun _ h=>h) he (by show 0+1+13<=14;omega) rfl]
  refine fv Gc (fun d hd=>by simp at hd;subst hd;exact B.t.gg.pair) ?_
  rintro _ rfl
  refine⟨fun q h'=>∃r:Int,q=[.int .i64 r]/\OI B r/\Vs h' L,?_,HT hc u V1 hB hy f1 f6 hq fun r h' hr V'=>⟨r,rfl,hr,V'⟩⟩
  rintro f2 h2 ⟨r,hq2,hr,V2⟩
  simp only[List.cons.injEq,and_true]at hq2
  simp only[hq2]
  by_cases h0:r<0
  ·rw[sZ h0]
   simp only[↓gS,ae,true_and]
   exact V2
  ·rw[sG (by omega)]
   simp only[↓gS]
   rw[mM (esz:=1) (d:=.bool (hasB (nK c) b)) (by omega) (by rw[Int.toNat_natCast];exact rN (eJ (by rw[vj];exact hlt))) rfl,Ac rfl]
   cases hp:hasB (nK c) b
   ·simp only[↓gS,ae,true_and]
    exact V2
   ·simp only[↓gS]
    have hpath:=(gV hlt).1 hp
    obtain⟨nv,hrb⟩:=hr.nv hc hB hpath (by omega)
    obtain⟨k,rfl⟩:∃k:Nat,r=(k:Int):=⟨r.toNat,by omega⟩
    have hkR:k<(Ad c (oA c)).length:=by rw[hRl];omega
    rw[V2.NG (s:=2) u.h38 rfl]
    refine Gi V2 (Or.inl rfl) (Or.inl rfl) (by omega) (by omega) fun nU nR h3 V3=>?_
    refine V3.alloc fun nw h4 V4=>?_
    refine V4.xt 0 (cs':=[.ms nU 0 (CR c (oA c)).length,.ms nR 0 (Ad c (oA c)).length]) rfl rfl rfl (fun x hx=>by simp at hx;rcases hx with rfl|rfl<;>rfl) fun h5 V5=>?_
    simp only[List.set_cons_zero]at V5
    rw[V5.fa 0 rfl,V5.fe 0 (j:=0+1) rfl rfl,V5.ia 1 rfl (by omega) (by omega),Int.toNat_natCast]
    refine V5.Bk 1 rfl (by rw[dA];exact hkR) rfl (og _) fun h6 V6=>?_
    simp only[List.set_cons_succ,List.set_cons_zero,oe]at V6
    have s6:∀x∈L,x∈(nw,Slot.box (.agg [.ms nU 0 (CR c (oA c)).length,.ms nR 0 (Ad c (oA c)).length]))::(nR,.arr 1 (bL ((Ad c (oA c)).set k true)))::(nU,.arr 1 (bL (CR c (oA c))))::L:=fun x hx=>by simp[hx]
    rw[V6.NX (s6 _ u.h38),V6.Ej (s6 _ u.h38) (j:=0+1) rfl,mM (esz:=1) (d:=.bool (hasB (Ad c (oA c)) k)) (by omega) (by rw[Int.toNat_natCast];exact rN (eJ hkR)) rfl,Ac rfl]
    have hf:hasB (Ad c (oA c)) k=false:=by
     cases h:hasB (Ad c (oA c)) k
     ·rfl
     ·exact absurd ((FK (by omega)).1 h) nv.not
    rw[hf]
    simp only[↓gS]
    have u6:=u.mono s6
    rw[V6.NG (s:=8) u6.h14 rfl,V6.re 0 (s:=2) rfl rfl]
    refine OF (U:=CR c (oA c)) (R:=(Ad c (oA c)).set k true) hc u.o V6 u6.hA u6.hL u6.hB (Or.inr ⟨nU,rfl,by simp⟩) (Or.inr ⟨nR,by simp,by simp⟩) ?_
    rw[nv.RW hkR,if_neg Bool.false_ne_true,IL rfl]
    simp only[↓gS,ae,true_and]
    exact V6.pop.pop.pop
 ·have:b=c.b.length:=by omega
  subst this
  rw[sG (by omega),ah]
  simp only[ae,true_and]
  exact hJ h1
end
end Go.Am
namespace Go.Am
open Go Go.Proofs
def MF:D:=.agg (.nil::Qn.cs)
theorem FU:uL MF:=gz (by simp[Qn,Term.cs,au,D.vone])
def oM (c:Code):List D:=c.b.map Block.e++[MF]
theorem N3 {c:Code}{sA sL sB:Slot}(a:sA.row=some (4,c.arrays.map qJ.e)) (l:sL.row=some (3,c.loops.map Loop.e)) (b:sB.row=some (14,oM c)):Gm (kr c) sA sL sB (oM c):=by
 refine⟨a,l,b,by simp[oM,kr],?_,fun x hx y hy=>?_⟩
 ·refine .sl _ _ (by simp[oM,kr]) fun i x y h1 h2=>?_
  unfold oM at h1
  unfold kr at h2
  simp only[List.map_append]at h2
  by_cases hi:i<c.b.length
  ·rw[List.getElem?_append_left (by simpa using hi)]at h1 h2
   rw[h1]at h2;cases h2;exact .refl _
  ·rw[List.getElem?_append_right (by simp;omega)]at h1 h2
   cases hk:i-(c.b.map Block.e).length with
   | zero =>
    rw[hk]at h1 h2
    simp at h1 h2
    subst h1;subst h2
    exact Wk.Mb (.cons .nil HE.rfl)
   | succ k=>rw[hk]at h1;simp at h1
 ·rcases List.mem_append.1 hx with hx|hx
  ·simp only[List.mem_map]at hx
   obtain⟨B,-,rfl⟩:=hx
   simp[Block.e,Term.cs,D.cells]at hy
   rcases hy with rfl|rfl|rfl|rfl|rfl|rfl|rfl|rfl|rfl|rfl|rfl|rfl|rfl|rfl<;>rfl
  ·simp at hx;subst hx
   simp[MF,Qn,Term.cs,D.cells]at hy
   rcases hy with rfl|rfl|rfl|rfl|rfl|rfl|rfl|rfl|rfl|rfl|rfl|rfl|rfl|rfl<;>rfl
theorem PQ {c:Code}:RE (kr c) (oM c):=by
 refine⟨by simp[oM,kr],fun b B hB=>?_⟩
 unfold kr at hB
 unfold oM
 simp only at hB
 by_cases hb:b<c.b.length
 ·rw[List.getElem?_append_left hb]at hB
  exact⟨.sl (B.i.map aP.e),by rw[List.getElem?_append_left (by simpa using hb),List.getElem?_map,hB];rfl,Or.inl rfl⟩
 ·rw[List.getElem?_append_right (by omega)]at hB
  rw[List.getElem?_append_right (by simp;omega),List.length_map]
  cases hk:b-c.b.length with
  | zero =>
   rw[hk]at hB
   simp at hB;subst hB
   exact⟨.nil,rfl,Or.inr ⟨rfl,rfl⟩⟩
  | succ k=>rw[hk]at hB;simp at hB
theorem Jv {T:List Bool}{h:Heap}{K:D->Prop}(hT:1<=T.length) (hl:T.length<=1000000) (hK:K (.sl (bL (T.drop 1)))):ab PP (.o8 (.c (.sl (bL T))) (some (.c (.int .i64 1))) none none 1) h K:=by
 rw[Jw,FM]
 have e:((bL T).drop 1).take (T.length-1)=bL (T.drop 1):=by
  rw[List.take_of_length_le (by simp[bL])];simp[bL]
 simp only[Aq,Ap,dA]
 refine⟨by omega,by omega,by omega,by omega,fun d hd=>?_,?_⟩
 ·simp only[bL,List.mem_map]at hd;obtain⟨b,-,rfl⟩:=hd;rfl
 ·have:((T.length:Int)-1).toNat=T.length-1:=by omega
  first
   | simpa[e,this] using hK
   | (rw[show(1:Int).toNat=1 from rfl,this,e];exact hK)
theorem CE {bs:List Nat}(hb:∀b∈bs,b<=255) (hl:bs.length<=9223372036854775807){y:Nat}(hy:y<=255):aQ PP iE [ud bs,.int .u8 (y:Int)] (· = .bool true):=by
 refine dE mC (av _ _ _) rfl (me _ _ _) ?_
 unfold g9
 refine Vs.nil.box (Fx bs).one fun n3 h4 V4=>?_
 refine fv EN (fun d hd=>by simp at hd) ?_
 rintro _ rfl
 rw[ow,Bool.not_true,ah,V4.re 0 (s:=1) (cs:=[uN bs]) rfl rfl]
 refine fv (On hb hl) (fun d hd=>by simp at hd;subst hd;exact(Fx bs).pair) ?_
 rintro _ ⟨c,hc,rfl⟩
 have hnb:=hc.nb
 have hcx:=N4 hc
 refine OE hc V4 fun h13 nA nL nB0 V13=>?_
 refine V13.alloc fun n14 h15 V15=>?_
 refine V15.xt (cs':=[.int .i64 c.group,.int .i64 c.sub,.int .i64 c.regs,.int .i64 c.slots,.int .i64 c.params,.ms nA 0 c.arrays.length,.ms nL 0 c.loops.length,.ms nB0 0 c.b.length]) 0 rfl rfl rfl (fun y hy=>by simp at hy;rcases hy with rfl|rfl|rfl|rfl|rfl|rfl|rfl|rfl<;>rfl) fun h17 V17=>?_
 simp only[List.set_cons_zero]at V17
 rw[V17.fa 0 rfl,V17.fe 0 (j:=0+7) rfl rfl,ga rfl,ga rfl]
 refine V17.P5 (d:=MF) FU rfl fun nX h27 V27=>?_
 have V27':Vs h27 ((nB0,.arr 14 (c.b.map Block.e))::(nX,.arr 14 [MF])::(n14,.box (oo c (.ms nA 0 c.arrays.length) (.ms nL 0 c.loops.length) (.ms nB0 0 c.b.length)))::(nL,.arr 3 (c.loops.map Loop.e))::(nA,.arr 4 (c.arrays.map qJ.e))::[(n3,.box (ud bs))]) :=
  V27.perm (List.perm_middle (l₁:=[_,_]))
 have hxr:=V27.get 0 _ _ rfl
 rw[show D.ms nB0 0 c.b.length=.ms nB0 0 (c.b.map Block.e).length by rw[List.length_map]]
 refine Vs.vW (ys:=[MF]) V27' (fun hk=>⟨[MF],by rw[hxr];rfl,by simp,hk⟩) (fun y hy=>by simp at hy;subst hy;exact FU.one) (by rw[List.length_map];simp;omega) (by rw[List.length_map];simp;omega) fun nB h29 V29=>?_
 rw[List.length_map]at *
 rw[V29.fa 2 rfl]
 refine V29.OV 2 (j:=0+7) rfl (by simp) rfl fun h33 V33=>?_
 have V33:Vs h33 ((nB,.arr 14 (oM c))::(nX,.arr 14 [MF])::(n14,.box (oo (kr c) (.ms nA 0 (kr c).arrays.length) (.ms nL 0 (kr c).loops.length) (.ms nB 0 (c.b.length+1))))::(nL,.arr 3 (c.loops.map Loop.e))::(nA,.arr 4 (c.arrays.map qJ.e))::[(n3,.box (ud bs))]):=V33
 rw[V33.re 2 (s:=8) rfl rfl]
 have O33:Gm (kr c) (.arr 4 (c.arrays.map qJ.e)) (.arr 3 (c.loops.map Loop.e)) (.arr 14 (oM c)) (oM c):=N3 rfl rfl rfl
 let R3:LSq:=[(n14,.box (oo (kr c) (.ms nA 0 (kr c).arrays.length) (.ms nL 0 (kr c).loops.length) (.ms nB 0 (c.b.length+1)))),(n3,.box (ud bs))]
 have V34:Vs h33 ((nB,.arr 14 (oM c))::(nL,.arr 3 (c.loops.map Loop.e))::(nA,.arr 4 (c.arrays.map qJ.e))::R3):=by
  refine(V33.sub (.cons_cons _ (.cons _ (.refl _)))).perm (.cons _ ?_)
  exact(List.perm_middle (l₁:=[_,_])).symm
 refine AT O33 V34 (Oo hcx) rfl rfl gx.symm fun r h37 sA sL sB hr O37 V37=>?_
 obtain⟨rfl,-⟩:=hr
 obtain⟨U,hU⟩:∃U,U=CR (kr c) (oA (kr c)):=⟨_,rfl⟩
 obtain⟨R,hR⟩:∃R,R=Ad (kr c) (oA (kr c)):=⟨_,rfl⟩
 have hUl:U.length=c.b.length+1:=by rw[hU,yo,gx]
 have hRl:(R.length:Int)=c.regs:=by rw[hR,yp];have:=hcx.rg;show((kr c).regs.toNat:Int)=(kr c).regs;omega
 have hrg:1<=c.regs/\c.regs<=100:=hc.u.rg
 have hlast:hasB U c.b.length=false:=by
  cases h:hasB U c.b.length
  ·rfl
  ·rw[hU]at h
   exact absurd (OK (by rw[gx];omega) ((FJ (by rw[gx];omega)).1 h)) (C4 hc.g)
 refine V37.alloc fun n38 h39 V39=>?_
 rw[show uF (kr c)=.agg [.sl (bL U),.sl (bL R)] by rw[hU,hR];rfl]
 refine V39.xt (cs':=[.sl (bL U),.sl (bL R)]) 0 rfl rfl (by rfl) (fun y hy=>by simp at hy;rcases hy with rfl|rfl<;>rfl) fun h41 V41=>?_
 simp only[List.set_cons_zero]at V41
 let L3:LSq:=(n38,.box (.agg [.sl (bL U),.sl (bL R)]))::(nB,sB)::(nL,sL)::(nA,sA)::R3
 have V41:Vs h41 L3:=V41
 have dU:∀{h:Heap}{X:LSq}{K:D->Prop},Vs h (X++L3)->ab PP (.fadd (.c (.ptr n38 0 0)) 0) h (fun a=>ab PP (.ld (.c a) 1 false) h K)=K (.sl (bL U)):=fun {h X K} V=>by
  have ix:(X++L3)[X.length]?=some (n38,.box (.agg [.sl (bL U),.sl (bL R)])):=by rw[List.getElem?_append_right (Nat.le_refl _),Nat.sub_self];rfl
  rw[V.o0 _ ix,V.ly _ (j:=0) ix rfl]
 have dR:∀{h:Heap}{X:LSq}{K:D->Prop},Vs h (X++L3)->ab PP (.fadd (.c (.ptr n38 0 0)) 1) h (fun a=>ab PP (.ld (.c a) 1 false) h K)=K (.sl (bL R)):=fun {h X K} V=>by
  have ix:(X++L3)[X.length]?=some (n38,.box (.agg [.sl (bL U),.sl (bL R)])):=by rw[List.getElem?_append_right (Nat.le_refl _),Nat.sub_self];rfl
  rw[V.o0 _ ix,V.ly _ (j:=1) ix rfl]
 have fU:∀{h:Heap}{X:LSq}{o:Nat}{K:D->Prop},Vs h (X++L3)->ab PP (.fadd (.c (.ptr n38 0 0)) o) h K=K (.ptr n38 0 o):=fun {h X o K} V=>by
  have ix:(X++L3)[X.length]?=some (n38,.box (.agg [.sl (bL U),.sl (bL R)])):=by rw[List.getElem?_append_right (Nat.le_refl _),Nat.sub_self];rfl
  rw[V.o0 _ ix]
 have lU:∀{h:Heap}{X:LSq}{K:D->Prop},Vs h (X++L3)->ab PP (.ld (.c (.ptr n38 0 0)) 1 false) h K=K (.sl (bL U)):=fun {h X K} V=>by
  have ix:(X++L3)[X.length]?=some (n38,.box (.agg [.sl (bL U),.sl (bL R)])):=by rw[List.getElem?_append_right (Nat.le_refl _),Nat.sub_self];rfl
  rw[V.ly _ (j:=0) ix rfl]
 have lR:∀{h:Heap}{X:LSq}{K:D->Prop},Vs h (X++L3)->ab PP (.ld (.c (.ptr n38 0 1)) 1 false) h K=K (.sl (bL R)):=fun {h X K} V=>by
  have ix:(X++L3)[X.length]?=some (n38,.box (.agg [.sl (bL U),.sl (bL R)])):=by rw[List.getElem?_append_right (Nat.le_refl _),Nat.sub_self];rfl
  rw[V.ly _ (j:=1) ix rfl]
 have cE:(D.agg [.int .i64 (kr c).group,.int .i64 (kr c).sub,.int .i64 (kr c).regs,.int .i64 (kr c).slots,.int .i64 (kr c).params,.ms nA 0 (kr c).arrays.length,.ms nL 0 (kr c).loops.length,.ms nB 0 (c.b.length+1)])=oo (kr c) (.ms nA 0 (kr c).arrays.length) (.ms nL 0 (kr c).loops.length) (.ms nB 0 (kr c).b.length):=by rw[gx]
 have dC:∀{h:Heap}{X:LSq}{K:D->Prop},Vs h (X++L3)->ab PP (.ld (.c (.ptr n14 0 0)) 8 true) h K=K (oo (kr c) (.ms nA 0 (kr c).arrays.length) (.ms nL 0 (kr c).loops.length) (.ms nB 0 (kr c).b.length)):=fun {h X K} V=>by
  have ix:(X++L3)[X.length+4]?=some (n14,.box (oo (kr c) (.ms nA 0 (kr c).arrays.length) (.ms nL 0 (kr c).loops.length) (.ms nB 0 (c.b.length+1)))):=by rw[List.getElem?_append_right (by omega),Nat.add_sub_cancel_left];rfl
  rw[V.LF _ (s:=8) ix rfl,cE]
 have m3:∀{X:LSq} x,x∈L3->x∈X++L3:=fun x hx=>List.mem_append_right _ hx
 have bw0:∀{X:LSq}{T:List Bool},BW X (.sl (bL T)) T:=Or.inl rfl
 have V41':Vs h41 ([]++L3):=V41
 refine⟨fun q h'=>q=[.int .u8 (y:Int),.bool true,.ptr n14 0 0,.ptr n38 0 0]/\Vs h' L3,?_,?_⟩
 ·rintro f43 h44 ⟨hq,V44⟩
  simp only[List.cons.injEq,and_true]at hq
  obtain⟨q1,q5,q6,q7⟩:=hq
  have V44':Vs h44 ([]++L3):=V44
  simp only[q7,↓fU V44',↓lU V44',↓lR V44']
  refine zp (d:=.bool false) Dc.one rfl (fun y hy=>by simp[D.cells]at hy;subst hy;rfl) (fun y hy=>by simp[D.cells]at hy;subst hy;rfl) ?_
  try simp only[↓fU V44',↓lU V44',↓lR V44']
  refine V44.Dz fun n50 h51 V51=>?_
  have V51':Vs h51 ([(n50,.arr 1 [])]++L3):=V51
  refine⟨by simp only[↓fU V51',↓lU V51',↓lR V51',ae,and_self],?_⟩
  refine V51.vW (els:=[]) (ys:=bL U) (fun {K} hk=>bw0.Kp V51 hk) lI (by rw[dA];simp;omega) (by rw[dA];simp;omega) fun n56 h57 V57=>?_
  simp only[List.nil_append,List.length_nil,Nat.zero_add]at V57 ⊢
  have V57':Vs h57 ([(n56,.arr 1 (bL U))]++L3):=V57
  refine⟨by simp only[↓fU V57',↓lU V57',↓lR V57',ae,and_self],?_⟩
  refine V57.vW (ys:=bL [false]) (fun {K} hk=>bw0.Kp V57 hk) lI (by rw[dA,dA];simp;omega) (by rw[dA,dA];simp;omega) fun nLg h61 V61=>?_
  have V61':Vs h61 ([(nLg,.arr 1 (bL U++bL [false]))]++L3):=V61
  refine⟨by simp only[↓fU V61',↓lU V61',↓lR V61',ae,and_self],?_⟩
  rw[iI rfl]
  refine V61.alloc fun n65 h66 V66=>?_
  have V66':Vs h66 ([(n65,.box (.agg [.nil,.nil])),(nLg,.arr 1 (bL U++bL [false]))]++L3):=V66
  refine⟨by simp only[↓fU V66',↓lU V66',↓lR V66',ae,and_self],?_⟩
  refine V66.xt 0 (cs':=[.ms nLg 0 ((bL U).length+(bL [false]).length),.sl (bL R)]) rfl rfl rfl (fun y hy=>by simp at hy;rcases hy with rfl|rfl<;>rfl) fun h72 V72=>?_
  simp only[List.set_cons_zero]at V72
  have eLg:bL U++bL [false]=bL (U++[false]):=by simp[bL]
  have eLl:(bL U).length+(bL [false]).length=(U++[false]).length:=by simp[bL]
  rw[eLg,eLl]at V72
  let L4:LSq:=(n65,.box (.agg [.ms nLg 0 (U++[false]).length,.sl (bL R)]))::(nLg,.arr 1 (bL (U++[false])))::L3
  have V72:Vs h72 L4:=V72
  have V72':Vs h72 ([(n65,.box (.agg [.ms nLg 0 (U++[false]).length,.sl (bL R)])),(nLg,.arr 1 (bL (U++[false])))]++L3):=V72
  refine⟨fun q h'=>∃n464 nWd,q=[.int .u8 (y:Int),.bool true,.ptr n14 0 0,.ptr n38 0 0,.ptr n65 0 0,.ptr n464 0 0]/\Vs h' ((n464,.box (.agg [.sl (bL U),.ms nWd 0 (R++[true]).length]))::(nWd,.arr 1 (bL (R++[true])))::L4),?_,?_⟩
  ·rintro f74 h75 ⟨n464,nWd,hq2,V75⟩
   simp only[List.cons.injEq,and_true]at hq2
   obtain⟨r1,r5,r6,r7,r8,r9⟩:=hq2
   simp only[r1,r5,r6,r7,r8,r9]
   rw[V75.re 4 (s:=2) rfl rfl]
   refine Gi V75 (Or.inl rfl) (Or.inl rfl) (by omega) (by omega) fun nU nR h79 V79=>?_
   refine V79.alloc fun n80 h81 V81=>?_
   refine V81.xt 0 (cs':=[.ms nU 0 U.length,.ms nR 0 R.length]) rfl rfl rfl (fun x hx=>by simp at hx;rcases hx with rfl|rfl<;>rfl) fun h83 V83=>?_
   simp only[List.set_cons_zero]at V83
   rw[V83.fa 0 rfl,V83.fe 0 (j:=0+0) rfl rfl,V83.fa 0 rfl,V83.fe 0 (j:=0+0) rfl rfl,bo,V83.get 2 _ _ rfl]
   refine⟨rfl,?_⟩
   rw[D9 (by omega) (by omega),show((U.length:Int)-1)=((c.b.length:Nat):Int) by omega,V83.ia 2 rfl (by omega) (by omega),Int.toNat_natCast]
   refine V83.Bk 2 rfl (by rw[dA];omega) rfl (og _) fun h97 V97=>?_
   simp only[List.set_cons_succ,List.set_cons_zero,oe]at V97
   let X:LSq:=[(n80,.box (.agg [.ms nU 0 U.length,.ms nR 0 R.length])),(nR,.arr 1 (bL R)),(nU,.arr 1 (bL (U.set c.b.length true))),(n464,.box (.agg [.sl (bL U),.ms nWd 0 (R++[true]).length])),(nWd,.arr 1 (bL (R++[true]))),(n65,.box (.agg [.ms nLg 0 (U++[false]).length,.sl (bL R)])),(nLg,.arr 1 (bL (U++[false])))]
   have V97:Vs h97 (X++L3):=V97
   refine⟨fun q h'=>q=[.int .u8 (y:Int),.bool true,.ptr n14 0 0,.ptr n38 0 0]/\Vs h' L3,?_,?_⟩
   ·rintro f99 h100 ⟨hq3,V100⟩
    simp only[List.cons.injEq,and_true]at hq3
    obtain⟨s1,s5,s6,s7⟩:=hq3
    have V101:Vs h100 ((nB,sB)::(nL,sL)::(nA,sA)::(n38,.box (.agg [.sl (bL U),.sl (bL R)]))::R3):=V100.perm (List.perm_middle (l₁:=[_,_,_])).symm
    simp only[s6,s5]
    rw[V101.re 4 (s:=8) rfl rfl]
    refine AT O37 V101 (JO hcx.g) rfl rfl gx.symm fun r h104 sA2 sL2 sB2 hr O104 V104=>?_
    subst hr
    refine⟨fun _ _=>True,fun _ _ _=>by rw[lD],?_⟩
    refine Gu (nA:=nA) (nL:=nL) (nB:=nB) (n14:=n14) (n38:=n38) hcx ⟨O104,PQ,by simp,by simp,by simp,by rw[gx];simp[R3],by rw[<- hU, <- hR];simp[uE]⟩ V104 hy s1 s6 s7 fun _=>trivial
   ·have go:∀{vU vR:D}{U' R':List Bool}{K:D->Prop},BW (X++L3) vU U'->BW (X++L3) vR R'->kB (kr c) U' R'=false->K (.int .i64 100)->ab PP (.call aC [.c (oo (kr c) (.ms nA 0 (kr c).arrays.length) (.ms nL 0 (kr c).loops.length) (.ms nB 0 (kr c).b.length)),.c (.agg [vU,vR])]) h97 K:=fun {vU vR U' R' K} wU wR hk hK=>by
     refine Og hcx O37 V97 (m3 _ (by simp[L3])) (m3 _ (by simp[L3])) (m3 _ (by simp[L3])) wU wR ?_
     rw[hk];exact hK
    have pk:∀{a:D}{K:D->Prop},ab PP (.pick (.c (.bool false)) (.c (.bool true)) (.c a)) h97 K=K a:=fun {a K}=>by rw[pF,ur];simp
    rw[dC V97,V97.LF 5 (s:=2) rfl rfl]
    refine go (U':=U++[false]) (R':=R) (Or.inr ⟨nLg,by simp,by simp[X]⟩) bw0 (Dj (by rw[gx];simp;omega)) ?_
    rw[IL rfl]
    simp only[↓gS]
    rw[dC V97,V97.LF 3 (s:=2) rfl rfl]
    refine go (U':=U) (R':=R++[true]) bw0 (Or.inr ⟨nWd,by simp,by simp[X]⟩) (Di (by show ¬(((R++[true]).length:Int)=c.regs);simp;omega)) ?_
    rw[IL rfl]
    try simp only[↓gS]
    try rw[pk]
    try simp only[↓gS]
    rw[dC V97,V97.LF 0 (s:=2) rfl rfl]
    refine go (U':=U.set c.b.length true) (R':=R) (Or.inr ⟨nU,by simp,by simp[X]⟩) (Or.inr ⟨nR,by simp,by simp[X]⟩) (Oi (by rw[gx];omega) (C4 hc.g) (by omega)) ?_
    rw[IL rfl]
    try simp only[↓gS]
    try rw[pk]
    try simp only[↓gS]
    rw[dC V97,fU V97,lU V97]
    refine Jv (by omega) (by omega) ?_
    rw[fU V97,lR V97,iI rfl]
    refine go (U':=U.drop 1) (R':=R) bw0 bw0 (Dj (by rw[gx];simp;omega)) ?_
    rw[IL rfl]
    try simp only[↓gS]
    try rw[pk]
    try simp only[↓gS]
    rw[dC V97,fU V97,lU V97,fU V97,lR V97]
    refine Jv (by omega) (by omega) ?_
    rw[iI rfl]
    refine go (U':=U) (R':=R.drop 1) bw0 bw0 (Di (by show ¬(((R.drop 1).length:Int)=c.regs);simp;omega)) ?_
    rw[IL rfl]
    try simp only[↓gS]
    try rw[pk]
    try simp only[↓gS]
    simp only[ae,true_and]
    first|exact V97.vV|exact⟨rfl,V97.vV⟩
  ·simp only[q1,q5,q6,q7,↓fU V72',↓lU V72',↓lR V72']
   refine zp (d:=.bool true) Dc.one rfl (fun y hy=>by simp[D.cells]at hy;subst hy;rfl) (fun y hy=>by simp[D.cells]at hy;subst hy;rfl) ?_
   refine V72.Dz fun n449 h450 V450=>?_
   have V450':Vs h450 ([(n449,.arr 1 []),(n65,.box (.agg [.ms nLg 0 (U++[false]).length,.sl (bL R)])),(nLg,.arr 1 (bL (U++[false])))]++L3):=V450
   refine⟨by simp only[↓fU V450',↓lU V450',↓lR V450',ae,and_self],?_⟩
   refine V450.vW (els:=[]) (ys:=bL R) (fun {K} hk=>bw0.Kp V450 hk) lI (by rw[dA];simp;omega) (by rw[dA];simp;omega) fun n455 h456 V456=>?_
   simp only[List.nil_append,List.length_nil,Nat.zero_add]at V456 ⊢
   have V456':Vs h456 ([(n455,.arr 1 (bL R)),(n65,.box (.agg [.ms nLg 0 (U++[false]).length,.sl (bL R)])),(nLg,.arr 1 (bL (U++[false])))]++L3):=V456
   refine⟨by simp only[↓fU V456',↓lU V456',↓lR V456',ae,and_self],?_⟩
   refine V456.vW (ys:=bL [true]) (fun {K} hk=>bw0.Kp V456 hk) lI (by rw[dA,dA];simp;omega) (by rw[dA,dA];simp;omega) fun nWd h460 V460=>?_
   have V460':Vs h460 ([(nWd,.arr 1 (bL R++bL [true])),(n65,.box (.agg [.ms nLg 0 (U++[false]).length,.sl (bL R)])),(nLg,.arr 1 (bL (U++[false])))]++L3):=V460
   refine⟨by simp only[↓fU V460',↓lU V460',↓lR V460',ae,and_self],?_⟩
   rw[iI rfl]
   refine V460.alloc fun n464 h465 V465=>?_
   have V465':Vs h465 ([(n464,.box (.agg [.nil,.nil])),(nWd,.arr 1 (bL R++bL [true])),(n65,.box (.agg [.ms nLg 0 (U++[false]).length,.sl (bL R)])),(nLg,.arr 1 (bL (U++[false])))]++L3):=V465
   refine⟨by simp only[↓fU V465',↓lU V465',↓lR V465',ae,and_self],?_⟩
   refine V465.xt 0 (cs':=[.sl (bL U),.ms nWd 0 ((bL R).length+(bL [true]).length)]) rfl rfl rfl (fun y hy=>by simp at hy;rcases hy with rfl|rfl<;>rfl) fun h471 V471=>?_
   simp only[List.set_cons_zero]at V471
   have eWd:bL R++bL [true]=bL (R++[true]):=by simp[bL]
   have eWl:(bL R).length+(bL [true]).length=(R++[true]).length:=by simp[bL]
   rw[eWd,eWl]at V471
   simp only[ae,true_and]
   exact⟨n464,nWd,rfl,V471⟩
 ·rw[V41.fa 0 rfl,V41.fe 0 (j:=0+0) rfl rfl,JX,V41.fa 4 rfl,V41.fe 4 (j:=0+7) rfl rfl]
  rw[Ms (els:=oM c) (by rw[V41.get 1 _ _ rfl];exact O37.b),hUl,IL rfl]
  simp only[↓gS]
  rw[V41.fa 0 rfl,V41.fe 0 (j:=0+1) rfl rfl,JX,V41.fa 4 rfl,V41.fe 4 (j:=0+2) rfl rfl,IL (show(R.length:Int)=(kr c).regs from hRl)]
  try simp only[↓gS]
  rw[V41.fa 0 rfl,V41.fe 0 (j:=0+0) rfl rfl,V41.fa 0 rfl,V41.fe 0 (j:=0+0) rfl rfl,JX,hUl,D9 (by omega) (by omega),show(((c.b.length+1:Nat):Int)-1)=((c.b.length:Nat):Int) by omega,mM (esz:=1) (d:=.bool (hasB U c.b.length)) (by omega) (by rw[Int.toNat_natCast];exact rN (eJ (by omega))) rfl,Ac rfl,hlast]
  simp only[↓gS]
  simp only[ae,true_and]
  first|exact V41|exact⟨rfl,V41⟩
end Go.Am
namespace Go.Am
open Go Go.Proofs
set_option maxRecDepth 100000
theorem NH (xs:List D) (h:zP Try.prog 12 Try.f8.params.toList xs):aQ Try.prog 8 xs (· = .bool true):=by
 have hp:Try.f8.params.toList=[24,5]:=by kernel_rfl
 rw[hp]at h
 obtain⟨c1,r1,rfl,h1,c2,r2,rfl,h2,rfl⟩:=h
 obtain⟨bs,e1,b1,b2⟩:=Np h1
 obtain⟨y,rfl,hy⟩:=M4 h2
 have e2:mkElem Try.prog 5 [.int .u8 (y:Int)]=.int .u8 (y:Int):=IP QK _
 show aQ Try.prog 8 [mkElem Try.prog 24 c1,mkElem Try.prog 5 [.int .u8 (y:Int)]] _
 rw[e1,e2]
 exact CE b1 b2 hy
end Go.Am
