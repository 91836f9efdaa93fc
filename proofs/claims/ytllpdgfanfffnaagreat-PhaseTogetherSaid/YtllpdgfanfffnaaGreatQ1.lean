/- What the functions of this chapter give, on plain data. No condition. -/
import Derived.Test.YtllpdgfanfffnaaGreatZ1
set_option linter.unnecessarySimpa false
set_option linter.defProp false
set_option linter.unusedSectionVars false
set_option linter.unusedSimpArgs false
set_option linter.unusedVariables false
namespace Go.Am
open Go Go.Proofs
theorem CD (bs:List Nat):wB (so bs):=eF (by simp[rU])
def Jw (a b:Nat):D:=.agg [.int .u8 (a:Int),.int .u8 (b:Int)]
theorem Jx {x:Nat}(h:x<=255):IntKind.i64.wrap (x:Int)=x:=wrap64 (by omega) (by omega)
end Go.Am
namespace Go.Am
open Go Go.Proofs
theorem HW {P:Program}{h:Heap}{K:D->Prop}{x:Bool}:af P (.eqv true false [.b] (.c (.bool x)) (.c (.bool x))) h K=K (.bool false):=by
  rw[Kv,Kh]
  simp[veqv,eqCells,D.isAgg]
theorem G5 {P:Program}{h:Heap}{K:D->Prop}{x y:D}:af P (.pick (.c (.bool false)) (.c x) (.c y)) h K=K y:=rfl
theorem L4 {P:Program}{h:Heap}{K:D->Prop}{S:List Bool}{i:Nat}(hi:i<S.length):af P (.iadd (.c (.sl (bL S))) (.c (.int .i64 (i:Int))) 1) h K=K (.vp (.bool (hasB S i)) 0):=by
  rw[mu,mP (esz:=1) (d:=.bool (hasB S i)) (by omega) (by rw[Int.toNat_natCast];exact zH (sQ hi)) rfl]
theorem Ld {P:Program}{h:Heap}{KH:D->Heap->Prop}{S:List Bool}{i:Nat}(hi:i<S.length):aa P (.iadd (.c (.sl (bL S))) (.c (.int .i64 (i:Int))) 1) h KH=KH (.vp (.bool (hasB S i)) 0) h :=
  mP (esz:=1) (d:=.bool (hasB S i)) (by omega) (by rw[Int.toNat_natCast];exact zH (sQ hi)) rfl
theorem Jf (hex:aQ PP et [] (· = .bool true)){bs:List Nat}{m0:Int}{x y:Nat}(hb:∀b∈bs,b<=255) (hbl:bs.length<=9223372036854775807) (hx:x<=255) (hy:y<=255) :
    aQ PP dP [so bs,.int .u32 m0,Jw x y] (· = .bool true):=by
  refine fw lh (an _ _ _) rfl (lf _ _ _ _) ?_
  unfold gZ
  refine Vs.nil.box (CD bs).one fun n4 h5 V1=>?_
  refine V1.box (eF (by simp):wB (Jw x y)).one fun n6 h7 V=>?_
  refine ja hex (fun d hd=>by cases hd) ?_
  rintro _ rfl
  rw[DH,aC,V.Aw 1 (s:=1) rfl rfl]
  refine ja (Jh hb hbl) (fun d hd=>by simp at hd;subst hd;exact(CD bs).pair) ?_
  rintro _ ⟨c0,hc0,rfl⟩
  refine ja (FT hc0 (mask:=m0)) (fun d hd=>by simp at hd;rcases hd with rfl|rfl;exact c0.pW.pair;exact bn.pair) ?_
  rintro _ rfl
  have hc:lj (nG c0 m0):=Hn hc0
  generalize nG c0 m0=c at hc
  have hnb:=hc.nb
  have cst:∀c:Code,Code.e c=.agg [.int .i64 c.group,.int .i64 c.sub,.int .i64 c.regs,.int .i64 c.slots,.int .i64 c.params,.sl (c.arrays.map uD.e),.sl (c.loops.map Loop.e),.sl (c.b.map Block.e)]:=fun _=>rfl
  refine V.alloc fun n17 h18 V1=>?_
  rw[cst c]
  refine V1.HD 0 rfl rfl rfl (fun y hy=>by simp at hy;rcases hy with rfl|rfl|rfl|rfl|rfl|rfl|rfl|rfl<;>rfl) fun h20 V2=>?_
  replace V2:Vs h20 [(n17,.box c.e),(n6,.box (Jw x y)),(n4,.box (so bs))]:=V2
  have l17:∀{KH:D->Heap->Prop},aa PP (.ld (.c (.ptr n17 0 0)) 8 true) h20 KH=KH c.e h20:=fun {KH}=>V2.Aw 0 (s:=8) rfl rfl
  rw[l17]
  refine ja (B6 hc.g) (fun d' hd'=>by simp at hd';subst hd';exact c.pW.pair) ?_
  rintro _ rfl
  refine V2.alloc fun n25 h26 V3=>?_
  have ph:Bl c=.agg [.sl (cV (jt c)),.sl ((jt c).map fun s=>.sl (cV (rl c s)))]:=rfl
  rw[ph]
  refine V3.HD 0 rfl rfl rfl (fun y hy=>by simp at hy;rcases hy with rfl|rfl<;>rfl) fun h28 V4=>?_
  replace V4:Vs h28 [(n25,.box (Bl c)),(n17,.box c.e),(n6,.box (Jw x y)),(n4,.box (so bs))]:=V4
  have l17':∀{KH:D->Heap->Prop},aa PP (.ld (.c (.ptr n17 0 0)) 8 true) h28 KH=KH c.e h28:=fun {KH}=>V4.Aw 1 (s:=8) rfl rfl
  rw[l17']
  refine ja (Ha hc.g) (fun d' hd'=>by simp at hd';subst hd';exact c.pW.pair) ?_
  rintro _ ⟨S,rfl,hS,hP⟩
  have j0:∀{KH:D->Heap->Prop},aa PP (.iadda (.c (.ptr n6 0 0)) (.c (.int .i64 0)) 2 1) h28 KH=KH (.ptr n6 0 0) h28:=fun {KH}=>V4.KL 2 (a:=0) rfl (by omega)
  have j1:∀{KH:D->Heap->Prop},aa PP (.iadda (.c (.ptr n6 0 0)) (.c (.int .i64 1)) 2 1) h28 KH=KH (.ptr n6 0 1) h28:=fun {KH}=>V4.KL 2 (a:=1) rfl (by omega)
  simp only[↓j0,↓V4.rO 2 (j:=0) rfl rfl,oG,Jx hx,↓V4.fa 1 rfl,Nat.zero_add,↓V4.rO 1 (j:=7) rfl rfl,uF,List.length_map]
  rw[bT]
  refine⟨by omega,?_⟩
  rw[show((x:Int).tmod (c.b.length:Int))=((x % c.b.length:Nat):Int) from aP x c.b.length]
  simp only[↓j1,↓V4.rO 2 (j:=1) rfl rfl,oG,Jx hy,↓V4.fa 1 rfl,Nat.zero_add,↓V4.rO 1 (j:=7) rfl rfl,uF,List.length_map]
  rw[bT]
  refine⟨by omega,?_⟩
  rw[show((y:Int).tmod (c.b.length:Int))=((y % c.b.length:Nat):Int) from aP y c.b.length]
  have hal:x % c.b.length<c.b.length:=Nat.mod_lt _ (by omega)
  generalize x % c.b.length=a at hal
  generalize y % c.b.length=b
  have dp:∀{KH:D->Prop},af PP (.ld (.c (.ptr n25 0 0)) 2 true) h28 KH=KH (Bl c):=fun {KH}=>V4.Ln 0 (s:=2) rfl rfl
  have pd:∀a b:Nat,∀d,d∈[Bl c,nD a,nD b]->d.vd=true/\aL d:=fun a b d hd=>by simp at hd;rcases hd with rfl|rfl|rfl;exact(Gw c).pair;exact bn.pair;exact bn.pair
  rw[dp]
  refine xv (De hc.g (a:=a) (b:=b)) (pd a b) ?_
  rw[dp]
  refine xv (De hc.g (a:=b) (b:=a)) (pd b a) ?_
  rw[EE (Ek c) b a,HW]
  simp only[↓I0,↓dp]
  refine xv (De hc.g (a:=a) (b:=a)) (pd a a) ?_
  have hta:Gl (Ek c) a a=hasB S a:=by
    rw[Bool.eq_iff_iff,Ct hc.g,ED,hP]
  rw[hta]
  simp only[↓I0,↓L4 (S:=S) (i:=a) (by omega),↓HX (d:=.bool (hasB S a)) rfl,↓HW,↓G5,↓aC]
  have hB:c.b[a]?=some c.b[a]:=List.getElem?_eq_getElem hal
  generalize c.b[a]=B at hB
  have hTm:=hc.g.t B (List.mem_of_getElem? hB)
  simp only[↓V4.fa 1 rfl,Nat.zero_add,↓V4.rO 1 (j:=7) rfl rfl,↓Hj hB,↓KM,↓Jl]
  refine ja (B5 hTm) (fun d hd=>by simp at hd;subst hd;exact B.t.pW.pair) ?_
  rintro _ rfl
  refine⟨fun _ _=>True,fun f h _=>by rw[tF],?_⟩
  unfold fu
  refine⟨fun m l h=>h=h28/\∃i:Nat,i<=(bt B.t).length/\m=(bt B.t).length-i/\l=[.int .i64 (i:Int)],_,⟨rfl,0,by omega,rfl,rfl⟩,?_⟩
  rintro m f _ ⟨rfl,i,hi,hm,hl⟩
  simp only[List.cons.injEq,and_true]at hl
  rw[hl,yt,kz]
  have hEl:(bt B.t).length<=2:=by unfold bt;split<;>(try split)<;>simp
  by_cases hlt:i<(bt B.t).length
  · have hto:(bt B.t)[i]?=some (bt B.t)[i]:=List.getElem?_eq_getElem hlt
    generalize (bt B.t)[i]=t at hto
    simp only[show((i:Int)<((bt B.t).length:Int))=True from eq_true (by omega),decide_true,↓gS,↓Ld (S:=S) (i:=a) (by omega),↓DK (d:=.bool (hasB S a)) rfl]
    cases hr:hasB S a
    · simp only[↓gS,aq,true_and]
    · have fv1:∀{h:Heap}{KH:D->Heap->Prop},aa PP (.fadd (.c (.vp B.e 1)) 0) h KH=KH (.vp B.e 1) h:=fun {h KH}=>rfl
      have lv1:∀{h:Heap}{KH:D->Heap->Prop},aa PP (.ld (.c (.vp B.e 1)) 1 false) h KH=KH (.int .i64 B.t.kind) h:=fun {h KH}=>Ka rfl
      simp only[↓gS,↓V4.fa 1 rfl,Nat.zero_add,↓V4.rO 1 (j:=7) rfl rfl,↓Hj hB,↓KM,↓fv1,↓lv1,Ab]
      by_cases hk:B.t.kind=3
      · simp only[hk,decide_true,Bool.not_true,↓aC,aq,true_and]
      · simp only[hk,decide_false,Bool.not_false,↓aF,↓dp]
        rw[mu,mP (esz:=1) (d:=nD t) (by omega) (by rw[Int.toNat_natCast];exact zh hto) rfl,HX rfl]
        refine xv (De hc.g (a:=a) (b:=t)) (pd a t) ?_
        have ht:Gl (Ek c) a t=true:=(Ct hc.g).2 (EC ((hP a).1 hr) (by rw[zo hB,if_neg hk];exact List.mem_of_getElem? hto))
        rw[ht,DH,aC,yc (by omega) (by omega)]
        simp only[aq,true_and]
        exact⟨_,by omega,i+1,by omega,rfl,by simp⟩
  · simp only[show((i:Int)<((bt B.t).length:Int))=False from eq_false (by omega),decide_false,↓gS,aq,true_and]
end Go.Am
namespace Go.Am
open Go Go.Proofs
set_option maxRecDepth 100000
theorem KY:Tryz.prog.underlying 22=some (.slice 5):=by kernel_rfl
theorem Lz:Tryz.prog.underlying 5=some (.int .u8):=by kernel_rfl
theorem JE:Tryz.prog.underlying 38=some (.int .u32):=by kernel_rfl
theorem JD:Tryz.prog.underlying 62=some (.array 2 5):=by kernel_rfl
theorem t24:structL Tryz.prog 24=some [(22,0)]:=by kernel_rfl
theorem z24:Tryz.prog.cellsOf 24=1:=by kernel_rfl
theorem z22:Tryz.prog.cellsOf 22=1:=by kernel_rfl
theorem z5:Tryz.prog.cellsOf 5=1:=by kernel_rfl
theorem LK:Tryz.prog.cellsOf 62=2:=by kernel_rfl
theorem Ez:IntKind.u8.min=0:=rfl
theorem HC:IntKind.u8.max=255:=rfl
theorem JC {m:Nat}{ds:List D}(h:HasTy Tryz.prog (m+2) 22 ds):∃bs:List Nat,ds=[rU bs]/\(∀b∈bs,b<=255)/\bs.length<=9223372036854775807:=by
  obtain⟨xs,h1,h2,h3⟩:=BG KY Lz h
  refine⟨xs.map Int.toNat,?_,fun b hb=>?_,by unfold maxLen at h2;simp;omega⟩
  · rw[h1,rU,List.map_map]
    congr 2
    refine List.map_congr_left fun x hx=>?_
    have:=h3 x hx
    rw[Ez]at this
    show D.int .u8 x=D.int .u8 ((x.toNat:Nat):Int)
    rw[Int.toNat_of_nonneg this.1]
  · simp only[List.mem_map]at hb
    obtain⟨x,hx,rfl⟩:=hb
    have:=h3 x hx
    rw[Ez,HC]at this
    omega
theorem IC {m:Nat}{ds:List D}(h:HasTy Tryz.prog (m+3) 24 ds):∃bs:List Nat,mkElem Tryz.prog 24 ds=so bs/\(∀b∈bs,b<=255)/\bs.length<=9223372036854775807:=by
  obtain⟨k1,k2⟩:=zp t24 h
  rw[z24]at k1
  have q:=k2 (22,0) (by simp)
  simp only[z22,List.drop_zero]at q
  match ds,k1 with
  | [d],_ =>
    obtain⟨bs,e1,hb,hbl⟩:=JC q
    simp at e1
    subst e1
    exact⟨bs,by rw[DJ t24,so],hb,hbl⟩
theorem Ey {m:Nat}{ds:List D}(h:HasTy Tryz.prog (m+1) 5 ds):∃x:Nat,ds=[.int .u8 (x:Int)]/\x<=255:=by
  obtain⟨g,h1,h2,h3⟩:=ud Lz h
  rw[Ez]at h2;rw[HC]at h3
  exact⟨g.toNat,by rw[h1,Int.toNat_of_nonneg h2],by omega⟩
theorem ID {m:Nat}{ds:List D}(h:HasTy Tryz.prog (m+2) 62 ds):∃a b:Nat,mkElem Tryz.prog 62 ds=Jw a b/\a<=255/\b<=255:=by
  obtain⟨k1,k2⟩:=AE JD h
  rw[LK]at k1
  simp only[z5,Nat.mul_one]at k2
  obtain⟨a,ha,la⟩:=Ey (k2 0 (by omega))
  obtain⟨b,hb,lb⟩:=Ey (k2 1 (by omega))
  rw[Ff JD]
  match ds,k1 with
  | [d0,d1],_ =>
    simp at ha hb
    exact⟨a,b,by rw[ha,hb,Jw],la,lb⟩
theorem Ii {m:Nat}{ds:List D}(h:HasTy Tryz.prog (m+1) 38 ds):∃a:Int,mkElem Tryz.prog 38 ds=.int .u32 a:=by
  obtain⟨a,rfl,-,-⟩:=ud JE h
  exact⟨a,Fe JE _⟩
end Go.Am
namespace Go.Am
open Go Go.Proofs
set_option maxRecDepth 100000
theorem IN (xs:List D) (h:xO Tryz.prog 12 Tryz.f5.params.toList xs):aQ Tryz.prog 5 xs (· = .bool true):=by
  have hp:Tryz.f5.params.toList=[24,38,62]:=by kernel_rfl
  rw[hp]at h
  obtain⟨c1,r1,rfl,h1,c2,r2,rfl,h2,c3,r3,rfl,h3,rfl⟩:=h
  obtain⟨bs,e1,b1,b2⟩:=IC h1
  obtain⟨a,e2⟩:=Ii h2
  obtain⟨x,y,e3,hx,hy⟩:=ID h3
  show aQ Tryz.prog 5 [mkElem Tryz.prog 24 c1,mkElem Tryz.prog 38 c2,mkElem Tryz.prog 62 c3] _
  rw[e1,e2,e3]
  exact Jf B3 b1 b2 hx hy
end Go.Am
