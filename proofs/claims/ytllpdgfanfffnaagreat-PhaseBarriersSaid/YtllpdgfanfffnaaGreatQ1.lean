/- What the functions of this chapter give, on plain data. No condition. -/
import Derived.Test.YtllpdgfanfffnaaGreatZ1
set_option linter.unnecessarySimpa false
set_option linter.defProp false
set_option linter.unusedSectionVars false
set_option linter.unusedSimpArgs false
set_option linter.unusedVariables false
namespace Go.Am
open Go Go.Proofs
theorem Cq (bs:List Nat):vR (pD bs):=dR (by simp[rM])
def Ji (a b:Nat):D:=.agg [.int .u8 (a:Int),.int .u8 (b:Int)]
def Du (a b:Int):D:=.agg [.int .u32 a,.int .u32 b]
theorem Jk {x:Nat}(h:x<=255):IntKind.i64.wrap (x:Int)=x:=wrap64 (by omega) (by omega)
theorem IY (hex:aQ PP ew [] (· = .bool true)){bs:List Nat}{m0 m1:Int}{x y:Nat}(hb:∀b∈bs,b<=255) (hbl:bs.length<=9223372036854775807) (hx:x<=255) (hy:y<=255) :
    aQ PP dN [pD bs,Du m0 m1,Ji x y] (· = .bool true):=by
  refine fZ kZ (an _ _ _) rfl (kX _ _ _ _) ?_
  unfold gW
  refine Vs.nil.box (Cq bs).one fun n4 h5 V1=>?_
  refine V1.box (dR (by simp):vR (Du m0 m1)).one fun n6 h7 V2=>?_
  refine V2.box (dR (by simp):vR (Ji x y)).one fun n8 h9 V=>?_
  refine ig hex (fun d hd=>by cases hd) ?_
  rintro _ rfl
  rw[Gu,aF]
  have dia:∀{h:Heap}{L:List (Nat×Slot)}{K:D->Prop}{i n:Nat}{d:D}{a:Nat},Vs h L->L[i]?=some (n,.box d)->a<2->af PP (.iadda (.c (.ptr n 0 0)) (.c (.int .i64 (a:Int))) 2 1) h K=K (.ptr n 0 (0+a)):=fun V hi ha=>by
    rw[GX,V.Jj _ hi ha]
  have d0:∀{K:D->Prop},af PP (.iadda (.c (.ptr n6 0 0)) (.c (.int .i64 0)) 2 1) h9 K=K (.ptr n6 0 0):=fun {K}=>dia (i:=1) (a:=0) V rfl (by omega)
  have d1:∀{K:D->Prop},af PP (.ld (.c (.ptr n4 0 0)) 1 true) h9 K=K (pD bs):=fun {K}=>V.Kc 2 (s:=1) rfl rfl
  simp only[↓d1,↓d0,↓V.Bz 1 (j:=0) rfl rfl]
  refine ig (I1 hb hbl) (fun d hd=>by simp at hd;subst hd;exact(Cq bs).pair) ?_
  rintro _ ⟨c0,hc0,rfl⟩
  refine⟨⟨by simp only[↓d0,aq],by simp only[↓V.Bz 1 (j:=0) rfl rfl,aq],trivial⟩,?_⟩
  refine ig (AF hc0 (mask:=m0)) (fun d hd=>by simp at hd;rcases hd with rfl|rfl;exact c0.qW.pair;exact aX.pair) ?_
  rintro _ rfl
  have hc:kf (iE c0 m0):=C4 hc0
  generalize iE c0 m0=c at hc
  have hnb:=hc.nb
  refine V.alloc fun n22 h23 V1=>?_
  have e0:∀{K:D->Prop},af PP (.iadda (.c (.ptr n6 0 0)) (.c (.int .i64 0)) 2 1) h23 K=K (.ptr n6 0 0):=fun {K}=>dia (i:=2) (a:=0) V1 rfl (by omega)
  have e1:∀{K:D->Prop},af PP (.ld (.c (.ptr n4 0 0)) 1 true) h23 K=K (pD bs):=fun {K}=>V1.Kc 3 (s:=1) rfl rfl
  refine⟨⟨by simp only[↓e1,aq],by simp only[↓e0,aq],by simp only[↓V1.Bz 2 (j:=0) rfl rfl,aq],trivial⟩,?_⟩
  have cst:∀c:Code,Code.e c=.agg [.int .i64 c.group,.int .i64 c.sub,.int .i64 c.regs,.int .i64 c.slots,.int .i64 c.params,.sl (c.arrays.map um.e),.sl (c.loops.map Loop.e),.sl (c.b.map Block.e)]:=fun _=>rfl
  rw[cst c]
  refine V1.Hq 0 rfl rfl rfl (fun y hy=>by simp at hy;rcases hy with rfl|rfl|rfl|rfl|rfl|rfl|rfl|rfl<;>rfl) fun h28 V2=>?_
  replace V2:Vs h28 [(n22,.box c.e),(n8,.box (Ji x y)),(n6,.box (Du m0 m1)),(n4,.box (pD bs))]:=V2
  have i1:∀{KH:D->Heap->Prop},aa PP (.iadda (.c (.ptr n6 0 0)) (.c (.int .i64 1)) 2 1) h28 KH=KH (.ptr n6 0 1) h28:=fun {KH}=>V2.Jj 2 (a:=1) rfl (by omega)
  have l22:∀{KH:D->Heap->Prop},aa PP (.ld (.c (.ptr n22 0 0)) 8 true) h28 KH=KH c.e h28:=fun {KH}=>V2.Ad 0 (s:=8) rfl rfl
  simp only[↓l22,↓i1,↓V2.tR 2 (j:=1) rfl rfl]
  refine ig (AF hc (mask:=m1)) (fun d hd=>by simp at hd;rcases hd with rfl|rfl;exact c.qW.pair;exact aX.pair) ?_
  rintro _ rfl
  have hd:kf (iE c m1):=C4 hc
  have htb:∀a b,Kk (iE c m1) a b->Kk c a b:=fun a b h=>F7 h
  generalize iE c m1=d at hd htb
  refine V2.alloc fun n37 h38 V3=>?_
  rw[cst d]
  refine V3.Hq 0 rfl rfl rfl (fun y hy=>by simp at hy;rcases hy with rfl|rfl|rfl|rfl|rfl|rfl|rfl|rfl<;>rfl) fun h40 V4=>?_
  replace V4:Vs h40 [(n37,.box d.e),(n22,.box c.e),(n8,.box (Ji x y)),(n6,.box (Du m0 m1)),(n4,.box (pD bs))]:=V4
  have j0:∀{KH:D->Heap->Prop},aa PP (.iadda (.c (.ptr n8 0 0)) (.c (.int .i64 0)) 2 1) h40 KH=KH (.ptr n8 0 0) h40:=fun {KH}=>V4.Jj 2 (a:=0) rfl (by omega)
  have j1:∀{KH:D->Heap->Prop},aa PP (.iadda (.c (.ptr n8 0 0)) (.c (.int .i64 1)) 2 1) h40 KH=KH (.ptr n8 0 1) h40:=fun {KH}=>V4.Jj 2 (a:=1) rfl (by omega)
  have l37:∀{KH:D->Heap->Prop},aa PP (.ld (.c (.ptr n37 0 0)) 8 true) h40 KH=KH d.e h40:=fun {KH}=>V4.Ad 0 (s:=8) rfl rfl
  have l22':∀{KH:D->Heap->Prop},aa PP (.ld (.c (.ptr n22 0 0)) 8 true) h40 KH=KH c.e h40:=fun {KH}=>V4.Ad 1 (s:=8) rfl rfl
  simp only[↓j0,↓V4.tR 2 (j:=0) rfl rfl,ot,Jk hx,↓V4.fa 1 rfl,Nat.zero_add,↓V4.tR 1 (j:=7) rfl rfl,wq,List.length_map]
  rw[bS]
  refine⟨by omega,?_⟩
  rw[show((x:Int).tmod (c.b.length:Int))=((x % c.b.length:Nat):Int) from aP x c.b.length]
  simp only[↓j1,↓V4.tR 2 (j:=1) rfl rfl,ot,Jk hy,↓V4.fa 1 rfl,Nat.zero_add,↓V4.tR 1 (j:=7) rfl rfl,wq,List.length_map]
  rw[bS]
  refine⟨by omega,?_⟩
  rw[show((y:Int).tmod (c.b.length:Int))=((y % c.b.length:Nat):Int) from aP y c.b.length]
  generalize x % c.b.length=a
  generalize y % c.b.length=b
  simp only[↓gS,↓l37]
  refine ig (zl hd.g) (fun d' hd'=>by simp at hd';subst hd';exact d.qW.pair) ?_
  rintro _ rfl
  try simp only[↓gS]
  refine ig (HI hd.g (a:=a) (b:=b)) (fun d' hd'=>by simp at hd';rcases hd' with rfl|rfl|rfl;exact(Ct d).pair;exact aX.pair;exact aX.pair) ?_
  rintro _ rfl
  cases ht:Jh (EL d) a b
  · simp only[↓gS]
    rw[o8]
  · simp only[↓gS,↓l22']
    refine ig (zl hc.g) (fun d' hd'=>by simp at hd';subst hd';exact c.qW.pair) ?_
    rintro _ rfl
    try simp only[↓gS]
    refine ig (HI hc.g (a:=a) (b:=b)) (fun d' hd'=>by simp at hd';rcases hd' with rfl|rfl|rfl;exact(Ct c).pair;exact aX.pair;exact aX.pair) ?_
    rintro _ rfl
    have h1:Jh (EL c) a b=true:=(Cf hc.g).2 (htb a b ((Cf hd.g).1 ht))
    rw[h1]
    try simp only[↓gS]
    rw[o8]
end Go.Am
namespace Go.Am
open Go Go.Proofs
set_option maxRecDepth 100000
theorem KC:Tryz.prog.underlying 22=some (.slice 5):=by kernel_rfl
theorem Lk:Tryz.prog.underlying 5=some (.int .u8):=by kernel_rfl
theorem Js:Tryz.prog.underlying 38=some (.int .u32):=by kernel_rfl
theorem Jr:Tryz.prog.underlying 62=some (.array 2 5):=by kernel_rfl
theorem Jq:Tryz.prog.underlying 74=some (.array 2 38):=by kernel_rfl
theorem t24:structL Tryz.prog 24=some [(22,0)]:=by kernel_rfl
theorem z24:Tryz.prog.cellsOf 24=1:=by kernel_rfl
theorem z22:Tryz.prog.cellsOf 22=1:=by kernel_rfl
theorem z5:Tryz.prog.cellsOf 5=1:=by kernel_rfl
theorem Lw:Tryz.prog.cellsOf 38=1:=by kernel_rfl
theorem Lv:Tryz.prog.cellsOf 62=2:=by kernel_rfl
theorem Lu:Tryz.prog.cellsOf 74=2:=by kernel_rfl
theorem El:IntKind.u8.min=0:=rfl
theorem Hp:IntKind.u8.max=255:=rfl
theorem Jp {m:Nat}{ds:List D}(h:HasTy Tryz.prog (m+2) 22 ds):∃bs:List Nat,ds=[rM bs]/\(∀b∈bs,b<=255)/\bs.length<=9223372036854775807:=by
  obtain⟨xs,h1,h2,h3⟩:=Bq KC Lk h
  refine⟨xs.map Int.toNat,?_,fun b hb=>?_,by unfold maxLen at h2;simp;omega⟩
  · rw[h1,rM,List.map_map]
    congr 2
    refine List.map_congr_left fun x hx=>?_
    have:=h3 x hx
    rw[El]at this
    show D.int .u8 x=D.int .u8 ((x.toNat:Nat):Int)
    rw[Int.toNat_of_nonneg this.1]
  · simp only[List.mem_map]at hb
    obtain⟨x,hx,rfl⟩:=hb
    have:=h3 x hx
    rw[El,Hp]at this
    omega
theorem Il {m:Nat}{ds:List D}(h:HasTy Tryz.prog (m+3) 24 ds):∃bs:List Nat,mkElem Tryz.prog 24 ds=pD bs/\(∀b∈bs,b<=255)/\bs.length<=9223372036854775807:=by
  obtain⟨k1,k2⟩:=y6 t24 h
  rw[z24]at k1
  have q:=k2 (22,0) (by simp)
  simp only[z22,List.drop_zero]at q
  match ds,k1 with
  | [d],_ =>
    obtain⟨bs,e1,hb,hbl⟩:=Jp q
    simp at e1
    subst e1
    exact⟨bs,by rw[Dy t24,pD],hb,hbl⟩
theorem Ek {m:Nat}{ds:List D}(h:HasTy Tryz.prog (m+1) 5 ds):∃x:Nat,ds=[.int .u8 (x:Int)]/\x<=255:=by
  obtain⟨g,h1,h2,h3⟩:=pf Lk h
  rw[El]at h2;rw[Hp]at h3
  exact⟨g.toNat,by rw[h1,Int.toNat_of_nonneg h2],by omega⟩
theorem Im {m:Nat}{ds:List D}(h:HasTy Tryz.prog (m+2) 62 ds):∃a b:Nat,mkElem Tryz.prog 62 ds=Ji a b/\a<=255/\b<=255:=by
  obtain⟨k1,k2⟩:=uG Jr h
  rw[Lv]at k1
  simp only[z5,Nat.mul_one]at k2
  obtain⟨a,ha,la⟩:=Ek (k2 0 (by omega))
  obtain⟨b,hb,lb⟩:=Ek (k2 1 (by omega))
  rw[zZ Jr]
  match ds,k1 with
  | [d0,d1],_ =>
    simp at ha hb
    exact⟨a,b,by rw[ha,hb,Ji],la,lb⟩
theorem Gg {m:Nat}{ds:List D}(h:HasTy Tryz.prog (m+2) 74 ds):∃a b:Int,mkElem Tryz.prog 74 ds=Du a b:=by
  obtain⟨k1,k2⟩:=uG Jq h
  rw[Lu]at k1
  simp only[Lw,Nat.mul_one]at k2
  obtain⟨a,ha,-,-⟩:=pf Js (k2 0 (by omega))
  obtain⟨b,hb,-,-⟩:=pf Js (k2 1 (by omega))
  rw[zZ Jq]
  match ds,k1 with
  | [d0,d1],_ =>
    simp at ha hb
    exact⟨a,b,by rw[ha,hb,Du]⟩
end Go.Am
namespace Go.Am
open Go Go.Proofs
set_option maxRecDepth 100000
theorem Iz (xs:List D) (h:xE Tryz.prog 12 Tryz.f6.params.toList xs):aQ Tryz.prog 6 xs (· = .bool true):=by
  have hp:Tryz.f6.params.toList=[24,74,62]:=by kernel_rfl
  rw[hp]at h
  obtain⟨c1,r1,rfl,h1,c2,r2,rfl,h2,c3,r3,rfl,h3,rfl⟩:=h
  obtain⟨bs,e1,b1,b2⟩:=Il h1
  obtain⟨a,b,e2⟩:=Gg h2
  obtain⟨x,y,e3,hx,hy⟩:=Im h3
  show aQ Tryz.prog 6 [mkElem Tryz.prog 24 c1,mkElem Tryz.prog 74 c2,mkElem Tryz.prog 62 c3] _
  rw[e1,e2,e3]
  exact IY BK b1 b2 hx hy
end Go.Am
