/- What the functions of this chapter give, on plain data. No condition. -/
import Derived.Test.YtjhjndjghaagiaaZ1
set_option linter.unnecessarySimpa false
set_option linter.defProp false
set_option linter.unusedSectionVars false
set_option linter.unusedSimpArgs false
set_option linter.unusedVariables false
namespace Go.Am
open Go Go.Proofs
section
variable {h:Heap}{F:LSq}{KH:HKq}{nB:Nat}{A:List (Nat×Block)}
theorem OB.Ko:OB h nB A F↔Vs h (F++(nB,.arr 14 (A.map ku))::A.map tp) :=
 ⟨fun V=>Vs.perm (List.perm_append_comm (l₁:=(nB,.arr 14 (A.map ku))::A.map tp) (l₂:=F)) V,fun V=>V.perm (List.perm_append_comm (l₁:=F) (l₂:=(nB,.arr 14 (A.map ku))::A.map tp))⟩
theorem OB.wq (V:OB h nB A F):Vs h F:=(OB.Ko.1 V).sub (List.sublist_append_left F _)
theorem OB.alloc (V:OB h nB A F){d:D}(hK:∀n h',OB h' nB A ((n,.box d)::F)->KH (.ptr n 0 0) h'):aa PP (.alloc d) h KH :=
 (OB.Ko.1 V).alloc fun n h' V'=>hK n h' (OB.Ko.2 V')
theorem OB.less {x:Nat×Slot}(V:OB h nB A (x::F)):OB h nB A F:=OB.Ko.2 (OB.Ko.1 V).pop
theorem OB.M4 {n s:Nat}{cs cs':List D}(V:OB h nB A ((n,.box (.agg cs))::F)) (hl:cs.length=s) (hl':cs'.length=s) (ho:∀x,x∈cs'->x.one=true) (hK:∀h',OB h' nB A ((n,.box (.agg cs'))::F)->KH .undef h'):aa PP (.st (.c (.ptr n 0 0)) (.c (.agg cs')) s) h KH :=
 (OB.Ko.1 V).zz 0 rfl hl hl' ho fun h' V'=>hK h' (OB.Ko.2 V')
end
section
variable {c:Code}{h:Heap}{nA nL nB n13 n2:Nat}{bs:List Nat}{A:List (Nat×Block)}
end
end Go.Am
namespace Go.Am
open Go Go.Proofs
theorem Fe (bs:List Nat):wg (uW bs):=jc (by simp[uC])
end Go.Am
namespace Go.Am
open Go Go.Proofs
set_option maxRecDepth 100000
theorem QB:Try.prog.underlying 22=some (.slice 5):=by kernel_rfl
theorem RA:Try.prog.underlying 5=some (.int .u8):=by kernel_rfl
theorem OM:Try.prog.underlying 62=some (.array 2 5):=by kernel_rfl
theorem t24:structL Try.prog 24=some [(22,0)]:=by kernel_rfl
theorem z24:Try.prog.cellsOf 24=1:=by kernel_rfl
theorem z22:Try.prog.cellsOf 22=1:=by kernel_rfl
theorem z5:Try.prog.cellsOf 5=1:=by kernel_rfl
theorem RK:Try.prog.cellsOf 62=2:=by kernel_rfl
theorem HA:IntKind.u8.min=0:=rfl
theorem Md:IntKind.u8.max=255:=rfl
theorem OL {m:Nat}{ds:List D}(h:HasTy Try.prog (m+2) 22 ds):∃bs:List Nat,ds=[uC bs]/\(∀b∈bs,b<=255)/\bs.length<=9223372036854775807:=by
 obtain⟨xs,h1,h2,h3⟩:=D5 QB RA h
 refine⟨xs.map Int.toNat,?_,fun b hb=>?_,by unfold maxLen at h2;simp;omega⟩
 ·rw[h1,uC,List.map_map]
  congr 2
  refine List.map_congr_left fun x hx=>?_
  have:=h3 x hx
  rw[HA]at this
  show D.int .u8 x=D.int .u8 ((x.toNat:Nat):Int)
  rw[Int.toNat_of_nonneg this.1]
 ·simp only[List.mem_map]at hb
  obtain⟨x,hx,rfl⟩:=hb
  have:=h3 x hx
  rw[HA,Md]at this
  omega
theorem Nl {m:Nat}{ds:List D}(h:HasTy Try.prog (m+3) 24 ds):∃bs:List Nat,mkElem Try.prog 24 ds=uW bs/\(∀b∈bs,b<=255)/\bs.length<=9223372036854775807:=by
 obtain⟨k1,k2⟩:=Be t24 h
 rw[z24]at k1
 have q:=k2 (22,0) (by simp)
 simp only[z22,List.drop_zero]at q
 match ds,k1 with
 | [d],_ =>
  obtain⟨bs,e1,hb,hbl⟩:=OL q
  simp at e1
  subst e1
  exact⟨bs,by rw[Gl t24,uW],hb,hbl⟩
theorem Hz {m:Nat}{ds:List D}(h:HasTy Try.prog (m+1) 5 ds):∃x:Nat,ds=[.int .u8 (x:Int)]/\x<=255:=by
 obtain⟨g,h1,h2,h3⟩:=Al RA h
 rw[HA]at h2;rw[Md]at h3
 exact⟨g.toNat,by rw[h1,Int.toNat_of_nonneg h2],by omega⟩
def OE (a b:Nat):D:=.agg [.int .u8 (a:Int),.int .u8 (b:Int)]
theorem Nm {m:Nat}{ds:List D}(h:HasTy Try.prog (m+2) 62 ds):∃a b:Nat,mkElem Try.prog 62 ds=OE a b/\a<=255/\b<=255:=by
 obtain⟨k1,k2⟩:=Cv OM h
 rw[RK]at k1
 simp only[z5,Nat.mul_one]at k2
 obtain⟨a,ha,la⟩:=Hz (k2 0 (by omega))
 obtain⟨b,hb,lb⟩:=Hz (k2 1 (by omega))
 rw[Iw OM]
 match ds,k1 with
 | [d0,d1],_ =>
  simp at ha hb
  exact⟨a,b,by rw[ha,hb,OE],la,lb⟩
end Go.Am
namespace Go.Am
open Go Go.Proofs
def DD (p q n:Int):Int:=if n=p then q else if n=q then p else n
def oG (p q:Int) (o:b8):b8:=if o.kind=2/\o.n=p then gu q else if o.kind=2/\o.n=q then gu p else o
def yr (p q:Int) (x:aG):aG:={ x with d:=oG p q x.d,a:=oG p q x.a,b:=oG p q x.b,c:=oG p q x.c }
def DO (p q:Int) (t:Term):Term:={ t with d:=oG p q t.d,a:=oG p q t.a,b:=oG p q t.b }
def Ac (p q:Int) (B:Block):Block:=⟨B.i.map (yr p q),DO p q B.t⟩
def mX (p q:Int) (c:Code):Code:={ c with b:=c.b.map (Ac p q) }
def DP (p q:Int) (f:Fa):Fa:=if f.vF then f else ⟨false,DD p q f.n⟩
def HF (p q:Int) (r:Ru):Ru:=⟨DP p q r.of,r.needs.map (DP p q),r.never⟩
section
variable {p q:Int}
theorem Kp {n:Int}:DD p q (DD p q n)=n:=by
 unfold DD
 by_cases h1:n=p
 ·subst h1
  rw[if_pos rfl]
  by_cases h2:q=n
  ·rw[if_pos h2];exact h2
  ·rw[if_neg h2,if_pos rfl]
 ·rw[if_neg h1]
  by_cases h2:n=q
  ·subst h2
   rw[if_pos rfl,if_pos rfl]
  ·rw[if_neg h2,if_neg h1,if_neg h2]
theorem AU {f:Fa}:DP p q (DP p q f)=f:=by
 obtain⟨b,n⟩:=f
 cases b
 ·simp[DP,Kp]
 ·simp[DP]
theorem HH {b:Nat}:DP p q (zC b)=zC b:=rfl
theorem xZ {o:b8}(h:o.kind≠2):oG p q o=o:=by
 unfold oG;rw[if_neg (fun k=>h k.1),if_neg (fun k=>h k.1)]
theorem HG {o:b8}(h:o.kind=2):(oG p q o).kind=2/\(oG p q o).n=DD p q o.n:=by
 unfold oG DD
 by_cases h1:o.n=p
 ·rw[if_pos ⟨h,h1⟩,if_pos h1];exact⟨rfl,rfl⟩
 ·rw[if_neg (fun k=>h1 k.2),if_neg h1]
  by_cases h2:o.n=q
  ·rw[if_pos ⟨h,h2⟩,if_pos h2];exact⟨rfl,rfl⟩
  ·rw[if_neg (fun k=>h2 k.2),if_neg h2];exact⟨h,rfl⟩
theorem jS:oG p q aw=aw:=xZ (by decide)
theorem fO {R:Int}(hp:0<=p/\p<R) (hq:0<=q/\q<R){o:b8}(h:lx R o):lx R (oG p q o):=by
 unfold oG
 split
 ·exact⟨q,hq.1,hq.2,rfl⟩
 ·split
  ·exact⟨p,hp.1,hp.2,rfl⟩
  ·exact h
theorem iN {R:Int}(hp:0<=p/\p<R) (hq:0<=q/\q<R){o:b8}(h:oC R o):oC R (oG p q o):=by
 rcases h with h|⟨v,h1,h2,rfl⟩
 ·exact Or.inl (fO hp hq h)
 ·rw[xZ (by simp[Const])];exact Or.inr ⟨v,h1,h2,rfl⟩
theorem M0 {R:Int}(hp:0<=p/\p<R) (hq:0<=q/\q<R){x:aG}(h:xU R x):xU R (yr p q x):=by
 cases h with
 | mov d a h1 h2=>unfold yr;simp only[jS];exact .mov _ _ (fO hp hq h1) (iN hp hq h2)
 | un s d a h0 h1 h2=>unfold yr;simp only[jS];exact .un s _ _ h0 (fO hp hq h1) (iN hp hq h2)
 | bin s d a b h0 h1 h2 h3=>unfold yr;simp only[jS];exact .bin s _ _ _ h0 (fO hp hq h1) (iN hp hq h2) (iN hp hq h3)
 | sel d a b c h1 h2 h3 h4=>unfold yr;exact .sel _ _ _ _ (fO hp hq h1) (iN hp hq h2) (iN hp hq h3) (iN hp hq h4)
 | id s d h0 h1=>unfold yr;simp only[jS];exact .id s _ h0 (fO hp hq h1)
 | param n d h0 h1=>unfold yr;simp only[jS];exact .param n _ h0 (fO hp hq h1)
 | load n d a h0 h1 h2=>unfold yr;simp only[jS];exact .load n _ _ h0 (fO hp hq h1) (fO hp hq h2)
 | store n a b h0 h1 h2=>unfold yr;simp only[jS];exact .store n _ _ h0 (fO hp hq h1) (iN hp hq h2)
 | atom s n a b hs h0 h1 h2=>unfold yr;simp only[jS];exact .atom s n _ _ hs h0 (fO hp hq h1) (iN hp hq h2)
 | fence s h0=>unfold yr;simp only[jS];exact .fence s h0
theorem MZ {N:Nat}{R:Int}(hp:0<=p/\p<R) (hq:0<=q/\q<R){t:Term}(h:zD N R t):zD N R (DO p q t):=by
 cases h with
 | jump a h=>unfold DO;simp only[jS];exact .jump a h
 | branch o a b ho h1 h2=>unfold DO;simp only[jS];exact .branch _ a b (fO hp hq ho) h1 h2
 | barrier a h=>unfold DO;simp only[jS];exact .barrier a h
 | collect s d a b t hs hd ha hb h=>unfold DO;exact .collect s _ _ _ t hs (fO hp hq hd) (iN hp hq ha) (iN hp hq hb) h
 | exit=>unfold DO;simp only[jS];exact .exit
theorem sw {c:Code}{b:Nat}:(mX p q c).b[b]?=(c.b[b]?).map (Ac p q):=by simp[mX]
theorem HI {c:Code}(hp:0<=p/\p<c.regs) (hq:0<=q/\q<c.regs) (hc:mV c):mV (mX p q c):=by
 have hl:(mX p q c).b.length=c.b.length:=by simp[mX]
 refine⟨⟨by rw[hl];exact hc.g.nb,fun B hB=>?_⟩,fun B hB x hx=>?_,fun B hB=>?_,hc.rg⟩
 ·rw[hl]
  simp only[mX,List.mem_map]at hB
  obtain⟨B0,hB0,rfl⟩:=hB
  exact MZ hp hq (hc.g.t B0 hB0)
 ·simp only[mX,List.mem_map]at hB
  obtain⟨B0,hB0,rfl⟩:=hB
  simp only[Ac,List.mem_map]at hx
  obtain⟨y,hy,rfl⟩:=hx
  exact M0 hp hq (hc.i B0 hB0 y hy)
 ·simp only[mX,List.mem_map]at hB
  obtain⟨B0,hB0,rfl⟩:=hB
  simp only[Ac,List.length_map]
  exact hc.len B0 hB0
theorem OR {c:Code}:zv c (mX p q c):=by
 refine⟨by simp[mX],fun b=>?_,fun b=>?_⟩
 ·unfold edg
  rw[sw]
  cases c.b[b]?<;>rfl
 ·unfold Ef
  rw[sw]
  cases c.b[b]?<;>rfl
theorem Bt {o:b8}(h:0<=dw o):dw (oG p q o)=DD p q (dw o):=by
 unfold dw at *
 by_cases hk:o.kind=2
 ·obtain⟨h1,h2⟩:=HG (p:=p) (q:=q) hk
  rw[if_pos h1,if_pos hk,h2]
 ·rw[if_neg hk]at h;omega
theorem vw {o:b8}(hp:0<=p) (hq:0<=q):0<=dw (oG p q o)↔0<=dw o:=by
 by_cases hk:o.kind=2
 ·obtain⟨h1,h2⟩:=HG (p:=p) (q:=q) hk
  unfold dw
  rw[if_pos h1,if_pos hk,h2]
  unfold DD
  split
  ·rename_i e;omega
  ·split
   ·rename_i e;omega
   ·exact Iff.rfl
 ·rw[xZ hk]
theorem Cc {l:List b8}:bB (l.map (oG p q))=(bB l).map (DP p q):=by
 induction l with
 | nil=>rfl
 | cons o l ih =>
  unfold bB at ih ⊢
  rw[List.map_cons,List.filter_cons,List.filter_cons]
  by_cases hk:o.kind=2
  ·obtain⟨h1,h2⟩:=HG (p:=p) (q:=q) hk
   rw[if_pos (by simpa using h1),if_pos (by simpa using hk),List.map_cons,List.map_cons,List.map_cons,ih,h2]
   rfl
  ·rw[if_neg (by rw[xZ hk];simpa using hk),if_neg (by simpa using hk)]
   exact ih
theorem Cr {b:Nat}{x:aG}(h:0<=dw x.d):nC b (yr p q x)=HF p q (nC b x):=by
 have e1:bB [oG p q x.a,oG p q x.b,oG p q x.c]=(bB [x.a,x.b,x.c]).map (DP p q):=Cc (l:=[x.a,x.b,x.c])
 simp only[nC,yr,HF,List.map_append,List.map_cons,List.map_nil,HH,Ru.mk.injEq]
 refine⟨?_,by rw[e1],rfl⟩
 rw[Bt h];rfl
theorem FJ {b a:Nat}{t:Term}:wZ b a (DO p q t)=HF p q (wZ b a t):=by
 have e1:bB [oG p q t.a]=(bB [t.a]).map (DP p q):=Cc (l:=[t.a])
 simp only[wZ,DO,HF,List.map_append,List.map_cons,List.map_nil,HH,Ru.mk.injEq]
 exact⟨trivial,by rw[e1],trivial⟩
section
variable {c:Code}(hp:0<=p/\p<c.regs) (hq:0<=q/\q<c.regs) (hc:mV c) (h1:Oz c) (h2:Oz (mX p q c))
theorem m9 {b:Nat}:Path (edg (mX p q c)) 0 b↔Path (edg c) 0 b:=by
 have e:edg c=edg (mX p q c):=funext fun b=>(OR (p:=p) (q:=q) (c:=c)).e b
 rw[<- e]
include hp hq hc h1 h2
theorem HE {a b:Nat}:Mx (mX p q c) a b↔Mx c a b:=(Jd OR hc.g (HI hp hq hc).g h1 h2).symm
theorem OP {r:Ru}(h:r∈oH c):HF p q r∈oH (mX p q c):=by
 have hl:(mX p q c).b.length=c.b.length:=by simp[mX]
 rw[sx]at h ⊢
 cases h with
 | no hb hn=>exact .no (by rw[hl];exact hb) (fun k=>hn (m9.1 k))
 | @dep b a A hb hn hd hA =>
  rw[<- FJ]
  have:=Ox.dep (c:=mX p q c) (b:=b) (a:=a) (A:=Ac p q A) (by rw[hl];exact hb) (m9.2 hn) ((HE hp hq hc h1 h2).2 hd) (by rw[sw,hA];rfl)
  exact this
 | @inst b B x hB hn hx h0 =>
  rw[<- Cr h0]
  exact .inst (B:=Ac p q B) (by rw[sw,hB];rfl) (m9.2 hn) (List.mem_map_of_mem hx) ((vw hp.1 hq.1).2 h0)
 | @fin b B hB hn h0 =>
  have:=Ox.fin (c:=mX p q c) (b:=b) (B:=Ac p q B) (by rw[sw,hB];rfl) (m9.2 hn) ((vw hp.1 hq.1).2 h0)
  have e:(⟨wh (dw (Ac p q B).t.d),[],true⟩:Ru)=HF p q ⟨wh (dw B.t.d),[],true⟩:=by
   simp only[Ac,DO,HF,List.map_nil,Ru.mk.injEq,and_true,Bt h0];rfl
  rw[<- e];exact this
theorem OQ {r:Ru}(h:r∈oH (mX p q c)):∃r0,r0∈oH c/\r=HF p q r0:=by
 have hl:(mX p q c).b.length=c.b.length:=by simp[mX]
 have get:∀{b:Nat}{B:Block},(mX p q c).b[b]?=some B->∃B0,c.b[b]?=some B0/\B=Ac p q B0:=fun hB=>by
  rw[sw,Option.map_eq_some_iff]at hB
  obtain⟨B0,h0,rfl⟩:=hB
  exact⟨B0,h0,rfl⟩
 rw[sx]at h
 cases h with
 | @no b hb hn=>exact⟨Mj b,sx.2 (.no (by rw[<- hl];exact hb) (fun k=>hn (m9.2 k))),rfl⟩
 | @dep b a A hb hn hd hA =>
  obtain⟨A0,hA0,rfl⟩:=get hA
  exact⟨wZ b a A0.t,sx.2 (.dep (by rw[<- hl];exact hb) (m9.1 hn) ((HE hp hq hc h1 h2).1 hd) hA0),FJ⟩
 | @inst b B x hB hn hx h0 =>
  obtain⟨B0,hB0,rfl⟩:=get hB
  simp only[Ac,List.mem_map]at hx
  obtain⟨y,hy,rfl⟩:=hx
  have h0':=(vw hp.1 hq.1).1 h0
  exact⟨nC b y,sx.2 (.inst hB0 (m9.1 hn) hy h0'),Cr h0'⟩
 | @fin b B hB hn h0 =>
  obtain⟨B0,hB0,rfl⟩:=get hB
  have h0':=(vw hp.1 hq.1).1 h0
  refine⟨_,sx.2 (.fin hB0 (m9.1 hn) h0'),?_⟩
  simp only[Ac,DO,HF,List.map_nil,Ru.mk.injEq,and_true,Bt h0'];rfl
theorem Me {f:Fa}:Gf (oH (mX p q c)) f↔Gf (oH c) (DP p q f):=by
 constructor
 ·rintro⟨s,hs,hf⟩
  refine⟨fun g=>s (DP p q g),fun r hr hg=>?_,by simpa[AU] using hf⟩
  obtain⟨k1,k2⟩:=hs _ (OP hp hq hc h1 h2 hr) hg
  exact⟨k1,fun g hg=>k2 _ (List.mem_map_of_mem hg)⟩
 ·rintro⟨s,hs,hf⟩
  refine⟨fun g=>s (DP p q g),fun r hr hg=>?_,hf⟩
  obtain⟨r0,hr0,rfl⟩:=OQ hp hq hc h1 h2 hr
  have hg':s r0.of:=by simpa[HF,AU] using hg
  obtain⟨k1,k2⟩:=hs r0 hr0 hg'
  refine⟨k1,fun g hg=>?_⟩
  simp only[HF,List.mem_map]at hg
  obtain⟨g0,hg0,rfl⟩:=hg
  rw[AU];exact k2 g0 hg0
theorem QC:D6 (mX p q c) (oH (mX p q c))=D6 c (oH c):=by
 refine vr (by rw[sD,sD];simp[mX]) fun k hk=>?_
 rw[sD]at hk
 have hk':k<c.b.length:=by simpa[mX] using hk
 rw[Bf hk,Bf hk',Me hp hq hc h1 h2,HH]
theorem QF {k j:Nat}(hk:k<c.regs.toNat) (hj:j<c.regs.toNat) (e:DD p q (k:Int)=(j:Int)):hasB (zO (mX p q c) (oH (mX p q c))) k=hasB (zO c (oH c)) j:=by
 have a:hasB (zO (mX p q c) (oH (mX p q c))) k=true↔Gf (oH (mX p q c)) (wh (k:Int)):=Bg (c:=mX p q c) hk
 have b:hasB (zO c (oH c)) j=true↔Gf (oH c) (wh (j:Int)):=Bg hj
 rw[Bool.eq_iff_iff,a,b,Me hp hq hc h1 h2]
 have:DP p q (wh (k:Int))=wh (j:Int):=by simp[DP,wh,e]
 rw[this]
end
end
end Go.Am
namespace Go.Am
open Go Go.Proofs
theorem GV {o:b8}{p q:Int}:aV PP bo [o.e,.int .i64 p,.int .i64 q] (· = (oG p q o).e):=by
 refine dm uz (av _ _ _) rfl (uu _ _ _ _) ?_
 unfold qg
 refine Vs.nil.box o.eJ.one fun n4 h5 V5=>?_
 refine V5.alloc fun n6 h7 V7=>?_
 rw[V7.fa 1 rfl,V7.fv 1 (j:=0+0) rfl rfl,cO]
 have fin:∀(o':b8) {h:Heap}{X:LSq}{cs:List D},Vs h ((n6,.box (.agg cs))::X)->cs.length=3->(oG p q o).e=o'.e->aa PP (.st (.c (.ptr n6 0 0)) (.c o'.e) 3) h fun _ h35=>aa PP (.ld (.c (.ptr n6 0 0)) 3 true) h35 fun a36 _=>wu (· = (oG p q o).e) a36 h35:=fun o' {h X cs} V hl e=>by
  refine V.zz 0 (cs':=o'.cs) rfl hl rfl (fun y hy=>o'.eJ.one y hy) fun h35 V35=>?_
  simp only[List.set_cons_zero]at V35
  rw[V35.s9 0 (s:=3) rfl rfl]
  exact yh o'.eJ e.symm
 have last:o.kind=2/\o.n=p->oG p q o=gu q:=fun k=>by unfold oG;rw[if_pos k]
 have ml:(¬(o.kind=2/\o.n=p))->(o.kind=2/\o.n=q)->oG p q o=gu p:=fun k k'=>by unfold oG;rw[if_neg k,if_pos k']
 have nn:(¬(o.kind=2/\o.n=p))->(¬(o.kind=2/\o.n=q))->oG p q o=o:=fun k k'=>by unfold oG;rw[if_neg k,if_neg k']
 by_cases hk:o.kind=2
 ·rw[decide_eq_true hk]
  simp only[↓gS]
  rw[V7.fa 1 rfl,V7.fv 1 (j:=0+1) rfl rfl,cO]
  by_cases h1:o.n=p
  ·rw[decide_eq_true h1]
   simp only[↓gS]
   refine dP qc (fun d hd=>by simp at hd;subst hd;exact aS.pair) ?_
   rintro _ rfl
   exact fin (gu q) V7 rfl (by rw[last ⟨hk,h1⟩])
  ·rw[decide_eq_false h1]
   simp only[↓gS]
   rw[V7.fa 1 rfl,V7.fv 1 (j:=0+0) rfl rfl,cO,decide_eq_true hk]
   simp only[↓gS]
   rw[V7.fa 1 rfl,V7.fv 1 (j:=0+1) rfl rfl,cO]
   by_cases h2:o.n=q
   ·rw[decide_eq_true h2]
    simp only[↓gS]
    refine dP qc (fun d hd=>by simp at hd;subst hd;exact aS.pair) ?_
    rintro _ rfl
    exact fin (gu p) V7 rfl (by rw[ml (fun k=>h1 k.2) ⟨hk,h2⟩])
   ·rw[decide_eq_false h2]
    simp only[↓gS]
    rw[V7.s9 1 (s:=3) (cs:=o.cs) rfl rfl]
    exact fin o V7 rfl (by rw[nn (fun k=>h1 k.2) (fun k=>h2 k.2)])
 ·rw[decide_eq_false hk]
  simp only[↓gS]
  rw[V7.fa 1 rfl,V7.fv 1 (j:=0+0) rfl rfl,cO,decide_eq_false hk]
  simp only[↓gS]
  rw[V7.s9 1 (s:=3) (cs:=o.cs) rfl rfl]
  exact fin o V7 rfl (by rw[nn (fun k=>hk k.1) (fun k=>hk k.1)])
theorem OB.DQ {h:Heap}{F:LSq}{KH:HKq}{nB n off len:Nat}{A:List (Nat×Block)}{d d' v:D}(V:OB h nB A ((n,.box d)::F)) (hv:v.cells.length=len) (ho:aF v) (hl:off+len<=d.cells.length) (e:setCells d off v.cells=d') (hK:∀h',OB h' nB A ((n,.box d')::F)->KH .undef h'):aa PP (.st (.c (.ptr n 0 off)) (.c v) len) h KH:=by
 have V':=OB.Ko.1 V
 rw[lY,V'.get 0 _ _ rfl]
 refine⟨hv,ho,rfl,hl,?_⟩
 rw[e]
 exact hK _ (OB.Ko.2 (V'.b6 0 rfl (by simp)))
section
variable {P:Program}{h:Heap}{KH:HKq}{n:Nat}{x:aG}{t:Term}
theorem Rl (a:h n=.box x.e):aa P (.ld (.c (.ptr n 0 6)) 3 true) h KH=KH x.a.e h:=Fo a (by simp[aG.cs])
theorem Rk (a:h n=.box x.e):aa P (.ld (.c (.ptr n 0 9)) 3 true) h KH=KH x.b.e h:=Fo a (by simp[aG.cs])
theorem PX (a:h n=.box x.e):aa P (.ld (.c (.ptr n 0 12)) 3 true) h KH=KH x.c.e h:=Fo a (by simp[aG.cs])
theorem Rj (a:h n=.box t.e):aa P (.ld (.c (.ptr n 0 5)) 3 true) h KH=KH t.a.e h:=Fo a (by simp[Term.cs])
theorem Ri (a:h n=.box t.e):aa P (.ld (.c (.ptr n 0 8)) 3 true) h KH=KH t.b.e h:=Fo a (by simp[Term.cs])
end
def xH (p q:Int) (l:List aG) (k:Nat):List aG:=(l.map (yr p q)).take k++l.drop k
theorem IA {p q:Int}{l:List aG}{k:Nat}(h:k<=l.length):(xH p q l k).length=l.length:=by simp[xH];omega
theorem IB {p q:Int}{l:List aG}{k:Nat}{x:aG}(h:l[k]?=some x):(xH p q l k)[k]?=some x:=by
 have hk:=(List.getElem?_eq_some_iff.1 h).1
 have h1:((l.map (yr p q)).take k).length=k:=by simp;omega
 unfold xH
 rw[List.getElem?_append_right (by omega),h1,Nat.sub_self,List.getElem?_drop,Nat.add_zero,h]
theorem Iz {p q:Int}{l:List aG}{k:Nat}{x:aG}(h:l[k]?=some x):(xH p q l k).set k (yr p q x)=xH p q l (k+1):=by
 have hk:=(List.getElem?_eq_some_iff.1 h).1
 have h1:((l.map (yr p q)).take k).length=k:=by simp;omega
 have h2:l.drop k=x::l.drop (k+1):=by
  rw[List.drop_eq_getElem_cons hk,(List.getElem?_eq_some_iff.1 h).2]
 unfold xH
 rw[List.set_append_right _ _ (by omega),h1,Nat.sub_self,h2,List.set_cons_zero,List.take_add_one,List.getElem?_map,h]
 simp
def A3 (p q:Int) (l:List Block) (b:Nat):List Block:=(l.map (Ac p q)).take b++l.drop b
theorem Iy {p q:Int}{l:List Block}{b:Nat}{B:Block}(h:l[b]?=some B):(A3 p q l b)[b]?=some B:=by
 have hk:=(List.getElem?_eq_some_iff.1 h).1
 have h1:((l.map (Ac p q)).take b).length=b:=by simp;omega
 unfold A3
 rw[List.getElem?_append_right (by omega),h1,Nat.sub_self,List.getElem?_drop,Nat.add_zero,h]
theorem Ix {p q:Int}{l:List Block}{b:Nat}{B:Block}(h:l[b]?=some B):(A3 p q l b).set b (Ac p q B)=A3 p q l (b+1):=by
 have hk:=(List.getElem?_eq_some_iff.1 h).1
 have h1:((l.map (Ac p q)).take b).length=b:=by simp;omega
 have h2:l.drop b=B::l.drop (b+1):=by
  rw[List.drop_eq_getElem_cons hk,(List.getElem?_eq_some_iff.1 h).2]
 unfold A3
 rw[List.set_append_right _ _ (by omega),h1,Nat.sub_self,h2,List.set_cons_zero,List.take_add_one,List.getElem?_map,h]
 simp
section
variable {c:Code}{h:Heap}{nA nL nB n44:Nat}{A:List (Nat×Block)}{F:LSq}{p q:Int}
abbrev Bu (c:Code) (nA nL nB n44:Nat) (F:LSq):LSq:=(n44,.box (tc c (.ms nA 0 c.arrays.length) (.ms nL 0 c.loops.length) (.ms nB 0 c.b.length)))::F
theorem zj {h:Heap}{o:b8}{p q:Int}{KH:HKq}(hK:KH (oG p q o).e h):af PP bo [o.e,.int .i64 p,.int .i64 q] h KH:=by
 refine dP GV (fun d hd=>by simp at hd;rcases hd with rfl|rfl|rfl;exact o.eJ.pair;exact aS.pair;exact aS.pair) ?_
 rintro _ rfl
 exact hK
theorem Hv {b w:Nat}{B:Block}(hA:A[b]?=some (w,B)) (hb:b<c.b.length) (hBl:B.i.length<=100) (V:OB h nB A (Bu c nA nL nB n44 F)){a7 a14:D}{f:Nat->D}(hf:f 10=nD b){J:HJq}(hJ:∀h',OB h' nB (A.set b (w,{ B with i:=B.i.map (yr p q) })) (Bu c nA nL nB n44 F)->J [] h') :
  dh h (.ptr n44 0 0) f (.int .i64 p) (.int .i64 q) a7 a14 J:=by
 have hbA:=(List.getElem?_eq_some_iff.1 hA).1
 unfold dh
 refine⟨fun m g h'=>∃k:Nat,g=[nD k]/\k<=B.i.length/\m=B.i.length-k/\OB h' nB (A.set b (w,{ B with i:=xH p q B.i k })) (Bu c nA nL nB n44 F),_,⟨0,rfl,by omega,rfl,by
  have:xH p q B.i 0=B.i:=by simp[xH]
  rw[this,show(w,{ B with i:=B.i })=(w,B) from rfl,AV hA];exact V⟩,?_⟩
 rintro m g h1 ⟨k,hq,hk,hm,V1⟩
 simp only[List.cons.injEq,and_true]at hq
 have getb:∀{B':Block},(A.set b (w,B'))[b]?=some (w,B'):=fun {B'}=>by rw[List.getElem?_set,if_pos rfl,if_pos hbA]
 have setb:∀{B' B'':Block},(A.set b (w,B')).set b (w,B'')=A.set b (w,B''):=fun {B' B''}=>List.set_set ..
 have Vf1:=V1.wq
 have hml:=IA (p:=p) (q:=q) hk
 simp only[hq,hf,nD]
 rw[Vf1.fa 0 rfl,Vf1.fv 0 (j:=0+7) rfl rfl,V1.ia hb,V1.fa,V1.QT getb,V1.Qx getb]
 simp only[hml]
 by_cases hlt:k<B.i.length
 ·rw[sC (by omega),ai]
  obtain⟨x,hx⟩:∃x,B.i[k]?=some x:=⟨B.i[k],List.getElem?_eq_getElem hlt⟩
  have hxm:=IB (p:=p) (q:=q) hx
  rw[Vf1.fa 0 rfl,Vf1.fv 0 (j:=0+7) rfl rfl,V1.ia hb,V1.fa,V1.QT getb,V1.Ry getb (by simp only[hml];omega),V1.RS getb hxm]
  refine V1.alloc fun n413 h414 V414=>?_
  refine V414.M4 (cs':=x.cs) rfl rfl (fun y hy=>x.eJ.one y hy) fun h416 V416=>?_
  rw[V416.wq.fa 0 rfl,Mm (x:=x) (V416.wq.get 0 _ _ rfl)]
  refine zj ?_
  rw[V416.wq.fa 0 rfl]
  refine V416.DQ (d':=({ x with d:=oG p q x.d }:aG).e) rfl (b8.eJ _).one (by show 0+3+3<=15;omega) rfl fun h2 V2=>?_
  rw[V2.wq.fa 0 rfl,Rl (V2.wq.get 0 _ _ rfl)]
  refine zj ?_
  rw[V2.wq.fa 0 rfl]
  refine V2.DQ (d':=({ x with d:=oG p q x.d,a:=oG p q x.a }:aG).e) rfl (b8.eJ _).one (by show 0+6+3<=15;omega) rfl fun h3 V3=>?_
  rw[V3.wq.fa 0 rfl,Rk (V3.wq.get 0 _ _ rfl)]
  refine zj ?_
  rw[V3.wq.fa 0 rfl]
  refine V3.DQ (d':=({ x with d:=oG p q x.d,a:=oG p q x.a,b:=oG p q x.b }:aG).e) rfl (b8.eJ _).one (by show 0+9+3<=15;omega) rfl fun h4 V4=>?_
  rw[V4.wq.fa 0 rfl,PX (V4.wq.get 0 _ _ rfl)]
  refine zj ?_
  rw[V4.wq.fa 0 rfl]
  refine V4.DQ (d':=(yr p q x).e) rfl (b8.eJ _).one (by show 0+12+3<=15;omega) rfl fun h5 V5=>?_
  have Vf:=V5.wq
  rw[Vf.rG 1 rfl,Vf.uj 1 (j:=0+7) rfl rfl,V5.FI hb,V5.rG,V5.Re getb,Vf.Rc 0 (s:=15) (cs:=(yr p q x).cs) rfl rfl,V5.Ra getb (by simp only[hml];omega)]
  refine V5.RM (x':=yr p q x) getb hxm fun h6 V6=>?_
  rw[fV (by omega) (by omega)]
  simp only[ae,true_and]
  refine⟨_,by omega,k+1,rfl,by omega,rfl,?_⟩
  rw[setb]at V6
  simp only[Iz hx]at V6
  exact V6.less
 ·have:k=B.i.length:=by omega
  subst this
  rw[qY (by omega),ah]
  simp only[ae,true_and]
  have:xH p q B.i B.i.length=B.i.map (yr p q):=by
   unfold xH;rw[List.drop_length,List.append_nil,List.take_of_length_le (by simp)]
  rw[this]at V1
  exact hJ h1 V1
theorem F3 (hc:mV c) (hA:A.map Prod.snd=c.b) (V:OB h nB A (Bu c nA nL nB n44 F)){a7 a14:D}{J:HJq}(hJ:∀h' (A':List (Nat×Block)),A'.map Prod.snd=c.b.map (Ac p q)->OB h' nB A' (Bu c nA nL nB n44 F)->J [] h') :
  de h (.ptr n44 0 0) a7 a14 (.int .i64 p) (.int .i64 q) J:=by
 have hnb:=hc.g.nb
 unfold de
 refine⟨fun m g h'=>∃(b:Nat) (A:List (Nat×Block)),g=[nD b]/\b<=c.b.length/\m=c.b.length-b/\A.map Prod.snd=A3 p q c.b b/\OB h' nB A (Bu c nA nL nB n44 F),_,⟨0,A,rfl,by omega,rfl,by simpa[A3] using hA,V⟩,?_⟩
 rintro m f h1 ⟨b,A1,hq,hb,hm,hA1,V1⟩
 simp only[List.cons.injEq,and_true]at hq
 have Vf1:=V1.wq
 rw[Vf1.fa 0 rfl,Vf1.fv 0 (j:=0+7) rfl rfl,V1.len]
 simp only[hq,nD]
 by_cases hlt:b<c.b.length
 ·rw[sC (by omega),ai]
  obtain⟨B,hB⟩:∃B,c.b[b]?=some B:=⟨c.b[b],List.getElem?_eq_getElem hlt⟩
  have hBm:=List.mem_of_getElem? hB
  obtain⟨w,hAb⟩:∃w,A1[b]?=some (w,B):=by
   have h1:=Iy (p:=p) (q:=q) hB
   rw[<- hA1,List.getElem?_map,Option.map_eq_some_iff]at h1
   obtain⟨⟨w,B'⟩,h2,h3⟩:=h1
   simp only at h3;subst h3
   exact⟨w,h2⟩
  have hbA:=(List.getElem?_eq_some_iff.1 hAb).1
  have getb:∀{B':Block},(A1.set b (w,B'))[b]?=some (w,B'):=fun {B'}=>by rw[List.getElem?_set,if_pos rfl,if_pos hbA]
  refine⟨fun _ h'=>∃A':List (Nat×Block),A'.map Prod.snd=A3 p q c.b (b+1)/\OB h' nB A' (Bu c nA nL nB n44 F),?_,?_⟩
  ·rintro f' h' ⟨A',e,V'⟩
   rw[fV (by omega) (by omega)]
   simp only[ae,true_and]
   exact⟨_,by omega,b+1,A',rfl,by omega,rfl,e,V'⟩
  rw[Vf1.fa 0 rfl,Vf1.fv 0 (j:=0+7) rfl rfl,V1.ia hlt,V1.fa,V1.RT hAb]
  refine V1.alloc fun n337 h338 V338=>?_
  refine V338.M4 (cs':=B.t.cs) rfl rfl (fun y hy=>B.t.eJ.one y hy) fun h340 V340=>?_
  rw[V340.wq.fa 0 rfl,Pl (x:=B.t) (V340.wq.get 0 _ _ rfl)]
  refine zj ?_
  rw[V340.wq.fa 0 rfl]
  refine V340.DQ (d':=({ B.t with d:=oG p q B.t.d }:Term).e) rfl (b8.eJ _).one (by show 0+2+3<=13;omega) rfl fun h2 V2=>?_
  rw[V2.wq.fa 0 rfl,Rj (V2.wq.get 0 _ _ rfl)]
  refine zj ?_
  rw[V2.wq.fa 0 rfl]
  refine V2.DQ (d':=({ B.t with d:=oG p q B.t.d,a:=oG p q B.t.a }:Term).e) rfl (b8.eJ _).one (by show 0+5+3<=13;omega) rfl fun h3 V3=>?_
  rw[V3.wq.fa 0 rfl,Ri (V3.wq.get 0 _ _ rfl)]
  refine zj ?_
  rw[V3.wq.fa 0 rfl]
  refine V3.DQ (d':=(DO p q B.t).e) rfl (b8.eJ _).one (by show 0+8+3<=13;omega) rfl fun h4 V4=>?_
  have Vf:=V4.wq
  rw[Vf.fa 1 rfl,Vf.fv 1 (j:=0+7) rfl rfl,Vf.s9 0 (s:=13) (cs:=(DO p q B.t).cs) rfl rfl,V4.ia hlt,V4.fa]
  refine V4.RN (t':=DO p q B.t) hAb fun h5 V5=>?_
  refine Hv (c:=c) (B:={ B with t:=DO p q B.t }) getb hlt (hc.len B hBm) V5.less hq fun h6 V6=>?_
  refine⟨_,?_,V6⟩
  rw[List.set_set,List.map_set,hA1]
  exact Ix (p:=p) (q:=q) hB
 ·have:b=c.b.length:=by omega
  subst this
  rw[qY (by omega),ah]
  simp only[ae,true_and]
  refine hJ h1 A1 ?_ V1
  rw[hA1];unfold A3;rw[List.drop_length,List.append_nil,List.take_of_length_le (by simp)]
end
end Go.Am
namespace Go.Am
open Go Go.Proofs
theorem Cn {bs:List Nat}(hb:∀b∈bs,b<=255) (hl:bs.length<=9223372036854775807){x y:Nat}(hx:x<=255) (hy:y<=255):aV PP ec [uW bs,OE x y] (· = .bool true):=by
 refine dm m6 (av _ _ _) rfl (mZ _ _ _) ?_
 unfold jq
 refine Vs.nil.box (Fe bs).one fun n3 h4 V4=>?_
 refine V4.box (fun z hz=>by simp[OE]at hz;rcases hz with rfl|rfl<;>rfl) fun n5 h6 V6=>?_
 refine dP Ey (fun d hd=>by simp at hd) ?_
 rintro _ rfl
 rw[p5,Bool.not_true,ah,V6.s9 1 (s:=1) (cs:=[uC bs]) rfl rfl]
 refine dP (Oe hb hl) (fun d hd=>by simp at hd;subst hd;exact(Fe bs).pair) ?_
 rintro _ ⟨c,hc,rfl⟩
 have hnb:=hc.nb
 have hrg:=hc.u.rg
 obtain⟨nr,hnr⟩:∃nr:Nat,c.regs=(nr:Int):=⟨c.regs.toNat,by omega⟩
 let cs:List D:=[.int .i64 c.group,.int .i64 c.sub,.int .i64 c.regs,.int .i64 c.slots,.int .i64 c.params,.sl (c.arrays.map sO.e),.sl (c.loops.map Loop.e),.sl (c.b.map Block.e)]
 refine V6.alloc fun n14 h15 V15=>?_
 refine V15.zz (cs':=cs) 0 rfl rfl rfl (fun y hy=>c.eJ.one y hy) fun h17 V17=>?_
 simp only[List.set_cons_zero]at V17
 have wx:IntKind.i64.wrap (x:Int)=(x:Int):=wrap64 (by omega) (by omega)
 have wy:IntKind.i64.wrap (y:Int)=(y:Int):=wrap64 (by omega) (by omega)
 have i0:∀{KH:HKq},aa PP (.iadda (.c (.ptr n5 0 0)) (.c (.int .i64 0)) 2 1) h17 KH=KH (.ptr n5 0 0) h17:=fun {KH}=>V17.Qg 1 (a:=0) rfl (by omega)
 have i1:∀{KH:HKq},aa PP (.iadda (.c (.ptr n5 0 0)) (.c (.int .i64 1)) 2 1) h17 KH=KH (.ptr n5 0 1) h17:=fun {KH}=>V17.Qg 1 (a:=1) rfl (by omega)
 rw[i0,V17.fv 1 (j:=0) (cs:=[.int .u8 (x:Int),.int .u8 (y:Int)]) rfl rfl,mC,wx,V17.fa 0 rfl,V17.fv 0 (j:=0+2) rfl rfl,hnr,cu]
 refine⟨by omega,?_⟩
 rw[aW,i1,V17.fv 1 (j:=1) (cs:=[.int .u8 (x:Int),.int .u8 (y:Int)]) rfl rfl,mC,wy,V17.fa 0 rfl,V17.fv 0 (j:=0+2) rfl rfl,hnr,cu]
 refine⟨by omega,?_⟩
 rw[aW]
 obtain⟨p,hp⟩:∃p,p=x % nr:=⟨_,rfl⟩
 obtain⟨q,hq⟩:∃q,q=y % nr:=⟨_,rfl⟩
 have hpl:p<nr:=by rw[hp];exact Nat.mod_lt _ (by omega)
 have hql:q<nr:=by rw[hq];exact Nat.mod_lt _ (by omega)
 rw[<- hp, <- hq,V17.s9 0 (s:=8) (cs:=cs) rfl rfl,show D.agg cs=c.e from rfl]
 refine L1 hc V17 fun h43 nA nL nB A hA V43=>?_
 refine V43.alloc fun n44 h45 V45=>?_
 refine V45.zz (cs':=[.int .i64 c.group,.int .i64 c.sub,.int .i64 c.regs,.int .i64 c.slots,.int .i64 c.params,.ms nA 0 c.arrays.length,.ms nL 0 c.loops.length,.ms nB 0 c.b.length]) 0 rfl rfl rfl (fun y hy=>by simp at hy;rcases hy with rfl|rfl|rfl|rfl|rfl|rfl|rfl|rfl<;>rfl) fun h47 V47=>?_
 simp only[List.set_cons_zero]at V47
 let F:LSq:=[(nL,.arr 3 (c.loops.map Loop.e)),(nA,.arr 4 (c.arrays.map sO.e)),(n14,.box c.e),(n5,.box (OE x y)),(n3,.box (uW bs))]
 have V48:OB h47 nB A (Bu c nA nL nB n44 F):=V47.perm (List.perm_middle (l₁:=(nB,.arr 14 (A.map ku))::A.map tp)).symm
 have hp':0<=(p:Int)/\(p:Int)<c.regs:=⟨by omega,by omega⟩
 have hq':0<=(q:Int)/\(q:Int)<c.regs:=⟨by omega,by omega⟩
 refine⟨fun _ h'=>∃A':List (Nat×Block),A'.map Prod.snd=c.b.map (Ac (p:Int) (q:Int))/\OB h' nB A' (Bu c nA nL nB n44 F),?_,F3 hc.u hA V48 fun h' A' e V'=>⟨A',e,V'⟩⟩
 rintro f h50 ⟨A',hA',V50⟩
 have Vf:=V50.wq
 rw[Vf.s9 3 (s:=8) (cs:=cs) rfl rfl,show D.agg cs=c.e from rfl]
 refine dP (JA hc.u) (fun d hd=>by simp at hd;subst hd;exact c.eJ.pair) ?_
 rintro _ ⟨rfl,hD1⟩
 refine V50.alloc fun n55 h56 V56=>?_
 refine V56.M4 (cs':=[.sl (bL (D6 c (oH c))),.sl (bL (zO c (oH c)))]) rfl rfl (fun y hy=>by simp at hy;rcases hy with rfl|rfl<;>rfl) fun h58 V58=>?_
 rw[V58.wq.s9 1 (s:=8) rfl rfl]
 obtain⟨h59,hin,V59⟩:=V58.RW
 refine G4 hin ?_
 rw[hA']at V59
 have hcs:=HI hp' hq' hc.u
 have O59:CO (mX (p:Int) (q:Int) c) nA nL nB (.arr 4 (c.arrays.map sO.e)) (.arr 3 (c.loops.map Loop.e)) (.arr 14 ((c.b.map (Ac (p:Int) (q:Int))).map Block.e)):=⟨rfl,rfl,rfl⟩
 let L6:LSq:=[(n55,.box (.agg [.sl (bL (D6 c (oH c))),.sl (bL (zO c (oH c)))])),(n44,.box (tc c (.ms nA 0 c.arrays.length) (.ms nL 0 c.loops.length) (.ms nB 0 c.b.length))),(n14,.box c.e),(n5,.box (OE x y)),(n3,.box (uW bs))]
 have V60:Vs h59 ((nB,.arr 14 ((c.b.map (Ac (p:Int) (q:Int))).map Block.e))::(nL,.arr 3 (c.loops.map Loop.e))::(nA,.arr 4 (c.arrays.map sO.e))::L6):=by
  refine V59.perm (.cons _ ?_)
  exact List.perm_append_comm_assoc [_,_] [_,_] _
 refine Js (c:=mX (p:Int) (q:Int) c) O59 V60 (JA hcs) rfl rfl (by simp[mX]) fun r h62 sA sL sB hr O62 V62=>?_
 obtain⟨rfl,hD2⟩:=hr
 refine V62.alloc fun n63 h64 V64=>?_
 refine V64.zz (cs':=[.sl (bL (D6 (mX (p:Int) (q:Int) c) (oH (mX (p:Int) (q:Int) c)))),.sl (bL (zO (mX (p:Int) (q:Int) c) (oH (mX (p:Int) (q:Int) c))))]) 0 rfl rfl rfl (fun y hy=>by simp at hy;rcases hy with rfl|rfl<;>rfl) fun h66 V66=>?_
 simp only[List.set_cons_zero]at V66
 have eU:=QC hp' hq' hc.u hD1 hD2
 have eR:∀{k j:Nat},k<nr->j<nr->DD (p:Int) (q:Int) (k:Int)=(j:Int)->hasB (zO (mX (p:Int) (q:Int) c) (oH (mX (p:Int) (q:Int) c))) k=hasB (zO c (oH c)) j:=fun {k j} hk hj e=>QF hp' hq' hc.u hD1 hD2 (by omega) (by omega) e
 rw[eU]at V66
 generalize hRc:zO c (oH c)=R1 at V66 eR
 generalize hRd:zO (mX (p:Int) (q:Int) c) (oH (mX (p:Int) (q:Int) c))=R2 at V66 eR
 have l1:R1.length=nr:=by rw[<- hRc,x9];omega
 have l2:R2.length=nr:=by rw[<- hRd,x9];simp[mX];omega
 have hsp:DD (p:Int) (q:Int) (p:Int)=(q:Int):=by unfold DD;rw[if_pos rfl]
 have hsq:DD (p:Int) (q:Int) (q:Int)=(p:Int):=by
  unfold DD
  by_cases e:(q:Int)=(p:Int)
  ·rw[if_pos e];exact e
  ·rw[if_neg e,if_pos rfl]
 have r63:∀{K:D->Prop},ab PP (.fadd (.c (.ptr n63 0 0)) 1) h66 (fun a=>ab PP (.ld (.c a) 1 false) h66 K)=K (.sl (bL R2)):=fun {K}=>by rw[V66.rG 0 rfl,V66.uj 0 (j:=1) rfl rfl]
 have r55:∀{K:D->Prop},ab PP (.fadd (.c (.ptr n55 0 0)) 1) h66 (fun a=>ab PP (.ld (.c a) 1 false) h66 K)=K (.sl (bL R1)):=fun {K}=>by rw[V66.rG 4 rfl,V66.uj 4 (j:=1) rfl rfl, <- hRc]
 have rc:∀{K:D->Prop},ab PP (.fadd (.c (.ptr n14 0 0)) 2) h66 (fun a=>ab PP (.ld (.c a) 1 false) h66 K)=K (.int .i64 (nr:Int)):=fun {K}=>by rw[V66.rG 6 rfl,V66.uj 6 (cs:=cs) (j:=2) rfl rfl,hnr]
 rw[r55,Dd,l1,rc,Nx rfl]
 try simp only[↓gS]
 rw[r63,Dd,l2,rc,Nx rfl]
 try simp only[↓gS]
 rw[fH,gX]
 simp only[if_false,Bool.false_eq_true]
 try simp only[↓gS]
 rw[r55,MC (by omega),r63,MC (by omega),Qi,eR hql hpl hsq,decide_eq_true rfl]
 simp only[Bool.not_true]
 try simp only[↓gS]
 try (rw[fH,gX];simp only[if_false,Bool.false_eq_true])
 try simp only[↓gS]
 rw[r55,MC (by omega),r63,MC (by omega),Qi,eR hpl hql hsp,decide_eq_true rfl]
 simp only[Bool.not_true]
 try simp only[↓gS]
 try (rw[fH,gX];simp only[if_false,Bool.false_eq_true])
 try simp only[↓gS]
 refine⟨fun _ h'=>h'=h66,?_,?_⟩
 ·rintro f2 _ rfl
  try simp only[↓gS]
  rw[V66.fa 4 rfl,V66.fv 4 (j:=0+0) rfl rfl,V66.fa 0 rfl,V66.fv 0 (j:=0+0) rfl rfl]
  refine dP (C2 (by rw[sD];omega)) (fun d hd=>by simp at hd;subst hd;exact El.pair) ?_
  rintro _ rfl
  rw[decide_eq_true rfl]
  first|rw[eY]|(simp only[↓gS];rw[eY])
 unfold ga
 refine⟨fun m g h'=>h'=h66/\∃k:Nat,g=[nD k]/\k<=nr/\m=nr-k,_,⟨rfl,0,rfl,by omega,rfl⟩,?_⟩
 rintro m g h88 ⟨rfl,k,hg,hk,hm⟩
 simp only[List.cons.injEq,and_true]at hg
 simp only[hg,nD]
 rw[V66.fa 6 rfl,V66.fv 6 (cs:=cs) (j:=0+2) rfl rfl,hnr]
 by_cases hlt:k<nr
 ·rw[sC (by omega),ai]
  by_cases e1:k=p
  ·rw[Nx (by omega)]
   simp only[↓gS]
   try (rw[fH,gX];simp only[if_false,Bool.false_eq_true])
   try simp only[↓gS]
   try (rw[fH,gX];simp only[if_false,Bool.false_eq_true])
   try simp only[↓gS]
   rw[fV (by omega) (by omega)]
   simp only[ae,true_and]
   exact⟨_,by omega,k+1,rfl,by omega,rfl⟩
  ·rw[Ph (by omega)]
   simp only[↓gS]
   by_cases e2:k=q
   ·rw[Nx (by omega)]
    try simp only[↓gS]
    try (rw[fH,gX];simp only[if_true])
    try simp only[↓gS]
    try (rw[fH,gX];simp only[if_false,Bool.false_eq_true])
    try simp only[↓gS]
    rw[fV (by omega) (by omega)]
    simp only[ae,true_and]
    exact⟨_,by omega,k+1,rfl,by omega,rfl⟩
   ·rw[Ph (by omega)]
    try simp only[↓gS]
    try (rw[fH,gX];simp only[if_true])
    try simp only[↓gS]
    have es:DD (p:Int) (q:Int) (k:Int)=(k:Int):=by unfold DD;rw[if_neg (by omega),if_neg (by omega)]
    rw[r55,MC (by omega),r63,MC (by omega),Qi,eR hlt hlt es,decide_eq_true rfl]
    simp only[Bool.not_true]
    try simp only[↓gS]
    try (rw[fH,gX];simp only[if_true])
    try simp only[↓gS]
    rw[fV (by omega) (by omega)]
    simp only[ae,true_and]
    exact⟨_,by omega,k+1,rfl,by omega,rfl⟩
 ·have:k=nr:=by omega
  subst this
  rw[qY (by omega),ah]
  simp only[ae,true_and]
end Go.Am
namespace Go.Am
open Go Go.Proofs
set_option maxRecDepth 100000
theorem NF (xs:List D) (h:zx Try.prog 12 Try.f7.params.toList xs):aV Try.prog 7 xs (· = .bool true):=by
 have hp:Try.f7.params.toList=[24,62]:=by kernel_rfl
 rw[hp]at h
 obtain⟨c1,r1,rfl,h1,c2,r2,rfl,h2,rfl⟩:=h
 obtain⟨bs,e1,b1,b2⟩:=Nl h1
 obtain⟨x,y,e2,hx,hy⟩:=Nm h2
 show aV Try.prog 7 [mkElem Try.prog 24 c1,mkElem Try.prog 62 c2] _
 rw[e1,e2]
 exact Cn b1 b2 hx hy
end Go.Am
