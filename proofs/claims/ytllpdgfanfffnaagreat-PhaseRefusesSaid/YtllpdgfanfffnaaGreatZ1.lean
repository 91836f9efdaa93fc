/- The examples of this chapter, worked out. No condition. -/
import Derived.Test.YtllpdgfanfffnaaGreatP1
set_option linter.unnecessarySimpa false
set_option linter.defProp false
set_option linter.unusedSectionVars false
set_option linter.unusedSimpArgs false
set_option linter.unusedVariables false
namespace Go.Am
open Go Go.Proofs
def CC (kn:List (FuncId×List D×D)) (f:FuncId):Option (List D->Option D) :=
  if kn.any (fun p=>p.1 == f) then some fun ds=>(kn.find? fun p=>p.1 == f&&D.sameL p.2.1 ds).map fun p=>p.2.2 else none
theorem ER {kn:List (FuncId×List D×D)}(hk:∀p∈kn,aO PP p.1 p.2.1 (· = p.2.2)):∀f s,CC kn f=some s->∀ds r,s ds=some r->aO PP f ds (· = r):=by
  intro f s hs ds r hr
  unfold CC at hs
  split at hs
  · cases hs
    simp only[Option.map_eq_some_iff]at hr
    obtain⟨p,hp,rfl⟩:=hr
    have h1:=List.find?_some hp
    have h2:=List.mem_of_find?_eq_some hp
    simp only[Bool.and_eq_true,beq_iff_eq]at h1
    have:=hk p h2
    rw[h1.1,D.bW _ _ h1.2]at this
    exact this
  · cases hs
def dNat:D->Option Nat
  | .int .i64 n=>if 0<=n then some n.toNat else none
  | _=>none
def dNats:D->Option (List Nat)
  | .sl xs=>xs.mapM dNat
  | _=>none
theorem Ei {d:D}{n:Nat}(h:dNat d=some n):d=nD n:=by
  unfold dNat at h
  split at h
  · split at h
    · rename_i hn
      cases h
      simp only[nD,D.int.injEq,true_and];omega
    · cases h
  · cases h
theorem mapM_map {α β:Type}{f:α->Option β}{g:β->α}(hf:∀a b,f a=some b->a=g b):∀{l:List α}{r:List β},l.mapM f=some r->l=r.map g
  | [],r,h=>by simp at h;subst h;rfl
  | a::l,r,h=>by
    rw[List.mapM_cons]at h
    simp only[Option.pure_def,Option.bind_eq_bind,Option.bind_eq_some_iff,Option.some.injEq]at h
    obtain⟨y,hy,z,hz,rfl⟩:=h
    rw[hf a y hy,mapM_map hf hz,List.map_cons]
theorem G1 {d:D}{l:List Nat}(h:dNats d=some l):d=.sl (aL l):=by
  unfold dNats at h
  split at h
  · rw[mapM_map (fun a b=>Ei) h];rfl
  · cases h
def fromS (ds:List D):Option D:=match ds with
  | [.sl es,s,.int .i64 w]=>match es.mapM dNats,dNat s with
    | some E,some s=>if Nat.ble E.length 1000&&(E.all fun l=>Nat.ble l.length 1000&&l.all fun b=>Nat.blt b E.length)&&Nat.blt s E.length then some (.sl (bL (rf E s w))) else none
    | _,_=>none
  | _=>none
theorem GI:∀ds r,fromS ds=some r->aO PP cR ds (· = r):=by
  intro ds r h
  unfold fromS at h
  split at h
  case h_2=>cases h
  rename_i es s w
  split at h
  case h_2=>cases h
  rename_i E s' hE hs
  split at h
  case isFalse=>cases h
  rename_i hc
  cases h
  simp only[Bool.and_eq_true,List.all_eq_true,Nat.ble_eq,Nat.blt_eq]at hc
  obtain⟨⟨h1,h2⟩,h3⟩:=hc
  rw[mapM_map (fun a b=>G1) hE,Ei hs]
  exact K6 h1 (fun l hl b hb=>(h2 l hl).2 b hb) h3 fun l hl=>(h2 l hl).1
def specS (kn:List (FuncId×List D×D)) (f:FuncId):Option (List D->Option D):=match f == cR with
  | true=>some fromS
  | false=>CC kn f
theorem Bb {kn:List (FuncId×List D×D)}(hk:∀p∈kn,aO PP p.1 p.2.1 (· = p.2.2)):∀f s,specS kn f=some s->∀ds r,s ds=some r->aO PP f ds (· = r):=by
  intro f s hs ds r hr
  unfold specS at hs
  split at hs
  · rename_i hf
    cases hs
    rw[beq_iff_eq.1 hf]
    exact GI ds r hr
  · exact ER hk f s hs ds r hr
def DM:List D->D
  | []=>.nil
  | l=>.sl l
theorem x5:∀{l:List D},Wk (DM l) (.sl l)
  | []=>.nil
  | _::_=>.refl _
def Block.ex (B:Block):D:=.agg (DM (B.i.map bg.e)::B.t.cs)
def Code.ex (c:Code):D :=
  .agg [.int .i64 c.group,.int .i64 c.sub,.int .i64 c.regs,.int .i64 c.slots,.int .i64 c.params,DM (c.arrays.map vG.e),DM (c.loops.map Loop.e),.sl (c.b.map Block.ex)]
theorem Block.D8 (B:Block):Wk B.ex B.e:=Wk.I8 (.cons x5 Er.rfl)
theorem Code.D8 (c:Code):Wk c.ex c.e :=
  Wk.I8 (.cons (.refl _) (.cons (.refl _) (.cons (.refl _) (.cons (.refl _) (.cons (.refl _) (.cons x5 (.cons x5 (.cons (.sl _ _ (by simp) fun i x y hx hy=>by
    rw[List.getElem?_map]at hx hy
    cases hB:c.b[i]? with
    | none=>rw[hB]at hx;cases hx
    | some B =>
      rw[hB]at hx hy
      cases hx;cases hy
      exact B.D8) .nil))))))))
def zG (op kind:Int):Code:=⟨4,1,1,0,0,[],[],
  [⟨[],⟨kind,0,an,an,an,1,0⟩⟩,⟨[⟨5,op,0,gk 0,an,an,an⟩],⟨2,0,an,gk 0,an,2,3⟩⟩,⟨[],⟨3,0,an,an,an,1,0⟩⟩,⟨[],⟨5,0,an,an,an,0,0⟩⟩]⟩
theorem uR {N:Nat}{p:Nat->Prop}{S:List Nat}(h:∀k,k<N->(p k↔k∈S)):Hw N p=(List.range N).filter fun k=>decide (k∈S):=by
  unfold Hw
  refine List.filter_congr fun k hk=>?_
  exact decide_eq_decide.2 (h k (by simpa using hk))
theorem xq {E:Nat->List Nat}{s:Nat}{S:List Nat}(h1:s∈S) (h2:∀a∈S,∀b,b∈E a->b∈S) (h3:∀a∈S,Path E s a) (k:Nat):Path E s k↔k∈S :=
  ⟨fun h=>h.closed (S:=(· ∈ S)) h1 fun a b ha hb=>h2 a ha b hb,h3 k⟩
theorem Jy {op:Int}{kind:Int}(hk:kind=1\/kind=3):jG (zG op kind):=by
  refine⟨⟨by show 1<=4;omega,by show 4<=18;omega⟩,fun B hB=>?_⟩
  simp only[zG,List.mem_cons,List.not_mem_nil,or_false]at hB
  rcases hB with rfl|rfl|rfl|rfl
  · rcases hk with rfl|rfl
    · exact .jump 1 (by show 1<4;omega)
    · exact .barrier 1 (by show 1<4;omega)
  · exact .branch _ 2 3 ⟨0,by omega,by show(0:Int)<1;omega,rfl⟩ (by show 2<4;omega) (by show 3<4;omega)
  · exact .barrier 1 (by show 1<4;omega)
  · exact .exit
def aE:Nat->List Nat:=wS (zG 3 1)
def bE:Nat->List Nat:=wS (zG 2 3)
theorem Lg (k:Nat):Path aE 0 k↔k∈[0,1,2,3]:=by
  have p1:Path aE 0 1:=.step .refl (by decide)
  refine xq (by decide) (by decide) (fun a ha=>?_) k
  simp only[List.mem_cons,List.not_mem_nil,or_false]at ha
  rcases ha with rfl|rfl|rfl|rfl
  · exact .refl
  · exact p1
  · exact .step p1 (by decide)
  · exact .step p1 (by decide)
theorem MG (k:Nat):Path aE 1 k↔k∈[1,2,3]:=by
  refine xq (by decide) (by decide) (fun a ha=>?_) k
  simp only[List.mem_cons,List.not_mem_nil,or_false]at ha
  rcases ha with rfl|rfl|rfl
  · exact .refl
  · exact .step .refl (by decide)
  · exact .step .refl (by decide)
theorem Ld (k:Nat):Path bE 0 k↔k∈[0]:=by
  refine xq (by decide) (by decide) (fun a ha=>?_) k
  simp only[List.mem_cons,List.not_mem_nil,or_false]at ha
  subst ha
  exact .refl
theorem ME (k:Nat):Path bE 1 k↔k∈[1,2,3]:=by
  refine xq (by decide) (by decide) (fun a ha=>?_) k
  simp only[List.mem_cons,List.not_mem_nil,or_false]at ha
  rcases ha with rfl|rfl|rfl
  · exact .refl
  · exact .step .refl (by decide)
  · exact .step .refl (by decide)
theorem NJ (k:Nat):St (zG 3 1) k↔k∈[0,1]:=by
  constructor
  · intro h
    induction h with
    | zero=>decide
    | @step s a t h ha ht ih =>
      have h4:a∈[0,1,2,3]:=by
        simp only[List.mem_cons,List.not_mem_nil,or_false]at ih
        rcases ih with rfl|rfl
        · exact(Lg a).1 ha
        · have:=(MG a).1 ha;simp only[List.mem_cons,List.not_mem_nil,or_false]at this ⊢;omega
      have:∀a,a∈[0,1,2,3]->∀t,t∈kP (zG 3 1) a->t∈[0,1]:=by decide
      exact this a h4 t ht
  · intro h
    simp only[List.mem_cons,List.not_mem_nil,or_false]at h
    rcases h with rfl|rfl
    · exact .zero
    · exact .step .zero ((Lg 2).2 (by decide)) (by decide)
theorem NH (k:Nat):St (zG 2 3) k↔k∈[0,1]:=by
  constructor
  · intro h
    induction h with
    | zero=>decide
    | @step s a t h ha ht ih =>
      have h4:a∈[0,1,2,3]:=by
        simp only[List.mem_cons,List.not_mem_nil,or_false]at ih
        rcases ih with rfl|rfl
        · have:=(Ld a).1 ha;simp only[List.mem_cons,List.not_mem_nil,or_false]at this ⊢;omega
        · have:=(ME a).1 ha;simp only[List.mem_cons,List.not_mem_nil,or_false]at this ⊢;omega
      have:∀a,a∈[0,1,2,3]->∀t,t∈kP (zG 2 3) a->t∈[0,1]:=by decide
      exact this a h4 t ht
  · intro h
    simp only[List.mem_cons,List.not_mem_nil,or_false]at h
    rcases h with rfl|rfl
    · exact .zero
    · exact .step .zero ((Ld 0).2 (by decide)) (by decide)
def MO:D:=.agg [.sl (aL [0,1]),.sl [.sl (aL [0,1,2,3]),.sl (aL [1,2,3])]]
def MN:D:=.agg [.sl (aL [0,1]),.sl [.sl (aL [0]),.sl (aL [1,2,3])]]
theorem LZ:Ge (zG 3 1)=MO:=by
  have hs:bu (zG 3 1)=[0,1]:=(uR (S:=[0,1]) fun k _=>NJ k).trans (by decide)
  have h0:rl (zG 3 1) 0=[0,1,2,3]:=(uR (S:=[0,1,2,3]) fun k _=>Lg k).trans (by decide)
  have h1:rl (zG 3 1) 1=[1,2,3]:=(uR (S:=[1,2,3]) fun k _=>MG k).trans (by decide)
  simp only[Ge,hs,List.map_cons,List.map_nil,h0,h1,MO]
theorem LY:Ge (zG 2 3)=MN:=by
  have hs:bu (zG 2 3)=[0,1]:=(uR (S:=[0,1]) fun k _=>NH k).trans (by decide)
  have h0:rl (zG 2 3) 0=[0]:=(uR (S:=[0]) fun k _=>Ld k).trans (by decide)
  have h1:rl (zG 2 3) 1=[1,2,3]:=(uR (S:=[1,2,3]) fun k _=>ME k).trans (by decide)
  simp only[Ge,hs,List.map_cons,List.map_nil,h0,h1,MN]
def NU:D:=(zG 3 1).ex
def NT:D:=(zG 2 3).ex
theorem Hy:aO PP bS [NU] (· = MO):=by
  have:=aO.arg (Er.cons (Code.D8 (zG 3 1)) .nil) (C7 (Jy (op:=3) (Or.inl rfl)))
  rw[LZ]at this
  exact this
theorem Hx:aO PP bS [NT] (· = MN):=by
  have:=aO.arg (Er.cons (Code.D8 (zG 2 3)) .nil) (C7 (Jy (op:=2) (Or.inr rfl)))
  rw[LY]at this
  exact this
def An:List (FuncId×List D×D):=[(bS,[NU],MO),(bS,[NT],MN)]
theorem zx:∀p∈An,aO PP p.1 p.2.1 (· = p.2.2):=by
  intro p hp
  simp only[An,List.mem_cons,List.not_mem_nil,or_false]at hp
  rcases hp with rfl|rfl
  · exact Hy
  · exact Hx
noncomputable def Jx:zS PP fsz where
  a:=Ju
  spec:=specS An
  sp:=Bb zx
def Kn (f:FuncId):Bool:=[22,110,71,65,87,100,114,125,130].contains f
theorem Ay {n:Nat}{f:FuncId}{ds:List D}{r:D}(h:(Ny Jx Kn 100 n f ds).any (D.same r)=true):aO PP f ds (· = r):=zk Jx Kn 100 n h
end Go.Am
namespace Go.Am
open Go Go.Proofs
abbrev qI (n:Int):D:=.int .i64 n
abbrev qP (n:Int):D:=.int .i32 n
def MQ:D:=(.agg [(qI 4),(qI 1),(qI 1),(qI 0),(qI 0),.nil,.nil,(.sl [(.agg [.nil,(qI 1),(qI 0),(qI 0),(qI 0),(qP 0),(qI 0),(qI 0),(qP 0),(qI 0),(qI 0),(qP 0),(qI 1),(qI 0)]),(.agg [(.sl [(.agg [(qI 5),(qI 3),(qI 0),(qI 2),(qI 0),(qP 0),(qI 0),(qI 0),(qP 0),(qI 0),(qI 0),(qP 0),(qI 0),(qI 0),(qP 0)])]),(qI 2),(qI 0),(qI 0),(qI 0),(qP 0),(qI 2),(qI 0),(qP 0),(qI 0),(qI 0),(qP 0),(qI 2),(qI 3)]),(.agg [.nil,(qI 3),(qI 0),(qI 0),(qI 0),(qP 0),(qI 0),(qI 0),(qP 0),(qI 0),(qI 0),(qP 0),(qI 1),(qI 0)]),(.agg [.nil,(qI 5),(qI 0),(qI 0),(qI 0),(qP 0),(qI 0),(qI 0),(qP 0),(qI 0),(qI 0),(qP 0),(qI 0),(qI 0)])])])
def MP:D:=(.agg [(qI 4),(qI 1),(qI 1),(qI 0),(qI 0),.nil,.nil,(.sl [(.agg [.nil,(qI 3),(qI 0),(qI 0),(qI 0),(qP 0),(qI 0),(qI 0),(qP 0),(qI 0),(qI 0),(qP 0),(qI 1),(qI 0)]),(.agg [(.sl [(.agg [(qI 5),(qI 2),(qI 0),(qI 2),(qI 0),(qP 0),(qI 0),(qI 0),(qP 0),(qI 0),(qI 0),(qP 0),(qI 0),(qI 0),(qP 0)])]),(qI 2),(qI 0),(qI 0),(qI 0),(qP 0),(qI 2),(qI 0),(qP 0),(qI 0),(qI 0),(qP 0),(qI 2),(qI 3)]),(.agg [.nil,(qI 3),(qI 0),(qI 0),(qI 0),(qP 0),(qI 0),(qI 0),(qP 0),(qI 0),(qI 0),(qP 0),(qI 1),(qI 0)]),(.agg [.nil,(qI 5),(qI 0),(qI 0),(qI 0),(qP 0),(qI 0),(qI 0),(qP 0),(qI 0),(qI 0),(qP 0),(qI 0),(qI 0)])])])
theorem M0:aO PP cL [MQ] (· = (.sl [.nil,(.sl [(qI 1)]),(.sl [(qI 1)]),.nil])):=Ay (n:=60) (by kernel_rfl)
theorem MZ:aO PP dY [MQ] (· = (.sl [.nil,(.sl [(qI 1)]),(.sl [(qI 1)]),.nil])):=Ay (n:=60) (by kernel_rfl)
theorem MY:aO PP cL [MP] (· = (.sl [.nil,(.sl [(qI 1)]),(.sl [(qI 1)]),.nil])):=Ay (n:=60) (by kernel_rfl)
theorem MX:aO PP dY [MP] (· = (.sl [.nil,(.sl [(qI 1)]),(.sl [(qI 1)]),.nil])):=Ay (n:=60) (by kernel_rfl)
def known:List (FuncId×List D×D) :=
  An++[(cL,[MQ],(.sl [.nil,(.sl [(qI 1)]),(.sl [(qI 1)]),.nil])),
   (dY,[MQ],(.sl [.nil,(.sl [(qI 1)]),(.sl [(qI 1)]),.nil])),
   (cL,[MP],(.sl [.nil,(.sl [(qI 1)]),(.sl [(qI 1)]),.nil])),
   (dY,[MP],(.sl [.nil,(.sl [(qI 1)]),(.sl [(qI 1)]),.nil]))]
theorem GA:∀p∈known,aO PP p.1 p.2.1 (· = p.2.2):=by
  intro p hp
  rcases List.mem_append.1 hp with hp|hp
  · exact zx p hp
  simp only[List.mem_cons,List.not_mem_nil,or_false]at hp
  rcases hp with rfl|rfl|rfl|rfl
  · exact M0
  · exact MZ
  · exact MY
  · exact MX
noncomputable def KT:zS PP fsz where
  a:=Ju
  spec:=specS known
  sp:=Bb GA
theorem C6:aO PP eT [] (· = .bool true):=zk KT Kn 100 60 (by kernel_rfl)
end Go.Am
