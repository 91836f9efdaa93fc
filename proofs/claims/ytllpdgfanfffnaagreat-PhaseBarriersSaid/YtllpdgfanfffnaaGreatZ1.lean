/- The examples of this chapter, worked out. No condition. -/
import Derived.Test.YtllpdgfanfffnaaGreatP1
set_option linter.unnecessarySimpa false
set_option linter.defProp false
set_option linter.unusedSectionVars false
set_option linter.unusedSimpArgs false
set_option linter.unusedVariables false
namespace Go.Am
open Go Go.Proofs
def Bk (kn:List (FuncId×List D×D)) (f:FuncId):Option (List D->Option D) :=
  if kn.any (fun p=>p.1 == f) then some fun ds=>(kn.find? fun p=>p.1 == f&&D.sameL p.2.1 ds).map fun p=>p.2.2 else none
theorem DA {kn:List (FuncId×List D×D)}(hk:∀p∈kn,aQ PP p.1 p.2.1 (· = p.2.2)):∀f s,Bk kn f=some s->∀ds r,s ds=some r->aQ PP f ds (· = r):=by
  intro f s hs ds r hr
  unfold Bk at hs
  split at hs
  · cases hs
    simp only[Option.map_eq_some_iff]at hr
    obtain⟨p,hp,rfl⟩:=hr
    have h1:=List.find?_some hp
    have h2:=List.mem_of_find?_eq_some hp
    simp only[Bool.and_eq_true,beq_iff_eq]at h1
    have:=hk p h2
    rw[h1.1,D.bQ _ _ h1.2]at this
    exact this
  · cases hs
def dNat:D->Option Nat
  | .int .i64 n=>if 0<=n then some n.toNat else none
  | _=>none
def dNats:D->Option (List Nat)
  | .sl xs=>xs.mapM dNat
  | _=>none
theorem C0 {d:D}{n:Nat}(h:dNat d=some n):d=nD n:=by
  unfold dNat at h
  split at h
  · split at h
    · rename_i hn
      cases h
      simp only[nD,D.int.injEq,true_and];omega
    · cases h
  · cases h
theorem mapM_map {α β:Type}{f:α->Option β}{g:β->α}(hf:∀a b,f a=some b->a=g b):∀{l:List α}{r:List β},l.mapM f=some r->l=r.map g
  | [],r,h=>by simp at h;subst h;rfl
  | a::l,r,h=>by
    rw[List.mapM_cons]at h
    simp only[Option.pure_def,Option.bind_eq_bind,Option.bind_eq_some_iff,Option.some.injEq]at h
    obtain⟨y,hy,z,hz,rfl⟩:=h
    rw[hf a y hy,mapM_map hf hz,List.map_cons]
theorem Fu {d:D}{l:List Nat}(h:dNats d=some l):d=.sl (dg l):=by
  unfold dNats at h
  split at h
  · rw[mapM_map (fun a b=>C0) h];rfl
  · cases h
def fromS (ds:List D):Option D:=match ds with
  | [.sl es,s,.int .i64 w]=>match es.mapM dNats,dNat s with
    | some E,some s=>if Nat.ble E.length 1000&&(E.all fun l=>Nat.ble l.length 1000&&l.all fun b=>Nat.blt b E.length)&&Nat.blt s E.length then some (.sl (bL (qa E s w))) else none
    | _,_=>none
  | _=>none
theorem Fb:∀ds r,fromS ds=some r->aQ PP cI ds (· = r):=by
  intro ds r h
  unfold fromS at h
  split at h
  case h_2=>cases h
  rename_i es s w
  split at h
  case h_2=>cases h
  rename_i E s' hE hs
  split at h
  case isFalse=>cases h
  rename_i hc
  cases h
  simp only[Bool.and_eq_true,List.all_eq_true,Nat.ble_eq,Nat.blt_eq]at hc
  obtain⟨⟨h1,h2⟩,h3⟩:=hc
  rw[mapM_map (fun a b=>Fu) hE,C0 hs]
  exact I2 h1 (fun l hl b hb=>(h2 l hl).2 b hb) h3 fun l hl=>(h2 l hl).1
def specS (kn:List (FuncId×List D×D)) (f:FuncId):Option (List D->Option D):=match f == cI with
  | true=>some fromS
  | false=>Bk kn f
theorem zP {kn:List (FuncId×List D×D)}(hk:∀p∈kn,aQ PP p.1 p.2.1 (· = p.2.2)):∀f s,specS kn f=some s->∀ds r,s ds=some r->aQ PP f ds (· = r):=by
  intro f s hs ds r hr
  unfold specS at hs
  split at hs
  · rename_i hf
    cases hs
    rw[beq_iff_eq.1 hf]
    exact Fb ds r hr
  · exact DA hk f s hs ds r hr
def Cw:List D->D
  | []=>.nil
  | l=>.sl l
theorem wT:∀{l:List D},Wk (Cw l) (.sl l)
  | []=>.nil
  | _::_=>.refl _
def Block.ex (B:Block):D:=.agg (Cw (B.i.map bf.e)::B.t.cs)
def Code.ex (c:Code):D :=
  .agg [.int .i64 c.group,.int .i64 c.sub,.int .i64 c.regs,.int .i64 c.slots,.int .i64 c.params,Cw (c.arrays.map um.e),Cw (c.loops.map Loop.e),.sl (c.b.map Block.ex)]
theorem Block.CR (B:Block):Wk B.ex B.e:=Wk.Hh (.cons wT C9.rfl)
theorem Code.CR (c:Code):Wk c.ex c.e :=
  Wk.Hh (.cons (.refl _) (.cons (.refl _) (.cons (.refl _) (.cons (.refl _) (.cons (.refl _) (.cons wT (.cons wT (.cons (.sl _ _ (by simp) fun i x y hx hy=>by
    rw[List.getElem?_map]at hx hy
    cases hB:c.b[i]? with
    | none=>rw[hB]at hx;cases hx
    | some B =>
      rw[hB]at hx hy
      cases hx;cases hy
      exact B.CR) .nil))))))))
def yw (op kind:Int):Code:=⟨4,1,1,0,0,[],[],
  [⟨[],⟨kind,0,al,al,al,1,0⟩⟩,⟨[⟨5,op,0,fT 0,al,al,al⟩],⟨2,0,al,fT 0,al,2,3⟩⟩,⟨[],⟨3,0,al,al,al,1,0⟩⟩,⟨[],⟨5,0,al,al,al,0,0⟩⟩]⟩
theorem tJ {N:Nat}{p:Nat->Prop}{S:List Nat}(h:∀k,k<N->(p k↔k∈S)):FT N p=(List.range N).filter fun k=>decide (k∈S):=by
  unfold FT
  refine List.filter_congr fun k hk=>?_
  exact decide_eq_decide.2 (h k (by simpa using hk))
theorem v7 {E:Nat->List Nat}{s:Nat}{S:List Nat}(h1:s∈S) (h2:∀a∈S,∀b,b∈E a->b∈S) (h3:∀a∈S,Path E s a) (k:Nat):Path E s k↔k∈S :=
  ⟨fun h=>h.closed (S:=(· ∈ S)) h1 fun a b ha hb=>h2 a ha b hb,h3 k⟩
theorem HH {op:Int}{kind:Int}(hk:kind=1\/kind=3):kR (yw op kind):=by
  refine⟨⟨by show 1<=4;omega,by show 4<=18;omega⟩,fun B hB=>?_⟩
  simp only[yw,List.mem_cons,List.not_mem_nil,or_false]at hB
  rcases hB with rfl|rfl|rfl|rfl
  · rcases hk with rfl|rfl
    · exact .jump 1 (by show 1<4;omega)
    · exact .barrier 1 (by show 1<4;omega)
  · exact .branch _ 2 3 ⟨0,by omega,by show(0:Int)<1;omega,rfl⟩ (by show 2<4;omega) (by show 3<4;omega)
  · exact .barrier 1 (by show 1<4;omega)
  · exact .exit
def aE:Nat->List Nat:=qT (yw 3 1)
def bE:Nat->List Nat:=qT (yw 2 3)
theorem Jc (k:Nat):Path aE 0 k↔k∈[0,1,2,3]:=by
  have p1:Path aE 0 1:=.step .refl (by decide)
  refine v7 (by decide) (by decide) (fun a ha=>?_) k
  simp only[List.mem_cons,List.not_mem_nil,or_false]at ha
  rcases ha with rfl|rfl|rfl|rfl
  · exact .refl
  · exact p1
  · exact .step p1 (by decide)
  · exact .step p1 (by decide)
theorem Kj (k:Nat):Path aE 1 k↔k∈[1,2,3]:=by
  refine v7 (by decide) (by decide) (fun a ha=>?_) k
  simp only[List.mem_cons,List.not_mem_nil,or_false]at ha
  rcases ha with rfl|rfl|rfl
  · exact .refl
  · exact .step .refl (by decide)
  · exact .step .refl (by decide)
theorem I9 (k:Nat):Path bE 0 k↔k∈[0]:=by
  refine v7 (by decide) (by decide) (fun a ha=>?_) k
  simp only[List.mem_cons,List.not_mem_nil,or_false]at ha
  subst ha
  exact .refl
theorem Ki (k:Nat):Path bE 1 k↔k∈[1,2,3]:=by
  refine v7 (by decide) (by decide) (fun a ha=>?_) k
  simp only[List.mem_cons,List.not_mem_nil,or_false]at ha
  rcases ha with rfl|rfl|rfl
  · exact .refl
  · exact .step .refl (by decide)
  · exact .step .refl (by decide)
theorem Lh (k:Nat):St (yw 3 1) k↔k∈[0,1]:=by
  constructor
  · intro h
    induction h with
    | zero=>decide
    | @step s a t h ha ht ih =>
      have h4:a∈[0,1,2,3]:=by
        simp only[List.mem_cons,List.not_mem_nil,or_false]at ih
        rcases ih with rfl|rfl
        · exact(Jc a).1 ha
        · have:=(Kj a).1 ha;simp only[List.mem_cons,List.not_mem_nil,or_false]at this ⊢;omega
      have:∀a,a∈[0,1,2,3]->∀t,t∈kh (yw 3 1) a->t∈[0,1]:=by decide
      exact this a h4 t ht
  · intro h
    simp only[List.mem_cons,List.not_mem_nil,or_false]at h
    rcases h with rfl|rfl
    · exact .zero
    · exact .step .zero ((Jc 2).2 (by decide)) (by decide)
theorem Lf (k:Nat):St (yw 2 3) k↔k∈[0,1]:=by
  constructor
  · intro h
    induction h with
    | zero=>decide
    | @step s a t h ha ht ih =>
      have h4:a∈[0,1,2,3]:=by
        simp only[List.mem_cons,List.not_mem_nil,or_false]at ih
        rcases ih with rfl|rfl
        · have:=(I9 a).1 ha;simp only[List.mem_cons,List.not_mem_nil,or_false]at this ⊢;omega
        · have:=(Ki a).1 ha;simp only[List.mem_cons,List.not_mem_nil,or_false]at this ⊢;omega
      have:∀a,a∈[0,1,2,3]->∀t,t∈kh (yw 2 3) a->t∈[0,1]:=by decide
      exact this a h4 t ht
  · intro h
    simp only[List.mem_cons,List.not_mem_nil,or_false]at h
    rcases h with rfl|rfl
    · exact .zero
    · exact .step .zero ((I9 0).2 (by decide)) (by decide)
def Kq:D:=.agg [.sl (dg [0,1]),.sl [.sl (dg [0,1,2,3]),.sl (dg [1,2,3])]]
def Kp:D:=.agg [.sl (dg [0,1]),.sl [.sl (dg [0]),.sl (dg [1,2,3])]]
theorem JP:D8 (yw 3 1)=Kq:=by
  have hs:jG (yw 3 1)=[0,1]:=(tJ (S:=[0,1]) fun k _=>Lh k).trans (by decide)
  have h0:rl (yw 3 1) 0=[0,1,2,3]:=(tJ (S:=[0,1,2,3]) fun k _=>Jc k).trans (by decide)
  have h1:rl (yw 3 1) 1=[1,2,3]:=(tJ (S:=[1,2,3]) fun k _=>Kj k).trans (by decide)
  simp only[D8,hs,List.map_cons,List.map_nil,h0,h1,Kq]
theorem JO:D8 (yw 2 3)=Kp:=by
  have hs:jG (yw 2 3)=[0,1]:=(tJ (S:=[0,1]) fun k _=>Lf k).trans (by decide)
  have h0:rl (yw 2 3) 0=[0]:=(tJ (S:=[0]) fun k _=>I9 k).trans (by decide)
  have h1:rl (yw 2 3) 1=[1,2,3]:=(tJ (S:=[1,2,3]) fun k _=>Ki k).trans (by decide)
  simp only[D8,hs,List.map_cons,List.map_nil,h0,h1,Kp]
def Lr:D:=(yw 3 1).ex
def Lp:D:=(yw 2 3).ex
theorem FV:aQ PP bD [Lr] (· = Kq):=by
  have:=aQ.arg (C9.cons (Code.CR (yw 3 1)) .nil) (zl (HH (op:=3) (Or.inl rfl)))
  rw[JP]at this
  exact this
theorem FU:aQ PP bD [Lp] (· = Kp):=by
  have:=aQ.arg (C9.cons (Code.CR (yw 2 3)) .nil) (zl (HH (op:=2) (Or.inr rfl)))
  rw[JO]at this
  exact this
def y5:List (FuncId×List D×D):=[(bD,[Lr],Kq),(bD,[Lp],Kp)]
theorem yl:∀p∈y5,aQ PP p.1 p.2.1 (· = p.2.2):=by
  intro p hp
  simp only[y5,List.mem_cons,List.not_mem_nil,or_false]at hp
  rcases hp with rfl|rfl
  · exact FV
  · exact FU
noncomputable def HG:yI PP fsz where
  a:=HD
  spec:=specS y5
  sp:=zP yl
def Io (f:FuncId):Bool:=[22,110,71,65,87,100,114,125,130].contains f
theorem zf {n:Nat}{f:FuncId}{ds:List D}{r:D}(h:(K8 HG Io 100 n f ds).any (D.same r)=true):aQ PP f ds (· = r):=x9 HG Io 100 n h
end Go.Am
namespace Go.Am
open Go Go.Proofs
abbrev qI (n:Int):D:=.int .i64 n
abbrev qP (n:Int):D:=.int .i32 n
def Ks:D:=(.agg [(qI 4),(qI 1),(qI 1),(qI 0),(qI 0),.nil,.nil,(.sl [(.agg [.nil,(qI 1),(qI 0),(qI 0),(qI 0),(qP 0),(qI 0),(qI 0),(qP 0),(qI 0),(qI 0),(qP 0),(qI 1),(qI 0)]),(.agg [(.sl [(.agg [(qI 5),(qI 3),(qI 0),(qI 2),(qI 0),(qP 0),(qI 0),(qI 0),(qP 0),(qI 0),(qI 0),(qP 0),(qI 0),(qI 0),(qP 0)])]),(qI 2),(qI 0),(qI 0),(qI 0),(qP 0),(qI 2),(qI 0),(qP 0),(qI 0),(qI 0),(qP 0),(qI 2),(qI 3)]),(.agg [.nil,(qI 3),(qI 0),(qI 0),(qI 0),(qP 0),(qI 0),(qI 0),(qP 0),(qI 0),(qI 0),(qP 0),(qI 1),(qI 0)]),(.agg [.nil,(qI 5),(qI 0),(qI 0),(qI 0),(qP 0),(qI 0),(qI 0),(qP 0),(qI 0),(qI 0),(qP 0),(qI 0),(qI 0)])])])
def Kr:D:=(.agg [(qI 4),(qI 1),(qI 1),(qI 0),(qI 0),.nil,.nil,(.sl [(.agg [.nil,(qI 3),(qI 0),(qI 0),(qI 0),(qP 0),(qI 0),(qI 0),(qP 0),(qI 0),(qI 0),(qP 0),(qI 1),(qI 0)]),(.agg [(.sl [(.agg [(qI 5),(qI 2),(qI 0),(qI 2),(qI 0),(qP 0),(qI 0),(qI 0),(qP 0),(qI 0),(qI 0),(qP 0),(qI 0),(qI 0),(qP 0)])]),(qI 2),(qI 0),(qI 0),(qI 0),(qP 0),(qI 2),(qI 0),(qP 0),(qI 0),(qI 0),(qP 0),(qI 2),(qI 3)]),(.agg [.nil,(qI 3),(qI 0),(qI 0),(qI 0),(qP 0),(qI 0),(qI 0),(qP 0),(qI 0),(qI 0),(qP 0),(qI 1),(qI 0)]),(.agg [.nil,(qI 5),(qI 0),(qI 0),(qI 0),(qP 0),(qI 0),(qI 0),(qP 0),(qI 0),(qI 0),(qP 0),(qI 0),(qI 0)])])])
theorem Kz:aQ PP cE [Ks] (· = (.sl [.nil,(.sl [(qI 1)]),(.sl [(qI 1)]),.nil])):=zf (n:=60) (by kernel_rfl)
theorem Ky:aQ PP dK [Ks] (· = (.sl [.nil,(.sl [(qI 1)]),(.sl [(qI 1)]),.nil])):=zf (n:=60) (by kernel_rfl)
theorem Kx:aQ PP cE [Kr] (· = (.sl [.nil,(.sl [(qI 1)]),(.sl [(qI 1)]),.nil])):=zf (n:=60) (by kernel_rfl)
theorem Kw:aQ PP dK [Kr] (· = (.sl [.nil,(.sl [(qI 1)]),(.sl [(qI 1)]),.nil])):=zf (n:=60) (by kernel_rfl)
def known:List (FuncId×List D×D) :=
  y5++[(cE,[Ks],(.sl [.nil,(.sl [(qI 1)]),(.sl [(qI 1)]),.nil])),
   (dK,[Ks],(.sl [.nil,(.sl [(qI 1)]),(.sl [(qI 1)]),.nil])),
   (cE,[Kr],(.sl [.nil,(.sl [(qI 1)]),(.sl [(qI 1)]),.nil])),
   (dK,[Kr],(.sl [.nil,(.sl [(qI 1)]),(.sl [(qI 1)]),.nil]))]
theorem E4:∀p∈known,aQ PP p.1 p.2.1 (· = p.2.2):=by
  intro p hp
  rcases List.mem_append.1 hp with hp|hp
  · exact yl p hp
  simp only[List.mem_cons,List.not_mem_nil,or_false]at hp
  rcases hp with rfl|rfl|rfl|rfl
  · exact Kz
  · exact Ky
  · exact Kx
  · exact Kw
noncomputable def IQ:yI PP fsz where
  a:=HD
  spec:=specS known
  sp:=zP E4
theorem BK:aQ PP ew [] (· = .bool true):=x9 IQ Io 100 60 (by kernel_rfl)
end Go.Am
