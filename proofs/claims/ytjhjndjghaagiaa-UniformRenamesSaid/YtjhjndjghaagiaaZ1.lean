/- The examples of this chapter, worked out. No condition. -/
import Derived.Test.YtjhjndjghaagiaaP2
set_option linter.unnecessarySimpa false
set_option linter.defProp false
set_option linter.unusedSectionVars false
set_option linter.unusedSimpArgs false
set_option linter.unusedVariables false
namespace Go.Am
open Go Go.Proofs
noncomputable def Mw:AJ PP fsz where
 a:=Ms
 spec:=fun _=>none
 sp:=fun _ _ h=>by cases h
def Nn (f:FuncId):Bool:=[63,76,52,72,83,89,73,80,87].contains f
theorem oy {n:Nat}{f:FuncId}{ds:List D}{r:D}(h:(Q9 Mw Nn 100 n f ds).any (D.same r)=true):aV PP f ds (· = r):=Aa Mw Nn 100 n h
end Go.Am
namespace Go.Am
open Go Go.Proofs
abbrev qI (n:Int):D:=.int .i64 n
abbrev qP (n:Int):D:=.int .i32 n
def DE:D:=(.agg [(qI 4),(qI 1),(qI 5),(qI 0),(qI 0),.nil,.nil,(.sl [(.agg [(.sl [(.agg [(qI 5),(qI 2),(qI 0),(qI 2),(qI 0),(qP 0),(qI 0),(qI 0),(qP 0),(qI 0),(qI 0),(qP 0),(qI 0),(qI 0),(qP 0)]),(.agg [(qI 5),(qI 3),(qI 0),(qI 2),(qI 1),(qP 0),(qI 0),(qI 0),(qP 0),(qI 0),(qI 0),(qP 0),(qI 0),(qI 0),(qP 0)])]),(qI 2),(qI 0),(qI 0),(qI 0),(qP 0),(qI 2),(qI 0),(qP 0),(qI 0),(qI 0),(qP 0),(qI 1),(qI 2)]),(.agg [(.sl [(.agg [(qI 1),(qI 0),(qI 0),(qI 2),(qI 2),(qP 0),(qI 1),(qI 0),(qP 1),(qI 0),(qI 0),(qP 0),(qI 0),(qI 0),(qP 0)])]),(qI 1),(qI 0),(qI 0),(qI 0),(qP 0),(qI 0),(qI 0),(qP 0),(qI 0),(qI 0),(qP 0),(qI 2),(qI 0)]),(.agg [.nil,(qI 2),(qI 0),(qI 0),(qI 0),(qP 0),(qI 2),(qI 1),(qP 0),(qI 0),(qI 0),(qP 0),(qI 3),(qI 4)]),(.agg [(.sl [(.agg [(qI 1),(qI 0),(qI 0),(qI 2),(qI 3),(qP 0),(qI 2),(qI 1),(qP 0),(qI 0),(qI 0),(qP 0),(qI 0),(qI 0),(qP 0)])]),(qI 1),(qI 0),(qI 0),(qI 0),(qP 0),(qI 0),(qI 0),(qP 0),(qI 0),(qI 0),(qP 0),(qI 4),(qI 0)]),(.agg [.nil,(qI 5),(qI 0),(qI 0),(qI 0),(qP 0),(qI 0),(qI 0),(qP 0),(qI 0),(qI 0),(qP 0),(qI 0),(qI 0)])])])
def Qe:D:=(.agg [(.sl [(.bool true),(.bool false),(.bool true),(.bool true),(.bool true)]),(.sl [(.bool false),(.bool true),(.bool false),(.bool true),(.bool true)])])
def Qc:D:=(.agg [(.sl [(.bool false),(.bool false),(.bool false),(.bool false),(.bool false)]),(.sl [(.bool false),(.bool false),(.bool false),(.bool false),(.bool false)])])
def Qb:D:=(.agg [(.sl [(.bool true),(.bool true),(.bool true),(.bool true),(.bool true)]),(.sl [(.bool true),(.bool true),(.bool true),(.bool true),(.bool true)])])
theorem Qw:aV PP gK [] (· = DE):=oy (n:=60) (by kernel_rfl)
theorem Qu:aV PP cQ [DE] (· = Qe):=oy (n:=60) (by kernel_rfl)
theorem Qt:aV PP bc [DE,Qe] (· = (qI 0)):=oy (n:=60) (by kernel_rfl)
theorem Qs:aV PP fC [DE,(.bool false)] (· = Qc):=oy (n:=60) (by kernel_rfl)
theorem Qr:aV PP bc [DE,Qc] (· = (qI 0)):=oy (n:=60) (by kernel_rfl)
theorem Qq:aV PP fC [DE,(.bool true)] (· = Qb):=oy (n:=60) (by kernel_rfl)
theorem Qp:aV PP bc [DE,Qb] (· = (qI 100)):=oy (n:=60) (by kernel_rfl)
theorem Qo:aV PP bc [DE,(.agg [.nil,.nil])] (· = (qI 100)):=oy (n:=60) (by kernel_rfl)
theorem Qn:aV PP bq [(.sl [(.bool true),(.bool false),(.bool true),(.bool true),(.bool true)]),(.sl [(.bool true),(.bool false),(.bool true),(.bool true),(.bool true)])] (· = (.bool true)):=oy (n:=60) (by kernel_rfl)
theorem Qm:aV PP bq [(.sl [(.bool false),(.bool true),(.bool false),(.bool true),(.bool true)]),(.sl [(.bool false),(.bool true),(.bool false),(.bool true),(.bool true)])] (· = (.bool true)):=oy (n:=60) (by kernel_rfl)
def known:List (FuncId×List D×D) :=
  [(gK,[],DE),
   (cQ,[DE],Qe),
   (bc,[DE,Qe],(qI 0)),
   (fC,[DE,(.bool false)],Qc),
   (bc,[DE,Qc],(qI 0)),
   (fC,[DE,(.bool true)],Qb),
   (bc,[DE,Qb],(qI 100)),
   (bc,[DE,(.agg [.nil,.nil])],(qI 100)),
   (bq,[(.sl [(.bool true),(.bool false),(.bool true),(.bool true),(.bool true)]),(.sl [(.bool true),(.bool false),(.bool true),(.bool true),(.bool true)])],(.bool true)),
   (bq,[(.sl [(.bool false),(.bool true),(.bool false),(.bool true),(.bool true)]),(.sl [(.bool false),(.bool true),(.bool false),(.bool true),(.bool true)])],(.bool true))]
theorem IJ:∀p∈known,aV PP p.1 p.2.1 (· = p.2.2):=by
 intro p hp
 simp only[known,List.mem_cons,List.not_mem_nil,or_false]at hp
 rcases hp with rfl|rfl|rfl|rfl|rfl|rfl|rfl|rfl|rfl|rfl
 ·exact Qw
 ·exact Qu
 ·exact Qt
 ·exact Qs
 ·exact Qr
 ·exact Qq
 ·exact Qp
 ·exact Qo
 ·exact Qn
 ·exact Qm
def DZ (f:FuncId):Option (List D->Option D) :=
 if known.any (fun p=>p.1 == f) then some fun ds=>(known.find? fun p=>p.1 == f&&D.sameL p.2.1 ds).map fun p=>p.2.2 else none
theorem Gt:∀f s,DZ f=some s->∀ds r,s ds=some r->aV PP f ds (· = r):=by
 intro f s hs ds r hr
 unfold DZ at hs
 split at hs
 ·cases hs
  simp only[Option.map_eq_some_iff]at hr
  obtain⟨p,hp,rfl⟩:=hr
  have h1:=List.find?_some hp
  have h2:=List.mem_of_find?_eq_some hp
  simp only[Bool.and_eq_true,beq_iff_eq]at h1
  have:=IJ p h2
  rw[h1.1,D.ct _ _ h1.2]at this
  exact this
 ·cases hs
noncomputable def NV:AJ PP fsz where
 a:=Ms
 spec:=DZ
 sp:=Gt
theorem Ey:aV PP jV [] (· = .bool true):=Aa NV Nn 100 60 (by kernel_rfl)
end Go.Am
