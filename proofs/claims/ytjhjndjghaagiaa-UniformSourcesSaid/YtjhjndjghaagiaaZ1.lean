/- The examples of this chapter, worked out. No condition. -/
import Derived.Test.YtjhjndjghaagiaaP2
set_option linter.unnecessarySimpa false
set_option linter.defProp false
set_option linter.unusedSectionVars false
set_option linter.unusedSimpArgs false
set_option linter.unusedVariables false
namespace Go.Am
open Go Go.Proofs
noncomputable def LO:Ag PP fsz where
 a:=LK
 spec:=fun _=>none
 sp:=fun _ _ h=>by cases h
def ME (f:FuncId):Bool:=[63,76,52,72,83,89,73,80,87].contains f
theorem nZ {n:Nat}{f:FuncId}{ds:List D}{r:D}(h:(Ql LO ME 100 n f ds).any (D.same r)=true):aT PP f ds (· = r):=zC LO ME 100 n h
end Go.Am
namespace Go.Am
open Go Go.Proofs
abbrev qI (n:Int):D:=.int .i64 n
abbrev qP (n:Int):D:=.int .i32 n
def C0:D:=(.agg [(qI 4),(qI 1),(qI 5),(qI 0),(qI 0),.nil,.nil,(.sl [(.agg [(.sl [(.agg [(qI 5),(qI 2),(qI 0),(qI 2),(qI 0),(qP 0),(qI 0),(qI 0),(qP 0),(qI 0),(qI 0),(qP 0),(qI 0),(qI 0),(qP 0)]),(.agg [(qI 5),(qI 3),(qI 0),(qI 2),(qI 1),(qP 0),(qI 0),(qI 0),(qP 0),(qI 0),(qI 0),(qP 0),(qI 0),(qI 0),(qP 0)])]),(qI 2),(qI 0),(qI 0),(qI 0),(qP 0),(qI 2),(qI 0),(qP 0),(qI 0),(qI 0),(qP 0),(qI 1),(qI 2)]),(.agg [(.sl [(.agg [(qI 1),(qI 0),(qI 0),(qI 2),(qI 2),(qP 0),(qI 1),(qI 0),(qP 1),(qI 0),(qI 0),(qP 0),(qI 0),(qI 0),(qP 0)])]),(qI 1),(qI 0),(qI 0),(qI 0),(qP 0),(qI 0),(qI 0),(qP 0),(qI 0),(qI 0),(qP 0),(qI 2),(qI 0)]),(.agg [.nil,(qI 2),(qI 0),(qI 0),(qI 0),(qP 0),(qI 2),(qI 1),(qP 0),(qI 0),(qI 0),(qP 0),(qI 3),(qI 4)]),(.agg [(.sl [(.agg [(qI 1),(qI 0),(qI 0),(qI 2),(qI 3),(qP 0),(qI 2),(qI 1),(qP 0),(qI 0),(qI 0),(qP 0),(qI 0),(qI 0),(qP 0)])]),(qI 1),(qI 0),(qI 0),(qI 0),(qP 0),(qI 0),(qI 0),(qP 0),(qI 0),(qI 0),(qP 0),(qI 4),(qI 0)]),(.agg [.nil,(qI 5),(qI 0),(qI 0),(qI 0),(qP 0),(qI 0),(qI 0),(qP 0),(qI 0),(qI 0),(qP 0),(qI 0),(qI 0)])])])
def Pt:D:=(.agg [(.sl [(.bool true),(.bool false),(.bool true),(.bool true),(.bool true)]),(.sl [(.bool false),(.bool true),(.bool false),(.bool true),(.bool true)])])
def Ps:D:=(.agg [(.sl [(.bool false),(.bool false),(.bool false),(.bool false),(.bool false)]),(.sl [(.bool false),(.bool false),(.bool false),(.bool false),(.bool false)])])
def Pr:D:=(.agg [(.sl [(.bool true),(.bool true),(.bool true),(.bool true),(.bool true)]),(.sl [(.bool true),(.bool true),(.bool true),(.bool true),(.bool true)])])
theorem PK:aT PP gH [] (· = C0):=nZ (n:=60) (by kernel_rfl)
theorem PJ:aT PP dJ [C0] (· = Pt):=nZ (n:=60) (by kernel_rfl)
theorem PI:aT PP bc [C0,Pt] (· = (qI 0)):=nZ (n:=60) (by kernel_rfl)
theorem PH:aT PP fy [C0,(.bool false)] (· = Ps):=nZ (n:=60) (by kernel_rfl)
theorem PG:aT PP bc [C0,Ps] (· = (qI 0)):=nZ (n:=60) (by kernel_rfl)
theorem PF:aT PP fy [C0,(.bool true)] (· = Pr):=nZ (n:=60) (by kernel_rfl)
theorem PE:aT PP bc [C0,Pr] (· = (qI 100)):=nZ (n:=60) (by kernel_rfl)
theorem PD:aT PP bc [C0,(.agg [.nil,.nil])] (· = (qI 100)):=nZ (n:=60) (by kernel_rfl)
theorem PC:aT PP bp [(.sl [(.bool true),(.bool false),(.bool true),(.bool true),(.bool true)]),(.sl [(.bool true),(.bool false),(.bool true),(.bool true),(.bool true)])] (· = (.bool true)):=nZ (n:=60) (by kernel_rfl)
theorem PB:aT PP bp [(.sl [(.bool false),(.bool true),(.bool false),(.bool true),(.bool true)]),(.sl [(.bool false),(.bool true),(.bool false),(.bool true),(.bool true)])] (· = (.bool true)):=nZ (n:=60) (by kernel_rfl)
def known:List (FuncId×List D×D) :=
  [(gH,[],C0),
   (dJ,[C0],Pt),
   (bc,[C0,Pt],(qI 0)),
   (fy,[C0,(.bool false)],Ps),
   (bc,[C0,Ps],(qI 0)),
   (fy,[C0,(.bool true)],Pr),
   (bc,[C0,Pr],(qI 100)),
   (bc,[C0,(.agg [.nil,.nil])],(qI 100)),
   (bp,[(.sl [(.bool true),(.bool false),(.bool true),(.bool true),(.bool true)]),(.sl [(.bool true),(.bool false),(.bool true),(.bool true),(.bool true)])],(.bool true)),
   (bp,[(.sl [(.bool false),(.bool true),(.bool false),(.bool true),(.bool true)]),(.sl [(.bool false),(.bool true),(.bool false),(.bool true),(.bool true)])],(.bool true))]
theorem H3:∀p∈known,aT PP p.1 p.2.1 (· = p.2.2):=by
 intro p hp
 simp only[known,List.mem_cons,List.not_mem_nil,or_false]at hp
 rcases hp with rfl|rfl|rfl|rfl|rfl|rfl|rfl|rfl|rfl|rfl
 ·exact PK
 ·exact PJ
 ·exact PI
 ·exact PH
 ·exact PG
 ·exact PF
 ·exact PE
 ·exact PD
 ·exact PC
 ·exact PB
def Dq (f:FuncId):Option (List D->Option D) :=
 if known.any (fun p=>p.1 == f) then some fun ds=>(known.find? fun p=>p.1 == f&&D.sameL p.2.1 ds).map fun p=>p.2.2 else none
theorem FR:∀f s,Dq f=some s->∀ds r,s ds=some r->aT PP f ds (· = r):=by
 intro f s hs ds r hr
 unfold Dq at hs
 split at hs
 ·cases hs
  simp only[Option.map_eq_some_iff]at hr
  obtain⟨p,hp,rfl⟩:=hr
  have h1:=List.find?_some hp
  have h2:=List.mem_of_find?_eq_some hp
  simp only[Bool.and_eq_true,beq_iff_eq]at h1
  have:=H3 p h2
  rw[h1.1,D.cq _ _ h1.2]at this
  exact this
 ·cases hs
noncomputable def Nc:Ag PP fsz where
 a:=LK
 spec:=Dq
 sp:=FR
theorem DS:aT PP jT [] (· = .bool true):=zC Nc ME 100 60 (by kernel_rfl)
end Go.Am
