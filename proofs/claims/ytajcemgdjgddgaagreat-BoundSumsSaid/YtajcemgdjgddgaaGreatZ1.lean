/- The examples of this chapter, worked out. No condition. -/
import Derived.Test.YtajcemgdjgddgaaGreatT3
set_option linter.unnecessarySimpa false
set_option linter.defProp false
set_option linter.unusedSectionVars false
set_option linter.unusedSimpArgs false
set_option linter.unusedVariables false
namespace Go.Am
open Go Go.Proofs
abbrev qI (n:Int):D:=.int .i64 n
abbrev qP (n:Int):D:=.int .i32 n
def Iy:D:=(.agg [(qI 4),(qI 1),(qI 5),(qI 0),(qI 0),.nil,(.sl [(.agg [(qI 1),(qI 1),(qI 7)])]),(.sl [(.agg [(.sl [(.agg [(qI 1),(qI 0),(qI 0),(qI 2),(qI 0),(qP 0),(qI 1),(qI 0),(qP 0),(qI 0),(qI 0),(qP 0),(qI 0),(qI 0),(qP 0)]),(.agg [(qI 1),(qI 0),(qI 0),(qI 2),(qI 1),(qP 0),(qI 1),(qI 0),(qP 0),(qI 0),(qI 0),(qP 0),(qI 0),(qI 0),(qP 0)])]),(qI 1),(qI 0),(qI 0),(qI 0),(qP 0),(qI 0),(qI 0),(qP 0),(qI 0),(qI 0),(qP 0),(qI 1),(qI 0)]),(.agg [(.sl [(.agg [(qI 3),(qI 26),(qI 0),(qI 2),(qI 2),(qP 0),(qI 2),(qI 1),(qP 0),(qI 1),(qI 0),(qP 7),(qI 0),(qI 0),(qP 0)])]),(qI 2),(qI 0),(qI 0),(qI 0),(qP 0),(qI 2),(qI 2),(qP 0),(qI 0),(qI 0),(qP 0),(qI 2),(qI 4)]),(.agg [(.sl [(.agg [(qI 3),(qI 10),(qI 0),(qI 2),(qI 1),(qP 0),(qI 2),(qI 1),(qP 0),(qI 1),(qI 0),(qP 1),(qI 0),(qI 0),(qP 0)]),(.agg [(qI 3),(qI 26),(qI 0),(qI 2),(qI 3),(qP 0),(qI 2),(qI 0),(qP 0),(qI 1),(qI 0),(qP 5),(qI 0),(qI 0),(qP 0)])]),(qI 2),(qI 0),(qI 0),(qI 0),(qP 0),(qI 2),(qI 3),(qP 0),(qI 0),(qI 0),(qP 0),(qI 3),(qI 4)]),(.agg [(.sl [(.agg [(qI 3),(qI 10),(qI 0),(qI 2),(qI 4),(qP 0),(qI 2),(qI 0),(qP 0),(qI 1),(qI 0),(qP 1),(qI 0),(qI 0),(qP 0)]),(.agg [(qI 1),(qI 0),(qI 0),(qI 2),(qI 0),(qP 0),(qI 2),(qI 4),(qP 0),(qI 0),(qI 0),(qP 0),(qI 0),(qI 0),(qP 0)])]),(qI 1),(qI 0),(qI 0),(qI 0),(qP 0),(qI 0),(qI 0),(qP 0),(qI 0),(qI 0),(qP 0),(qI 1),(qI 0)]),(.agg [.nil,(qI 5),(qI 0),(qI 0),(qI 0),(qP 0),(qI 0),(qI 0),(qP 0),(qI 0),(qI 0),(qP 0),(qI 0),(qI 0)])])])
def OO:D:=(.agg [(qI 4),(qI 1),(qI 5),(qI 0),(qI 0),(.sl []),(.sl [(.agg [(qI 1),(qI 1),(qI 7)])]),(.sl [(.agg [(.sl [(.agg [(qI 1),(qI 0),(qI 0),(qI 2),(qI 0),(qP 0),(qI 1),(qI 0),(qP 0),(qI 0),(qI 0),(qP 0),(qI 0),(qI 0),(qP 0)]),(.agg [(qI 1),(qI 0),(qI 0),(qI 2),(qI 1),(qP 0),(qI 1),(qI 0),(qP 0),(qI 0),(qI 0),(qP 0),(qI 0),(qI 0),(qP 0)])]),(qI 1),(qI 0),(qI 0),(qI 0),(qP 0),(qI 0),(qI 0),(qP 0),(qI 0),(qI 0),(qP 0),(qI 1),(qI 0)]),(.agg [(.sl [(.agg [(qI 3),(qI 26),(qI 0),(qI 2),(qI 2),(qP 0),(qI 2),(qI 1),(qP 0),(qI 1),(qI 0),(qP 7),(qI 0),(qI 0),(qP 0)])]),(qI 2),(qI 0),(qI 0),(qI 0),(qP 0),(qI 2),(qI 2),(qP 0),(qI 0),(qI 0),(qP 0),(qI 2),(qI 4)]),(.agg [(.sl [(.agg [(qI 3),(qI 10),(qI 0),(qI 2),(qI 1),(qP 0),(qI 2),(qI 1),(qP 0),(qI 1),(qI 0),(qP 1),(qI 0),(qI 0),(qP 0)]),(.agg [(qI 3),(qI 26),(qI 0),(qI 2),(qI 3),(qP 0),(qI 2),(qI 0),(qP 0),(qI 1),(qI 0),(qP 5),(qI 0),(qI 0),(qP 0)])]),(qI 2),(qI 0),(qI 0),(qI 0),(qP 0),(qI 2),(qI 3),(qP 0),(qI 0),(qI 0),(qP 0),(qI 3),(qI 4)]),(.agg [(.sl [(.agg [(qI 3),(qI 10),(qI 0),(qI 2),(qI 4),(qP 0),(qI 2),(qI 0),(qP 0),(qI 1),(qI 0),(qP 1),(qI 0),(qI 0),(qP 0)]),(.agg [(qI 1),(qI 0),(qI 0),(qI 2),(qI 0),(qP 0),(qI 2),(qI 4),(qP 0),(qI 0),(qI 0),(qP 0),(qI 0),(qI 0),(qP 0)])]),(qI 1),(qI 0),(qI 0),(qI 0),(qP 0),(qI 0),(qI 0),(qP 0),(qI 0),(qI 0),(qP 0),(qI 1),(qI 0)]),(.agg [(.sl []),(qI 5),(qI 0),(qI 0),(qI 0),(qP 0),(qI 0),(qI 0),(qP 0),(qI 0),(qI 0),(qP 0),(qI 0),(qI 0)])])])
def N3:D:=(.agg [(qI 4),(qI 1),(qI 5),(qI 0),(qI 0),(.sl []),.nil,(.sl [(.agg [(.sl [(.agg [(qI 1),(qI 0),(qI 0),(qI 2),(qI 0),(qP 0),(qI 1),(qI 0),(qP 0),(qI 0),(qI 0),(qP 0),(qI 0),(qI 0),(qP 0)]),(.agg [(qI 1),(qI 0),(qI 0),(qI 2),(qI 1),(qP 0),(qI 1),(qI 0),(qP 0),(qI 0),(qI 0),(qP 0),(qI 0),(qI 0),(qP 0)])]),(qI 1),(qI 0),(qI 0),(qI 0),(qP 0),(qI 0),(qI 0),(qP 0),(qI 0),(qI 0),(qP 0),(qI 1),(qI 0)]),(.agg [(.sl [(.agg [(qI 3),(qI 26),(qI 0),(qI 2),(qI 2),(qP 0),(qI 2),(qI 1),(qP 0),(qI 1),(qI 0),(qP 7),(qI 0),(qI 0),(qP 0)])]),(qI 2),(qI 0),(qI 0),(qI 0),(qP 0),(qI 2),(qI 2),(qP 0),(qI 0),(qI 0),(qP 0),(qI 2),(qI 4)]),(.agg [(.sl [(.agg [(qI 3),(qI 10),(qI 0),(qI 2),(qI 1),(qP 0),(qI 2),(qI 1),(qP 0),(qI 1),(qI 0),(qP 1),(qI 0),(qI 0),(qP 0)]),(.agg [(qI 3),(qI 26),(qI 0),(qI 2),(qI 3),(qP 0),(qI 2),(qI 0),(qP 0),(qI 1),(qI 0),(qP 5),(qI 0),(qI 0),(qP 0)])]),(qI 2),(qI 0),(qI 0),(qI 0),(qP 0),(qI 2),(qI 3),(qP 0),(qI 0),(qI 0),(qP 0),(qI 3),(qI 4)]),(.agg [(.sl [(.agg [(qI 3),(qI 10),(qI 0),(qI 2),(qI 4),(qP 0),(qI 2),(qI 0),(qP 0),(qI 1),(qI 0),(qP 1),(qI 0),(qI 0),(qP 0)]),(.agg [(qI 1),(qI 0),(qI 0),(qI 2),(qI 0),(qP 0),(qI 2),(qI 4),(qP 0),(qI 0),(qI 0),(qP 0),(qI 0),(qI 0),(qP 0)])]),(qI 1),(qI 0),(qI 0),(qI 0),(qP 0),(qI 0),(qI 0),(qP 0),(qI 0),(qI 0),(qP 0),(qI 1),(qI 0)]),(.agg [(.sl []),(qI 5),(qI 0),(qI 0),(qI 0),(qP 0),(qI 0),(qI 0),(qP 0),(qI 0),(qI 0),(qP 0),(qI 0),(qI 0)])])])
theorem Od:bf PP eY [] (· = Iy):=oP (n:=40) (by kernel_rfl)
theorem Oc:bf PP dk [Iy] (· = (.tup [(.agg [(.sl [(qI 1),(qI 8),(qI 7),(qI 7),(qI 1)]),(qI 62),(qI 0)]),(qI 0)])):=oP (n:=40) (by kernel_rfl)
theorem Ob:bf PP ki [Iy] (· = OO):=oP (n:=40) (by kernel_rfl)
theorem Oa:bf PP dk [N3] (· = (.tup [(.agg [.nil,(qI 0),(qI 0)]),(qI 120)])):=oP (n:=40) (by kernel_rfl)
theorem N9:bf PP bw [Iy,(.agg [(.sl [(qI 1),(qI 8),(qI 7),(qI 7),(qI 1)]),(qI 62),(qI 0)])] (· = (qI 0)):=oP (n:=40) (by kernel_rfl)
theorem N8:bf PP bw [N3,(.agg [(.sl [(qI 1),(qI 8),(qI 7),(qI 7),(qI 1)]),(qI 62),(qI 0)])] (· = (qI 100)):=oP (n:=40) (by kernel_rfl)
theorem N7:bf PP bw [Iy,(.agg [.nil,(qI 0),(qI 0)])] (· = (qI 100)):=oP (n:=40) (by kernel_rfl)
theorem N6:bf PP bL [Iy,(.agg [(.sl [(qI 1),(qI 8),(qI 7),(qI 7),(qI 1)]),(qI 62),(qI 0)])] (· = (.agg [(qI 248),(qI 152),(qI 0),(qI 744)])):=oP (n:=40) (by kernel_rfl)
theorem N5:bf PP ei [(.sl [(qI 1),(qI 8),(qI 7),(qI 7),(qI 1)]),(.sl [(qI 1),(qI 8),(qI 7),(qI 7),(qI 1)])] (· = (.bool true)):=oP (n:=40) (by kernel_rfl)
def known:List (FuncId×List D×D) :=
  [(eY,[],Iy),
   (dk,[Iy],(.tup [(.agg [(.sl [(qI 1),(qI 8),(qI 7),(qI 7),(qI 1)]),(qI 62),(qI 0)]),(qI 0)])),
   (ki,[Iy],OO),
   (dk,[N3],(.tup [(.agg [.nil,(qI 0),(qI 0)]),(qI 120)])),
   (bw,[Iy,(.agg [(.sl [(qI 1),(qI 8),(qI 7),(qI 7),(qI 1)]),(qI 62),(qI 0)])],(qI 0)),
   (bw,[N3,(.agg [(.sl [(qI 1),(qI 8),(qI 7),(qI 7),(qI 1)]),(qI 62),(qI 0)])],(qI 100)),
   (bw,[Iy,(.agg [.nil,(qI 0),(qI 0)])],(qI 100)),
   (bL,[Iy,(.agg [(.sl [(qI 1),(qI 8),(qI 7),(qI 7),(qI 1)]),(qI 62),(qI 0)])],(.agg [(qI 248),(qI 152),(qI 0),(qI 744)])),
   (ei,[(.sl [(qI 1),(qI 8),(qI 7),(qI 7),(qI 1)]),(.sl [(qI 1),(qI 8),(qI 7),(qI 7),(qI 1)])],(.bool true))]
theorem Jo:∀p∈known,bf PP p.1 p.2.1 (· = p.2.2):=by
  intro p hp
  simp only[known,List.mem_cons,List.not_mem_nil,or_false]at hp
  rcases hp with rfl|rfl|rfl|rfl|rfl|rfl|rfl|rfl|rfl
  · exact Od
  · exact Oc
  · exact Ob
  · exact Oa
  · exact N9
  · exact N8
  · exact N7
  · exact N6
  · exact N5
def F2 (f:FuncId):Option (List D->Option D) :=
  if known.any (fun p=>p.1 == f) then some fun ds=>(known.find? fun p=>p.1 == f&&D.sameL p.2.1 ds).map fun p=>p.2.2 else none
theorem HT:∀f s,F2 f=some s->∀ds r,s ds=some r->bf PP f ds (· = r):=by
  intro f s hs ds r hr
  unfold F2 at hs
  split at hs
  · cases hs
    simp only[Option.map_eq_some_iff]at hr
    obtain⟨p,hp,rfl⟩:=hr
    have h1:=List.find?_some hp
    have h2:=List.mem_of_find?_eq_some hp
    simp only[Bool.and_eq_true,beq_iff_eq]at h1
    have:=Jo p h2
    rw[h1.1,D.bQ _ _ h1.2]at this
    exact this
  · cases hs
noncomputable def MK:DV PP fsz where
  a:=LD
  spec:=F2
  sp:=HT
theorem Gt:bf PP il [] (· = .bool true):=Dv MK Mk 100 40 (by kernel_rfl)
end Go.Am
