/- The examples of this chapter, worked out. No condition. -/
import Derived.Test.YtjhjndjghaagiaaP2
set_option linter.unnecessarySimpa false
set_option linter.defProp false
set_option linter.unusedSectionVars false
set_option linter.unusedSimpArgs false
set_option linter.unusedVariables false
namespace Go.Am
open Go Go.Proofs
noncomputable def ME:A8 PP fsz where
 a:=MA
 spec:=fun _=>none
 sp:=fun _ _ h=>by cases h
def Nq (f:FuncId):Bool:=[63,76,52,72,83,89,73,80,87].contains f
theorem nV {n:Nat}{f:FuncId}{ds:List D}{r:D}(h:(Re ME Nq 100 n f ds).any (D.same r)=true):aQ PP f ds (· = r):=Av ME Nq 100 n h
end Go.Am
namespace Go.Am
open Go Go.Proofs
abbrev qI (n:Int):D:=.int .i64 n
abbrev qP (n:Int):D:=.int .i32 n
def DW:D:=(.agg [(qI 4),(qI 1),(qI 5),(qI 0),(qI 0),.nil,.nil,(.sl [(.agg [(.sl [(.agg [(qI 5),(qI 2),(qI 0),(qI 2),(qI 0),(qP 0),(qI 0),(qI 0),(qP 0),(qI 0),(qI 0),(qP 0),(qI 0),(qI 0),(qP 0)]),(.agg [(qI 5),(qI 3),(qI 0),(qI 2),(qI 1),(qP 0),(qI 0),(qI 0),(qP 0),(qI 0),(qI 0),(qP 0),(qI 0),(qI 0),(qP 0)])]),(qI 2),(qI 0),(qI 0),(qI 0),(qP 0),(qI 2),(qI 0),(qP 0),(qI 0),(qI 0),(qP 0),(qI 1),(qI 2)]),(.agg [(.sl [(.agg [(qI 1),(qI 0),(qI 0),(qI 2),(qI 2),(qP 0),(qI 1),(qI 0),(qP 1),(qI 0),(qI 0),(qP 0),(qI 0),(qI 0),(qP 0)])]),(qI 1),(qI 0),(qI 0),(qI 0),(qP 0),(qI 0),(qI 0),(qP 0),(qI 0),(qI 0),(qP 0),(qI 2),(qI 0)]),(.agg [.nil,(qI 2),(qI 0),(qI 0),(qI 0),(qP 0),(qI 2),(qI 1),(qP 0),(qI 0),(qI 0),(qP 0),(qI 3),(qI 4)]),(.agg [(.sl [(.agg [(qI 1),(qI 0),(qI 0),(qI 2),(qI 3),(qP 0),(qI 2),(qI 1),(qP 0),(qI 0),(qI 0),(qP 0),(qI 0),(qI 0),(qP 0)])]),(qI 1),(qI 0),(qI 0),(qI 0),(qP 0),(qI 0),(qI 0),(qP 0),(qI 0),(qI 0),(qP 0),(qI 4),(qI 0)]),(.agg [.nil,(qI 5),(qI 0),(qI 0),(qI 0),(qP 0),(qI 0),(qI 0),(qP 0),(qI 0),(qI 0),(qP 0),(qI 0),(qI 0)])])])
def Qk:D:=(.agg [(.sl [(.bool true),(.bool false),(.bool true),(.bool true),(.bool true)]),(.sl [(.bool false),(.bool true),(.bool false),(.bool true),(.bool true)])])
def Qj:D:=(.agg [(.sl [(.bool false),(.bool false),(.bool false),(.bool false),(.bool false)]),(.sl [(.bool false),(.bool false),(.bool false),(.bool false),(.bool false)])])
def Qi:D:=(.agg [(.sl [(.bool true),(.bool true),(.bool true),(.bool true),(.bool true)]),(.sl [(.bool true),(.bool true),(.bool true),(.bool true),(.bool true)])])
theorem QG:aQ PP gq [] (· = DW):=nV (n:=60) (by kernel_rfl)
theorem QF:aQ PP dM [DW] (· = Qk):=nV (n:=60) (by kernel_rfl)
theorem QC:aQ PP aC [DW,Qk] (· = (qI 0)):=nV (n:=60) (by kernel_rfl)
theorem QB:aQ PP fp [DW,(.bool false)] (· = Qj):=nV (n:=60) (by kernel_rfl)
theorem QA:aQ PP aC [DW,Qj] (· = (qI 0)):=nV (n:=60) (by kernel_rfl)
theorem Qz:aQ PP fp [DW,(.bool true)] (· = Qi):=nV (n:=60) (by kernel_rfl)
theorem Qy:aQ PP aC [DW,Qi] (· = (qI 100)):=nV (n:=60) (by kernel_rfl)
theorem Qx:aQ PP aC [DW,(.agg [.nil,.nil])] (· = (qI 100)):=nV (n:=60) (by kernel_rfl)
theorem Qw:aQ PP bT [(.sl [(.bool true),(.bool false),(.bool true),(.bool true),(.bool true)]),(.sl [(.bool true),(.bool false),(.bool true),(.bool true),(.bool true)])] (· = (.bool true)):=nV (n:=60) (by kernel_rfl)
theorem Qu:aQ PP bT [(.sl [(.bool false),(.bool true),(.bool false),(.bool true),(.bool true)]),(.sl [(.bool false),(.bool true),(.bool false),(.bool true),(.bool true)])] (· = (.bool true)):=nV (n:=60) (by kernel_rfl)
def known:List (FuncId×List D×D) :=
  [(gq,[],DW),
   (dM,[DW],Qk),
   (aC,[DW,Qk],(qI 0)),
   (fp,[DW,(.bool false)],Qj),
   (aC,[DW,Qj],(qI 0)),
   (fp,[DW,(.bool true)],Qi),
   (aC,[DW,Qi],(qI 100)),
   (aC,[DW,(.agg [.nil,.nil])],(qI 100)),
   (bT,[(.sl [(.bool true),(.bool false),(.bool true),(.bool true),(.bool true)]),(.sl [(.bool true),(.bool false),(.bool true),(.bool true),(.bool true)])],(.bool true)),
   (bT,[(.sl [(.bool false),(.bool true),(.bool false),(.bool true),(.bool true)]),(.sl [(.bool false),(.bool true),(.bool false),(.bool true),(.bool true)])],(.bool true))]
theorem IY:∀p∈known,aQ PP p.1 p.2.1 (· = p.2.2):=by
 intro p hp
 simp only[known,List.mem_cons,List.not_mem_nil,or_false]at hp
 rcases hp with rfl|rfl|rfl|rfl|rfl|rfl|rfl|rfl|rfl|rfl
 ·exact QG
 ·exact QF
 ·exact QC
 ·exact QB
 ·exact QA
 ·exact Qz
 ·exact Qy
 ·exact Qx
 ·exact Qw
 ·exact Qu
def Ek (f:FuncId):Option (List D->Option D) :=
 if known.any (fun p=>p.1 == f) then some fun ds=>(known.find? fun p=>p.1 == f&&D.sameL p.2.1 ds).map fun p=>p.2.2 else none
theorem GU:∀f s,Ek f=some s->∀ds r,s ds=some r->aQ PP f ds (· = r):=by
 intro f s hs ds r hr
 unfold Ek at hs
 split at hs
 ·cases hs
  simp only[Option.map_eq_some_iff]at hr
  obtain⟨p,hp,rfl⟩:=hr
  have h1:=List.find?_some hp
  have h2:=List.mem_of_find?_eq_some hp
  simp only[Bool.and_eq_true,beq_iff_eq]at h1
  have:=IY p h2
  rw[h1.1,D.cb _ _ h1.2]at this
  exact this
 ·cases hs
noncomputable def NY:A8 PP fsz where
 a:=MA
 spec:=Ek
 sp:=GU
theorem EN:aQ PP js [] (· = .bool true):=Av NY Nq 100 60 (by kernel_rfl)
end Go.Am
