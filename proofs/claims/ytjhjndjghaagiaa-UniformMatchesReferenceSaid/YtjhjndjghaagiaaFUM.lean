/- The statement UniformMatchesReferenceSaid: the law UniformMatchesReference of chapter 11 holds at every input that its row admits. No condition beyond the row's own. -/
import Derived.Test.YtjhjndjghaagiaaRows
import Derived.WalkKit
import Derived.ProofKit
import Derived.Deep.DeepHandedRow
import Derived.Lib.LaidTab
import Derived.Test.YtjhjndjghaagiaaQ1
set_option linter.unnecessarySimpa false
set_option linter.defProp false
set_option linter.unusedSectionVars false
set_option linter.unusedSimpArgs false
set_option linter.unusedVariables false
namespace Go.Proofs.Ytjhjndjghaagiaa.uniformMatchesReference
open Go Go.Am Go.ChangeShapes Go.WideShapes Go.ChangeAt Go.RowKit

theorem law (xs:List D) (h:Ec Try.prog 12 Try.f3.params.toList xs):aY Try.prog 3 xs (· = .bool true):=RL xs h

theorem own:ownKnob Try.prog.godebug=none:=by kernel_rfl
theorem table {W:World}:∀g vs,bW.tab g=some vs->g<W.heap.size/\∀(k:Nat) (v:Value),vs[k]?=some v->cellOf W.heap g k=some v:=by
 intro g vs hg
 cases hg

/-- A world for the witness. -/
noncomputable def laidWorld (os:Os):World:=World.holding Try.prog os ⟨#[], #[],[]⟩
def args0:Array Value:= #[.agg #[.slice none 0 0],.slice none 0 0,.agg #[.slice none 0 0,.slice none 0 0]]
def data0 {H:Type}:List (DataW H):=[.agg [.nil],.nil,.agg [.nil,.nil]]
theorem laid_met (os:Os):laidMetH Try.prog Rows.uniformMatchesReferenceRow.laid ((laidWorld os).forCall (fun _ _=>0) ⟨#[],args0,[]⟩).memory :=
 show laidMet Try.prog [] ((laidWorld os).forCall (fun _ _=>0) ⟨#[],args0,[]⟩).memory from laidMet_of_run' 8 (by kernel_rfl) (by kernel_rfl)
theorem reads (os:Os){H:Type}(enc:TypeId×Value->H):∃places,DataW.whole enc Try.prog ((laidWorld os).forCall (fun _ _=>0) ⟨#[],args0,[]⟩).memory Try.f3.params.toList Rows.uniformMatchesReferenceSpec.vars false args0.toList 8=some (data0,[],places) :=
 ⟨[],by kernel_rfl⟩

theorem inb (t:TypeId) (ht:t∈Try.f3.params.toList):t<Try.prog.types.size:=by
 have hall:(Try.f3.params.toList.all fun t=>decide (t<Try.prog.types.size))=true:=by kernel_rfl
 simpa using List.all_eq_true.1 hall t ht

set_option maxRecDepth 100000 in
theorem lifted (os:Os) (started:os.Started) (H:Type) (enc:TypeId×Value->H) (F:Stop.Interp) :
  ReturnsInHanded {} Try.checked os 3 .any ((OpenSpec.ofChange Rows.uniformMatchesReferenceSpec).preRow enc Try.prog Try.f3 Rows.uniformMatchesReferenceRow.domain false Rows.uniformMatchesReferenceRow.laid) (((OpenSpec.ofChange Rows.uniformMatchesReferenceSpec).at F).post enc Try.prog Try.f3 false true false false):=by
 obtain⟨places,hx⟩:=reads os enc
 refine returnsInHanded_of_row (C:=Try.checked) (s:=OpenSpec.ofChange Rows.uniformMatchesReferenceSpec) own started (by kernel_rfl) Try.func3
  (witness_row_at (enc:=enc) (C:=Try.checked) false (laidWorld os) args0 rfl (by kernel_rfl) (by kernel_rfl) (by kernel_rfl)
   (OpenSpec.preRow_of_cond 8 hx (by kernel_rfl) (fun k hk=>by cases hk) (by kernel_rfl) (laid_met os))) ?_
 intro W base args ds gs before hval hW _ _ _ hL _ _
 refine KX (m:=12) (tb:=4) (by kernel_rfl) (by kernel_rfl) (by kernel_rfl) rfl (fun ds hds=>?_) (by kernel_rfl) (by kernel_rfl) (by kernel_rfl) inb law W base args ds gs before hval hW table
 have h3:Try.f3.params.size=3:=by kernel_rfl
 rw[h3]at hds
 match ds,hds with
 | [d1,d2,d3],_=>rfl

theorem said:Rows.UniformMatchesReferenceSaid :=
 OpenClaim.holds_of_cond 3 Try.f3 rfl rfl rfl rfl rfl rfl rfl ⟨rfl,rfl,rfl,rfl,rfl⟩ rfl rfl rfl rfl rfl (by kernel_rfl) Try.func3 (by kernel_rfl)
  (of_decide_eq_true (by kernel_rfl)) (by unfold Func.isWrapper;first|(rw[if_pos (by decide +kernel)];kernel_rfl)|(rw[if_neg (by decide +kernel)];exact⟨rfl,rfl⟩))
  (fun os started H enc _ F=>by rw[OpenClaim.pre_eq_preRow];exact lifted os started H enc F)
end Go.Proofs.Ytjhjndjghaagiaa.uniformMatchesReference
