/- The statement HuntDamageSaid: the law HuntDamage of chapter 29 holds at every input that its row admits. No condition beyond the row's own. -/
import Derived.Test.YtanejooghcppjaaGreatRows
import Derived.WalkKit
import Derived.ProofKit
import Derived.Deep.DeepHandedRow
import Derived.Lib.LaidTab
import Derived.Test.YtanejooghcppjaaGreatQ2
set_option linter.unnecessarySimpa false
set_option linter.defProp false
set_option linter.unusedSectionVars false
set_option linter.unusedSimpArgs false
set_option linter.unusedVariables false
namespace Go.Proofs.YtanejooghcppjaaGreat.huntDamage
open Go Go.Am Go.ChangeShapes Go.WideShapes Go.ChangeAt Go.RowKit

theorem law (xs:List D) (h:Ly Tryz.prog 12 Tryz.f4.params.toList xs):aV Tryz.prog 4 xs (· = .bool true):=SK xs h

theorem own:ownKnob Tryz.prog.godebug=none:=by kernel_rfl
theorem table {W:World}:∀g vs,ck.tab g=some vs->g<W.heap.size/\∀(k:Nat) (v:Value),vs[k]?=some v->cellOf W.heap g k=some v:=by
 intro g vs hg;cases hg

/-- A world for the witness. -/
noncomputable def laidWorld (os:Os):World:=World.holding Tryz.prog os ⟨#[], #[],[]⟩
def args0:Array Value:= #[.agg #[.slice none 0 0],.agg #[.int .u8 0,.int .i8 0,.int .i8 0,.int .i8 0,.int .i8 0,.int .i8 0,.int .i8 0,.int .i8 0,.int .i8 0,.int .i8 0,.int .i8 0,.int .i8 0,.int .i8 0],.agg #[.int .i64 0,.int .i64 0,.int .i64 0]]
abbrev b0 {H:Type}:DataW H:=.lit (.int .i8 0)
def data0 {H:Type}:List (DataW H):=[.agg [.nil],.agg [.lit (.int .u8 0),.agg [b0,b0,b0,b0,b0,b0,b0,b0],.agg [b0,b0,b0,b0]],.agg [.lit (.int .i64 0),.lit (.int .i64 0),.lit (.int .i64 0)]]
theorem laid_met (os:Os):laidMetH Tryz.prog Rows.huntDamageRow.laid ((laidWorld os).forCall (λ _ _=>0) ⟨#[],args0,[]⟩).memory :=
 show laidMet Tryz.prog [] ((laidWorld os).forCall (λ _ _=>0) ⟨#[],args0,[]⟩).memory from laidMet_of_run' 8 (by kernel_rfl) (by kernel_rfl)
theorem reads (os:Os){H:Type}(enc:TypeId×Value->H):∃places,DataW.whole enc Tryz.prog ((laidWorld os).forCall (λ _ _=>0) ⟨#[],args0,[]⟩).memory Tryz.f4.params.toList Rows.huntDamageSpec.vars false args0.toList 8=some (data0,[],places) :=
 ⟨[],by kernel_rfl⟩

theorem inb (t:TypeId) (ht:t∈Tryz.f4.params.toList):t<Tryz.prog.types.size:=by
 have hall:(Tryz.f4.params.toList.all λ t=>decide (t<Tryz.prog.types.size))=true:=by kernel_rfl
 simpa using List.all_eq_true.1 hall t ht

set_option maxRecDepth 100000 in
theorem lifted (os:Os) (started:os.Started) (H:Type) (enc:TypeId×Value->H) (F:Stop.Interp) :
  ReturnsInHanded {} Tryz.checked os 4 .any ((OpenSpec.ofChange Rows.huntDamageSpec).preRow enc Tryz.prog Tryz.f4 Rows.huntDamageRow.domain false Rows.huntDamageRow.laid) (((OpenSpec.ofChange Rows.huntDamageSpec).at F).post enc Tryz.prog Tryz.f4 false true false false):=by
 obtain⟨places,hx⟩:=reads os enc
 refine returnsInHanded_of_row (C:=Tryz.checked) (s:=OpenSpec.ofChange Rows.huntDamageSpec) own started (by kernel_rfl) Tryz.func4
  (witness_row_at (enc:=enc) (C:=Tryz.checked) false (laidWorld os) args0 rfl (by kernel_rfl) (by kernel_rfl) (by kernel_rfl)
   (OpenSpec.preRow_of_cond 8 hx (by kernel_rfl) (λ k hk=>by cases hk) (by kernel_rfl) (laid_met os))) ?_
 intro W base args ds gs before hval hW _ _ _ hL _ _;refine law_calls (m:=12) (tb:=4) (by kernel_rfl) (by kernel_rfl) (by kernel_rfl) rfl (λ ds hds=>?_) (by kernel_rfl) (by kernel_rfl) (by kernel_rfl) inb law W base args ds gs before hval hW table;have h3:Tryz.f4.params.size=3:=by kernel_rfl
 rw[h3]at hds
 match ds,hds with
 | [d1,d2,d3],_=>rfl

theorem said:Rows.HuntDamageSaid :=
 OpenClaim.holds_of_cond 4 Tryz.f4 rfl rfl rfl rfl rfl rfl rfl ⟨rfl,rfl,rfl,rfl,rfl⟩ rfl rfl rfl rfl rfl (by kernel_rfl) Tryz.func4 (by kernel_rfl)
  (of_decide_eq_true (by kernel_rfl)) (by unfold Func.isWrapper;first|(rw[if_pos (by decide +kernel)];kernel_rfl)|(rw[if_neg (by decide +kernel)];exact⟨rfl,rfl⟩))
  (λ os started H enc _ F=>by rw[OpenClaim.pre_eq_preRow];exact lifted os started H enc F)
end Go.Proofs.YtanejooghcppjaaGreat.huntDamage
