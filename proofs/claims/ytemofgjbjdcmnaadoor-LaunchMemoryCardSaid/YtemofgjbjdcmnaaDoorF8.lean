/- The statement LaunchMemoryCardSaid: the law LaunchMemory of chapter 04 holds at every input that its row admits. No condition beyond the row's own. -/
import Derived.Test.YtemofgjbjdcmnaaDoorCards
import Derived.Test.YtemofgjbjdcmnaaDoorTie
import Derived.WalkKit
import Derived.ProofKit
import Derived.Deep.DeepHandedRow
import Derived.Lib.LaidTab
import Derived.Test.YtemofgjbjdcmnaaDoorP2
set_option linter.defProp false
set_option linter.unusedSectionVars false
set_option linter.unusedSimpArgs false
set_option linter.unusedVariables false
namespace Go.Proofs.YtemofgjbjdcmnaaDoor.launchMemory
open Go Go.Am Go.ChangeShapes Go.WideShapes Go.ChangeAt Go.RowKit

theorem law (xs : List D) (h : HasTys Tryd.prog 12 Tryd.f8.params.toList xs) : VCall Tryd.prog 8 xs (· = .bool true) := law8H xs h

theorem own : ownKnob Tryd.prog.godebug = none := by kernel_rfl
theorem gTab : Tryd.prog.globalNamed "math/bits.deBruijn64tab" = some 0 := by kernel_rfl
theorem gTabType : (Tryd.prog.globals[0]?).map (·.type) = some 105 := by kernel_rfl

/-- What the row's list gives: the table's cells. -/
theorem table {W : World} (h : laidMetH Tryd.prog Rows.launchMemoryRow.laid W) : ∀ g vs, GTab.tab g = some vs → g < W.heap.size ∧ ∀ (k : Nat) (v : Value), vs[k]? = some v → cellOf W.heap g k = some v := by
  have ht : Lib.TabIs Tryd.prog W "math/bits.deBruijn64tab" .u8 (deBruijn64.map (fun (n : Nat) => (n : Int))) :=
    Lib.tabIs_of_head (rest := []) gTab gTabType (n := 64) (e := 5) (by kernel_rfl) (by kernel_rfl) (by kernel_rfl) (by kernel_rfl) h
  intro g vs hg
  cases g with
  | succ g => cases hg
  | zero =>
    have hvs : vs = (deBruijn64.map fun (n : Nat) => Value.int .u8 n).toArray := by cases hg; rfl
    have hc : ∀ (k : Nat) (v : Value), vs[k]? = some v → cellOf W.heap 0 k = some v := by
      intro k v hk
      rw [hvs] at hk
      have hkl : k < 64 := by
        have := (Array.getElem?_eq_some_iff.1 hk).1
        simpa [deBruijn64] using this
      have hkl' : k < deBruijn64.length := hkl
      have := ht.cell gTab k (by simpa using hkl')
      rw [cell?_eq] at this
      rw [this, ← hk]
      simp [List.getD, hkl']
    refine ⟨?_, hc⟩
    have := hc 0 (.int .u8 0) (by rw [hvs]; rfl)
    exact cellOf_lt this

/-- A world for the witness. -/
noncomputable def laidWorld (os : Os) : World :=
  { World.holding Tryd.prog os ⟨#[], #[], []⟩ with heap := (World.holding Tryd.prog os ⟨#[], #[], []⟩).heap.modify 0 fun
      | .cells _ t frozen => .cells (deBruijn64.map fun (n : Nat) => Value.int .u8 n).toArray t frozen
      | o => o }
def args0 : Array Value := #[.agg #[.int .u8 0, .int .u8 0, .int .u8 0, .slice none 0 0], .slice none 0 0, .agg #[.int .u8 0, .int .u8 0]]
def data0 {H : Type} : List (DataW H) := [.agg [.lit (.int .u8 0), .lit (.int .u8 0), .lit (.int .u8 0), .nil], .nil, .agg [.lit (.int .u8 0), .lit (.int .u8 0)]]
theorem laid_met (os : Os) : laidMet Tryd.prog Rows.launchMemoryRow.laid ((laidWorld os).forCall (fun _ _ => 0) ⟨#[], args0, []⟩).memory :=
  laidMet_of_run' 8 (by kernel_rfl) (by kernel_rfl)
theorem reads (os : Os) {H : Type} (enc : TypeId × Value → H) : ∃ places, DataW.whole enc Tryd.prog ((laidWorld os).forCall (fun _ _ => 0) ⟨#[], args0, []⟩).memory Tryd.f8.params.toList Rows.launchMemorySpec.vars false args0.toList 8 = some (data0, [], places) :=
  ⟨[], by kernel_rfl⟩

theorem inb (t : TypeId) (ht : t ∈ Tryd.f8.params.toList) : t < Tryd.prog.types.size := by
  have hall : (Tryd.f8.params.toList.all fun t => decide (t < Tryd.prog.types.size)) = true := by kernel_rfl
  simpa using List.all_eq_true.1 hall t ht

set_option maxRecDepth 100000 in
theorem lifted (os : Os) (started : os.Started) (H : Type) (enc : TypeId × Value → H) (F : Stop.Interp) :
    ReturnsInHanded {} Tryd.checked os 8 .any ((OpenSpec.ofChange Rows.launchMemorySpec).preRow enc Tryd.prog Tryd.f8 Rows.launchMemoryRow.domain false Rows.launchMemoryRow.laid) (((OpenSpec.ofChange Rows.launchMemorySpec).at F).post enc Tryd.prog Tryd.f8 false true false false) := by
  obtain ⟨places, hx⟩ := reads os enc
  refine returnsInHanded_of_row (C := Tryd.checked) (s := OpenSpec.ofChange Rows.launchMemorySpec) own started (by kernel_rfl) Tryd.func8
    (witness_row_at (enc := enc) (C := Tryd.checked) false (laidWorld os) args0 rfl (by kernel_rfl) (by kernel_rfl) (by kernel_rfl)
      (OpenSpec.preRow_of_cond 8 hx (by kernel_rfl) (fun k hk => by cases hk) (by kernel_rfl) (laid_met os))) ?_
  intro W base args ds gs before hval hW _ _ _ hL _ _
  refine law_calls (m := 12) (tb := 4) (by kernel_rfl) (by kernel_rfl) (by kernel_rfl) rfl (fun ds hds => ?_) (by kernel_rfl) (by kernel_rfl) (by kernel_rfl) inb law W base args ds gs before hval hW (table hL)
  have h3 : Tryd.f8.params.size = 3 := by kernel_rfl
  rw [h3] at hds
  match ds, hds with
  | [d1, d2, d3], _ => rfl

theorem said : Rows.LaunchMemorySaid :=
  OpenClaim.holds_of_cond 8 Tryd.f8 rfl rfl rfl rfl rfl rfl rfl ⟨rfl, rfl, rfl, rfl, rfl⟩ rfl rfl rfl rfl rfl (by kernel_rfl) Tryd.func8 (by kernel_rfl)
    (of_decide_eq_true (by kernel_rfl)) (by unfold Func.isWrapper; first | (rw [if_pos (by decide +kernel)]; kernel_rfl) | (rw [if_neg (by decide +kernel)]; exact ⟨rfl, rfl⟩))
    (fun os started H enc _ F => by rw [OpenClaim.pre_eq_preRow]; exact lifted os started H enc F)

theorem plain (f : FuncId) (fn : Func) (hf : Tryd.pinned.checked.prog.funcNamed "warpwright/warpwrightlaw04.LaunchMemory" = some f) (hfn : Tryd.pinned.checked.prog.funcs[f]? = some fn) :
    false = Tryd.pinned.checked.prog.looks [] ∧ ∀ (j : Nat) t, fn.params[j]? = some t → Tryd.pinned.checked.prog.wantsStandIn t = false := by
  obtain rfl : f = 8 := Option.some.inj ((show Tryd.prog.funcNamed "warpwright/warpwrightlaw04.LaunchMemory" = some 8 by kernel_rfl).symm.trans hf) |>.symm
  obtain rfl : fn = Tryd.f8 := (Option.some.inj (Tryd.func8.symm.trans hfn)).symm
  refine ⟨by kernel_rfl, fun j t ht => ?_⟩
  have hall : (Tryd.f8.params.toList.all fun t => !Tryd.prog.wantsStandIn t) = true := by kernel_rfl
  have := List.all_eq_true.1 hall t (by simpa using Array.mem_of_getElem? ht)
  exact (by simpa using this : Tryd.prog.wantsStandIn t = false)

theorem card : Rows.LaunchMemoryCardSaid :=
  Claim7.holds_tied_plain_at .later [] _ _ _ _ said (fun _ h => by cases h) (by kernel_rfl) (fun _ h => by cases h) launchMemory_row_tie rfl ⟨rfl, rfl⟩ (by kernel_rfl) rfl plain (by kernel_rfl)
end Go.Proofs.YtemofgjbjdcmnaaDoor.launchMemory
