/-
  No cell of these rows narrows 'for every input' (looked for: loops, veiled, ifaces, maps, wideKeys, modest, calm, conditions, laid).
  DERIVED. THE GIVEN ROWS OF THIS SEAT. 5 by the template 'for every input the law returns true; each argument reads behind the call as it read before'; 0 by the template 'total and deterministic' (their statements: YtllpdgfanfffnaaGreatTotals.lean).
  GIVEN WITH THE SEED: the statements are not yours to turn. If you find one false, say at which input.
  Laid BY PROGRAM, IN A SANDBOX (cutbox-rows.mjs): the forced cells as the released guide's own fill.sh prints them over the translation 88f603310760c155… (all of the seat's roots in one cut). By AI agents, Wed Nov 11 2026. No macro, syntax, notation, axiom, sorry.
-/
import Derived.Test.YtllpdgfanfffnaaGreatChecked
import GoSem.Claim
import GoSem.ClaimJoined
import GoSem.ClaimMapViews
import Derived.JoinedTies
import Derived.KernelRfl
namespace Go.Proofs.YtllpdgfanfffnaaGreat
/- THE CELL 'sum', in the pinned program and in every row, IS THE sha256 OF THE DUMP (.gsa) THAT YtllpdgfanfffnaaGreatProg.lean LOADS. Nothing in Lean hashes anything: it is a label: what it is worth is what the hold of that sum in a sandbox is worth. -/
noncomputable def Tryz.pinned : Pinned := { name := "ytllpdgfanfffnaagreat", sum := "88f603310760c1559d424fd34832866b994c7087f8e349fcd509fce01643acd7", checked := Tryz.checked }
namespace Rows
def none {H : Type} : Left H := { results := [], args := [] }

/-- 'warpwrightlaw27.PhaseMatchesReference': WHATEVER THE INPUT: true; the input reads as it did. -/
def phaseMatchesReferenceSpec : ChangeSpec := { name := "phaseMatchesReference", fn := fun _ => fun
  | [d1, d2, d3] => { results := [.lit (.bool true)], args := [d1, d2, d3] }
  | _ => none }
def phaseMatchesReferenceRow : OpenClaim := { program := "ytllpdgfanfffnaagreat", sum := "88f603310760c1559d424fd34832866b994c7087f8e349fcd509fce01643acd7", func := "warpwright/warpwrightlaw27.PhaseMatchesReference", spec := "phaseMatchesReference", unfollowed := true, recurses := true, apart := false }
def PhaseMatchesReferenceSaid : Prop := phaseMatchesReferenceRow.holds Tryz.pinned (OpenSpec.ofChange phaseMatchesReferenceSpec)

/-- ITS FALSE NEIGHBOUR: 'it returns false'. Refute it at one input. -/
def phaseMatchesReferenceWrong : ChangeSpec := { name := "phaseMatchesReference", fn := fun _ => fun
  | [d1, d2, d3] => { results := [.lit (.bool false)], args := [d1, d2, d3] }
  | _ => none }
def PhaseMatchesReferenceWrongFalsely : Prop := phaseMatchesReferenceRow.holds Tryz.pinned (OpenSpec.ofChange phaseMatchesReferenceWrong)

/-- 'warpwrightlaw27.PhaseLeast': WHATEVER THE INPUT: true; the input reads as it did. -/
def phaseLeastSpec : ChangeSpec := { name := "phaseLeast", fn := fun _ => fun
  | [d1, d2, d3] => { results := [.lit (.bool true)], args := [d1, d2, d3] }
  | _ => none }
def phaseLeastRow : OpenClaim := { program := "ytllpdgfanfffnaagreat", sum := "88f603310760c1559d424fd34832866b994c7087f8e349fcd509fce01643acd7", func := "warpwright/warpwrightlaw27.PhaseLeast", spec := "phaseLeast", unfollowed := true, recurses := true, apart := false }
def PhaseLeastSaid : Prop := phaseLeastRow.holds Tryz.pinned (OpenSpec.ofChange phaseLeastSpec)

/-- ITS FALSE NEIGHBOUR: 'it returns false'. Refute it at one input. -/
def phaseLeastWrong : ChangeSpec := { name := "phaseLeast", fn := fun _ => fun
  | [d1, d2, d3] => { results := [.lit (.bool false)], args := [d1, d2, d3] }
  | _ => none }
def PhaseLeastWrongFalsely : Prop := phaseLeastRow.holds Tryz.pinned (OpenSpec.ofChange phaseLeastWrong)

/-- 'warpwrightlaw27.PhaseTogether': WHATEVER THE INPUT: true; the input reads as it did. -/
def phaseTogetherSpec : ChangeSpec := { name := "phaseTogether", fn := fun _ => fun
  | [d1, d2, d3] => { results := [.lit (.bool true)], args := [d1, d2, d3] }
  | _ => none }
def phaseTogetherRow : OpenClaim := { program := "ytllpdgfanfffnaagreat", sum := "88f603310760c1559d424fd34832866b994c7087f8e349fcd509fce01643acd7", func := "warpwright/warpwrightlaw27.PhaseTogether", spec := "phaseTogether", unfollowed := true, recurses := true, apart := false }
def PhaseTogetherSaid : Prop := phaseTogetherRow.holds Tryz.pinned (OpenSpec.ofChange phaseTogetherSpec)

/-- ITS FALSE NEIGHBOUR: 'it returns false'. Refute it at one input. -/
def phaseTogetherWrong : ChangeSpec := { name := "phaseTogether", fn := fun _ => fun
  | [d1, d2, d3] => { results := [.lit (.bool false)], args := [d1, d2, d3] }
  | _ => none }
def PhaseTogetherWrongFalsely : Prop := phaseTogetherRow.holds Tryz.pinned (OpenSpec.ofChange phaseTogetherWrong)

/-- 'warpwrightlaw27.PhaseBarriers': WHATEVER THE INPUT: true; the input reads as it did. -/
def phaseBarriersSpec : ChangeSpec := { name := "phaseBarriers", fn := fun _ => fun
  | [d1, d2, d3] => { results := [.lit (.bool true)], args := [d1, d2, d3] }
  | _ => none }
def phaseBarriersRow : OpenClaim := { program := "ytllpdgfanfffnaagreat", sum := "88f603310760c1559d424fd34832866b994c7087f8e349fcd509fce01643acd7", func := "warpwright/warpwrightlaw27.PhaseBarriers", spec := "phaseBarriers", unfollowed := true, recurses := true, apart := false }
def PhaseBarriersSaid : Prop := phaseBarriersRow.holds Tryz.pinned (OpenSpec.ofChange phaseBarriersSpec)

/-- ITS FALSE NEIGHBOUR: 'it returns false'. Refute it at one input. -/
def phaseBarriersWrong : ChangeSpec := { name := "phaseBarriers", fn := fun _ => fun
  | [d1, d2, d3] => { results := [.lit (.bool false)], args := [d1, d2, d3] }
  | _ => none }
def PhaseBarriersWrongFalsely : Prop := phaseBarriersRow.holds Tryz.pinned (OpenSpec.ofChange phaseBarriersWrong)

/-- 'warpwrightlaw27.PhaseRefuses': WHATEVER THE INPUT: true; the input reads as it did. -/
def phaseRefusesSpec : ChangeSpec := { name := "phaseRefuses", fn := fun _ => fun
  | [d1, d2, d3] => { results := [.lit (.bool true)], args := [d1, d2, d3] }
  | _ => none }
def phaseRefusesRow : OpenClaim := { program := "ytllpdgfanfffnaagreat", sum := "88f603310760c1559d424fd34832866b994c7087f8e349fcd509fce01643acd7", func := "warpwright/warpwrightlaw27.PhaseRefuses", spec := "phaseRefuses", unfollowed := true, recurses := true, apart := false }
def PhaseRefusesSaid : Prop := phaseRefusesRow.holds Tryz.pinned (OpenSpec.ofChange phaseRefusesSpec)

/-- ITS FALSE NEIGHBOUR: 'it returns false'. Refute it at one input. -/
def phaseRefusesWrong : ChangeSpec := { name := "phaseRefuses", fn := fun _ => fun
  | [d1, d2, d3] => { results := [.lit (.bool false)], args := [d1, d2, d3] }
  | _ => none }
def PhaseRefusesWrongFalsely : Prop := phaseRefusesRow.holds Tryz.pinned (OpenSpec.ofChange phaseRefusesWrong)

/- THE SECOND FORM. 'bulk': how many values and letters a reading holds, each counted each time it is reached (what is shared counts as often as it is met; a slice's spare places count too). A statement '..UptoSaid' is the law's where the arguments, and the package variables that the reading takes, are together of bulk at most 1048576: NARROWER than '..Said'. Prove '..Said' where nothing that the law and all that it calls make is longer than what came in: it says more and counts as full. Else prove '..UptoSaid'. A law counts once. -/
mutual
def uptoBulk {H : Type} : DataW H → Nat
  | .lit (.string bytes) => bytes.length + 1
  | .lit _ => 1
  | .nil => 1
  | .ptr d => uptoBulk d + 1
  | .slice elems spare => uptoBulkAll elems + uptoBulkAll spare + 1
  | .agg parts => uptoBulkAll parts + 1
  | .iface _ d => uptoBulk d + 1
  | .map entries => uptoBulkEntries entries + 1
  | .held _ => 1
def uptoBulkAll {H : Type} : List (DataW H) → Nat
  | [] => 0
  | d :: r => uptoBulk d + uptoBulkAll r
def uptoBulkEntries {H : Type} : List (Lit × DataW H) → Nat
  | [] => 0
  | x :: r => uptoBulkEntry x + uptoBulkEntries r
def uptoBulkEntry {H : Type} : Lit × DataW H → Nat
  | (.string bytes, d) => bytes.length + uptoBulk d + 1
  | (_, d) => uptoBulk d + 1
 end
def uptoSmall : (H : Type) → List (DataW H) → Bool := fun _ ds => decide (uptoBulkAll ds ≤ 1048576)
def OpenSpec.upto (s : _root_.Go.ChangeSpec) : _root_.Go.OpenSpec := { _root_.Go.OpenSpec.ofChange s with cond := some uptoSmall }

/-- 'warpwrightlaw27.PhaseMatchesReference', WHERE WHAT IT READS IS OF BULK AT MOST 1048576: true; the input reads as it did. -/
def phaseMatchesReferenceUptoRow : OpenClaim := { program := "ytllpdgfanfffnaagreat", sum := "88f603310760c1559d424fd34832866b994c7087f8e349fcd509fce01643acd7", func := "warpwright/warpwrightlaw27.PhaseMatchesReference", spec := "phaseMatchesReference", unfollowed := true, recurses := true, apart := false, narrowed := true }
def PhaseMatchesReferenceUptoSaid : Prop := phaseMatchesReferenceUptoRow.holds Tryz.pinned (OpenSpec.upto phaseMatchesReferenceSpec)

/-- 'warpwrightlaw27.PhaseLeast', WHERE WHAT IT READS IS OF BULK AT MOST 1048576: true; the input reads as it did. -/
def phaseLeastUptoRow : OpenClaim := { program := "ytllpdgfanfffnaagreat", sum := "88f603310760c1559d424fd34832866b994c7087f8e349fcd509fce01643acd7", func := "warpwright/warpwrightlaw27.PhaseLeast", spec := "phaseLeast", unfollowed := true, recurses := true, apart := false, narrowed := true }
def PhaseLeastUptoSaid : Prop := phaseLeastUptoRow.holds Tryz.pinned (OpenSpec.upto phaseLeastSpec)

/-- 'warpwrightlaw27.PhaseTogether', WHERE WHAT IT READS IS OF BULK AT MOST 1048576: true; the input reads as it did. -/
def phaseTogetherUptoRow : OpenClaim := { program := "ytllpdgfanfffnaagreat", sum := "88f603310760c1559d424fd34832866b994c7087f8e349fcd509fce01643acd7", func := "warpwright/warpwrightlaw27.PhaseTogether", spec := "phaseTogether", unfollowed := true, recurses := true, apart := false, narrowed := true }
def PhaseTogetherUptoSaid : Prop := phaseTogetherUptoRow.holds Tryz.pinned (OpenSpec.upto phaseTogetherSpec)

/-- 'warpwrightlaw27.PhaseBarriers', WHERE WHAT IT READS IS OF BULK AT MOST 1048576: true; the input reads as it did. -/
def phaseBarriersUptoRow : OpenClaim := { program := "ytllpdgfanfffnaagreat", sum := "88f603310760c1559d424fd34832866b994c7087f8e349fcd509fce01643acd7", func := "warpwright/warpwrightlaw27.PhaseBarriers", spec := "phaseBarriers", unfollowed := true, recurses := true, apart := false, narrowed := true }
def PhaseBarriersUptoSaid : Prop := phaseBarriersUptoRow.holds Tryz.pinned (OpenSpec.upto phaseBarriersSpec)

/-- 'warpwrightlaw27.PhaseRefuses', WHERE WHAT IT READS IS OF BULK AT MOST 1048576: true; the input reads as it did. -/
def phaseRefusesUptoRow : OpenClaim := { program := "ytllpdgfanfffnaagreat", sum := "88f603310760c1559d424fd34832866b994c7087f8e349fcd509fce01643acd7", func := "warpwright/warpwrightlaw27.PhaseRefuses", spec := "phaseRefuses", unfollowed := true, recurses := true, apart := false, narrowed := true }
def PhaseRefusesUptoSaid : Prop := phaseRefusesUptoRow.holds Tryz.pinned (OpenSpec.upto phaseRefusesSpec)

end Rows
end Go.Proofs.YtllpdgfanfffnaaGreat
