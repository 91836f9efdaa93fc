/-
  No cell of these rows narrows 'for every input' (looked for: loops, veiled, ifaces, maps, wideKeys, modest, calm, conditions, laid).
  DERIVED. THE GIVEN ROWS OF THIS SEAT. 6 by the template 'for every input the law returns true; each argument reads behind the call as it read before'; 0 by the template 'total and deterministic' (their statements: YtjhjndjghaagiaaTotals.lean).
  GIVEN WITH THE SEED: the statements are not yours to turn. If you find one false, say at which input.
  Laid BY PROGRAM, IN A SANDBOX (cutbox-rows.mjs): the forced cells as the released guide's own fill.sh prints them over the translation b150213591364743… (all of the seat's roots in one cut). By AI agents, Wed Nov 11 2026. No macro, syntax, notation, axiom, sorry.
-/
import Derived.Test.YtjhjndjghaagiaaChecked
import GoSem.Claim
import GoSem.ClaimJoined
import GoSem.ClaimMapViews
import Derived.JoinedTies
import Derived.KernelRfl
namespace Go.Proofs.Ytjhjndjghaagiaa
/- THE CELL 'sum', in the pinned program and in every row, IS THE sha256 OF THE DUMP (.gsa) THAT YtjhjndjghaagiaaProg.lean LOADS. Nothing in Lean hashes anything: it is a label: what it is worth is what the hold of that sum in a sandbox is worth. -/
noncomputable def Try.pinned : Pinned := { name := "ytjhjndjghaagiaa", sum := "b150213591364743a8bad9375f86205c2433b90a3fc3b6b15da901535dc689c3", checked := Try.checked }
namespace Rows
def none {H : Type} : Left H := { results := [], args := [] }

/-- 'warpwrightlaw11.UniformMatchesReference': WHATEVER THE INPUT: true; the input reads as it did. -/
def uniformMatchesReferenceSpec : ChangeSpec := { name := "uniformMatchesReference", fn := fun _ => fun
  | [d1, d2, d3] => { results := [.lit (.bool true)], args := [d1, d2, d3] }
  | _ => none }
def uniformMatchesReferenceRow : OpenClaim := { program := "ytjhjndjghaagiaa", sum := "b150213591364743a8bad9375f86205c2433b90a3fc3b6b15da901535dc689c3", func := "warpwright/warpwrightlaw11.UniformMatchesReference", spec := "uniformMatchesReference", unfollowed := true, recurses := true, apart := false }
def UniformMatchesReferenceSaid : Prop := uniformMatchesReferenceRow.holds Try.pinned (OpenSpec.ofChange uniformMatchesReferenceSpec)

/-- ITS FALSE NEIGHBOUR: 'it returns false'. Refute it at one input. -/
def uniformMatchesReferenceWrong : ChangeSpec := { name := "uniformMatchesReference", fn := fun _ => fun
  | [d1, d2, d3] => { results := [.lit (.bool false)], args := [d1, d2, d3] }
  | _ => none }
def UniformMatchesReferenceWrongFalsely : Prop := uniformMatchesReferenceRow.holds Try.pinned (OpenSpec.ofChange uniformMatchesReferenceWrong)

/-- 'warpwrightlaw11.UniformGreatest': WHATEVER THE INPUT: true; the input reads as it did. -/
def uniformGreatestSpec : ChangeSpec := { name := "uniformGreatest", fn := fun _ => fun
  | [d1, d2, d3] => { results := [.lit (.bool true)], args := [d1, d2, d3] }
  | _ => none }
def uniformGreatestRow : OpenClaim := { program := "ytjhjndjghaagiaa", sum := "b150213591364743a8bad9375f86205c2433b90a3fc3b6b15da901535dc689c3", func := "warpwright/warpwrightlaw11.UniformGreatest", spec := "uniformGreatest", unfollowed := true, recurses := true, apart := false }
def UniformGreatestSaid : Prop := uniformGreatestRow.holds Try.pinned (OpenSpec.ofChange uniformGreatestSpec)

/-- ITS FALSE NEIGHBOUR: 'it returns false'. Refute it at one input. -/
def uniformGreatestWrong : ChangeSpec := { name := "uniformGreatest", fn := fun _ => fun
  | [d1, d2, d3] => { results := [.lit (.bool false)], args := [d1, d2, d3] }
  | _ => none }
def UniformGreatestWrongFalsely : Prop := uniformGreatestRow.holds Try.pinned (OpenSpec.ofChange uniformGreatestWrong)

/-- 'warpwrightlaw11.UniformUnion': WHATEVER THE INPUT: true; the input reads as it did. -/
def uniformUnionSpec : ChangeSpec := { name := "uniformUnion", fn := fun _ => fun
  | [d1, d2, d3] => { results := [.lit (.bool true)], args := [d1, d2, d3] }
  | _ => none }
def uniformUnionRow : OpenClaim := { program := "ytjhjndjghaagiaa", sum := "b150213591364743a8bad9375f86205c2433b90a3fc3b6b15da901535dc689c3", func := "warpwright/warpwrightlaw11.UniformUnion", spec := "uniformUnion", unfollowed := true, recurses := true, apart := false }
def UniformUnionSaid : Prop := uniformUnionRow.holds Try.pinned (OpenSpec.ofChange uniformUnionSpec)

/-- ITS FALSE NEIGHBOUR: 'it returns false'. Refute it at one input. -/
def uniformUnionWrong : ChangeSpec := { name := "uniformUnion", fn := fun _ => fun
  | [d1, d2, d3] => { results := [.lit (.bool false)], args := [d1, d2, d3] }
  | _ => none }
def UniformUnionWrongFalsely : Prop := uniformUnionRow.holds Try.pinned (OpenSpec.ofChange uniformUnionWrong)

/-- 'warpwrightlaw11.UniformSources': WHATEVER THE INPUT: true; the input reads as it did. -/
def uniformSourcesSpec : ChangeSpec := { name := "uniformSources", fn := fun _ => fun
  | [d] => { results := [.lit (.bool true)], args := [d] }
  | _ => none }
def uniformSourcesRow : OpenClaim := { program := "ytjhjndjghaagiaa", sum := "b150213591364743a8bad9375f86205c2433b90a3fc3b6b15da901535dc689c3", func := "warpwright/warpwrightlaw11.UniformSources", spec := "uniformSources", unfollowed := true, recurses := true, apart := false }
def UniformSourcesSaid : Prop := uniformSourcesRow.holds Try.pinned (OpenSpec.ofChange uniformSourcesSpec)

/-- ITS FALSE NEIGHBOUR: 'it returns false'. Refute it at one input. -/
def uniformSourcesWrong : ChangeSpec := { name := "uniformSources", fn := fun _ => fun
  | [d] => { results := [.lit (.bool false)], args := [d] }
  | _ => none }
def UniformSourcesWrongFalsely : Prop := uniformSourcesRow.holds Try.pinned (OpenSpec.ofChange uniformSourcesWrong)

/-- 'warpwrightlaw11.UniformRenames': WHATEVER THE INPUT: true; the input reads as it did. -/
def uniformRenamesSpec : ChangeSpec := { name := "uniformRenames", fn := fun _ => fun
  | [d1, d2] => { results := [.lit (.bool true)], args := [d1, d2] }
  | _ => none }
def uniformRenamesRow : OpenClaim := { program := "ytjhjndjghaagiaa", sum := "b150213591364743a8bad9375f86205c2433b90a3fc3b6b15da901535dc689c3", func := "warpwright/warpwrightlaw11.UniformRenames", spec := "uniformRenames", unfollowed := true, recurses := true, apart := false }
def UniformRenamesSaid : Prop := uniformRenamesRow.holds Try.pinned (OpenSpec.ofChange uniformRenamesSpec)

/-- ITS FALSE NEIGHBOUR: 'it returns false'. Refute it at one input. -/
def uniformRenamesWrong : ChangeSpec := { name := "uniformRenames", fn := fun _ => fun
  | [d1, d2] => { results := [.lit (.bool false)], args := [d1, d2] }
  | _ => none }
def UniformRenamesWrongFalsely : Prop := uniformRenamesRow.holds Try.pinned (OpenSpec.ofChange uniformRenamesWrong)

/-- 'warpwrightlaw11.UniformRefuses': WHATEVER THE INPUT: true; the input reads as it did. -/
def uniformRefusesSpec : ChangeSpec := { name := "uniformRefuses", fn := fun _ => fun
  | [d1, d2] => { results := [.lit (.bool true)], args := [d1, d2] }
  | _ => none }
def uniformRefusesRow : OpenClaim := { program := "ytjhjndjghaagiaa", sum := "b150213591364743a8bad9375f86205c2433b90a3fc3b6b15da901535dc689c3", func := "warpwright/warpwrightlaw11.UniformRefuses", spec := "uniformRefuses", unfollowed := true, recurses := true, apart := false }
def UniformRefusesSaid : Prop := uniformRefusesRow.holds Try.pinned (OpenSpec.ofChange uniformRefusesSpec)

/-- ITS FALSE NEIGHBOUR: 'it returns false'. Refute it at one input. -/
def uniformRefusesWrong : ChangeSpec := { name := "uniformRefuses", fn := fun _ => fun
  | [d1, d2] => { results := [.lit (.bool false)], args := [d1, d2] }
  | _ => none }
def UniformRefusesWrongFalsely : Prop := uniformRefusesRow.holds Try.pinned (OpenSpec.ofChange uniformRefusesWrong)

/- THE SECOND FORM. 'bulk': how many values and letters a reading holds, each counted each time it is reached (what is shared counts as often as it is met; a slice's spare places count too). A statement '..UptoSaid' is the law's where the arguments, and the package variables that the reading takes, are together of bulk at most 1048576: NARROWER than '..Said'. Prove '..Said' where nothing that the law and all that it calls make is longer than what came in: it says more and counts as full. Else prove '..UptoSaid'. A law counts once. -/
mutual
def uptoBulk {H : Type} : DataW H → Nat
  | .lit (.string bytes) => bytes.length + 1
  | .lit _ => 1
  | .nil => 1
  | .ptr d => uptoBulk d + 1
  | .slice elems spare => uptoBulkAll elems + uptoBulkAll spare + 1
  | .agg parts => uptoBulkAll parts + 1
  | .iface _ d => uptoBulk d + 1
  | .map entries => uptoBulkEntries entries + 1
  | .held _ => 1
def uptoBulkAll {H : Type} : List (DataW H) → Nat
  | [] => 0
  | d :: r => uptoBulk d + uptoBulkAll r
def uptoBulkEntries {H : Type} : List (Lit × DataW H) → Nat
  | [] => 0
  | x :: r => uptoBulkEntry x + uptoBulkEntries r
def uptoBulkEntry {H : Type} : Lit × DataW H → Nat
  | (.string bytes, d) => bytes.length + uptoBulk d + 1
  | (_, d) => uptoBulk d + 1
 end
def uptoSmall : (H : Type) → List (DataW H) → Bool := fun _ ds => decide (uptoBulkAll ds ≤ 1048576)
def OpenSpec.upto (s : _root_.Go.ChangeSpec) : _root_.Go.OpenSpec := { _root_.Go.OpenSpec.ofChange s with cond := some uptoSmall }

/-- 'warpwrightlaw11.UniformMatchesReference', WHERE WHAT IT READS IS OF BULK AT MOST 1048576: true; the input reads as it did. -/
def uniformMatchesReferenceUptoRow : OpenClaim := { program := "ytjhjndjghaagiaa", sum := "b150213591364743a8bad9375f86205c2433b90a3fc3b6b15da901535dc689c3", func := "warpwright/warpwrightlaw11.UniformMatchesReference", spec := "uniformMatchesReference", unfollowed := true, recurses := true, apart := false, narrowed := true }
def UniformMatchesReferenceUptoSaid : Prop := uniformMatchesReferenceUptoRow.holds Try.pinned (OpenSpec.upto uniformMatchesReferenceSpec)

/-- 'warpwrightlaw11.UniformGreatest', WHERE WHAT IT READS IS OF BULK AT MOST 1048576: true; the input reads as it did. -/
def uniformGreatestUptoRow : OpenClaim := { program := "ytjhjndjghaagiaa", sum := "b150213591364743a8bad9375f86205c2433b90a3fc3b6b15da901535dc689c3", func := "warpwright/warpwrightlaw11.UniformGreatest", spec := "uniformGreatest", unfollowed := true, recurses := true, apart := false, narrowed := true }
def UniformGreatestUptoSaid : Prop := uniformGreatestUptoRow.holds Try.pinned (OpenSpec.upto uniformGreatestSpec)

/-- 'warpwrightlaw11.UniformUnion', WHERE WHAT IT READS IS OF BULK AT MOST 1048576: true; the input reads as it did. -/
def uniformUnionUptoRow : OpenClaim := { program := "ytjhjndjghaagiaa", sum := "b150213591364743a8bad9375f86205c2433b90a3fc3b6b15da901535dc689c3", func := "warpwright/warpwrightlaw11.UniformUnion", spec := "uniformUnion", unfollowed := true, recurses := true, apart := false, narrowed := true }
def UniformUnionUptoSaid : Prop := uniformUnionUptoRow.holds Try.pinned (OpenSpec.upto uniformUnionSpec)

/-- 'warpwrightlaw11.UniformSources', WHERE WHAT IT READS IS OF BULK AT MOST 1048576: true; the input reads as it did. -/
def uniformSourcesUptoRow : OpenClaim := { program := "ytjhjndjghaagiaa", sum := "b150213591364743a8bad9375f86205c2433b90a3fc3b6b15da901535dc689c3", func := "warpwright/warpwrightlaw11.UniformSources", spec := "uniformSources", unfollowed := true, recurses := true, apart := false, narrowed := true }
def UniformSourcesUptoSaid : Prop := uniformSourcesUptoRow.holds Try.pinned (OpenSpec.upto uniformSourcesSpec)

/-- 'warpwrightlaw11.UniformRenames', WHERE WHAT IT READS IS OF BULK AT MOST 1048576: true; the input reads as it did. -/
def uniformRenamesUptoRow : OpenClaim := { program := "ytjhjndjghaagiaa", sum := "b150213591364743a8bad9375f86205c2433b90a3fc3b6b15da901535dc689c3", func := "warpwright/warpwrightlaw11.UniformRenames", spec := "uniformRenames", unfollowed := true, recurses := true, apart := false, narrowed := true }
def UniformRenamesUptoSaid : Prop := uniformRenamesUptoRow.holds Try.pinned (OpenSpec.upto uniformRenamesSpec)

/-- 'warpwrightlaw11.UniformRefuses', WHERE WHAT IT READS IS OF BULK AT MOST 1048576: true; the input reads as it did. -/
def uniformRefusesUptoRow : OpenClaim := { program := "ytjhjndjghaagiaa", sum := "b150213591364743a8bad9375f86205c2433b90a3fc3b6b15da901535dc689c3", func := "warpwright/warpwrightlaw11.UniformRefuses", spec := "uniformRefuses", unfollowed := true, recurses := true, apart := false, narrowed := true }
def UniformRefusesUptoSaid : Prop := uniformRefusesUptoRow.holds Try.pinned (OpenSpec.upto uniformRefusesSpec)

end Rows
end Go.Proofs.Ytjhjndjghaagiaa
