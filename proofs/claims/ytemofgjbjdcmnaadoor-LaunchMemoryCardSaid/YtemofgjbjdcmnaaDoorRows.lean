/-
  NARROWER THAN 'FOR EVERY INPUT', by the rows' own cells (each row's printed sentence says how): LaunchMatchesReference: laid · LaunchNumbers: laid · LaunchCollects: laid · LaunchShuffles: laid · LaunchPacks: laid · LaunchMemory: laid.
  DERIVED. THE GIVEN ROWS OF THIS SEAT. 6 by the template 'for every input the law returns true; each argument reads behind the call as it read before'; 0 by the template 'total and deterministic' (their statements: YtemofgjbjdcmnaaDoorTotals.lean).
  GIVEN WITH THE SEED: the statements are not yours to turn. If you find one false, say at which input.
  Laid BY PROGRAM, IN A SANDBOX (cutbox-rows.mjs): the forced cells as the released guide's own fill.sh prints them over the translation 52588b5d7d201419… (all of the seat's roots in one cut). By AI agents, Wed Nov 11 2026. No macro, syntax, notation, axiom, sorry.
-/
import Derived.Test.YtemofgjbjdcmnaaDoorChecked
import GoSem.Claim
import GoSem.ClaimJoined
import GoSem.ClaimMapViews
import Derived.JoinedTies
import Derived.KernelRfl
namespace Go.Proofs.YtemofgjbjdcmnaaDoor
/- THE CELL 'sum', in the pinned program and in every row, IS THE sha256 OF THE DUMP (.gsa) THAT YtemofgjbjdcmnaaDoorProg.lean LOADS. Nothing in Lean hashes anything: it is a label: what it is worth is what the hold of that sum in a sandbox is worth. -/
noncomputable def Tryd.pinned : Pinned := { name := "ytemofgjbjdcmnaadoor", sum := "52588b5d7d2014191b519a8df9f487e1983a68228027de5ad5ee2dc2498b8358", checked := Tryd.checked }
namespace Rows
def none {H : Type} : Left H := { results := [], args := [] }

/- WHAT THE LISTED PACKAGE-LEVEL VARIABLES READ AS WHEN THE CALL BEGINS. Each datum BY PROGRAM (the guide's laid-datum.mjs) off the statement by which the dump's own 'gosem.cut.vars' lays the variable. In a bare row this is a premise. The card (YtemofgjbjdcmnaaDoorCards.lean) ties it to the program's text. -/
def laid_math_bits_deBruijn64tab {H : Type} : DataW H := .agg [.lit (.int .u8 0), .lit (.int .u8 1), .lit (.int .u8 56), .lit (.int .u8 2), .lit (.int .u8 57), .lit (.int .u8 49), .lit (.int .u8 28), .lit (.int .u8 3), .lit (.int .u8 61), .lit (.int .u8 58), .lit (.int .u8 42), .lit (.int .u8 50), .lit (.int .u8 38), .lit (.int .u8 29), .lit (.int .u8 17), .lit (.int .u8 4), .lit (.int .u8 62), .lit (.int .u8 47), .lit (.int .u8 59), .lit (.int .u8 36), .lit (.int .u8 45), .lit (.int .u8 43), .lit (.int .u8 51), .lit (.int .u8 22), .lit (.int .u8 53), .lit (.int .u8 39), .lit (.int .u8 33), .lit (.int .u8 30), .lit (.int .u8 24), .lit (.int .u8 18), .lit (.int .u8 12), .lit (.int .u8 5), .lit (.int .u8 63), .lit (.int .u8 55), .lit (.int .u8 48), .lit (.int .u8 27), .lit (.int .u8 60), .lit (.int .u8 41), .lit (.int .u8 37), .lit (.int .u8 16), .lit (.int .u8 46), .lit (.int .u8 35), .lit (.int .u8 44), .lit (.int .u8 21), .lit (.int .u8 52), .lit (.int .u8 32), .lit (.int .u8 23), .lit (.int .u8 11), .lit (.int .u8 54), .lit (.int .u8 26), .lit (.int .u8 40), .lit (.int .u8 15), .lit (.int .u8 34), .lit (.int .u8 20), .lit (.int .u8 31), .lit (.int .u8 10), .lit (.int .u8 25), .lit (.int .u8 14), .lit (.int .u8 19), .lit (.int .u8 9), .lit (.int .u8 13), .lit (.int .u8 8), .lit (.int .u8 7), .lit (.int .u8 6)]

/-- 'warpwrightlaw04.LaunchMatchesReference': WHATEVER THE INPUT: true; the input reads as it did. -/
def launchMatchesReferenceSpec : ChangeSpec := { name := "launchMatchesReference", fn := fun _ => fun
  | [d1, d2, d3] => { results := [.lit (.bool true)], args := [d1, d2, d3] }
  | _ => none }
def launchMatchesReferenceRow : OpenClaim := { program := "ytemofgjbjdcmnaadoor", sum := "52588b5d7d2014191b519a8df9f487e1983a68228027de5ad5ee2dc2498b8358", func := "warpwright/warpwrightlaw04.LaunchMatchesReference", spec := "launchMatchesReference", unfollowed := true, recurses := true, named := ["math/bits.deBruijn64tab"], apart := false, laid := [("math/bits.deBruijn64tab", laid_math_bits_deBruijn64tab)] }
def LaunchMatchesReferenceSaid : Prop := launchMatchesReferenceRow.holds Tryd.pinned (OpenSpec.ofChange launchMatchesReferenceSpec)

/-- ITS FALSE NEIGHBOUR: 'it returns false'. Refute it at one input. -/
def launchMatchesReferenceWrong : ChangeSpec := { name := "launchMatchesReference", fn := fun _ => fun
  | [d1, d2, d3] => { results := [.lit (.bool false)], args := [d1, d2, d3] }
  | _ => none }
def LaunchMatchesReferenceWrongFalsely : Prop := launchMatchesReferenceRow.holds Tryd.pinned (OpenSpec.ofChange launchMatchesReferenceWrong)

/-- 'warpwrightlaw04.LaunchNumbers': WHATEVER THE INPUT: true; the input reads as it did. -/
def launchNumbersSpec : ChangeSpec := { name := "launchNumbers", fn := fun _ => fun
  | [d1, d2, d3] => { results := [.lit (.bool true)], args := [d1, d2, d3] }
  | _ => none }
def launchNumbersRow : OpenClaim := { program := "ytemofgjbjdcmnaadoor", sum := "52588b5d7d2014191b519a8df9f487e1983a68228027de5ad5ee2dc2498b8358", func := "warpwright/warpwrightlaw04.LaunchNumbers", spec := "launchNumbers", unfollowed := true, recurses := true, named := ["math/bits.deBruijn64tab"], apart := false, laid := [("math/bits.deBruijn64tab", laid_math_bits_deBruijn64tab)] }
def LaunchNumbersSaid : Prop := launchNumbersRow.holds Tryd.pinned (OpenSpec.ofChange launchNumbersSpec)

/-- ITS FALSE NEIGHBOUR: 'it returns false'. Refute it at one input. -/
def launchNumbersWrong : ChangeSpec := { name := "launchNumbers", fn := fun _ => fun
  | [d1, d2, d3] => { results := [.lit (.bool false)], args := [d1, d2, d3] }
  | _ => none }
def LaunchNumbersWrongFalsely : Prop := launchNumbersRow.holds Tryd.pinned (OpenSpec.ofChange launchNumbersWrong)

/-- 'warpwrightlaw04.LaunchCollects': WHATEVER THE INPUT: true; the input reads as it did. -/
def launchCollectsSpec : ChangeSpec := { name := "launchCollects", fn := fun _ => fun
  | [d1, d2, d3] => { results := [.lit (.bool true)], args := [d1, d2, d3] }
  | _ => none }
def launchCollectsRow : OpenClaim := { program := "ytemofgjbjdcmnaadoor", sum := "52588b5d7d2014191b519a8df9f487e1983a68228027de5ad5ee2dc2498b8358", func := "warpwright/warpwrightlaw04.LaunchCollects", spec := "launchCollects", unfollowed := true, recurses := true, named := ["math/bits.deBruijn64tab"], apart := false, laid := [("math/bits.deBruijn64tab", laid_math_bits_deBruijn64tab)] }
def LaunchCollectsSaid : Prop := launchCollectsRow.holds Tryd.pinned (OpenSpec.ofChange launchCollectsSpec)

/-- ITS FALSE NEIGHBOUR: 'it returns false'. Refute it at one input. -/
def launchCollectsWrong : ChangeSpec := { name := "launchCollects", fn := fun _ => fun
  | [d1, d2, d3] => { results := [.lit (.bool false)], args := [d1, d2, d3] }
  | _ => none }
def LaunchCollectsWrongFalsely : Prop := launchCollectsRow.holds Tryd.pinned (OpenSpec.ofChange launchCollectsWrong)

/-- 'warpwrightlaw04.LaunchShuffles': WHATEVER THE INPUT: true; the input reads as it did. -/
def launchShufflesSpec : ChangeSpec := { name := "launchShuffles", fn := fun _ => fun
  | [d1, d2, d3] => { results := [.lit (.bool true)], args := [d1, d2, d3] }
  | _ => none }
def launchShufflesRow : OpenClaim := { program := "ytemofgjbjdcmnaadoor", sum := "52588b5d7d2014191b519a8df9f487e1983a68228027de5ad5ee2dc2498b8358", func := "warpwright/warpwrightlaw04.LaunchShuffles", spec := "launchShuffles", unfollowed := true, recurses := true, named := ["math/bits.deBruijn64tab"], apart := false, laid := [("math/bits.deBruijn64tab", laid_math_bits_deBruijn64tab)] }
def LaunchShufflesSaid : Prop := launchShufflesRow.holds Tryd.pinned (OpenSpec.ofChange launchShufflesSpec)

/-- ITS FALSE NEIGHBOUR: 'it returns false'. Refute it at one input. -/
def launchShufflesWrong : ChangeSpec := { name := "launchShuffles", fn := fun _ => fun
  | [d1, d2, d3] => { results := [.lit (.bool false)], args := [d1, d2, d3] }
  | _ => none }
def LaunchShufflesWrongFalsely : Prop := launchShufflesRow.holds Tryd.pinned (OpenSpec.ofChange launchShufflesWrong)

/-- 'warpwrightlaw04.LaunchPacks': WHATEVER THE INPUT: true; the input reads as it did. -/
def launchPacksSpec : ChangeSpec := { name := "launchPacks", fn := fun _ => fun
  | [d1, d2, d3] => { results := [.lit (.bool true)], args := [d1, d2, d3] }
  | _ => none }
def launchPacksRow : OpenClaim := { program := "ytemofgjbjdcmnaadoor", sum := "52588b5d7d2014191b519a8df9f487e1983a68228027de5ad5ee2dc2498b8358", func := "warpwright/warpwrightlaw04.LaunchPacks", spec := "launchPacks", unfollowed := true, recurses := true, named := ["math/bits.deBruijn64tab"], apart := false, laid := [("math/bits.deBruijn64tab", laid_math_bits_deBruijn64tab)] }
def LaunchPacksSaid : Prop := launchPacksRow.holds Tryd.pinned (OpenSpec.ofChange launchPacksSpec)

/-- ITS FALSE NEIGHBOUR: 'it returns false'. Refute it at one input. -/
def launchPacksWrong : ChangeSpec := { name := "launchPacks", fn := fun _ => fun
  | [d1, d2, d3] => { results := [.lit (.bool false)], args := [d1, d2, d3] }
  | _ => none }
def LaunchPacksWrongFalsely : Prop := launchPacksRow.holds Tryd.pinned (OpenSpec.ofChange launchPacksWrong)

/-- 'warpwrightlaw04.LaunchMemory': WHATEVER THE INPUT: true; the input reads as it did. -/
def launchMemorySpec : ChangeSpec := { name := "launchMemory", fn := fun _ => fun
  | [d1, d2, d3] => { results := [.lit (.bool true)], args := [d1, d2, d3] }
  | _ => none }
def launchMemoryRow : OpenClaim := { program := "ytemofgjbjdcmnaadoor", sum := "52588b5d7d2014191b519a8df9f487e1983a68228027de5ad5ee2dc2498b8358", func := "warpwright/warpwrightlaw04.LaunchMemory", spec := "launchMemory", unfollowed := true, recurses := true, named := ["math/bits.deBruijn64tab"], apart := false, laid := [("math/bits.deBruijn64tab", laid_math_bits_deBruijn64tab)] }
def LaunchMemorySaid : Prop := launchMemoryRow.holds Tryd.pinned (OpenSpec.ofChange launchMemorySpec)

/-- ITS FALSE NEIGHBOUR: 'it returns false'. Refute it at one input. -/
def launchMemoryWrong : ChangeSpec := { name := "launchMemory", fn := fun _ => fun
  | [d1, d2, d3] => { results := [.lit (.bool false)], args := [d1, d2, d3] }
  | _ => none }
def LaunchMemoryWrongFalsely : Prop := launchMemoryRow.holds Tryd.pinned (OpenSpec.ofChange launchMemoryWrong)

/- THE SECOND FORM. 'bulk': how many values and letters a reading holds, each counted each time it is reached (what is shared counts as often as it is met; a slice's spare places count too). A statement '..UptoSaid' is the law's where the arguments, and the package variables that the reading takes, are together of bulk at most 1048576: NARROWER than '..Said'. Prove '..Said' where nothing that the law and all that it calls make is longer than what came in: it says more and counts as full. Else prove '..UptoSaid'. A law counts once. -/
mutual
def uptoBulk {H : Type} : DataW H → Nat
  | .lit (.string bytes) => bytes.length + 1
  | .lit _ => 1
  | .nil => 1
  | .ptr d => uptoBulk d + 1
  | .slice elems spare => uptoBulkAll elems + uptoBulkAll spare + 1
  | .agg parts => uptoBulkAll parts + 1
  | .iface _ d => uptoBulk d + 1
  | .map entries => uptoBulkEntries entries + 1
  | .held _ => 1
def uptoBulkAll {H : Type} : List (DataW H) → Nat
  | [] => 0
  | d :: r => uptoBulk d + uptoBulkAll r
def uptoBulkEntries {H : Type} : List (Lit × DataW H) → Nat
  | [] => 0
  | x :: r => uptoBulkEntry x + uptoBulkEntries r
def uptoBulkEntry {H : Type} : Lit × DataW H → Nat
  | (.string bytes, d) => bytes.length + uptoBulk d + 1
  | (_, d) => uptoBulk d + 1
 end
def uptoSmall : (H : Type) → List (DataW H) → Bool := fun _ ds => decide (uptoBulkAll ds ≤ 1048576)
def OpenSpec.upto (s : _root_.Go.ChangeSpec) : _root_.Go.OpenSpec := { _root_.Go.OpenSpec.ofChange s with cond := some uptoSmall }

/-- 'warpwrightlaw04.LaunchMatchesReference', WHERE WHAT IT READS IS OF BULK AT MOST 1048576: true; the input reads as it did. -/
def launchMatchesReferenceUptoRow : OpenClaim := { program := "ytemofgjbjdcmnaadoor", sum := "52588b5d7d2014191b519a8df9f487e1983a68228027de5ad5ee2dc2498b8358", func := "warpwright/warpwrightlaw04.LaunchMatchesReference", spec := "launchMatchesReference", unfollowed := true, recurses := true, named := ["math/bits.deBruijn64tab"], apart := false, laid := [("math/bits.deBruijn64tab", laid_math_bits_deBruijn64tab)], narrowed := true }
def LaunchMatchesReferenceUptoSaid : Prop := launchMatchesReferenceUptoRow.holds Tryd.pinned (OpenSpec.upto launchMatchesReferenceSpec)

/-- 'warpwrightlaw04.LaunchNumbers', WHERE WHAT IT READS IS OF BULK AT MOST 1048576: true; the input reads as it did. -/
def launchNumbersUptoRow : OpenClaim := { program := "ytemofgjbjdcmnaadoor", sum := "52588b5d7d2014191b519a8df9f487e1983a68228027de5ad5ee2dc2498b8358", func := "warpwright/warpwrightlaw04.LaunchNumbers", spec := "launchNumbers", unfollowed := true, recurses := true, named := ["math/bits.deBruijn64tab"], apart := false, laid := [("math/bits.deBruijn64tab", laid_math_bits_deBruijn64tab)], narrowed := true }
def LaunchNumbersUptoSaid : Prop := launchNumbersUptoRow.holds Tryd.pinned (OpenSpec.upto launchNumbersSpec)

/-- 'warpwrightlaw04.LaunchCollects', WHERE WHAT IT READS IS OF BULK AT MOST 1048576: true; the input reads as it did. -/
def launchCollectsUptoRow : OpenClaim := { program := "ytemofgjbjdcmnaadoor", sum := "52588b5d7d2014191b519a8df9f487e1983a68228027de5ad5ee2dc2498b8358", func := "warpwright/warpwrightlaw04.LaunchCollects", spec := "launchCollects", unfollowed := true, recurses := true, named := ["math/bits.deBruijn64tab"], apart := false, laid := [("math/bits.deBruijn64tab", laid_math_bits_deBruijn64tab)], narrowed := true }
def LaunchCollectsUptoSaid : Prop := launchCollectsUptoRow.holds Tryd.pinned (OpenSpec.upto launchCollectsSpec)

/-- 'warpwrightlaw04.LaunchShuffles', WHERE WHAT IT READS IS OF BULK AT MOST 1048576: true; the input reads as it did. -/
def launchShufflesUptoRow : OpenClaim := { program := "ytemofgjbjdcmnaadoor", sum := "52588b5d7d2014191b519a8df9f487e1983a68228027de5ad5ee2dc2498b8358", func := "warpwright/warpwrightlaw04.LaunchShuffles", spec := "launchShuffles", unfollowed := true, recurses := true, named := ["math/bits.deBruijn64tab"], apart := false, laid := [("math/bits.deBruijn64tab", laid_math_bits_deBruijn64tab)], narrowed := true }
def LaunchShufflesUptoSaid : Prop := launchShufflesUptoRow.holds Tryd.pinned (OpenSpec.upto launchShufflesSpec)

/-- 'warpwrightlaw04.LaunchPacks', WHERE WHAT IT READS IS OF BULK AT MOST 1048576: true; the input reads as it did. -/
def launchPacksUptoRow : OpenClaim := { program := "ytemofgjbjdcmnaadoor", sum := "52588b5d7d2014191b519a8df9f487e1983a68228027de5ad5ee2dc2498b8358", func := "warpwright/warpwrightlaw04.LaunchPacks", spec := "launchPacks", unfollowed := true, recurses := true, named := ["math/bits.deBruijn64tab"], apart := false, laid := [("math/bits.deBruijn64tab", laid_math_bits_deBruijn64tab)], narrowed := true }
def LaunchPacksUptoSaid : Prop := launchPacksUptoRow.holds Tryd.pinned (OpenSpec.upto launchPacksSpec)

/-- 'warpwrightlaw04.LaunchMemory', WHERE WHAT IT READS IS OF BULK AT MOST 1048576: true; the input reads as it did. -/
def launchMemoryUptoRow : OpenClaim := { program := "ytemofgjbjdcmnaadoor", sum := "52588b5d7d2014191b519a8df9f487e1983a68228027de5ad5ee2dc2498b8358", func := "warpwright/warpwrightlaw04.LaunchMemory", spec := "launchMemory", unfollowed := true, recurses := true, named := ["math/bits.deBruijn64tab"], apart := false, laid := [("math/bits.deBruijn64tab", laid_math_bits_deBruijn64tab)], narrowed := true }
def LaunchMemoryUptoSaid : Prop := launchMemoryUptoRow.holds Tryd.pinned (OpenSpec.upto launchMemorySpec)

end Rows
end Go.Proofs.YtemofgjbjdcmnaaDoor
