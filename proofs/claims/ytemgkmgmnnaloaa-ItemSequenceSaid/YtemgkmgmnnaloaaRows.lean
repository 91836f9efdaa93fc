/-
  No cell of these rows narrows 'for every input' (looked for: loops, veiled, ifaces, maps, wideKeys, modest, calm, conditions, laid).
  DERIVED. THE GIVEN ROWS OF THIS SEAT. 6 by the template 'for every input the law returns true; each argument reads behind the call as it read before'; 0 by the template 'total and deterministic' (their statements: YtemgkmgmnnaloaaTotals.lean).
  GIVEN WITH THE SEED: the statements are not yours to turn. If you find one false, say at which input.
  Laid BY PROGRAM, IN A SANDBOX (cutbox-rows.mjs): the forced cells as the released guide's own fill.sh prints them over the translation 5e301ddaef891cde… (all of the seat's roots in one cut). By AI agents, Wed Nov 11 2026. No macro, syntax, notation, axiom, sorry.
-/
import Derived.Test.YtemgkmgmnnaloaaChecked
import GoSem.Claim
import GoSem.ClaimJoined
import GoSem.ClaimMapViews
import Derived.JoinedTies
import Derived.KernelRfl
namespace Go.Proofs.Ytemgkmgmnnaloaa
/- THE CELL 'sum', in the pinned program and in every row, IS THE sha256 OF THE DUMP (.gsa) THAT YtemgkmgmnnaloaaProg.lean LOADS. Nothing in Lean hashes anything: it is a label: what it is worth is what the hold of that sum in a sandbox is worth. -/
noncomputable def Try.pinned : Pinned := { name := "ytemgkmgmnnaloaa", sum := "5e301ddaef891cde744fb76d627442245da00197084872967040d29c426787f3", checked := Try.checked }
namespace Rows
def none {H : Type} : Left H := { results := [], args := [] }

/-- 'warpwrightlaw07.ItemMatchesReference': WHATEVER THE INPUT: true; the input reads as it did. -/
def itemMatchesReferenceSpec : ChangeSpec := { name := "itemMatchesReference", fn := fun _ => fun
  | [d1, d2, d3] => { results := [.lit (.bool true)], args := [d1, d2, d3] }
  | _ => none }
def itemMatchesReferenceRow : OpenClaim := { program := "ytemgkmgmnnaloaa", sum := "5e301ddaef891cde744fb76d627442245da00197084872967040d29c426787f3", func := "warpwright/warpwrightlaw07.ItemMatchesReference", spec := "itemMatchesReference", unfollowed := true, recurses := true, plainKeys := false, apart := false }
def ItemMatchesReferenceSaid : Prop := itemMatchesReferenceRow.holds Try.pinned (OpenSpec.ofChange itemMatchesReferenceSpec)

/-- ITS FALSE NEIGHBOUR: 'it returns false'. Refute it at one input. -/
def itemMatchesReferenceWrong : ChangeSpec := { name := "itemMatchesReference", fn := fun _ => fun
  | [d1, d2, d3] => { results := [.lit (.bool false)], args := [d1, d2, d3] }
  | _ => none }
def ItemMatchesReferenceWrongFalsely : Prop := itemMatchesReferenceRow.holds Try.pinned (OpenSpec.ofChange itemMatchesReferenceWrong)

/-- 'warpwrightlaw07.ItemValid': WHATEVER THE INPUT: true; the input reads as it did. -/
def itemValidSpec : ChangeSpec := { name := "itemValid", fn := fun _ => fun
  | [d1, d2, d3] => { results := [.lit (.bool true)], args := [d1, d2, d3] }
  | _ => none }
def itemValidRow : OpenClaim := { program := "ytemgkmgmnnaloaa", sum := "5e301ddaef891cde744fb76d627442245da00197084872967040d29c426787f3", func := "warpwright/warpwrightlaw07.ItemValid", spec := "itemValid", unfollowed := true, recurses := true, plainKeys := false, apart := false }
def ItemValidSaid : Prop := itemValidRow.holds Try.pinned (OpenSpec.ofChange itemValidSpec)

/-- ITS FALSE NEIGHBOUR: 'it returns false'. Refute it at one input. -/
def itemValidWrong : ChangeSpec := { name := "itemValid", fn := fun _ => fun
  | [d1, d2, d3] => { results := [.lit (.bool false)], args := [d1, d2, d3] }
  | _ => none }
def ItemValidWrongFalsely : Prop := itemValidRow.holds Try.pinned (OpenSpec.ofChange itemValidWrong)

/-- 'warpwrightlaw07.ItemEvents': WHATEVER THE INPUT: true; the input reads as it did. -/
def itemEventsSpec : ChangeSpec := { name := "itemEvents", fn := fun _ => fun
  | [d1, d2, d3] => { results := [.lit (.bool true)], args := [d1, d2, d3] }
  | _ => none }
def itemEventsRow : OpenClaim := { program := "ytemgkmgmnnaloaa", sum := "5e301ddaef891cde744fb76d627442245da00197084872967040d29c426787f3", func := "warpwright/warpwrightlaw07.ItemEvents", spec := "itemEvents", unfollowed := true, recurses := true, plainKeys := false, apart := false }
def ItemEventsSaid : Prop := itemEventsRow.holds Try.pinned (OpenSpec.ofChange itemEventsSpec)

/-- ITS FALSE NEIGHBOUR: 'it returns false'. Refute it at one input. -/
def itemEventsWrong : ChangeSpec := { name := "itemEvents", fn := fun _ => fun
  | [d1, d2, d3] => { results := [.lit (.bool false)], args := [d1, d2, d3] }
  | _ => none }
def ItemEventsWrongFalsely : Prop := itemEventsRow.holds Try.pinned (OpenSpec.ofChange itemEventsWrong)

/-- 'warpwrightlaw07.ItemLocal': WHATEVER THE INPUT: true; the input reads as it did. -/
def itemLocalSpec : ChangeSpec := { name := "itemLocal", fn := fun _ => fun
  | [d1, d2, d3] => { results := [.lit (.bool true)], args := [d1, d2, d3] }
  | _ => none }
def itemLocalRow : OpenClaim := { program := "ytemgkmgmnnaloaa", sum := "5e301ddaef891cde744fb76d627442245da00197084872967040d29c426787f3", func := "warpwright/warpwrightlaw07.ItemLocal", spec := "itemLocal", unfollowed := true, recurses := true, plainKeys := false, apart := false }
def ItemLocalSaid : Prop := itemLocalRow.holds Try.pinned (OpenSpec.ofChange itemLocalSpec)

/-- ITS FALSE NEIGHBOUR: 'it returns false'. Refute it at one input. -/
def itemLocalWrong : ChangeSpec := { name := "itemLocal", fn := fun _ => fun
  | [d1, d2, d3] => { results := [.lit (.bool false)], args := [d1, d2, d3] }
  | _ => none }
def ItemLocalWrongFalsely : Prop := itemLocalRow.holds Try.pinned (OpenSpec.ofChange itemLocalWrong)

/-- 'warpwrightlaw07.ItemSequence': WHATEVER THE INPUT: true; the input reads as it did. -/
def itemSequenceSpec : ChangeSpec := { name := "itemSequence", fn := fun _ => fun
  | [d1, d2, d3] => { results := [.lit (.bool true)], args := [d1, d2, d3] }
  | _ => none }
def itemSequenceRow : OpenClaim := { program := "ytemgkmgmnnaloaa", sum := "5e301ddaef891cde744fb76d627442245da00197084872967040d29c426787f3", func := "warpwright/warpwrightlaw07.ItemSequence", spec := "itemSequence", unfollowed := true, recurses := true, plainKeys := false, apart := false }
def ItemSequenceSaid : Prop := itemSequenceRow.holds Try.pinned (OpenSpec.ofChange itemSequenceSpec)

/-- ITS FALSE NEIGHBOUR: 'it returns false'. Refute it at one input. -/
def itemSequenceWrong : ChangeSpec := { name := "itemSequence", fn := fun _ => fun
  | [d1, d2, d3] => { results := [.lit (.bool false)], args := [d1, d2, d3] }
  | _ => none }
def ItemSequenceWrongFalsely : Prop := itemSequenceRow.holds Try.pinned (OpenSpec.ofChange itemSequenceWrong)

/-- 'warpwrightlaw07.ItemPasses': WHATEVER THE INPUT: true; the input reads as it did. -/
def itemPassesSpec : ChangeSpec := { name := "itemPasses", fn := fun _ => fun
  | [d1, d2, d3] => { results := [.lit (.bool true)], args := [d1, d2, d3] }
  | _ => none }
def itemPassesRow : OpenClaim := { program := "ytemgkmgmnnaloaa", sum := "5e301ddaef891cde744fb76d627442245da00197084872967040d29c426787f3", func := "warpwright/warpwrightlaw07.ItemPasses", spec := "itemPasses", unfollowed := true, recurses := true, plainKeys := false, apart := false }
def ItemPassesSaid : Prop := itemPassesRow.holds Try.pinned (OpenSpec.ofChange itemPassesSpec)

/-- ITS FALSE NEIGHBOUR: 'it returns false'. Refute it at one input. -/
def itemPassesWrong : ChangeSpec := { name := "itemPasses", fn := fun _ => fun
  | [d1, d2, d3] => { results := [.lit (.bool false)], args := [d1, d2, d3] }
  | _ => none }
def ItemPassesWrongFalsely : Prop := itemPassesRow.holds Try.pinned (OpenSpec.ofChange itemPassesWrong)

/- THE SECOND FORM. 'bulk': how many values and letters a reading holds, each counted each time it is reached (what is shared counts as often as it is met; a slice's spare places count too). A statement '..UptoSaid' is the law's where the arguments, and the package variables that the reading takes, are together of bulk at most 1048576: NARROWER than '..Said'. Prove '..Said' where nothing that the law and all that it calls make is longer than what came in: it says more and counts as full. Else prove '..UptoSaid'. A law counts once. -/
mutual
def uptoBulk {H : Type} : DataW H → Nat
  | .lit (.string bytes) => bytes.length + 1
  | .lit _ => 1
  | .nil => 1
  | .ptr d => uptoBulk d + 1
  | .slice elems spare => uptoBulkAll elems + uptoBulkAll spare + 1
  | .agg parts => uptoBulkAll parts + 1
  | .iface _ d => uptoBulk d + 1
  | .map entries => uptoBulkEntries entries + 1
  | .held _ => 1
def uptoBulkAll {H : Type} : List (DataW H) → Nat
  | [] => 0
  | d :: r => uptoBulk d + uptoBulkAll r
def uptoBulkEntries {H : Type} : List (Lit × DataW H) → Nat
  | [] => 0
  | x :: r => uptoBulkEntry x + uptoBulkEntries r
def uptoBulkEntry {H : Type} : Lit × DataW H → Nat
  | (.string bytes, d) => bytes.length + uptoBulk d + 1
  | (_, d) => uptoBulk d + 1
 end
def uptoSmall : (H : Type) → List (DataW H) → Bool := fun _ ds => decide (uptoBulkAll ds ≤ 1048576)
def OpenSpec.upto (s : _root_.Go.ChangeSpec) : _root_.Go.OpenSpec := { _root_.Go.OpenSpec.ofChange s with cond := some uptoSmall }

/-- 'warpwrightlaw07.ItemMatchesReference', WHERE WHAT IT READS IS OF BULK AT MOST 1048576: true; the input reads as it did. -/
def itemMatchesReferenceUptoRow : OpenClaim := { program := "ytemgkmgmnnaloaa", sum := "5e301ddaef891cde744fb76d627442245da00197084872967040d29c426787f3", func := "warpwright/warpwrightlaw07.ItemMatchesReference", spec := "itemMatchesReference", unfollowed := true, recurses := true, plainKeys := false, apart := false, narrowed := true }
def ItemMatchesReferenceUptoSaid : Prop := itemMatchesReferenceUptoRow.holds Try.pinned (OpenSpec.upto itemMatchesReferenceSpec)

/-- 'warpwrightlaw07.ItemValid', WHERE WHAT IT READS IS OF BULK AT MOST 1048576: true; the input reads as it did. -/
def itemValidUptoRow : OpenClaim := { program := "ytemgkmgmnnaloaa", sum := "5e301ddaef891cde744fb76d627442245da00197084872967040d29c426787f3", func := "warpwright/warpwrightlaw07.ItemValid", spec := "itemValid", unfollowed := true, recurses := true, plainKeys := false, apart := false, narrowed := true }
def ItemValidUptoSaid : Prop := itemValidUptoRow.holds Try.pinned (OpenSpec.upto itemValidSpec)

/-- 'warpwrightlaw07.ItemEvents', WHERE WHAT IT READS IS OF BULK AT MOST 1048576: true; the input reads as it did. -/
def itemEventsUptoRow : OpenClaim := { program := "ytemgkmgmnnaloaa", sum := "5e301ddaef891cde744fb76d627442245da00197084872967040d29c426787f3", func := "warpwright/warpwrightlaw07.ItemEvents", spec := "itemEvents", unfollowed := true, recurses := true, plainKeys := false, apart := false, narrowed := true }
def ItemEventsUptoSaid : Prop := itemEventsUptoRow.holds Try.pinned (OpenSpec.upto itemEventsSpec)

/-- 'warpwrightlaw07.ItemLocal', WHERE WHAT IT READS IS OF BULK AT MOST 1048576: true; the input reads as it did. -/
def itemLocalUptoRow : OpenClaim := { program := "ytemgkmgmnnaloaa", sum := "5e301ddaef891cde744fb76d627442245da00197084872967040d29c426787f3", func := "warpwright/warpwrightlaw07.ItemLocal", spec := "itemLocal", unfollowed := true, recurses := true, plainKeys := false, apart := false, narrowed := true }
def ItemLocalUptoSaid : Prop := itemLocalUptoRow.holds Try.pinned (OpenSpec.upto itemLocalSpec)

/-- 'warpwrightlaw07.ItemSequence', WHERE WHAT IT READS IS OF BULK AT MOST 1048576: true; the input reads as it did. -/
def itemSequenceUptoRow : OpenClaim := { program := "ytemgkmgmnnaloaa", sum := "5e301ddaef891cde744fb76d627442245da00197084872967040d29c426787f3", func := "warpwright/warpwrightlaw07.ItemSequence", spec := "itemSequence", unfollowed := true, recurses := true, plainKeys := false, apart := false, narrowed := true }
def ItemSequenceUptoSaid : Prop := itemSequenceUptoRow.holds Try.pinned (OpenSpec.upto itemSequenceSpec)

/-- 'warpwrightlaw07.ItemPasses', WHERE WHAT IT READS IS OF BULK AT MOST 1048576: true; the input reads as it did. -/
def itemPassesUptoRow : OpenClaim := { program := "ytemgkmgmnnaloaa", sum := "5e301ddaef891cde744fb76d627442245da00197084872967040d29c426787f3", func := "warpwright/warpwrightlaw07.ItemPasses", spec := "itemPasses", unfollowed := true, recurses := true, plainKeys := false, apart := false, narrowed := true }
def ItemPassesUptoSaid : Prop := itemPassesUptoRow.holds Try.pinned (OpenSpec.upto itemPassesSpec)

end Rows
end Go.Proofs.Ytemgkmgmnnaloaa
