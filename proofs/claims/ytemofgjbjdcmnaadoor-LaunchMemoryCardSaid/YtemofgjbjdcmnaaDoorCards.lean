/-
  DERIVED. GIVEN WITH THE SEED: THE CARDS: each row of YtemofgjbjdcmnaaDoorRows.lean that lists a variable, with what it lists TIED to the program's text (the seventh form; the later family's looks); each row that meets fmt, with fmt's text TOLD by the authors' own Lean function (tested against real Go, not proved from fmt's source: count such statements apart). THE CARD IS WHAT COUNTS. Prove the row's statement (the work); the ties are given (YtemofgjbjdcmnaaDoorTie.lean); close each card by the builder's one call (the guide's Derived/Test/ToyasCard.lean, 'card_holds'). Laid BY PROGRAM, IN A SANDBOX (cutbox-door.mjs). By AI agents, Wed Nov 11 2026. No macro, syntax, notation, axiom, sorry.
-/
import Derived.Test.YtemofgjbjdcmnaaDoorRows
import GoSem.ClaimSeven
namespace Go.Proofs.YtemofgjbjdcmnaaDoor
namespace Rows

/-- THE TIED CARD OF 'warpwrightlaw04.LaunchMatchesReference'. -/
def launchMatchesReferenceCard : Claim7 := { stood := { row := launchMatchesReferenceRow, standIns := [], harness := (true, "409bbffe1c086b9ec355e1ef52e55bb2f8ae825215427bc53bcb77e21629e8bd"), looks := false }, kinds := [], alts := [], laidByText := true, laidKinds := [.data], laidTests := true, laidLooks := .later }
def LaunchMatchesReferenceCardSaid : Prop := Claim7.holds Tryd.pinned (.plain (OpenSpec.ofChange launchMatchesReferenceSpec)) launchMatchesReferenceCard

/-- THE TIED CARD OF 'warpwrightlaw04.LaunchNumbers'. -/
def launchNumbersCard : Claim7 := { stood := { row := launchNumbersRow, standIns := [], harness := (true, "409bbffe1c086b9ec355e1ef52e55bb2f8ae825215427bc53bcb77e21629e8bd"), looks := false }, kinds := [], alts := [], laidByText := true, laidKinds := [.data], laidTests := true, laidLooks := .later }
def LaunchNumbersCardSaid : Prop := Claim7.holds Tryd.pinned (.plain (OpenSpec.ofChange launchNumbersSpec)) launchNumbersCard

/-- THE TIED CARD OF 'warpwrightlaw04.LaunchCollects'. -/
def launchCollectsCard : Claim7 := { stood := { row := launchCollectsRow, standIns := [], harness := (true, "409bbffe1c086b9ec355e1ef52e55bb2f8ae825215427bc53bcb77e21629e8bd"), looks := false }, kinds := [], alts := [], laidByText := true, laidKinds := [.data], laidTests := true, laidLooks := .later }
def LaunchCollectsCardSaid : Prop := Claim7.holds Tryd.pinned (.plain (OpenSpec.ofChange launchCollectsSpec)) launchCollectsCard

/-- THE TIED CARD OF 'warpwrightlaw04.LaunchShuffles'. -/
def launchShufflesCard : Claim7 := { stood := { row := launchShufflesRow, standIns := [], harness := (true, "409bbffe1c086b9ec355e1ef52e55bb2f8ae825215427bc53bcb77e21629e8bd"), looks := false }, kinds := [], alts := [], laidByText := true, laidKinds := [.data], laidTests := true, laidLooks := .later }
def LaunchShufflesCardSaid : Prop := Claim7.holds Tryd.pinned (.plain (OpenSpec.ofChange launchShufflesSpec)) launchShufflesCard

/-- THE TIED CARD OF 'warpwrightlaw04.LaunchPacks'. -/
def launchPacksCard : Claim7 := { stood := { row := launchPacksRow, standIns := [], harness := (true, "409bbffe1c086b9ec355e1ef52e55bb2f8ae825215427bc53bcb77e21629e8bd"), looks := false }, kinds := [], alts := [], laidByText := true, laidKinds := [.data], laidTests := true, laidLooks := .later }
def LaunchPacksCardSaid : Prop := Claim7.holds Tryd.pinned (.plain (OpenSpec.ofChange launchPacksSpec)) launchPacksCard

/-- THE TIED CARD OF 'warpwrightlaw04.LaunchMemory'. -/
def launchMemoryCard : Claim7 := { stood := { row := launchMemoryRow, standIns := [], harness := (true, "409bbffe1c086b9ec355e1ef52e55bb2f8ae825215427bc53bcb77e21629e8bd"), looks := false }, kinds := [], alts := [], laidByText := true, laidKinds := [.data], laidTests := true, laidLooks := .later }
def LaunchMemoryCardSaid : Prop := Claim7.holds Tryd.pinned (.plain (OpenSpec.ofChange launchMemorySpec)) launchMemoryCard

/-- THE SECOND FORM's CARD OF 'warpwrightlaw04.LaunchMatchesReference'. -/
def launchMatchesReferenceUptoCard : Claim7 := { stood := { row := launchMatchesReferenceUptoRow, standIns := [], harness := (true, "409bbffe1c086b9ec355e1ef52e55bb2f8ae825215427bc53bcb77e21629e8bd"), looks := false }, kinds := [], alts := [], laidByText := true, laidKinds := [.data], laidTests := true, laidLooks := .later }
def LaunchMatchesReferenceUptoCardSaid : Prop := Claim7.holds Tryd.pinned (.plain (OpenSpec.upto launchMatchesReferenceSpec)) launchMatchesReferenceUptoCard

/-- THE SECOND FORM's CARD OF 'warpwrightlaw04.LaunchNumbers'. -/
def launchNumbersUptoCard : Claim7 := { stood := { row := launchNumbersUptoRow, standIns := [], harness := (true, "409bbffe1c086b9ec355e1ef52e55bb2f8ae825215427bc53bcb77e21629e8bd"), looks := false }, kinds := [], alts := [], laidByText := true, laidKinds := [.data], laidTests := true, laidLooks := .later }
def LaunchNumbersUptoCardSaid : Prop := Claim7.holds Tryd.pinned (.plain (OpenSpec.upto launchNumbersSpec)) launchNumbersUptoCard

/-- THE SECOND FORM's CARD OF 'warpwrightlaw04.LaunchCollects'. -/
def launchCollectsUptoCard : Claim7 := { stood := { row := launchCollectsUptoRow, standIns := [], harness := (true, "409bbffe1c086b9ec355e1ef52e55bb2f8ae825215427bc53bcb77e21629e8bd"), looks := false }, kinds := [], alts := [], laidByText := true, laidKinds := [.data], laidTests := true, laidLooks := .later }
def LaunchCollectsUptoCardSaid : Prop := Claim7.holds Tryd.pinned (.plain (OpenSpec.upto launchCollectsSpec)) launchCollectsUptoCard

/-- THE SECOND FORM's CARD OF 'warpwrightlaw04.LaunchShuffles'. -/
def launchShufflesUptoCard : Claim7 := { stood := { row := launchShufflesUptoRow, standIns := [], harness := (true, "409bbffe1c086b9ec355e1ef52e55bb2f8ae825215427bc53bcb77e21629e8bd"), looks := false }, kinds := [], alts := [], laidByText := true, laidKinds := [.data], laidTests := true, laidLooks := .later }
def LaunchShufflesUptoCardSaid : Prop := Claim7.holds Tryd.pinned (.plain (OpenSpec.upto launchShufflesSpec)) launchShufflesUptoCard

/-- THE SECOND FORM's CARD OF 'warpwrightlaw04.LaunchPacks'. -/
def launchPacksUptoCard : Claim7 := { stood := { row := launchPacksUptoRow, standIns := [], harness := (true, "409bbffe1c086b9ec355e1ef52e55bb2f8ae825215427bc53bcb77e21629e8bd"), looks := false }, kinds := [], alts := [], laidByText := true, laidKinds := [.data], laidTests := true, laidLooks := .later }
def LaunchPacksUptoCardSaid : Prop := Claim7.holds Tryd.pinned (.plain (OpenSpec.upto launchPacksSpec)) launchPacksUptoCard

/-- THE SECOND FORM's CARD OF 'warpwrightlaw04.LaunchMemory'. -/
def launchMemoryUptoCard : Claim7 := { stood := { row := launchMemoryUptoRow, standIns := [], harness := (true, "409bbffe1c086b9ec355e1ef52e55bb2f8ae825215427bc53bcb77e21629e8bd"), looks := false }, kinds := [], alts := [], laidByText := true, laidKinds := [.data], laidTests := true, laidLooks := .later }
def LaunchMemoryUptoCardSaid : Prop := Claim7.holds Tryd.pinned (.plain (OpenSpec.upto launchMemorySpec)) launchMemoryUptoCard
end Rows
end Go.Proofs.YtemofgjbjdcmnaaDoor
