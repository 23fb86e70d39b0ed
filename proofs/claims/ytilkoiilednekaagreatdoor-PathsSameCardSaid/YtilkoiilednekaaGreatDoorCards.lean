/-
  DERIVED. GIVEN WITH THE SEED: THE CARDS: each row of YtilkoiilednekaaGreatDoorRows.lean that lists a variable, with what it lists TIED to the program's text (the seventh form; the later family's looks); each row that meets fmt, with fmt's text TOLD by the authors' own Lean function (tested against real Go, not proved from fmt's source: count such statements apart). THE CARD IS WHAT COUNTS. Prove the row's statement (the work); the ties are given (YtilkoiilednekaaGreatDoorTie.lean); close each card by the builder's one call (the guide's Derived/Test/ToyasCard.lean, 'card_holds'). Laid BY PROGRAM, IN A SANDBOX (cutbox-door.mjs). By AI agents, Wed Nov 11 2026. No macro, syntax, notation, axiom, sorry.
-/
import Derived.Test.YtilkoiilednekaaGreatDoorRows
import GoSem.ClaimSeven
namespace Go.Proofs.YtilkoiilednekaaGreatDoor
namespace Rows

/-- THE TIED CARD OF 'rowlocklaw24.CostPath'. -/
def costPathCard : Claim7 := { stood := { row := costPathRow, standIns := [], harness := (true, "515859eaa46023a671fc20a3b6a6ae2785a5f9d8114fa80e42c9423c19080751"), looks := false }, kinds := [], alts := [], laidByText := true, laidKinds := [.data, .pinned, .pinned], laidTests := true, laidLooks := .later }
def CostPathCardSaid : Prop := Claim7.holds Tryz.pinned (.plain (OpenSpec.ofChange costPathSpec)) costPathCard

/-- THE TIED CARD OF 'rowlocklaw21.SargTests'. -/
def sargTestsCard : Claim7 := { stood := { row := sargTestsRow, standIns := [], harness := (true, "515859eaa46023a671fc20a3b6a6ae2785a5f9d8114fa80e42c9423c19080751"), looks := false }, kinds := [], alts := [], laidByText := true, laidKinds := [.data, .data, .pinned], laidTests := true, laidLooks := .later }
def SargTestsCardSaid : Prop := Claim7.holds Tryz.pinned (.plain (OpenSpec.ofChange sargTestsSpec)) sargTestsCard

/-- THE TIED CARD OF 'rowlocklaw21.SargProbe'. -/
def sargProbeCard : Claim7 := { stood := { row := sargProbeRow, standIns := [], harness := (true, "515859eaa46023a671fc20a3b6a6ae2785a5f9d8114fa80e42c9423c19080751"), looks := false }, kinds := [], alts := [], laidByText := true, laidKinds := [.data, .data, .pinned], laidTests := true, laidLooks := .later }
def SargProbeCardSaid : Prop := Claim7.holds Tryz.pinned (.plain (OpenSpec.ofChange sargProbeSpec)) sargProbeCard

/-- THE TIED CARD OF 'rowlocklaw22.PathsSame'. -/
def pathsSameCard : Claim7 := { stood := { row := pathsSameRow, standIns := [], harness := (true, "515859eaa46023a671fc20a3b6a6ae2785a5f9d8114fa80e42c9423c19080751"), looks := false }, kinds := [], alts := [], laidByText := true, laidKinds := [.data, .data, .pinned], laidTests := true, laidLooks := .later }
def PathsSameCardSaid : Prop := Claim7.holds Tryz.pinned (.plain (OpenSpec.ofChange pathsSameSpec)) pathsSameCard

/-- THE SECOND FORM's CARD OF 'rowlocklaw24.CostPath'. -/
def costPathUptoCard : Claim7 := { stood := { row := costPathUptoRow, standIns := [], harness := (true, "515859eaa46023a671fc20a3b6a6ae2785a5f9d8114fa80e42c9423c19080751"), looks := false }, kinds := [], alts := [], laidByText := true, laidKinds := [.data, .pinned, .pinned], laidTests := true, laidLooks := .later }
def CostPathUptoCardSaid : Prop := Claim7.holds Tryz.pinned (.plain (OpenSpec.upto costPathSpec)) costPathUptoCard

/-- THE SECOND FORM's CARD OF 'rowlocklaw21.SargTests'. -/
def sargTestsUptoCard : Claim7 := { stood := { row := sargTestsUptoRow, standIns := [], harness := (true, "515859eaa46023a671fc20a3b6a6ae2785a5f9d8114fa80e42c9423c19080751"), looks := false }, kinds := [], alts := [], laidByText := true, laidKinds := [.data, .data, .pinned], laidTests := true, laidLooks := .later }
def SargTestsUptoCardSaid : Prop := Claim7.holds Tryz.pinned (.plain (OpenSpec.upto sargTestsSpec)) sargTestsUptoCard

/-- THE SECOND FORM's CARD OF 'rowlocklaw21.SargProbe'. -/
def sargProbeUptoCard : Claim7 := { stood := { row := sargProbeUptoRow, standIns := [], harness := (true, "515859eaa46023a671fc20a3b6a6ae2785a5f9d8114fa80e42c9423c19080751"), looks := false }, kinds := [], alts := [], laidByText := true, laidKinds := [.data, .data, .pinned], laidTests := true, laidLooks := .later }
def SargProbeUptoCardSaid : Prop := Claim7.holds Tryz.pinned (.plain (OpenSpec.upto sargProbeSpec)) sargProbeUptoCard

/-- THE SECOND FORM's CARD OF 'rowlocklaw22.PathsSame'. -/
def pathsSameUptoCard : Claim7 := { stood := { row := pathsSameUptoRow, standIns := [], harness := (true, "515859eaa46023a671fc20a3b6a6ae2785a5f9d8114fa80e42c9423c19080751"), looks := false }, kinds := [], alts := [], laidByText := true, laidKinds := [.data, .data, .pinned], laidTests := true, laidLooks := .later }
def PathsSameUptoCardSaid : Prop := Claim7.holds Tryz.pinned (.plain (OpenSpec.upto pathsSameSpec)) pathsSameUptoCard
end Rows
end Go.Proofs.YtilkoiilednekaaGreatDoor
