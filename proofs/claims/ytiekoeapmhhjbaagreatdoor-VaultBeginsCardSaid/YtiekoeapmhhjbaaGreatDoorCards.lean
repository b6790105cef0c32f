/-
  DERIVED. GIVEN WITH THE SEED: THE CARDS: each row of YtiekoeapmhhjbaaGreatDoorRows.lean that lists a variable, with what it lists TIED to the program's text (the seventh form; the later family's looks); each row that meets fmt, with fmt's text TOLD by the authors' own Lean function (tested against real Go, not proved from fmt's source: count such statements apart). THE CARD IS WHAT COUNTS. Prove the row's statement (the work); the ties are given (YtiekoeapmhhjbaaGreatDoorTie.lean); close each card by the builder's one call (the guide's Derived/Test/ToyasCard.lean, 'card_holds'). Laid BY PROGRAM, IN A SANDBOX (cutbox-door.mjs). By AI agents, Wed Nov 11 2026. No macro, syntax, notation, axiom, sorry.
-/
import Derived.Test.YtiekoeapmhhjbaaGreatDoorRows
import GoSem.ClaimSeven
namespace Go.Proofs.YtiekoeapmhhjbaaGreatDoor
namespace Rows

/-- THE TIED CARD OF 'tephralaw12.VaultBegins'. -/
def vaultBeginsCard : Claim7 := { stood := { row := vaultBeginsRow, standIns := [], harness := (true, "bdab5f6d54f07c99050f46f43edea97ae7a97885b5960c3dff2227ce2cfe373a"), looks := true }, kinds := [], alts := [], laidByText := true, laidKinds := [.data, .data, .data, .sentinel, .sentinel], laidTests := true, laidLooks := .later }
def VaultBeginsCardSaid : Prop := Claim7.holds Tryz.pinned (.plain (OpenSpec.ofChange vaultBeginsSpec)) vaultBeginsCard

/-- THE TIED CARD OF 'tephralaw17.ClusterNot'. -/
def clusterNotCard : Claim7 := { stood := { row := clusterNotRow, standIns := [], harness := (true, "bdab5f6d54f07c99050f46f43edea97ae7a97885b5960c3dff2227ce2cfe373a"), looks := true }, kinds := [], alts := [], laidByText := true, laidKinds := [.data, .data, .data, .sentinel, .sentinel], laidTests := true, laidLooks := .later }
def ClusterNotCardSaid : Prop := Claim7.holds Tryz.pinned (.plain (OpenSpec.ofChange clusterNotSpec)) clusterNotCard

/-- THE TIED CARD OF 'tephralaw19.WorldSmall'. -/
def worldSmallCard : Claim7 := { stood := { row := worldSmallRow, standIns := [], harness := (true, "bdab5f6d54f07c99050f46f43edea97ae7a97885b5960c3dff2227ce2cfe373a"), looks := true }, kinds := [], alts := [], laidByText := true, laidKinds := [.data, .data, .data, .sentinel, .sentinel], laidTests := true, laidLooks := .later }
def WorldSmallCardSaid : Prop := Claim7.holds Tryz.pinned (.plain (OpenSpec.ofChange worldSmallSpec)) worldSmallCard

/-- THE SECOND FORM's CARD OF 'tephralaw12.VaultBegins'. -/
def vaultBeginsUptoCard : Claim7 := { stood := { row := vaultBeginsUptoRow, standIns := [], harness := (true, "bdab5f6d54f07c99050f46f43edea97ae7a97885b5960c3dff2227ce2cfe373a"), looks := true }, kinds := [], alts := [], laidByText := true, laidKinds := [.data, .data, .data, .sentinel, .sentinel], laidTests := true, laidLooks := .later }
def VaultBeginsUptoCardSaid : Prop := Claim7.holds Tryz.pinned (.plain (OpenSpec.upto vaultBeginsSpec)) vaultBeginsUptoCard

/-- THE SECOND FORM's CARD OF 'tephralaw17.ClusterNot'. -/
def clusterNotUptoCard : Claim7 := { stood := { row := clusterNotUptoRow, standIns := [], harness := (true, "bdab5f6d54f07c99050f46f43edea97ae7a97885b5960c3dff2227ce2cfe373a"), looks := true }, kinds := [], alts := [], laidByText := true, laidKinds := [.data, .data, .data, .sentinel, .sentinel], laidTests := true, laidLooks := .later }
def ClusterNotUptoCardSaid : Prop := Claim7.holds Tryz.pinned (.plain (OpenSpec.upto clusterNotSpec)) clusterNotUptoCard

/-- THE SECOND FORM's CARD OF 'tephralaw19.WorldSmall'. -/
def worldSmallUptoCard : Claim7 := { stood := { row := worldSmallUptoRow, standIns := [], harness := (true, "bdab5f6d54f07c99050f46f43edea97ae7a97885b5960c3dff2227ce2cfe373a"), looks := true }, kinds := [], alts := [], laidByText := true, laidKinds := [.data, .data, .data, .sentinel, .sentinel], laidTests := true, laidLooks := .later }
def WorldSmallUptoCardSaid : Prop := Claim7.holds Tryz.pinned (.plain (OpenSpec.upto worldSmallSpec)) worldSmallUptoCard
end Rows
end Go.Proofs.YtiekoeapmhhjbaaGreatDoor
