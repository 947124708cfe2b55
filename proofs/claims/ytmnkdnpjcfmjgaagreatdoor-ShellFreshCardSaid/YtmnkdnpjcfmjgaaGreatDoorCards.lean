/-
  DERIVED. GIVEN WITH THE SEED: THE CARDS: each row of YtmnkdnpjcfmjgaaGreatDoorRows.lean that lists a variable, with what it lists TIED to the program's text (the seventh form; the later family's looks); each row that meets fmt, with fmt's text TOLD by the authors' own Lean function (tested against real Go, not proved from fmt's source: count such statements apart). THE CARD IS WHAT COUNTS. Prove the row's statement (the work); the ties are given (YtmnkdnpjcfmjgaaGreatDoorTie.lean); close each card by the builder's one call (the guide's Derived/Test/ToyasCard.lean, 'card_holds'). Laid BY PROGRAM, IN A SANDBOX (cutbox-door.mjs). By AI agents, Wed Nov 11 2026. No macro, syntax, notation, axiom, sorry.
-/
import Derived.Test.YtmnkdnpjcfmjgaaGreatDoorRows
import GoSem.ClaimSeven
namespace Go.Proofs.YtmnkdnpjcfmjgaaGreatDoor
namespace Rows

/-- THE TIED CARD OF 'weftlaw20.ShellBack'. -/
def shellBackCard : Claim7 := { stood := { row := shellBackRow, standIns := [], harness := (true, "e56f08b21ecb376104d139925d05cd2ef2b03526c22cfa18e3482cb032578ded"), looks := true }, kinds := [], alts := [], laidByText := true, laidKinds := [.data, .data, .data, .data, .sentinel, .sentinel, .pinned], laidTests := true, laidLooks := .later }
def ShellBackCardSaid : Prop := Claim7.holds Tryz.pinned (.plain (OpenSpec.ofChange shellBackSpec)) shellBackCard

/-- THE TIED CARD OF 'weftlaw20.ShellApart'. -/
def shellApartCard : Claim7 := { stood := { row := shellApartRow, standIns := [], harness := (true, "e56f08b21ecb376104d139925d05cd2ef2b03526c22cfa18e3482cb032578ded"), looks := true }, kinds := [], alts := [], laidByText := true, laidKinds := [.data, .data, .data, .data, .sentinel, .sentinel, .pinned], laidTests := true, laidLooks := .later }
def ShellApartCardSaid : Prop := Claim7.holds Tryz.pinned (.plain (OpenSpec.ofChange shellApartSpec)) shellApartCard

/-- THE TIED CARD OF 'weftlaw20.ShellFresh'. -/
def shellFreshCard : Claim7 := { stood := { row := shellFreshRow, standIns := [], harness := (true, "e56f08b21ecb376104d139925d05cd2ef2b03526c22cfa18e3482cb032578ded"), looks := true }, kinds := [], alts := [], laidByText := true, laidKinds := [.data, .data, .data, .data, .sentinel, .sentinel, .pinned], laidTests := true, laidLooks := .later }
def ShellFreshCardSaid : Prop := Claim7.holds Tryz.pinned (.plain (OpenSpec.ofChange shellFreshSpec)) shellFreshCard

/-- THE SECOND FORM's CARD OF 'weftlaw20.ShellBack'. -/
def shellBackUptoCard : Claim7 := { stood := { row := shellBackUptoRow, standIns := [], harness := (true, "e56f08b21ecb376104d139925d05cd2ef2b03526c22cfa18e3482cb032578ded"), looks := true }, kinds := [], alts := [], laidByText := true, laidKinds := [.data, .data, .data, .data, .sentinel, .sentinel, .pinned], laidTests := true, laidLooks := .later }
def ShellBackUptoCardSaid : Prop := Claim7.holds Tryz.pinned (.plain (OpenSpec.upto shellBackSpec)) shellBackUptoCard

/-- THE SECOND FORM's CARD OF 'weftlaw20.ShellApart'. -/
def shellApartUptoCard : Claim7 := { stood := { row := shellApartUptoRow, standIns := [], harness := (true, "e56f08b21ecb376104d139925d05cd2ef2b03526c22cfa18e3482cb032578ded"), looks := true }, kinds := [], alts := [], laidByText := true, laidKinds := [.data, .data, .data, .data, .sentinel, .sentinel, .pinned], laidTests := true, laidLooks := .later }
def ShellApartUptoCardSaid : Prop := Claim7.holds Tryz.pinned (.plain (OpenSpec.upto shellApartSpec)) shellApartUptoCard

/-- THE SECOND FORM's CARD OF 'weftlaw20.ShellFresh'. -/
def shellFreshUptoCard : Claim7 := { stood := { row := shellFreshUptoRow, standIns := [], harness := (true, "e56f08b21ecb376104d139925d05cd2ef2b03526c22cfa18e3482cb032578ded"), looks := true }, kinds := [], alts := [], laidByText := true, laidKinds := [.data, .data, .data, .data, .sentinel, .sentinel, .pinned], laidTests := true, laidLooks := .later }
def ShellFreshUptoCardSaid : Prop := Claim7.holds Tryz.pinned (.plain (OpenSpec.upto shellFreshSpec)) shellFreshUptoCard
end Rows
end Go.Proofs.YtmnkdnpjcfmjgaaGreatDoor
