/-
  DERIVED. GIVEN WITH THE SEED: THE CARDS: each row of YtpekoejdnhaohaaGreatDoorRows.lean that lists a variable, with what it lists TIED to the program's text (the seventh form; the later family's looks); each row that meets fmt, with fmt's text TOLD by the authors' own Lean function (tested against real Go, not proved from fmt's source: count such statements apart). THE CARD IS WHAT COUNTS. Prove the row's statement (the work); the ties are given (YtpekoejdnhaohaaGreatDoorTie.lean); close each card by the builder's one call (the guide's Derived/Test/ToyasCard.lean, 'card_holds'). Laid BY PROGRAM, IN A SANDBOX (cutbox-door.mjs). By AI agents, Wed Nov 11 2026. No macro, syntax, notation, axiom, sorry.
-/
import Derived.Test.YtpekoejdnhaohaaGreatDoorRows
import GoSem.ClaimSeven
namespace Go.Proofs.YtpekoejdnhaohaaGreatDoor
namespace Rows

/-- THE TIED CARD OF 'catnaptop.TopKept'. -/
def topKeptCard : Claim7 := { stood := { row := topKeptRow, standIns := [], harness := (true, "46edcf28e0b2edcad40cbca8b35f3f726c9fde1a402de681cb8f6034c70076df"), looks := false }, kinds := [], alts := [], laidByText := true, laidKinds := [.data, .data, .data, .data, .data, .pinned], laidTests := true, laidLooks := .later }
def TopKeptCardSaid : Prop := Claim7.holds Tryz.pinned (.plain (OpenSpec.ofChange topKeptSpec)) topKeptCard

/-- THE SECOND FORM's CARD OF 'catnaptop.TopKept'. -/
def topKeptUptoCard : Claim7 := { stood := { row := topKeptUptoRow, standIns := [], harness := (true, "46edcf28e0b2edcad40cbca8b35f3f726c9fde1a402de681cb8f6034c70076df"), looks := false }, kinds := [], alts := [], laidByText := true, laidKinds := [.data, .data, .data, .data, .data, .pinned], laidTests := true, laidLooks := .later }
def TopKeptUptoCardSaid : Prop := Claim7.holds Tryz.pinned (.plain (OpenSpec.upto topKeptSpec)) topKeptUptoCard
end Rows
end Go.Proofs.YtpekoejdnhaohaaGreatDoor
