/-
  No cell of these rows narrows 'for every input' (looked for: loops, veiled, ifaces, maps, wideKeys, modest, calm, conditions, laid).
  DERIVED. THE GIVEN ROWS OF THIS SEAT. 3 by the template 'for every input the law returns true; each argument reads behind the call as it read before'; 0 by the template 'total and deterministic' (their statements: YtdjjgloloahlgaaTotals.lean).
  GIVEN WITH THE SEED: the statements are not yours to turn. If you find one false, say at which input.
  Laid BY PROGRAM, IN A SANDBOX (cutbox-rows.mjs): the forced cells as the released guide's own fill.sh prints them over the translation e3b7216f58e02954… (all of the seat's roots in one cut). By AI agents, Wed Nov 11 2026. No macro, syntax, notation, axiom, sorry.
-/
import Derived.Test.YtdjjgloloahlgaaChecked
import GoSem.Claim
import GoSem.ClaimJoined
import GoSem.ClaimMapViews
import Derived.JoinedTies
import Derived.KernelRfl
namespace Go.Proofs.Ytdjjgloloahlgaa
/- THE CELL 'sum', in the pinned program and in every row, IS THE sha256 OF THE DUMP (.gsa) THAT YtdjjgloloahlgaaProg.lean LOADS. Nothing in Lean hashes anything: it is a label: what it is worth is what the hold of that sum in a sandbox is worth. -/
noncomputable def Try.pinned : Pinned := { name := "ytdjjgloloahlgaa", sum := "e3b7216f58e02954bf4f55de2ff0ccc4dbe3137bb6ae47fae66da9dafb939bf8", checked := Try.checked }
namespace Rows
def none {H : Type} : Left H := { results := [], args := [] }

/-- 'catnaplaw11.BusAddresses': WHATEVER THE INPUT: true; the input reads as it did. -/
def busAddressesSpec : ChangeSpec := { name := "busAddresses", fn := fun _ => fun
  | [d1, d2, d3, d4, d5] => { results := [.lit (.bool true)], args := [d1, d2, d3, d4, d5] }
  | _ => none }
def busAddressesRow : OpenClaim := { program := "ytdjjgloloahlgaa", sum := "e3b7216f58e02954bf4f55de2ff0ccc4dbe3137bb6ae47fae66da9dafb939bf8", func := "catnap/catnaplaw11.BusAddresses", spec := "busAddresses", unfollowed := true, recurses := true, apart := false }
def BusAddressesSaid : Prop := busAddressesRow.holds Try.pinned (OpenSpec.ofChange busAddressesSpec)

/-- ITS FALSE NEIGHBOUR: 'it returns false'. Refute it at one input. -/
def busAddressesWrong : ChangeSpec := { name := "busAddresses", fn := fun _ => fun
  | [d1, d2, d3, d4, d5] => { results := [.lit (.bool false)], args := [d1, d2, d3, d4, d5] }
  | _ => none }
def BusAddressesWrongFalsely : Prop := busAddressesRow.holds Try.pinned (OpenSpec.ofChange busAddressesWrong)

/-- 'catnaplaw11.BusBits': WHATEVER THE INPUT: true; the input reads as it did. -/
def busBitsSpec : ChangeSpec := { name := "busBits", fn := fun _ => fun
  | [d1, d2] => { results := [.lit (.bool true)], args := [d1, d2] }
  | _ => none }
def busBitsRow : OpenClaim := { program := "ytdjjgloloahlgaa", sum := "e3b7216f58e02954bf4f55de2ff0ccc4dbe3137bb6ae47fae66da9dafb939bf8", func := "catnap/catnaplaw11.BusBits", spec := "busBits", unfollowed := true, recurses := true, apart := false }
def BusBitsSaid : Prop := busBitsRow.holds Try.pinned (OpenSpec.ofChange busBitsSpec)

/-- ITS FALSE NEIGHBOUR: 'it returns false'. Refute it at one input. -/
def busBitsWrong : ChangeSpec := { name := "busBits", fn := fun _ => fun
  | [d1, d2] => { results := [.lit (.bool false)], args := [d1, d2] }
  | _ => none }
def BusBitsWrongFalsely : Prop := busBitsRow.holds Try.pinned (OpenSpec.ofChange busBitsWrong)

/-- 'catnaplaw11.BusFills': WHATEVER THE INPUT: true; the input reads as it did. -/
def busFillsSpec : ChangeSpec := { name := "busFills", fn := fun _ => fun
  | [d1, d2, d3] => { results := [.lit (.bool true)], args := [d1, d2, d3] }
  | _ => none }
def busFillsRow : OpenClaim := { program := "ytdjjgloloahlgaa", sum := "e3b7216f58e02954bf4f55de2ff0ccc4dbe3137bb6ae47fae66da9dafb939bf8", func := "catnap/catnaplaw11.BusFills", spec := "busFills", unfollowed := true, recurses := true, apart := false }
def BusFillsSaid : Prop := busFillsRow.holds Try.pinned (OpenSpec.ofChange busFillsSpec)

/-- ITS FALSE NEIGHBOUR: 'it returns false'. Refute it at one input. -/
def busFillsWrong : ChangeSpec := { name := "busFills", fn := fun _ => fun
  | [d1, d2, d3] => { results := [.lit (.bool false)], args := [d1, d2, d3] }
  | _ => none }
def BusFillsWrongFalsely : Prop := busFillsRow.holds Try.pinned (OpenSpec.ofChange busFillsWrong)

/- THE SECOND FORM. 'bulk': how many values and letters a reading holds, each counted each time it is reached (what is shared counts as often as it is met; a slice's spare places count too). A statement '..UptoSaid' is the law's where the arguments, and the package variables that the reading takes, are together of bulk at most 1048576: NARROWER than '..Said'. Prove '..Said' where nothing that the law and all that it calls make is longer than what came in: it says more and counts as full. Else prove '..UptoSaid'. A law counts once. -/
mutual
def uptoBulk {H : Type} : DataW H → Nat
  | .lit (.string bytes) => bytes.length + 1
  | .lit _ => 1
  | .nil => 1
  | .ptr d => uptoBulk d + 1
  | .slice elems spare => uptoBulkAll elems + uptoBulkAll spare + 1
  | .agg parts => uptoBulkAll parts + 1
  | .iface _ d => uptoBulk d + 1
  | .map entries => uptoBulkEntries entries + 1
  | .held _ => 1
def uptoBulkAll {H : Type} : List (DataW H) → Nat
  | [] => 0
  | d :: r => uptoBulk d + uptoBulkAll r
def uptoBulkEntries {H : Type} : List (Lit × DataW H) → Nat
  | [] => 0
  | x :: r => uptoBulkEntry x + uptoBulkEntries r
def uptoBulkEntry {H : Type} : Lit × DataW H → Nat
  | (.string bytes, d) => bytes.length + uptoBulk d + 1
  | (_, d) => uptoBulk d + 1
 end
def uptoSmall : (H : Type) → List (DataW H) → Bool := fun _ ds => decide (uptoBulkAll ds ≤ 1048576)
def OpenSpec.upto (s : _root_.Go.ChangeSpec) : _root_.Go.OpenSpec := { _root_.Go.OpenSpec.ofChange s with cond := some uptoSmall }

/-- 'catnaplaw11.BusAddresses', WHERE WHAT IT READS IS OF BULK AT MOST 1048576: true; the input reads as it did. -/
def busAddressesUptoRow : OpenClaim := { program := "ytdjjgloloahlgaa", sum := "e3b7216f58e02954bf4f55de2ff0ccc4dbe3137bb6ae47fae66da9dafb939bf8", func := "catnap/catnaplaw11.BusAddresses", spec := "busAddresses", unfollowed := true, recurses := true, apart := false, narrowed := true }
def BusAddressesUptoSaid : Prop := busAddressesUptoRow.holds Try.pinned (OpenSpec.upto busAddressesSpec)

/-- 'catnaplaw11.BusBits', WHERE WHAT IT READS IS OF BULK AT MOST 1048576: true; the input reads as it did. -/
def busBitsUptoRow : OpenClaim := { program := "ytdjjgloloahlgaa", sum := "e3b7216f58e02954bf4f55de2ff0ccc4dbe3137bb6ae47fae66da9dafb939bf8", func := "catnap/catnaplaw11.BusBits", spec := "busBits", unfollowed := true, recurses := true, apart := false, narrowed := true }
def BusBitsUptoSaid : Prop := busBitsUptoRow.holds Try.pinned (OpenSpec.upto busBitsSpec)

/-- 'catnaplaw11.BusFills', WHERE WHAT IT READS IS OF BULK AT MOST 1048576: true; the input reads as it did. -/
def busFillsUptoRow : OpenClaim := { program := "ytdjjgloloahlgaa", sum := "e3b7216f58e02954bf4f55de2ff0ccc4dbe3137bb6ae47fae66da9dafb939bf8", func := "catnap/catnaplaw11.BusFills", spec := "busFills", unfollowed := true, recurses := true, apart := false, narrowed := true }
def BusFillsUptoSaid : Prop := busFillsUptoRow.holds Try.pinned (OpenSpec.upto busFillsSpec)

end Rows
end Go.Proofs.Ytdjjgloloahlgaa
