/-
  No cell of these rows narrows 'for every input' (looked for: loops, veiled, ifaces, maps, wideKeys, modest, calm, conditions, laid).
  DERIVED. THE GIVEN ROWS OF THIS SEAT. 11 by the template 'for every input the law returns true; each argument reads behind the call as it read before'; 0 by the template 'total and deterministic' (their statements: YtojfhebejfibkaaTotals.lean).
  GIVEN WITH THE SEED: the statements are not yours to turn. If you find one false, say at which input.
  Laid BY PROGRAM, IN A SANDBOX (cutbox-rows.mjs): the forced cells as the released guide's own fill.sh prints them over the translation ae6b901319feff37… (all of the seat's roots in one cut). By AI agents, Wed Nov 11 2026. No macro, syntax, notation, axiom, sorry.
-/
import Derived.Test.YtojfhebejfibkaaChecked
import GoSem.Claim
import GoSem.ClaimJoined
import GoSem.ClaimMapViews
import Derived.JoinedTies
import Derived.KernelRfl
namespace Go.Proofs.Ytojfhebejfibkaa
/- THE CELL 'sum', in the pinned program and in every row, IS THE sha256 OF THE DUMP (.gsa) THAT YtojfhebejfibkaaProg.lean LOADS. Nothing in Lean hashes anything: it is a label: what it is worth is what the hold of that sum in a sandbox is worth. -/
noncomputable def Try.pinned : Pinned := { name := "ytojfhebejfibkaa", sum := "ae6b901319feff3764b4146a3623fb590b8df81c06d187e8c4570a51f3339e12", checked := Try.checked }
namespace Rows
def none {H : Type} : Left H := { results := [], args := [] }

/-- 'catnaplaw1.BitsFields': WHATEVER THE INPUT: true; the input reads as it did. -/
def bitsFieldsSpec : ChangeSpec := { name := "bitsFields", fn := fun _ => fun
  | [d1, d2, d3] => { results := [.lit (.bool true)], args := [d1, d2, d3] }
  | _ => none }
def bitsFieldsRow : OpenClaim := { program := "ytojfhebejfibkaa", sum := "ae6b901319feff3764b4146a3623fb590b8df81c06d187e8c4570a51f3339e12", func := "catnap/catnaplaw1.BitsFields", spec := "bitsFields", unfollowed := true, recurses := true, apart := false }
def BitsFieldsSaid : Prop := bitsFieldsRow.holds Try.pinned (OpenSpec.ofChange bitsFieldsSpec)

/-- ITS FALSE NEIGHBOUR: 'it returns false'. Refute it at one input. -/
def bitsFieldsWrong : ChangeSpec := { name := "bitsFields", fn := fun _ => fun
  | [d1, d2, d3] => { results := [.lit (.bool false)], args := [d1, d2, d3] }
  | _ => none }
def BitsFieldsWrongFalsely : Prop := bitsFieldsRow.holds Try.pinned (OpenSpec.ofChange bitsFieldsWrong)

/-- 'catnaplaw1.BitsTurns': WHATEVER THE INPUT: true; the input reads as it did. -/
def bitsTurnsSpec : ChangeSpec := { name := "bitsTurns", fn := fun _ => fun
  | [d1, d2, d3] => { results := [.lit (.bool true)], args := [d1, d2, d3] }
  | _ => none }
def bitsTurnsRow : OpenClaim := { program := "ytojfhebejfibkaa", sum := "ae6b901319feff3764b4146a3623fb590b8df81c06d187e8c4570a51f3339e12", func := "catnap/catnaplaw1.BitsTurns", spec := "bitsTurns", unfollowed := true, recurses := true, apart := false }
def BitsTurnsSaid : Prop := bitsTurnsRow.holds Try.pinned (OpenSpec.ofChange bitsTurnsSpec)

/-- ITS FALSE NEIGHBOUR: 'it returns false'. Refute it at one input. -/
def bitsTurnsWrong : ChangeSpec := { name := "bitsTurns", fn := fun _ => fun
  | [d1, d2, d3] => { results := [.lit (.bool false)], args := [d1, d2, d3] }
  | _ => none }
def BitsTurnsWrongFalsely : Prop := bitsTurnsRow.holds Try.pinned (OpenSpec.ofChange bitsTurnsWrong)

/-- 'catnaplaw1.BitsTurned': WHATEVER THE INPUT: true; the input reads as it did. -/
def bitsTurnedSpec : ChangeSpec := { name := "bitsTurned", fn := fun _ => fun
  | [d1, d2, d3, d4] => { results := [.lit (.bool true)], args := [d1, d2, d3, d4] }
  | _ => none }
def bitsTurnedRow : OpenClaim := { program := "ytojfhebejfibkaa", sum := "ae6b901319feff3764b4146a3623fb590b8df81c06d187e8c4570a51f3339e12", func := "catnap/catnaplaw1.BitsTurned", spec := "bitsTurned", unfollowed := true, recurses := true, apart := false }
def BitsTurnedSaid : Prop := bitsTurnedRow.holds Try.pinned (OpenSpec.ofChange bitsTurnedSpec)

/-- ITS FALSE NEIGHBOUR: 'it returns false'. Refute it at one input. -/
def bitsTurnedWrong : ChangeSpec := { name := "bitsTurned", fn := fun _ => fun
  | [d1, d2, d3, d4] => { results := [.lit (.bool false)], args := [d1, d2, d3, d4] }
  | _ => none }
def BitsTurnedWrongFalsely : Prop := bitsTurnedRow.holds Try.pinned (OpenSpec.ofChange bitsTurnedWrong)

/-- 'catnaplaw1.BitsParts': WHATEVER THE INPUT: true; the input reads as it did. -/
def bitsPartsSpec : ChangeSpec := { name := "bitsParts", fn := fun _ => fun
  | [d1, d2] => { results := [.lit (.bool true)], args := [d1, d2] }
  | _ => none }
def bitsPartsRow : OpenClaim := { program := "ytojfhebejfibkaa", sum := "ae6b901319feff3764b4146a3623fb590b8df81c06d187e8c4570a51f3339e12", func := "catnap/catnaplaw1.BitsParts", spec := "bitsParts", unfollowed := true, recurses := true, apart := false }
def BitsPartsSaid : Prop := bitsPartsRow.holds Try.pinned (OpenSpec.ofChange bitsPartsSpec)

/-- ITS FALSE NEIGHBOUR: 'it returns false'. Refute it at one input. -/
def bitsPartsWrong : ChangeSpec := { name := "bitsParts", fn := fun _ => fun
  | [d1, d2] => { results := [.lit (.bool false)], args := [d1, d2] }
  | _ => none }
def BitsPartsWrongFalsely : Prop := bitsPartsRow.holds Try.pinned (OpenSpec.ofChange bitsPartsWrong)

/-- 'catnaplaw1.BitsSigns': WHATEVER THE INPUT: true; the input reads as it did. -/
def bitsSignsSpec : ChangeSpec := { name := "bitsSigns", fn := fun _ => fun
  | [d1, d2, d3, d4] => { results := [.lit (.bool true)], args := [d1, d2, d3, d4] }
  | _ => none }
def bitsSignsRow : OpenClaim := { program := "ytojfhebejfibkaa", sum := "ae6b901319feff3764b4146a3623fb590b8df81c06d187e8c4570a51f3339e12", func := "catnap/catnaplaw1.BitsSigns", spec := "bitsSigns", unfollowed := true, recurses := true, apart := false }
def BitsSignsSaid : Prop := bitsSignsRow.holds Try.pinned (OpenSpec.ofChange bitsSignsSpec)

/-- ITS FALSE NEIGHBOUR: 'it returns false'. Refute it at one input. -/
def bitsSignsWrong : ChangeSpec := { name := "bitsSigns", fn := fun _ => fun
  | [d1, d2, d3, d4] => { results := [.lit (.bool false)], args := [d1, d2, d3, d4] }
  | _ => none }
def BitsSignsWrongFalsely : Prop := bitsSignsRow.holds Try.pinned (OpenSpec.ofChange bitsSignsWrong)

/-- 'catnaplaw1.BitsCounts': WHATEVER THE INPUT: true; the input reads as it did. -/
def bitsCountsSpec : ChangeSpec := { name := "bitsCounts", fn := fun _ => fun
  | [d] => { results := [.lit (.bool true)], args := [d] }
  | _ => none }
def bitsCountsRow : OpenClaim := { program := "ytojfhebejfibkaa", sum := "ae6b901319feff3764b4146a3623fb590b8df81c06d187e8c4570a51f3339e12", func := "catnap/catnaplaw1.BitsCounts", spec := "bitsCounts", unfollowed := true, recurses := true, apart := false }
def BitsCountsSaid : Prop := bitsCountsRow.holds Try.pinned (OpenSpec.ofChange bitsCountsSpec)

/-- ITS FALSE NEIGHBOUR: 'it returns false'. Refute it at one input. -/
def bitsCountsWrong : ChangeSpec := { name := "bitsCounts", fn := fun _ => fun
  | [d] => { results := [.lit (.bool false)], args := [d] }
  | _ => none }
def BitsCountsWrongFalsely : Prop := bitsCountsRow.holds Try.pinned (OpenSpec.ofChange bitsCountsWrong)

/-- 'catnaplaw13.WordParams': WHATEVER THE INPUT: true; the input reads as it did. -/
def wordParamsSpec : ChangeSpec := { name := "wordParams", fn := fun _ => fun
  | [d1, d2] => { results := [.lit (.bool true)], args := [d1, d2] }
  | _ => none }
def wordParamsRow : OpenClaim := { program := "ytojfhebejfibkaa", sum := "ae6b901319feff3764b4146a3623fb590b8df81c06d187e8c4570a51f3339e12", func := "catnap/catnaplaw13.WordParams", spec := "wordParams", unfollowed := true, recurses := true, apart := false }
def WordParamsSaid : Prop := wordParamsRow.holds Try.pinned (OpenSpec.ofChange wordParamsSpec)

/-- ITS FALSE NEIGHBOUR: 'it returns false'. Refute it at one input. -/
def wordParamsWrong : ChangeSpec := { name := "wordParams", fn := fun _ => fun
  | [d1, d2] => { results := [.lit (.bool false)], args := [d1, d2] }
  | _ => none }
def WordParamsWrongFalsely : Prop := wordParamsRow.holds Try.pinned (OpenSpec.ofChange wordParamsWrong)

/-- 'catnaplaw13.WordSpread': WHATEVER THE INPUT: true; the input reads as it did. -/
def wordSpreadSpec : ChangeSpec := { name := "wordSpread", fn := fun _ => fun
  | [d1, d2, d3] => { results := [.lit (.bool true)], args := [d1, d2, d3] }
  | _ => none }
def wordSpreadRow : OpenClaim := { program := "ytojfhebejfibkaa", sum := "ae6b901319feff3764b4146a3623fb590b8df81c06d187e8c4570a51f3339e12", func := "catnap/catnaplaw13.WordSpread", spec := "wordSpread", unfollowed := true, recurses := true, apart := false }
def WordSpreadSaid : Prop := wordSpreadRow.holds Try.pinned (OpenSpec.ofChange wordSpreadSpec)

/-- ITS FALSE NEIGHBOUR: 'it returns false'. Refute it at one input. -/
def wordSpreadWrong : ChangeSpec := { name := "wordSpread", fn := fun _ => fun
  | [d1, d2, d3] => { results := [.lit (.bool false)], args := [d1, d2, d3] }
  | _ => none }
def WordSpreadWrongFalsely : Prop := wordSpreadRow.holds Try.pinned (OpenSpec.ofChange wordSpreadWrong)

/-- 'catnaplaw13.WordFields': WHATEVER THE INPUT: true; the input reads as it did. -/
def wordFieldsSpec : ChangeSpec := { name := "wordFields", fn := fun _ => fun
  | [d] => { results := [.lit (.bool true)], args := [d] }
  | _ => none }
def wordFieldsRow : OpenClaim := { program := "ytojfhebejfibkaa", sum := "ae6b901319feff3764b4146a3623fb590b8df81c06d187e8c4570a51f3339e12", func := "catnap/catnaplaw13.WordFields", spec := "wordFields", unfollowed := true, recurses := true, apart := false }
def WordFieldsSaid : Prop := wordFieldsRow.holds Try.pinned (OpenSpec.ofChange wordFieldsSpec)

/-- ITS FALSE NEIGHBOUR: 'it returns false'. Refute it at one input. -/
def wordFieldsWrong : ChangeSpec := { name := "wordFields", fn := fun _ => fun
  | [d] => { results := [.lit (.bool false)], args := [d] }
  | _ => none }
def WordFieldsWrongFalsely : Prop := wordFieldsRow.holds Try.pinned (OpenSpec.ofChange wordFieldsWrong)

/-- 'catnaplaw13.WordBack': WHATEVER THE INPUT: true; the input reads as it did. -/
def wordBackSpec : ChangeSpec := { name := "wordBack", fn := fun _ => fun
  | [d1, d2, d3, d4] => { results := [.lit (.bool true)], args := [d1, d2, d3, d4] }
  | _ => none }
def wordBackRow : OpenClaim := { program := "ytojfhebejfibkaa", sum := "ae6b901319feff3764b4146a3623fb590b8df81c06d187e8c4570a51f3339e12", func := "catnap/catnaplaw13.WordBack", spec := "wordBack", unfollowed := true, recurses := true, apart := false }
def WordBackSaid : Prop := wordBackRow.holds Try.pinned (OpenSpec.ofChange wordBackSpec)

/-- ITS FALSE NEIGHBOUR: 'it returns false'. Refute it at one input. -/
def wordBackWrong : ChangeSpec := { name := "wordBack", fn := fun _ => fun
  | [d1, d2, d3, d4] => { results := [.lit (.bool false)], args := [d1, d2, d3, d4] }
  | _ => none }
def WordBackWrongFalsely : Prop := wordBackRow.holds Try.pinned (OpenSpec.ofChange wordBackWrong)

/-- 'catnaplaw13.WordTells': WHATEVER THE INPUT: true; the input reads as it did. -/
def wordTellsSpec : ChangeSpec := { name := "wordTells", fn := fun _ => fun
  | [d1, d2, d3, d4] => { results := [.lit (.bool true)], args := [d1, d2, d3, d4] }
  | _ => none }
def wordTellsRow : OpenClaim := { program := "ytojfhebejfibkaa", sum := "ae6b901319feff3764b4146a3623fb590b8df81c06d187e8c4570a51f3339e12", func := "catnap/catnaplaw13.WordTells", spec := "wordTells", unfollowed := true, recurses := true, apart := false }
def WordTellsSaid : Prop := wordTellsRow.holds Try.pinned (OpenSpec.ofChange wordTellsSpec)

/-- ITS FALSE NEIGHBOUR: 'it returns false'. Refute it at one input. -/
def wordTellsWrong : ChangeSpec := { name := "wordTells", fn := fun _ => fun
  | [d1, d2, d3, d4] => { results := [.lit (.bool false)], args := [d1, d2, d3, d4] }
  | _ => none }
def WordTellsWrongFalsely : Prop := wordTellsRow.holds Try.pinned (OpenSpec.ofChange wordTellsWrong)

/- THE SECOND FORM. 'bulk': how many values and letters a reading holds, each counted each time it is reached (what is shared counts as often as it is met; a slice's spare places count too). A statement '..UptoSaid' is the law's where the arguments, and the package variables that the reading takes, are together of bulk at most 1048576: NARROWER than '..Said'. Prove '..Said' where nothing that the law and all that it calls make is longer than what came in: it says more and counts as full. Else prove '..UptoSaid'. A law counts once. -/
mutual
def uptoBulk {H : Type} : DataW H → Nat
  | .lit (.string bytes) => bytes.length + 1
  | .lit _ => 1
  | .nil => 1
  | .ptr d => uptoBulk d + 1
  | .slice elems spare => uptoBulkAll elems + uptoBulkAll spare + 1
  | .agg parts => uptoBulkAll parts + 1
  | .iface _ d => uptoBulk d + 1
  | .map entries => uptoBulkEntries entries + 1
  | .held _ => 1
def uptoBulkAll {H : Type} : List (DataW H) → Nat
  | [] => 0
  | d :: r => uptoBulk d + uptoBulkAll r
def uptoBulkEntries {H : Type} : List (Lit × DataW H) → Nat
  | [] => 0
  | x :: r => uptoBulkEntry x + uptoBulkEntries r
def uptoBulkEntry {H : Type} : Lit × DataW H → Nat
  | (.string bytes, d) => bytes.length + uptoBulk d + 1
  | (_, d) => uptoBulk d + 1
 end
def uptoSmall : (H : Type) → List (DataW H) → Bool := fun _ ds => decide (uptoBulkAll ds ≤ 1048576)
def OpenSpec.upto (s : _root_.Go.ChangeSpec) : _root_.Go.OpenSpec := { _root_.Go.OpenSpec.ofChange s with cond := some uptoSmall }

/-- 'catnaplaw1.BitsFields', WHERE WHAT IT READS IS OF BULK AT MOST 1048576: true; the input reads as it did. -/
def bitsFieldsUptoRow : OpenClaim := { program := "ytojfhebejfibkaa", sum := "ae6b901319feff3764b4146a3623fb590b8df81c06d187e8c4570a51f3339e12", func := "catnap/catnaplaw1.BitsFields", spec := "bitsFields", unfollowed := true, recurses := true, apart := false, narrowed := true }
def BitsFieldsUptoSaid : Prop := bitsFieldsUptoRow.holds Try.pinned (OpenSpec.upto bitsFieldsSpec)

/-- 'catnaplaw1.BitsTurns', WHERE WHAT IT READS IS OF BULK AT MOST 1048576: true; the input reads as it did. -/
def bitsTurnsUptoRow : OpenClaim := { program := "ytojfhebejfibkaa", sum := "ae6b901319feff3764b4146a3623fb590b8df81c06d187e8c4570a51f3339e12", func := "catnap/catnaplaw1.BitsTurns", spec := "bitsTurns", unfollowed := true, recurses := true, apart := false, narrowed := true }
def BitsTurnsUptoSaid : Prop := bitsTurnsUptoRow.holds Try.pinned (OpenSpec.upto bitsTurnsSpec)

/-- 'catnaplaw1.BitsTurned', WHERE WHAT IT READS IS OF BULK AT MOST 1048576: true; the input reads as it did. -/
def bitsTurnedUptoRow : OpenClaim := { program := "ytojfhebejfibkaa", sum := "ae6b901319feff3764b4146a3623fb590b8df81c06d187e8c4570a51f3339e12", func := "catnap/catnaplaw1.BitsTurned", spec := "bitsTurned", unfollowed := true, recurses := true, apart := false, narrowed := true }
def BitsTurnedUptoSaid : Prop := bitsTurnedUptoRow.holds Try.pinned (OpenSpec.upto bitsTurnedSpec)

/-- 'catnaplaw1.BitsParts', WHERE WHAT IT READS IS OF BULK AT MOST 1048576: true; the input reads as it did. -/
def bitsPartsUptoRow : OpenClaim := { program := "ytojfhebejfibkaa", sum := "ae6b901319feff3764b4146a3623fb590b8df81c06d187e8c4570a51f3339e12", func := "catnap/catnaplaw1.BitsParts", spec := "bitsParts", unfollowed := true, recurses := true, apart := false, narrowed := true }
def BitsPartsUptoSaid : Prop := bitsPartsUptoRow.holds Try.pinned (OpenSpec.upto bitsPartsSpec)

/-- 'catnaplaw1.BitsSigns', WHERE WHAT IT READS IS OF BULK AT MOST 1048576: true; the input reads as it did. -/
def bitsSignsUptoRow : OpenClaim := { program := "ytojfhebejfibkaa", sum := "ae6b901319feff3764b4146a3623fb590b8df81c06d187e8c4570a51f3339e12", func := "catnap/catnaplaw1.BitsSigns", spec := "bitsSigns", unfollowed := true, recurses := true, apart := false, narrowed := true }
def BitsSignsUptoSaid : Prop := bitsSignsUptoRow.holds Try.pinned (OpenSpec.upto bitsSignsSpec)

/-- 'catnaplaw1.BitsCounts', WHERE WHAT IT READS IS OF BULK AT MOST 1048576: true; the input reads as it did. -/
def bitsCountsUptoRow : OpenClaim := { program := "ytojfhebejfibkaa", sum := "ae6b901319feff3764b4146a3623fb590b8df81c06d187e8c4570a51f3339e12", func := "catnap/catnaplaw1.BitsCounts", spec := "bitsCounts", unfollowed := true, recurses := true, apart := false, narrowed := true }
def BitsCountsUptoSaid : Prop := bitsCountsUptoRow.holds Try.pinned (OpenSpec.upto bitsCountsSpec)

/-- 'catnaplaw13.WordParams', WHERE WHAT IT READS IS OF BULK AT MOST 1048576: true; the input reads as it did. -/
def wordParamsUptoRow : OpenClaim := { program := "ytojfhebejfibkaa", sum := "ae6b901319feff3764b4146a3623fb590b8df81c06d187e8c4570a51f3339e12", func := "catnap/catnaplaw13.WordParams", spec := "wordParams", unfollowed := true, recurses := true, apart := false, narrowed := true }
def WordParamsUptoSaid : Prop := wordParamsUptoRow.holds Try.pinned (OpenSpec.upto wordParamsSpec)

/-- 'catnaplaw13.WordSpread', WHERE WHAT IT READS IS OF BULK AT MOST 1048576: true; the input reads as it did. -/
def wordSpreadUptoRow : OpenClaim := { program := "ytojfhebejfibkaa", sum := "ae6b901319feff3764b4146a3623fb590b8df81c06d187e8c4570a51f3339e12", func := "catnap/catnaplaw13.WordSpread", spec := "wordSpread", unfollowed := true, recurses := true, apart := false, narrowed := true }
def WordSpreadUptoSaid : Prop := wordSpreadUptoRow.holds Try.pinned (OpenSpec.upto wordSpreadSpec)

/-- 'catnaplaw13.WordFields', WHERE WHAT IT READS IS OF BULK AT MOST 1048576: true; the input reads as it did. -/
def wordFieldsUptoRow : OpenClaim := { program := "ytojfhebejfibkaa", sum := "ae6b901319feff3764b4146a3623fb590b8df81c06d187e8c4570a51f3339e12", func := "catnap/catnaplaw13.WordFields", spec := "wordFields", unfollowed := true, recurses := true, apart := false, narrowed := true }
def WordFieldsUptoSaid : Prop := wordFieldsUptoRow.holds Try.pinned (OpenSpec.upto wordFieldsSpec)

/-- 'catnaplaw13.WordBack', WHERE WHAT IT READS IS OF BULK AT MOST 1048576: true; the input reads as it did. -/
def wordBackUptoRow : OpenClaim := { program := "ytojfhebejfibkaa", sum := "ae6b901319feff3764b4146a3623fb590b8df81c06d187e8c4570a51f3339e12", func := "catnap/catnaplaw13.WordBack", spec := "wordBack", unfollowed := true, recurses := true, apart := false, narrowed := true }
def WordBackUptoSaid : Prop := wordBackUptoRow.holds Try.pinned (OpenSpec.upto wordBackSpec)

/-- 'catnaplaw13.WordTells', WHERE WHAT IT READS IS OF BULK AT MOST 1048576: true; the input reads as it did. -/
def wordTellsUptoRow : OpenClaim := { program := "ytojfhebejfibkaa", sum := "ae6b901319feff3764b4146a3623fb590b8df81c06d187e8c4570a51f3339e12", func := "catnap/catnaplaw13.WordTells", spec := "wordTells", unfollowed := true, recurses := true, apart := false, narrowed := true }
def WordTellsUptoSaid : Prop := wordTellsUptoRow.holds Try.pinned (OpenSpec.upto wordTellsSpec)

end Rows
end Go.Proofs.Ytojfhebejfibkaa
