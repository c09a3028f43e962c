/-
  No cell of these rows narrows 'for every input' (looked for: loops, veiled, ifaces, maps, wideKeys, modest, calm, conditions, laid).
  DERIVED. THE GIVEN ROWS OF THIS SEAT. 8 by the template 'for every input the law returns true; each argument reads behind the call as it read before'; 0 by the template 'total and deterministic' (their statements: YtmgpfahafadldaaTotals.lean).
  GIVEN WITH THE SEED: the statements are not yours to turn. If you find one false, say at which input.
  Laid BY PROGRAM, IN A SANDBOX (cutbox-rows.mjs): the forced cells as the released guide's own fill.sh prints them over the translation 959a03ad52b0ae91… (all of the seat's roots in one cut). By AI agents, Wed Nov 11 2026. No macro, syntax, notation, axiom, sorry.
-/
import Derived.Test.YtmgpfahafadldaaChecked
import GoSem.Claim
import GoSem.ClaimJoined
import GoSem.ClaimMapViews
import Derived.JoinedTies
import Derived.KernelRfl
namespace Go.Proofs.Ytmgpfahafadldaa
/- THE CELL 'sum', in the pinned program and in every row, IS THE sha256 OF THE DUMP (.gsa) THAT YtmgpfahafadldaaProg.lean LOADS. Nothing in Lean hashes anything: it is a label: what it is worth is what the hold of that sum in a sandbox is worth. -/
noncomputable def Try.pinned : Pinned := { name := "ytmgpfahafadldaa", sum := "959a03ad52b0ae91451778ee7a3907f987e544ed59363d76251b00fc73427223", checked := Try.checked }
namespace Rows
def none {H : Type} : Left H := { results := [], args := [] }

/-- 'catnaplaw2.RateFits': WHATEVER THE INPUT: true; the input reads as it did. -/
def rateFitsSpec : ChangeSpec := { name := "rateFits", fn := fun _ => fun
  | [d1, d2, d3] => { results := [.lit (.bool true)], args := [d1, d2, d3] }
  | _ => none }
def rateFitsRow : OpenClaim := { program := "ytmgpfahafadldaa", sum := "959a03ad52b0ae91451778ee7a3907f987e544ed59363d76251b00fc73427223", func := "catnap/catnaplaw2.RateFits", spec := "rateFits", unfollowed := true, recurses := true, apart := false }
def RateFitsSaid : Prop := rateFitsRow.holds Try.pinned (OpenSpec.ofChange rateFitsSpec)

/-- ITS FALSE NEIGHBOUR: 'it returns false'. Refute it at one input. -/
def rateFitsWrong : ChangeSpec := { name := "rateFits", fn := fun _ => fun
  | [d1, d2, d3] => { results := [.lit (.bool false)], args := [d1, d2, d3] }
  | _ => none }
def RateFitsWrongFalsely : Prop := rateFitsRow.holds Try.pinned (OpenSpec.ofChange rateFitsWrong)

/-- 'catnaplaw2.RateSteps': WHATEVER THE INPUT: true; the input reads as it did. -/
def rateStepsSpec : ChangeSpec := { name := "rateSteps", fn := fun _ => fun
  | [d1, d2] => { results := [.lit (.bool true)], args := [d1, d2] }
  | _ => none }
def rateStepsRow : OpenClaim := { program := "ytmgpfahafadldaa", sum := "959a03ad52b0ae91451778ee7a3907f987e544ed59363d76251b00fc73427223", func := "catnap/catnaplaw2.RateSteps", spec := "rateSteps", unfollowed := true, recurses := true, apart := false }
def RateStepsSaid : Prop := rateStepsRow.holds Try.pinned (OpenSpec.ofChange rateStepsSpec)

/-- ITS FALSE NEIGHBOUR: 'it returns false'. Refute it at one input. -/
def rateStepsWrong : ChangeSpec := { name := "rateSteps", fn := fun _ => fun
  | [d1, d2] => { results := [.lit (.bool false)], args := [d1, d2] }
  | _ => none }
def RateStepsWrongFalsely : Prop := rateStepsRow.holds Try.pinned (OpenSpec.ofChange rateStepsWrong)

/-- 'catnaplaw2.RateDivides': WHATEVER THE INPUT: true; the input reads as it did. -/
def rateDividesSpec : ChangeSpec := { name := "rateDivides", fn := fun _ => fun
  | [d1, d2] => { results := [.lit (.bool true)], args := [d1, d2] }
  | _ => none }
def rateDividesRow : OpenClaim := { program := "ytmgpfahafadldaa", sum := "959a03ad52b0ae91451778ee7a3907f987e544ed59363d76251b00fc73427223", func := "catnap/catnaplaw2.RateDivides", spec := "rateDivides", unfollowed := true, recurses := true, apart := false }
def RateDividesSaid : Prop := rateDividesRow.holds Try.pinned (OpenSpec.ofChange rateDividesSpec)

/-- ITS FALSE NEIGHBOUR: 'it returns false'. Refute it at one input. -/
def rateDividesWrong : ChangeSpec := { name := "rateDivides", fn := fun _ => fun
  | [d1, d2] => { results := [.lit (.bool false)], args := [d1, d2] }
  | _ => none }
def RateDividesWrongFalsely : Prop := rateDividesRow.holds Try.pinned (OpenSpec.ofChange rateDividesWrong)

/-- 'catnaplaw2.RateScales': WHATEVER THE INPUT: true; the input reads as it did. -/
def rateScalesSpec : ChangeSpec := { name := "rateScales", fn := fun _ => fun
  | [d1, d2, d3] => { results := [.lit (.bool true)], args := [d1, d2, d3] }
  | _ => none }
def rateScalesRow : OpenClaim := { program := "ytmgpfahafadldaa", sum := "959a03ad52b0ae91451778ee7a3907f987e544ed59363d76251b00fc73427223", func := "catnap/catnaplaw2.RateScales", spec := "rateScales", unfollowed := true, recurses := true, apart := false }
def RateScalesSaid : Prop := rateScalesRow.holds Try.pinned (OpenSpec.ofChange rateScalesSpec)

/-- ITS FALSE NEIGHBOUR: 'it returns false'. Refute it at one input. -/
def rateScalesWrong : ChangeSpec := { name := "rateScales", fn := fun _ => fun
  | [d1, d2, d3] => { results := [.lit (.bool false)], args := [d1, d2, d3] }
  | _ => none }
def RateScalesWrongFalsely : Prop := rateScalesRow.holds Try.pinned (OpenSpec.ofChange rateScalesWrong)

/-- 'catnaplaw2.RateMonotone': WHATEVER THE INPUT: true; the input reads as it did. -/
def rateMonotoneSpec : ChangeSpec := { name := "rateMonotone", fn := fun _ => fun
  | [d1, d2, d3, d4] => { results := [.lit (.bool true)], args := [d1, d2, d3, d4] }
  | _ => none }
def rateMonotoneRow : OpenClaim := { program := "ytmgpfahafadldaa", sum := "959a03ad52b0ae91451778ee7a3907f987e544ed59363d76251b00fc73427223", func := "catnap/catnaplaw2.RateMonotone", spec := "rateMonotone", unfollowed := true, recurses := true, apart := false }
def RateMonotoneSaid : Prop := rateMonotoneRow.holds Try.pinned (OpenSpec.ofChange rateMonotoneSpec)

/-- ITS FALSE NEIGHBOUR: 'it returns false'. Refute it at one input. -/
def rateMonotoneWrong : ChangeSpec := { name := "rateMonotone", fn := fun _ => fun
  | [d1, d2, d3, d4] => { results := [.lit (.bool false)], args := [d1, d2, d3, d4] }
  | _ => none }
def RateMonotoneWrongFalsely : Prop := rateMonotoneRow.holds Try.pinned (OpenSpec.ofChange rateMonotoneWrong)

/-- 'catnaplaw2.RateCommon': WHATEVER THE INPUT: true; the input reads as it did. -/
def rateCommonSpec : ChangeSpec := { name := "rateCommon", fn := fun _ => fun
  | [d1, d2, d3, d4] => { results := [.lit (.bool true)], args := [d1, d2, d3, d4] }
  | _ => none }
def rateCommonRow : OpenClaim := { program := "ytmgpfahafadldaa", sum := "959a03ad52b0ae91451778ee7a3907f987e544ed59363d76251b00fc73427223", func := "catnap/catnaplaw2.RateCommon", spec := "rateCommon", unfollowed := true, recurses := true, apart := false }
def RateCommonSaid : Prop := rateCommonRow.holds Try.pinned (OpenSpec.ofChange rateCommonSpec)

/-- ITS FALSE NEIGHBOUR: 'it returns false'. Refute it at one input. -/
def rateCommonWrong : ChangeSpec := { name := "rateCommon", fn := fun _ => fun
  | [d1, d2, d3, d4] => { results := [.lit (.bool false)], args := [d1, d2, d3, d4] }
  | _ => none }
def RateCommonWrongFalsely : Prop := rateCommonRow.holds Try.pinned (OpenSpec.ofChange rateCommonWrong)

/-- 'catnaplaw2.RateTells': WHATEVER THE INPUT: true; the input reads as it did. -/
def rateTellsSpec : ChangeSpec := { name := "rateTells", fn := fun _ => fun
  | [d1, d2, d3, d4] => { results := [.lit (.bool true)], args := [d1, d2, d3, d4] }
  | _ => none }
def rateTellsRow : OpenClaim := { program := "ytmgpfahafadldaa", sum := "959a03ad52b0ae91451778ee7a3907f987e544ed59363d76251b00fc73427223", func := "catnap/catnaplaw2.RateTells", spec := "rateTells", unfollowed := true, recurses := true, apart := false }
def RateTellsSaid : Prop := rateTellsRow.holds Try.pinned (OpenSpec.ofChange rateTellsSpec)

/-- ITS FALSE NEIGHBOUR: 'it returns false'. Refute it at one input. -/
def rateTellsWrong : ChangeSpec := { name := "rateTells", fn := fun _ => fun
  | [d1, d2, d3, d4] => { results := [.lit (.bool false)], args := [d1, d2, d3, d4] }
  | _ => none }
def RateTellsWrongFalsely : Prop := rateTellsRow.holds Try.pinned (OpenSpec.ofChange rateTellsWrong)

/-- 'catnaplaw2.RateWhole': WHATEVER THE INPUT: true; the input reads as it did. -/
def rateWholeSpec : ChangeSpec := { name := "rateWhole", fn := fun _ => fun
  | [d1, d2] => { results := [.lit (.bool true)], args := [d1, d2] }
  | _ => none }
def rateWholeRow : OpenClaim := { program := "ytmgpfahafadldaa", sum := "959a03ad52b0ae91451778ee7a3907f987e544ed59363d76251b00fc73427223", func := "catnap/catnaplaw2.RateWhole", spec := "rateWhole", unfollowed := true, recurses := true, apart := false }
def RateWholeSaid : Prop := rateWholeRow.holds Try.pinned (OpenSpec.ofChange rateWholeSpec)

/-- ITS FALSE NEIGHBOUR: 'it returns false'. Refute it at one input. -/
def rateWholeWrong : ChangeSpec := { name := "rateWhole", fn := fun _ => fun
  | [d1, d2] => { results := [.lit (.bool false)], args := [d1, d2] }
  | _ => none }
def RateWholeWrongFalsely : Prop := rateWholeRow.holds Try.pinned (OpenSpec.ofChange rateWholeWrong)

/- THE SECOND FORM. 'bulk': how many values and letters a reading holds, each counted each time it is reached (what is shared counts as often as it is met; a slice's spare places count too). A statement '..UptoSaid' is the law's where the arguments, and the package variables that the reading takes, are together of bulk at most 1048576: NARROWER than '..Said'. Prove '..Said' where nothing that the law and all that it calls make is longer than what came in: it says more and counts as full. Else prove '..UptoSaid'. A law counts once. -/
mutual
def uptoBulk {H : Type} : DataW H → Nat
  | .lit (.string bytes) => bytes.length + 1
  | .lit _ => 1
  | .nil => 1
  | .ptr d => uptoBulk d + 1
  | .slice elems spare => uptoBulkAll elems + uptoBulkAll spare + 1
  | .agg parts => uptoBulkAll parts + 1
  | .iface _ d => uptoBulk d + 1
  | .map entries => uptoBulkEntries entries + 1
  | .held _ => 1
def uptoBulkAll {H : Type} : List (DataW H) → Nat
  | [] => 0
  | d :: r => uptoBulk d + uptoBulkAll r
def uptoBulkEntries {H : Type} : List (Lit × DataW H) → Nat
  | [] => 0
  | x :: r => uptoBulkEntry x + uptoBulkEntries r
def uptoBulkEntry {H : Type} : Lit × DataW H → Nat
  | (.string bytes, d) => bytes.length + uptoBulk d + 1
  | (_, d) => uptoBulk d + 1
 end
def uptoSmall : (H : Type) → List (DataW H) → Bool := fun _ ds => decide (uptoBulkAll ds ≤ 1048576)
def OpenSpec.upto (s : _root_.Go.ChangeSpec) : _root_.Go.OpenSpec := { _root_.Go.OpenSpec.ofChange s with cond := some uptoSmall }

/-- 'catnaplaw2.RateFits', WHERE WHAT IT READS IS OF BULK AT MOST 1048576: true; the input reads as it did. -/
def rateFitsUptoRow : OpenClaim := { program := "ytmgpfahafadldaa", sum := "959a03ad52b0ae91451778ee7a3907f987e544ed59363d76251b00fc73427223", func := "catnap/catnaplaw2.RateFits", spec := "rateFits", unfollowed := true, recurses := true, apart := false, narrowed := true }
def RateFitsUptoSaid : Prop := rateFitsUptoRow.holds Try.pinned (OpenSpec.upto rateFitsSpec)

/-- 'catnaplaw2.RateSteps', WHERE WHAT IT READS IS OF BULK AT MOST 1048576: true; the input reads as it did. -/
def rateStepsUptoRow : OpenClaim := { program := "ytmgpfahafadldaa", sum := "959a03ad52b0ae91451778ee7a3907f987e544ed59363d76251b00fc73427223", func := "catnap/catnaplaw2.RateSteps", spec := "rateSteps", unfollowed := true, recurses := true, apart := false, narrowed := true }
def RateStepsUptoSaid : Prop := rateStepsUptoRow.holds Try.pinned (OpenSpec.upto rateStepsSpec)

/-- 'catnaplaw2.RateDivides', WHERE WHAT IT READS IS OF BULK AT MOST 1048576: true; the input reads as it did. -/
def rateDividesUptoRow : OpenClaim := { program := "ytmgpfahafadldaa", sum := "959a03ad52b0ae91451778ee7a3907f987e544ed59363d76251b00fc73427223", func := "catnap/catnaplaw2.RateDivides", spec := "rateDivides", unfollowed := true, recurses := true, apart := false, narrowed := true }
def RateDividesUptoSaid : Prop := rateDividesUptoRow.holds Try.pinned (OpenSpec.upto rateDividesSpec)

/-- 'catnaplaw2.RateScales', WHERE WHAT IT READS IS OF BULK AT MOST 1048576: true; the input reads as it did. -/
def rateScalesUptoRow : OpenClaim := { program := "ytmgpfahafadldaa", sum := "959a03ad52b0ae91451778ee7a3907f987e544ed59363d76251b00fc73427223", func := "catnap/catnaplaw2.RateScales", spec := "rateScales", unfollowed := true, recurses := true, apart := false, narrowed := true }
def RateScalesUptoSaid : Prop := rateScalesUptoRow.holds Try.pinned (OpenSpec.upto rateScalesSpec)

/-- 'catnaplaw2.RateMonotone', WHERE WHAT IT READS IS OF BULK AT MOST 1048576: true; the input reads as it did. -/
def rateMonotoneUptoRow : OpenClaim := { program := "ytmgpfahafadldaa", sum := "959a03ad52b0ae91451778ee7a3907f987e544ed59363d76251b00fc73427223", func := "catnap/catnaplaw2.RateMonotone", spec := "rateMonotone", unfollowed := true, recurses := true, apart := false, narrowed := true }
def RateMonotoneUptoSaid : Prop := rateMonotoneUptoRow.holds Try.pinned (OpenSpec.upto rateMonotoneSpec)

/-- 'catnaplaw2.RateCommon', WHERE WHAT IT READS IS OF BULK AT MOST 1048576: true; the input reads as it did. -/
def rateCommonUptoRow : OpenClaim := { program := "ytmgpfahafadldaa", sum := "959a03ad52b0ae91451778ee7a3907f987e544ed59363d76251b00fc73427223", func := "catnap/catnaplaw2.RateCommon", spec := "rateCommon", unfollowed := true, recurses := true, apart := false, narrowed := true }
def RateCommonUptoSaid : Prop := rateCommonUptoRow.holds Try.pinned (OpenSpec.upto rateCommonSpec)

/-- 'catnaplaw2.RateTells', WHERE WHAT IT READS IS OF BULK AT MOST 1048576: true; the input reads as it did. -/
def rateTellsUptoRow : OpenClaim := { program := "ytmgpfahafadldaa", sum := "959a03ad52b0ae91451778ee7a3907f987e544ed59363d76251b00fc73427223", func := "catnap/catnaplaw2.RateTells", spec := "rateTells", unfollowed := true, recurses := true, apart := false, narrowed := true }
def RateTellsUptoSaid : Prop := rateTellsUptoRow.holds Try.pinned (OpenSpec.upto rateTellsSpec)

/-- 'catnaplaw2.RateWhole', WHERE WHAT IT READS IS OF BULK AT MOST 1048576: true; the input reads as it did. -/
def rateWholeUptoRow : OpenClaim := { program := "ytmgpfahafadldaa", sum := "959a03ad52b0ae91451778ee7a3907f987e544ed59363d76251b00fc73427223", func := "catnap/catnaplaw2.RateWhole", spec := "rateWhole", unfollowed := true, recurses := true, apart := false, narrowed := true }
def RateWholeUptoSaid : Prop := rateWholeUptoRow.holds Try.pinned (OpenSpec.upto rateWholeSpec)

end Rows
end Go.Proofs.Ytmgpfahafadldaa
