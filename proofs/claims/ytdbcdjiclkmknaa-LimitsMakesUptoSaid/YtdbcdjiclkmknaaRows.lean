/-
  NARROWER THAN 'FOR EVERY INPUT', by the rows' own cells (each row's printed sentence says how): LimitsMakes: loops · LimitsGaps: loops · LimitsInside: loops · LimitsCentred: loops · LimitsApart: loops.
  DERIVED. THE GIVEN ROWS OF THIS SEAT. 5 by the template 'for every input the law returns true; each argument reads behind the call as it read before'; 0 by the template 'total and deterministic' (their statements: YtdbcdjiclkmknaaTotals.lean).
  GIVEN WITH THE SEED: the statements are not yours to turn. If you find one false, say at which input.
  Laid BY PROGRAM, IN A SANDBOX (cutbox-rows.mjs): the forced cells as the released guide's own fill.sh prints them over the translation d35ef5e959e0d50f… (all of the seat's roots in one cut). By AI agents, Wed Nov 11 2026. No macro, syntax, notation, axiom, sorry.
-/
import Derived.Test.YtdbcdjiclkmknaaChecked
import GoSem.Claim
import GoSem.ClaimJoined
import GoSem.ClaimMapViews
import Derived.JoinedTies
import Derived.KernelRfl
namespace Go.Proofs.Ytdbcdjiclkmknaa
/- THE CELL 'sum', in the pinned program and in every row, IS THE sha256 OF THE DUMP (.gsa) THAT YtdbcdjiclkmknaaProg.lean LOADS. Nothing in Lean hashes anything: it is a label: what it is worth is what the hold of that sum in a sandbox is worth. -/
noncomputable def Try.pinned : Pinned := { name := "ytdbcdjiclkmknaa", sum := "d35ef5e959e0d50f900d3debc9913e809a9b83f7585f2209954a0ce084b998f3", checked := Try.checked }
namespace Rows
def none {H : Type} : Left H := { results := [], args := [] }

/-- 'vinculumlaw35.LimitsMakes': WHATEVER THE INPUT: true; the input reads as it did. -/
def limitsMakesSpec : ChangeSpec := { name := "limitsMakes", fn := fun _ => fun
  | [d] => { results := [.lit (.bool true)], args := [d] }
  | _ => none }
def limitsMakesRow : OpenClaim := { program := "ytdbcdjiclkmknaa", sum := "d35ef5e959e0d50f900d3debc9913e809a9b83f7585f2209954a0ce084b998f3", func := "vinculum/vinculumlaw35.LimitsMakes", spec := "limitsMakes", unfollowed := true, recurses := true, loops := true, apart := false }
def LimitsMakesSaid : Prop := limitsMakesRow.holds Try.pinned (OpenSpec.ofChange limitsMakesSpec)

/-- ITS FALSE NEIGHBOUR: 'it returns false'. Refute it at one input. -/
def limitsMakesWrong : ChangeSpec := { name := "limitsMakes", fn := fun _ => fun
  | [d] => { results := [.lit (.bool false)], args := [d] }
  | _ => none }
def LimitsMakesWrongFalsely : Prop := limitsMakesRow.holds Try.pinned (OpenSpec.ofChange limitsMakesWrong)

/-- 'vinculumlaw35.LimitsGaps': WHATEVER THE INPUT: true; the input reads as it did. -/
def limitsGapsSpec : ChangeSpec := { name := "limitsGaps", fn := fun _ => fun
  | [d] => { results := [.lit (.bool true)], args := [d] }
  | _ => none }
def limitsGapsRow : OpenClaim := { program := "ytdbcdjiclkmknaa", sum := "d35ef5e959e0d50f900d3debc9913e809a9b83f7585f2209954a0ce084b998f3", func := "vinculum/vinculumlaw35.LimitsGaps", spec := "limitsGaps", unfollowed := true, recurses := true, loops := true, apart := false }
def LimitsGapsSaid : Prop := limitsGapsRow.holds Try.pinned (OpenSpec.ofChange limitsGapsSpec)

/-- ITS FALSE NEIGHBOUR: 'it returns false'. Refute it at one input. -/
def limitsGapsWrong : ChangeSpec := { name := "limitsGaps", fn := fun _ => fun
  | [d] => { results := [.lit (.bool false)], args := [d] }
  | _ => none }
def LimitsGapsWrongFalsely : Prop := limitsGapsRow.holds Try.pinned (OpenSpec.ofChange limitsGapsWrong)

/-- 'vinculumlaw35.LimitsInside': WHATEVER THE INPUT: true; the input reads as it did. -/
def limitsInsideSpec : ChangeSpec := { name := "limitsInside", fn := fun _ => fun
  | [d] => { results := [.lit (.bool true)], args := [d] }
  | _ => none }
def limitsInsideRow : OpenClaim := { program := "ytdbcdjiclkmknaa", sum := "d35ef5e959e0d50f900d3debc9913e809a9b83f7585f2209954a0ce084b998f3", func := "vinculum/vinculumlaw35.LimitsInside", spec := "limitsInside", unfollowed := true, recurses := true, loops := true, apart := false }
def LimitsInsideSaid : Prop := limitsInsideRow.holds Try.pinned (OpenSpec.ofChange limitsInsideSpec)

/-- ITS FALSE NEIGHBOUR: 'it returns false'. Refute it at one input. -/
def limitsInsideWrong : ChangeSpec := { name := "limitsInside", fn := fun _ => fun
  | [d] => { results := [.lit (.bool false)], args := [d] }
  | _ => none }
def LimitsInsideWrongFalsely : Prop := limitsInsideRow.holds Try.pinned (OpenSpec.ofChange limitsInsideWrong)

/-- 'vinculumlaw35.LimitsCentred': WHATEVER THE INPUT: true; the input reads as it did. -/
def limitsCentredSpec : ChangeSpec := { name := "limitsCentred", fn := fun _ => fun
  | [d] => { results := [.lit (.bool true)], args := [d] }
  | _ => none }
def limitsCentredRow : OpenClaim := { program := "ytdbcdjiclkmknaa", sum := "d35ef5e959e0d50f900d3debc9913e809a9b83f7585f2209954a0ce084b998f3", func := "vinculum/vinculumlaw35.LimitsCentred", spec := "limitsCentred", unfollowed := true, recurses := true, loops := true, apart := false }
def LimitsCentredSaid : Prop := limitsCentredRow.holds Try.pinned (OpenSpec.ofChange limitsCentredSpec)

/-- ITS FALSE NEIGHBOUR: 'it returns false'. Refute it at one input. -/
def limitsCentredWrong : ChangeSpec := { name := "limitsCentred", fn := fun _ => fun
  | [d] => { results := [.lit (.bool false)], args := [d] }
  | _ => none }
def LimitsCentredWrongFalsely : Prop := limitsCentredRow.holds Try.pinned (OpenSpec.ofChange limitsCentredWrong)

/-- 'vinculumlaw35.LimitsApart': WHATEVER THE INPUT: true; the input reads as it did. -/
def limitsApartSpec : ChangeSpec := { name := "limitsApart", fn := fun _ => fun
  | [d] => { results := [.lit (.bool true)], args := [d] }
  | _ => none }
def limitsApartRow : OpenClaim := { program := "ytdbcdjiclkmknaa", sum := "d35ef5e959e0d50f900d3debc9913e809a9b83f7585f2209954a0ce084b998f3", func := "vinculum/vinculumlaw35.LimitsApart", spec := "limitsApart", unfollowed := true, recurses := true, loops := true, apart := false }
def LimitsApartSaid : Prop := limitsApartRow.holds Try.pinned (OpenSpec.ofChange limitsApartSpec)

/-- ITS FALSE NEIGHBOUR: 'it returns false'. Refute it at one input. -/
def limitsApartWrong : ChangeSpec := { name := "limitsApart", fn := fun _ => fun
  | [d] => { results := [.lit (.bool false)], args := [d] }
  | _ => none }
def LimitsApartWrongFalsely : Prop := limitsApartRow.holds Try.pinned (OpenSpec.ofChange limitsApartWrong)

/- THE SECOND FORM. 'bulk': how many values and letters a reading holds, each counted each time it is reached (what is shared counts as often as it is met; a slice's spare places count too). A statement '..UptoSaid' is the law's where the arguments, and the package variables that the reading takes, are together of bulk at most 1048576: NARROWER than '..Said'. Prove '..Said' where nothing that the law and all that it calls make is longer than what came in: it says more and counts as full. Else prove '..UptoSaid'. A law counts once. -/
mutual
def uptoBulk {H : Type} : DataW H → Nat
  | .lit (.string bytes) => bytes.length + 1
  | .lit _ => 1
  | .nil => 1
  | .ptr d => uptoBulk d + 1
  | .slice elems spare => uptoBulkAll elems + uptoBulkAll spare + 1
  | .agg parts => uptoBulkAll parts + 1
  | .iface _ d => uptoBulk d + 1
  | .map entries => uptoBulkEntries entries + 1
  | .held _ => 1
def uptoBulkAll {H : Type} : List (DataW H) → Nat
  | [] => 0
  | d :: r => uptoBulk d + uptoBulkAll r
def uptoBulkEntries {H : Type} : List (Lit × DataW H) → Nat
  | [] => 0
  | x :: r => uptoBulkEntry x + uptoBulkEntries r
def uptoBulkEntry {H : Type} : Lit × DataW H → Nat
  | (.string bytes, d) => bytes.length + uptoBulk d + 1
  | (_, d) => uptoBulk d + 1
 end
def uptoSmall : (H : Type) → List (DataW H) → Bool := fun _ ds => decide (uptoBulkAll ds ≤ 1048576)
def OpenSpec.upto (s : _root_.Go.ChangeSpec) : _root_.Go.OpenSpec := { _root_.Go.OpenSpec.ofChange s with cond := some uptoSmall }

/-- 'vinculumlaw35.LimitsMakes', WHERE WHAT IT READS IS OF BULK AT MOST 1048576: true; the input reads as it did. -/
def limitsMakesUptoRow : OpenClaim := { program := "ytdbcdjiclkmknaa", sum := "d35ef5e959e0d50f900d3debc9913e809a9b83f7585f2209954a0ce084b998f3", func := "vinculum/vinculumlaw35.LimitsMakes", spec := "limitsMakes", unfollowed := true, recurses := true, loops := true, apart := false, narrowed := true }
def LimitsMakesUptoSaid : Prop := limitsMakesUptoRow.holds Try.pinned (OpenSpec.upto limitsMakesSpec)

/-- 'vinculumlaw35.LimitsGaps', WHERE WHAT IT READS IS OF BULK AT MOST 1048576: true; the input reads as it did. -/
def limitsGapsUptoRow : OpenClaim := { program := "ytdbcdjiclkmknaa", sum := "d35ef5e959e0d50f900d3debc9913e809a9b83f7585f2209954a0ce084b998f3", func := "vinculum/vinculumlaw35.LimitsGaps", spec := "limitsGaps", unfollowed := true, recurses := true, loops := true, apart := false, narrowed := true }
def LimitsGapsUptoSaid : Prop := limitsGapsUptoRow.holds Try.pinned (OpenSpec.upto limitsGapsSpec)

/-- 'vinculumlaw35.LimitsInside', WHERE WHAT IT READS IS OF BULK AT MOST 1048576: true; the input reads as it did. -/
def limitsInsideUptoRow : OpenClaim := { program := "ytdbcdjiclkmknaa", sum := "d35ef5e959e0d50f900d3debc9913e809a9b83f7585f2209954a0ce084b998f3", func := "vinculum/vinculumlaw35.LimitsInside", spec := "limitsInside", unfollowed := true, recurses := true, loops := true, apart := false, narrowed := true }
def LimitsInsideUptoSaid : Prop := limitsInsideUptoRow.holds Try.pinned (OpenSpec.upto limitsInsideSpec)

/-- 'vinculumlaw35.LimitsCentred', WHERE WHAT IT READS IS OF BULK AT MOST 1048576: true; the input reads as it did. -/
def limitsCentredUptoRow : OpenClaim := { program := "ytdbcdjiclkmknaa", sum := "d35ef5e959e0d50f900d3debc9913e809a9b83f7585f2209954a0ce084b998f3", func := "vinculum/vinculumlaw35.LimitsCentred", spec := "limitsCentred", unfollowed := true, recurses := true, loops := true, apart := false, narrowed := true }
def LimitsCentredUptoSaid : Prop := limitsCentredUptoRow.holds Try.pinned (OpenSpec.upto limitsCentredSpec)

/-- 'vinculumlaw35.LimitsApart', WHERE WHAT IT READS IS OF BULK AT MOST 1048576: true; the input reads as it did. -/
def limitsApartUptoRow : OpenClaim := { program := "ytdbcdjiclkmknaa", sum := "d35ef5e959e0d50f900d3debc9913e809a9b83f7585f2209954a0ce084b998f3", func := "vinculum/vinculumlaw35.LimitsApart", spec := "limitsApart", unfollowed := true, recurses := true, loops := true, apart := false, narrowed := true }
def LimitsApartUptoSaid : Prop := limitsApartUptoRow.holds Try.pinned (OpenSpec.upto limitsApartSpec)

end Rows
end Go.Proofs.Ytdbcdjiclkmknaa
