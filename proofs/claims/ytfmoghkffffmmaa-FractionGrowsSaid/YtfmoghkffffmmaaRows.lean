/-
  NARROWER THAN 'FOR EVERY INPUT', by the rows' own cells (each row's printed sentence says how): FractionMakes: loops · FractionGaps: loops · FractionCentred: loops · FractionInside: loops · FractionGrows: loops · FractionKeeps: loops.
  DERIVED. THE GIVEN ROWS OF THIS SEAT. 6 by the template 'for every input the law returns true; each argument reads behind the call as it read before'; 0 by the template 'total and deterministic' (their statements: YtfmoghkffffmmaaTotals.lean).
  GIVEN WITH THE SEED: the statements are not yours to turn. If you find one false, say at which input.
  Laid BY PROGRAM, IN A SANDBOX (cutbox-rows.mjs): the forced cells as the released guide's own fill.sh prints them over the translation 446559fad1bde557… (all of the seat's roots in one cut). By AI agents, Wed Nov 11 2026. No macro, syntax, notation, axiom, sorry.
-/
import Derived.Test.YtfmoghkffffmmaaChecked
import GoSem.Claim
import GoSem.ClaimJoined
import GoSem.ClaimMapViews
import Derived.JoinedTies
import Derived.KernelRfl
namespace Go.Proofs.Ytfmoghkffffmmaa
/- THE CELL 'sum', in the pinned program and in every row, IS THE sha256 OF THE DUMP (.gsa) THAT YtfmoghkffffmmaaProg.lean LOADS. Nothing in Lean hashes anything: it is a label: what it is worth is what the hold of that sum in a sandbox is worth. -/
noncomputable def Try.pinned : Pinned := { name := "ytfmoghkffffmmaa", sum := "446559fad1bde557f8b9bfc13bbb63dc2f3f6e7f35cb0f1b216bfbe52cd3a5f0", checked := Try.checked }
namespace Rows
def none {H : Type} : Left H := { results := [], args := [] }

/-- 'vinculumlaw32.FractionMakes': WHATEVER THE INPUT: true; the input reads as it did. -/
def fractionMakesSpec : ChangeSpec := { name := "fractionMakes", fn := fun _ => fun
  | [d] => { results := [.lit (.bool true)], args := [d] }
  | _ => none }
def fractionMakesRow : OpenClaim := { program := "ytfmoghkffffmmaa", sum := "446559fad1bde557f8b9bfc13bbb63dc2f3f6e7f35cb0f1b216bfbe52cd3a5f0", func := "vinculum/vinculumlaw32.FractionMakes", spec := "fractionMakes", unfollowed := true, recurses := true, loops := true, apart := false }
def FractionMakesSaid : Prop := fractionMakesRow.holds Try.pinned (OpenSpec.ofChange fractionMakesSpec)

/-- ITS FALSE NEIGHBOUR: 'it returns false'. Refute it at one input. -/
def fractionMakesWrong : ChangeSpec := { name := "fractionMakes", fn := fun _ => fun
  | [d] => { results := [.lit (.bool false)], args := [d] }
  | _ => none }
def FractionMakesWrongFalsely : Prop := fractionMakesRow.holds Try.pinned (OpenSpec.ofChange fractionMakesWrong)

/-- 'vinculumlaw32.FractionGaps': WHATEVER THE INPUT: true; the input reads as it did. -/
def fractionGapsSpec : ChangeSpec := { name := "fractionGaps", fn := fun _ => fun
  | [d] => { results := [.lit (.bool true)], args := [d] }
  | _ => none }
def fractionGapsRow : OpenClaim := { program := "ytfmoghkffffmmaa", sum := "446559fad1bde557f8b9bfc13bbb63dc2f3f6e7f35cb0f1b216bfbe52cd3a5f0", func := "vinculum/vinculumlaw32.FractionGaps", spec := "fractionGaps", unfollowed := true, recurses := true, loops := true, apart := false }
def FractionGapsSaid : Prop := fractionGapsRow.holds Try.pinned (OpenSpec.ofChange fractionGapsSpec)

/-- ITS FALSE NEIGHBOUR: 'it returns false'. Refute it at one input. -/
def fractionGapsWrong : ChangeSpec := { name := "fractionGaps", fn := fun _ => fun
  | [d] => { results := [.lit (.bool false)], args := [d] }
  | _ => none }
def FractionGapsWrongFalsely : Prop := fractionGapsRow.holds Try.pinned (OpenSpec.ofChange fractionGapsWrong)

/-- 'vinculumlaw32.FractionCentred': WHATEVER THE INPUT: true; the input reads as it did. -/
def fractionCentredSpec : ChangeSpec := { name := "fractionCentred", fn := fun _ => fun
  | [d] => { results := [.lit (.bool true)], args := [d] }
  | _ => none }
def fractionCentredRow : OpenClaim := { program := "ytfmoghkffffmmaa", sum := "446559fad1bde557f8b9bfc13bbb63dc2f3f6e7f35cb0f1b216bfbe52cd3a5f0", func := "vinculum/vinculumlaw32.FractionCentred", spec := "fractionCentred", unfollowed := true, recurses := true, loops := true, apart := false }
def FractionCentredSaid : Prop := fractionCentredRow.holds Try.pinned (OpenSpec.ofChange fractionCentredSpec)

/-- ITS FALSE NEIGHBOUR: 'it returns false'. Refute it at one input. -/
def fractionCentredWrong : ChangeSpec := { name := "fractionCentred", fn := fun _ => fun
  | [d] => { results := [.lit (.bool false)], args := [d] }
  | _ => none }
def FractionCentredWrongFalsely : Prop := fractionCentredRow.holds Try.pinned (OpenSpec.ofChange fractionCentredWrong)

/-- 'vinculumlaw32.FractionInside': WHATEVER THE INPUT: true; the input reads as it did. -/
def fractionInsideSpec : ChangeSpec := { name := "fractionInside", fn := fun _ => fun
  | [d] => { results := [.lit (.bool true)], args := [d] }
  | _ => none }
def fractionInsideRow : OpenClaim := { program := "ytfmoghkffffmmaa", sum := "446559fad1bde557f8b9bfc13bbb63dc2f3f6e7f35cb0f1b216bfbe52cd3a5f0", func := "vinculum/vinculumlaw32.FractionInside", spec := "fractionInside", unfollowed := true, recurses := true, loops := true, apart := false }
def FractionInsideSaid : Prop := fractionInsideRow.holds Try.pinned (OpenSpec.ofChange fractionInsideSpec)

/-- ITS FALSE NEIGHBOUR: 'it returns false'. Refute it at one input. -/
def fractionInsideWrong : ChangeSpec := { name := "fractionInside", fn := fun _ => fun
  | [d] => { results := [.lit (.bool false)], args := [d] }
  | _ => none }
def FractionInsideWrongFalsely : Prop := fractionInsideRow.holds Try.pinned (OpenSpec.ofChange fractionInsideWrong)

/-- 'vinculumlaw32.FractionGrows': WHATEVER THE INPUT: true; the input reads as it did. -/
def fractionGrowsSpec : ChangeSpec := { name := "fractionGrows", fn := fun _ => fun
  | [d1, d2] => { results := [.lit (.bool true)], args := [d1, d2] }
  | _ => none }
def fractionGrowsRow : OpenClaim := { program := "ytfmoghkffffmmaa", sum := "446559fad1bde557f8b9bfc13bbb63dc2f3f6e7f35cb0f1b216bfbe52cd3a5f0", func := "vinculum/vinculumlaw32.FractionGrows", spec := "fractionGrows", unfollowed := true, recurses := true, loops := true, apart := false }
def FractionGrowsSaid : Prop := fractionGrowsRow.holds Try.pinned (OpenSpec.ofChange fractionGrowsSpec)

/-- ITS FALSE NEIGHBOUR: 'it returns false'. Refute it at one input. -/
def fractionGrowsWrong : ChangeSpec := { name := "fractionGrows", fn := fun _ => fun
  | [d1, d2] => { results := [.lit (.bool false)], args := [d1, d2] }
  | _ => none }
def FractionGrowsWrongFalsely : Prop := fractionGrowsRow.holds Try.pinned (OpenSpec.ofChange fractionGrowsWrong)

/-- 'vinculumlaw32.FractionKeeps': WHATEVER THE INPUT: true; the input reads as it did. -/
def fractionKeepsSpec : ChangeSpec := { name := "fractionKeeps", fn := fun _ => fun
  | [d] => { results := [.lit (.bool true)], args := [d] }
  | _ => none }
def fractionKeepsRow : OpenClaim := { program := "ytfmoghkffffmmaa", sum := "446559fad1bde557f8b9bfc13bbb63dc2f3f6e7f35cb0f1b216bfbe52cd3a5f0", func := "vinculum/vinculumlaw32.FractionKeeps", spec := "fractionKeeps", unfollowed := true, recurses := true, loops := true, apart := false }
def FractionKeepsSaid : Prop := fractionKeepsRow.holds Try.pinned (OpenSpec.ofChange fractionKeepsSpec)

/-- ITS FALSE NEIGHBOUR: 'it returns false'. Refute it at one input. -/
def fractionKeepsWrong : ChangeSpec := { name := "fractionKeeps", fn := fun _ => fun
  | [d] => { results := [.lit (.bool false)], args := [d] }
  | _ => none }
def FractionKeepsWrongFalsely : Prop := fractionKeepsRow.holds Try.pinned (OpenSpec.ofChange fractionKeepsWrong)

/- THE SECOND FORM. 'bulk': how many values and letters a reading holds, each counted each time it is reached (what is shared counts as often as it is met; a slice's spare places count too). A statement '..UptoSaid' is the law's where the arguments, and the package variables that the reading takes, are together of bulk at most 1048576: NARROWER than '..Said'. Prove '..Said' where nothing that the law and all that it calls make is longer than what came in: it says more and counts as full. Else prove '..UptoSaid'. A law counts once. -/
mutual
def uptoBulk {H : Type} : DataW H → Nat
  | .lit (.string bytes) => bytes.length + 1
  | .lit _ => 1
  | .nil => 1
  | .ptr d => uptoBulk d + 1
  | .slice elems spare => uptoBulkAll elems + uptoBulkAll spare + 1
  | .agg parts => uptoBulkAll parts + 1
  | .iface _ d => uptoBulk d + 1
  | .map entries => uptoBulkEntries entries + 1
  | .held _ => 1
def uptoBulkAll {H : Type} : List (DataW H) → Nat
  | [] => 0
  | d :: r => uptoBulk d + uptoBulkAll r
def uptoBulkEntries {H : Type} : List (Lit × DataW H) → Nat
  | [] => 0
  | x :: r => uptoBulkEntry x + uptoBulkEntries r
def uptoBulkEntry {H : Type} : Lit × DataW H → Nat
  | (.string bytes, d) => bytes.length + uptoBulk d + 1
  | (_, d) => uptoBulk d + 1
 end
def uptoSmall : (H : Type) → List (DataW H) → Bool := fun _ ds => decide (uptoBulkAll ds ≤ 1048576)
def OpenSpec.upto (s : _root_.Go.ChangeSpec) : _root_.Go.OpenSpec := { _root_.Go.OpenSpec.ofChange s with cond := some uptoSmall }

/-- 'vinculumlaw32.FractionMakes', WHERE WHAT IT READS IS OF BULK AT MOST 1048576: true; the input reads as it did. -/
def fractionMakesUptoRow : OpenClaim := { program := "ytfmoghkffffmmaa", sum := "446559fad1bde557f8b9bfc13bbb63dc2f3f6e7f35cb0f1b216bfbe52cd3a5f0", func := "vinculum/vinculumlaw32.FractionMakes", spec := "fractionMakes", unfollowed := true, recurses := true, loops := true, apart := false, narrowed := true }
def FractionMakesUptoSaid : Prop := fractionMakesUptoRow.holds Try.pinned (OpenSpec.upto fractionMakesSpec)

/-- 'vinculumlaw32.FractionGaps', WHERE WHAT IT READS IS OF BULK AT MOST 1048576: true; the input reads as it did. -/
def fractionGapsUptoRow : OpenClaim := { program := "ytfmoghkffffmmaa", sum := "446559fad1bde557f8b9bfc13bbb63dc2f3f6e7f35cb0f1b216bfbe52cd3a5f0", func := "vinculum/vinculumlaw32.FractionGaps", spec := "fractionGaps", unfollowed := true, recurses := true, loops := true, apart := false, narrowed := true }
def FractionGapsUptoSaid : Prop := fractionGapsUptoRow.holds Try.pinned (OpenSpec.upto fractionGapsSpec)

/-- 'vinculumlaw32.FractionCentred', WHERE WHAT IT READS IS OF BULK AT MOST 1048576: true; the input reads as it did. -/
def fractionCentredUptoRow : OpenClaim := { program := "ytfmoghkffffmmaa", sum := "446559fad1bde557f8b9bfc13bbb63dc2f3f6e7f35cb0f1b216bfbe52cd3a5f0", func := "vinculum/vinculumlaw32.FractionCentred", spec := "fractionCentred", unfollowed := true, recurses := true, loops := true, apart := false, narrowed := true }
def FractionCentredUptoSaid : Prop := fractionCentredUptoRow.holds Try.pinned (OpenSpec.upto fractionCentredSpec)

/-- 'vinculumlaw32.FractionInside', WHERE WHAT IT READS IS OF BULK AT MOST 1048576: true; the input reads as it did. -/
def fractionInsideUptoRow : OpenClaim := { program := "ytfmoghkffffmmaa", sum := "446559fad1bde557f8b9bfc13bbb63dc2f3f6e7f35cb0f1b216bfbe52cd3a5f0", func := "vinculum/vinculumlaw32.FractionInside", spec := "fractionInside", unfollowed := true, recurses := true, loops := true, apart := false, narrowed := true }
def FractionInsideUptoSaid : Prop := fractionInsideUptoRow.holds Try.pinned (OpenSpec.upto fractionInsideSpec)

/-- 'vinculumlaw32.FractionGrows', WHERE WHAT IT READS IS OF BULK AT MOST 1048576: true; the input reads as it did. -/
def fractionGrowsUptoRow : OpenClaim := { program := "ytfmoghkffffmmaa", sum := "446559fad1bde557f8b9bfc13bbb63dc2f3f6e7f35cb0f1b216bfbe52cd3a5f0", func := "vinculum/vinculumlaw32.FractionGrows", spec := "fractionGrows", unfollowed := true, recurses := true, loops := true, apart := false, narrowed := true }
def FractionGrowsUptoSaid : Prop := fractionGrowsUptoRow.holds Try.pinned (OpenSpec.upto fractionGrowsSpec)

/-- 'vinculumlaw32.FractionKeeps', WHERE WHAT IT READS IS OF BULK AT MOST 1048576: true; the input reads as it did. -/
def fractionKeepsUptoRow : OpenClaim := { program := "ytfmoghkffffmmaa", sum := "446559fad1bde557f8b9bfc13bbb63dc2f3f6e7f35cb0f1b216bfbe52cd3a5f0", func := "vinculum/vinculumlaw32.FractionKeeps", spec := "fractionKeeps", unfollowed := true, recurses := true, loops := true, apart := false, narrowed := true }
def FractionKeepsUptoSaid : Prop := fractionKeepsUptoRow.holds Try.pinned (OpenSpec.upto fractionKeepsSpec)

end Rows
end Go.Proofs.Ytfmoghkffffmmaa
