/-
  NARROWER THAN 'FOR EVERY INPUT', by the rows' own cells (each row's printed sentence says how): ScriptCramped: loops · ScriptSimple: loops · ScriptGap: loops · ScriptInside: loops · ScriptPlaces: loops · ScriptGrows: loops.
  DERIVED. THE GIVEN ROWS OF THIS SEAT. 6 by the template 'for every input the law returns true; each argument reads behind the call as it read before'; 0 by the template 'total and deterministic' (their statements: YtgpabckipmhobaaTotals.lean).
  GIVEN WITH THE SEED: the statements are not yours to turn. If you find one false, say at which input.
  Laid BY PROGRAM, IN A SANDBOX (cutbox-rows.mjs): the forced cells as the released guide's own fill.sh prints them over the translation e045cc1e848188cd… (all of the seat's roots in one cut). By AI agents, Wed Nov 11 2026. No macro, syntax, notation, axiom, sorry.
-/
import Derived.Test.YtgpabckipmhobaaChecked
import GoSem.Claim
import GoSem.ClaimJoined
import GoSem.ClaimMapViews
import Derived.JoinedTies
import Derived.KernelRfl
namespace Go.Proofs.Ytgpabckipmhobaa
/- THE CELL 'sum', in the pinned program and in every row, IS THE sha256 OF THE DUMP (.gsa) THAT YtgpabckipmhobaaProg.lean LOADS. Nothing in Lean hashes anything: it is a label: what it is worth is what the hold of that sum in a sandbox is worth. -/
noncomputable def Try.pinned : Pinned := { name := "ytgpabckipmhobaa", sum := "e045cc1e848188cd248e76d42c4f4f6eb09e860bc2ecc5fe5c9640abf282949f", checked := Try.checked }
namespace Rows
def none {H : Type} : Left H := { results := [], args := [] }

/-- 'vinculumlaw34.ScriptCramped': WHATEVER THE INPUT: true; the input reads as it did. -/
def scriptCrampedSpec : ChangeSpec := { name := "scriptCramped", fn := fun _ => fun
  | [d] => { results := [.lit (.bool true)], args := [d] }
  | _ => none }
def scriptCrampedRow : OpenClaim := { program := "ytgpabckipmhobaa", sum := "e045cc1e848188cd248e76d42c4f4f6eb09e860bc2ecc5fe5c9640abf282949f", func := "vinculum/vinculumlaw34.ScriptCramped", spec := "scriptCramped", unfollowed := true, recurses := true, loops := true, apart := false }
def ScriptCrampedSaid : Prop := scriptCrampedRow.holds Try.pinned (OpenSpec.ofChange scriptCrampedSpec)

/-- ITS FALSE NEIGHBOUR: 'it returns false'. Refute it at one input. -/
def scriptCrampedWrong : ChangeSpec := { name := "scriptCramped", fn := fun _ => fun
  | [d] => { results := [.lit (.bool false)], args := [d] }
  | _ => none }
def ScriptCrampedWrongFalsely : Prop := scriptCrampedRow.holds Try.pinned (OpenSpec.ofChange scriptCrampedWrong)

/-- 'vinculumlaw34.ScriptSimple': WHATEVER THE INPUT: true; the input reads as it did. -/
def scriptSimpleSpec : ChangeSpec := { name := "scriptSimple", fn := fun _ => fun
  | [d1, d2] => { results := [.lit (.bool true)], args := [d1, d2] }
  | _ => none }
def scriptSimpleRow : OpenClaim := { program := "ytgpabckipmhobaa", sum := "e045cc1e848188cd248e76d42c4f4f6eb09e860bc2ecc5fe5c9640abf282949f", func := "vinculum/vinculumlaw34.ScriptSimple", spec := "scriptSimple", unfollowed := true, recurses := true, loops := true, apart := false }
def ScriptSimpleSaid : Prop := scriptSimpleRow.holds Try.pinned (OpenSpec.ofChange scriptSimpleSpec)

/-- ITS FALSE NEIGHBOUR: 'it returns false'. Refute it at one input. -/
def scriptSimpleWrong : ChangeSpec := { name := "scriptSimple", fn := fun _ => fun
  | [d1, d2] => { results := [.lit (.bool false)], args := [d1, d2] }
  | _ => none }
def ScriptSimpleWrongFalsely : Prop := scriptSimpleRow.holds Try.pinned (OpenSpec.ofChange scriptSimpleWrong)

/-- 'vinculumlaw34.ScriptGap': WHATEVER THE INPUT: true; the input reads as it did. -/
def scriptGapSpec : ChangeSpec := { name := "scriptGap", fn := fun _ => fun
  | [d] => { results := [.lit (.bool true)], args := [d] }
  | _ => none }
def scriptGapRow : OpenClaim := { program := "ytgpabckipmhobaa", sum := "e045cc1e848188cd248e76d42c4f4f6eb09e860bc2ecc5fe5c9640abf282949f", func := "vinculum/vinculumlaw34.ScriptGap", spec := "scriptGap", unfollowed := true, recurses := true, loops := true, apart := false }
def ScriptGapSaid : Prop := scriptGapRow.holds Try.pinned (OpenSpec.ofChange scriptGapSpec)

/-- ITS FALSE NEIGHBOUR: 'it returns false'. Refute it at one input. -/
def scriptGapWrong : ChangeSpec := { name := "scriptGap", fn := fun _ => fun
  | [d] => { results := [.lit (.bool false)], args := [d] }
  | _ => none }
def ScriptGapWrongFalsely : Prop := scriptGapRow.holds Try.pinned (OpenSpec.ofChange scriptGapWrong)

/-- 'vinculumlaw34.ScriptInside': WHATEVER THE INPUT: true; the input reads as it did. -/
def scriptInsideSpec : ChangeSpec := { name := "scriptInside", fn := fun _ => fun
  | [d] => { results := [.lit (.bool true)], args := [d] }
  | _ => none }
def scriptInsideRow : OpenClaim := { program := "ytgpabckipmhobaa", sum := "e045cc1e848188cd248e76d42c4f4f6eb09e860bc2ecc5fe5c9640abf282949f", func := "vinculum/vinculumlaw34.ScriptInside", spec := "scriptInside", unfollowed := true, recurses := true, loops := true, apart := false }
def ScriptInsideSaid : Prop := scriptInsideRow.holds Try.pinned (OpenSpec.ofChange scriptInsideSpec)

/-- ITS FALSE NEIGHBOUR: 'it returns false'. Refute it at one input. -/
def scriptInsideWrong : ChangeSpec := { name := "scriptInside", fn := fun _ => fun
  | [d] => { results := [.lit (.bool false)], args := [d] }
  | _ => none }
def ScriptInsideWrongFalsely : Prop := scriptInsideRow.holds Try.pinned (OpenSpec.ofChange scriptInsideWrong)

/-- 'vinculumlaw34.ScriptPlaces': WHATEVER THE INPUT: true; the input reads as it did. -/
def scriptPlacesSpec : ChangeSpec := { name := "scriptPlaces", fn := fun _ => fun
  | [d] => { results := [.lit (.bool true)], args := [d] }
  | _ => none }
def scriptPlacesRow : OpenClaim := { program := "ytgpabckipmhobaa", sum := "e045cc1e848188cd248e76d42c4f4f6eb09e860bc2ecc5fe5c9640abf282949f", func := "vinculum/vinculumlaw34.ScriptPlaces", spec := "scriptPlaces", unfollowed := true, recurses := true, loops := true, apart := false }
def ScriptPlacesSaid : Prop := scriptPlacesRow.holds Try.pinned (OpenSpec.ofChange scriptPlacesSpec)

/-- ITS FALSE NEIGHBOUR: 'it returns false'. Refute it at one input. -/
def scriptPlacesWrong : ChangeSpec := { name := "scriptPlaces", fn := fun _ => fun
  | [d] => { results := [.lit (.bool false)], args := [d] }
  | _ => none }
def ScriptPlacesWrongFalsely : Prop := scriptPlacesRow.holds Try.pinned (OpenSpec.ofChange scriptPlacesWrong)

/-- 'vinculumlaw34.ScriptGrows': WHATEVER THE INPUT: true; the input reads as it did. -/
def scriptGrowsSpec : ChangeSpec := { name := "scriptGrows", fn := fun _ => fun
  | [d1, d2] => { results := [.lit (.bool true)], args := [d1, d2] }
  | _ => none }
def scriptGrowsRow : OpenClaim := { program := "ytgpabckipmhobaa", sum := "e045cc1e848188cd248e76d42c4f4f6eb09e860bc2ecc5fe5c9640abf282949f", func := "vinculum/vinculumlaw34.ScriptGrows", spec := "scriptGrows", unfollowed := true, recurses := true, loops := true, apart := false }
def ScriptGrowsSaid : Prop := scriptGrowsRow.holds Try.pinned (OpenSpec.ofChange scriptGrowsSpec)

/-- ITS FALSE NEIGHBOUR: 'it returns false'. Refute it at one input. -/
def scriptGrowsWrong : ChangeSpec := { name := "scriptGrows", fn := fun _ => fun
  | [d1, d2] => { results := [.lit (.bool false)], args := [d1, d2] }
  | _ => none }
def ScriptGrowsWrongFalsely : Prop := scriptGrowsRow.holds Try.pinned (OpenSpec.ofChange scriptGrowsWrong)

/- THE SECOND FORM. 'bulk': how many values and letters a reading holds, each counted each time it is reached (what is shared counts as often as it is met; a slice's spare places count too). A statement '..UptoSaid' is the law's where the arguments, and the package variables that the reading takes, are together of bulk at most 1048576: NARROWER than '..Said'. Prove '..Said' where nothing that the law and all that it calls make is longer than what came in: it says more and counts as full. Else prove '..UptoSaid'. A law counts once. -/
mutual
def uptoBulk {H : Type} : DataW H → Nat
  | .lit (.string bytes) => bytes.length + 1
  | .lit _ => 1
  | .nil => 1
  | .ptr d => uptoBulk d + 1
  | .slice elems spare => uptoBulkAll elems + uptoBulkAll spare + 1
  | .agg parts => uptoBulkAll parts + 1
  | .iface _ d => uptoBulk d + 1
  | .map entries => uptoBulkEntries entries + 1
  | .held _ => 1
def uptoBulkAll {H : Type} : List (DataW H) → Nat
  | [] => 0
  | d :: r => uptoBulk d + uptoBulkAll r
def uptoBulkEntries {H : Type} : List (Lit × DataW H) → Nat
  | [] => 0
  | x :: r => uptoBulkEntry x + uptoBulkEntries r
def uptoBulkEntry {H : Type} : Lit × DataW H → Nat
  | (.string bytes, d) => bytes.length + uptoBulk d + 1
  | (_, d) => uptoBulk d + 1
 end
def uptoSmall : (H : Type) → List (DataW H) → Bool := fun _ ds => decide (uptoBulkAll ds ≤ 1048576)
def OpenSpec.upto (s : _root_.Go.ChangeSpec) : _root_.Go.OpenSpec := { _root_.Go.OpenSpec.ofChange s with cond := some uptoSmall }

/-- 'vinculumlaw34.ScriptCramped', WHERE WHAT IT READS IS OF BULK AT MOST 1048576: true; the input reads as it did. -/
def scriptCrampedUptoRow : OpenClaim := { program := "ytgpabckipmhobaa", sum := "e045cc1e848188cd248e76d42c4f4f6eb09e860bc2ecc5fe5c9640abf282949f", func := "vinculum/vinculumlaw34.ScriptCramped", spec := "scriptCramped", unfollowed := true, recurses := true, loops := true, apart := false, narrowed := true }
def ScriptCrampedUptoSaid : Prop := scriptCrampedUptoRow.holds Try.pinned (OpenSpec.upto scriptCrampedSpec)

/-- 'vinculumlaw34.ScriptSimple', WHERE WHAT IT READS IS OF BULK AT MOST 1048576: true; the input reads as it did. -/
def scriptSimpleUptoRow : OpenClaim := { program := "ytgpabckipmhobaa", sum := "e045cc1e848188cd248e76d42c4f4f6eb09e860bc2ecc5fe5c9640abf282949f", func := "vinculum/vinculumlaw34.ScriptSimple", spec := "scriptSimple", unfollowed := true, recurses := true, loops := true, apart := false, narrowed := true }
def ScriptSimpleUptoSaid : Prop := scriptSimpleUptoRow.holds Try.pinned (OpenSpec.upto scriptSimpleSpec)

/-- 'vinculumlaw34.ScriptGap', WHERE WHAT IT READS IS OF BULK AT MOST 1048576: true; the input reads as it did. -/
def scriptGapUptoRow : OpenClaim := { program := "ytgpabckipmhobaa", sum := "e045cc1e848188cd248e76d42c4f4f6eb09e860bc2ecc5fe5c9640abf282949f", func := "vinculum/vinculumlaw34.ScriptGap", spec := "scriptGap", unfollowed := true, recurses := true, loops := true, apart := false, narrowed := true }
def ScriptGapUptoSaid : Prop := scriptGapUptoRow.holds Try.pinned (OpenSpec.upto scriptGapSpec)

/-- 'vinculumlaw34.ScriptInside', WHERE WHAT IT READS IS OF BULK AT MOST 1048576: true; the input reads as it did. -/
def scriptInsideUptoRow : OpenClaim := { program := "ytgpabckipmhobaa", sum := "e045cc1e848188cd248e76d42c4f4f6eb09e860bc2ecc5fe5c9640abf282949f", func := "vinculum/vinculumlaw34.ScriptInside", spec := "scriptInside", unfollowed := true, recurses := true, loops := true, apart := false, narrowed := true }
def ScriptInsideUptoSaid : Prop := scriptInsideUptoRow.holds Try.pinned (OpenSpec.upto scriptInsideSpec)

/-- 'vinculumlaw34.ScriptPlaces', WHERE WHAT IT READS IS OF BULK AT MOST 1048576: true; the input reads as it did. -/
def scriptPlacesUptoRow : OpenClaim := { program := "ytgpabckipmhobaa", sum := "e045cc1e848188cd248e76d42c4f4f6eb09e860bc2ecc5fe5c9640abf282949f", func := "vinculum/vinculumlaw34.ScriptPlaces", spec := "scriptPlaces", unfollowed := true, recurses := true, loops := true, apart := false, narrowed := true }
def ScriptPlacesUptoSaid : Prop := scriptPlacesUptoRow.holds Try.pinned (OpenSpec.upto scriptPlacesSpec)

/-- 'vinculumlaw34.ScriptGrows', WHERE WHAT IT READS IS OF BULK AT MOST 1048576: true; the input reads as it did. -/
def scriptGrowsUptoRow : OpenClaim := { program := "ytgpabckipmhobaa", sum := "e045cc1e848188cd248e76d42c4f4f6eb09e860bc2ecc5fe5c9640abf282949f", func := "vinculum/vinculumlaw34.ScriptGrows", spec := "scriptGrows", unfollowed := true, recurses := true, loops := true, apart := false, narrowed := true }
def ScriptGrowsUptoSaid : Prop := scriptGrowsUptoRow.holds Try.pinned (OpenSpec.upto scriptGrowsSpec)

end Rows
end Go.Proofs.Ytgpabckipmhobaa
