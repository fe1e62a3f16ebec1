/-
  No cell of these rows narrows 'for every input' (looked for: loops, veiled, ifaces, maps, wideKeys, modest, calm, conditions, laid).
  DERIVED. THE GIVEN ROWS OF THIS SEAT. 7 by the template 'for every input the law returns true; each argument reads behind the call as it read before'; 0 by the template 'total and deterministic' (their statements: YtillohdeljlchaaTotals.lean).
  GIVEN WITH THE SEED: the statements are not yours to turn. If you find one false, say at which input.
  Laid BY PROGRAM, IN A SANDBOX (cutbox-rows.mjs): the forced cells as the released guide's own fill.sh prints them over the translation 43163dac51d503cd… (all of the seat's roots in one cut). By AI agents, Wed Nov 11 2026. No macro, syntax, notation, axiom, sorry.
-/
import Derived.Test.YtillohdeljlchaaChecked
import GoSem.Claim
import GoSem.ClaimJoined
import GoSem.ClaimMapViews
import Derived.JoinedTies
import Derived.KernelRfl
namespace Go.Proofs.Ytillohdeljlchaa
/- THE CELL 'sum', in the pinned program and in every row, IS THE sha256 OF THE DUMP (.gsa) THAT YtillohdeljlchaaProg.lean LOADS. Nothing in Lean hashes anything: it is a label: what it is worth is what the hold of that sum in a sandbox is worth. -/
noncomputable def Try.pinned : Pinned := { name := "ytillohdeljlchaa", sum := "43163dac51d503cdb0a698a50126933fa8095cc947914e66dcf427f49aa10689", checked := Try.checked }
namespace Rows
def none {H : Type} : Left H := { results := [], args := [] }

/-- 'vinculumlaw25.StyleDescends': WHATEVER THE INPUT: true; the input reads as it did. -/
def styleDescendsSpec : ChangeSpec := { name := "styleDescends", fn := fun _ => fun
  | [d1, d2, d3] => { results := [.lit (.bool true)], args := [d1, d2, d3] }
  | _ => none }
def styleDescendsRow : OpenClaim := { program := "ytillohdeljlchaa", sum := "43163dac51d503cdb0a698a50126933fa8095cc947914e66dcf427f49aa10689", func := "vinculum/vinculumlaw25.StyleDescends", spec := "styleDescends", unfollowed := true, recurses := true, apart := false }
def StyleDescendsSaid : Prop := styleDescendsRow.holds Try.pinned (OpenSpec.ofChange styleDescendsSpec)

/-- ITS FALSE NEIGHBOUR: 'it returns false'. Refute it at one input. -/
def styleDescendsWrong : ChangeSpec := { name := "styleDescends", fn := fun _ => fun
  | [d1, d2, d3] => { results := [.lit (.bool false)], args := [d1, d2, d3] }
  | _ => none }
def StyleDescendsWrongFalsely : Prop := styleDescendsRow.holds Try.pinned (OpenSpec.ofChange styleDescendsWrong)

/-- 'vinculumlaw25.StyleSlot': WHATEVER THE INPUT: true; the input reads as it did. -/
def styleSlotSpec : ChangeSpec := { name := "styleSlot", fn := fun _ => fun
  | [d1, d2, d3] => { results := [.lit (.bool true)], args := [d1, d2, d3] }
  | _ => none }
def styleSlotRow : OpenClaim := { program := "ytillohdeljlchaa", sum := "43163dac51d503cdb0a698a50126933fa8095cc947914e66dcf427f49aa10689", func := "vinculum/vinculumlaw25.StyleSlot", spec := "styleSlot", unfollowed := true, recurses := true, apart := false }
def StyleSlotSaid : Prop := styleSlotRow.holds Try.pinned (OpenSpec.ofChange styleSlotSpec)

/-- ITS FALSE NEIGHBOUR: 'it returns false'. Refute it at one input. -/
def styleSlotWrong : ChangeSpec := { name := "styleSlot", fn := fun _ => fun
  | [d1, d2, d3] => { results := [.lit (.bool false)], args := [d1, d2, d3] }
  | _ => none }
def StyleSlotWrongFalsely : Prop := styleSlotRow.holds Try.pinned (OpenSpec.ofChange styleSlotWrong)

/-- 'vinculumlaw25.StyleCramped': WHATEVER THE INPUT: true; the input reads as it did. -/
def styleCrampedSpec : ChangeSpec := { name := "styleCramped", fn := fun _ => fun
  | [d1, d2, d3] => { results := [.lit (.bool true)], args := [d1, d2, d3] }
  | _ => none }
def styleCrampedRow : OpenClaim := { program := "ytillohdeljlchaa", sum := "43163dac51d503cdb0a698a50126933fa8095cc947914e66dcf427f49aa10689", func := "vinculum/vinculumlaw25.StyleCramped", spec := "styleCramped", unfollowed := true, recurses := true, apart := false }
def StyleCrampedSaid : Prop := styleCrampedRow.holds Try.pinned (OpenSpec.ofChange styleCrampedSpec)

/-- ITS FALSE NEIGHBOUR: 'it returns false'. Refute it at one input. -/
def styleCrampedWrong : ChangeSpec := { name := "styleCramped", fn := fun _ => fun
  | [d1, d2, d3] => { results := [.lit (.bool false)], args := [d1, d2, d3] }
  | _ => none }
def StyleCrampedWrongFalsely : Prop := styleCrampedRow.holds Try.pinned (OpenSpec.ofChange styleCrampedWrong)

/-- 'vinculumlaw25.StylePath': WHATEVER THE INPUT: true; the input reads as it did. -/
def stylePathSpec : ChangeSpec := { name := "stylePath", fn := fun _ => fun
  | [d1, d2, d3] => { results := [.lit (.bool true)], args := [d1, d2, d3] }
  | _ => none }
def stylePathRow : OpenClaim := { program := "ytillohdeljlchaa", sum := "43163dac51d503cdb0a698a50126933fa8095cc947914e66dcf427f49aa10689", func := "vinculum/vinculumlaw25.StylePath", spec := "stylePath", unfollowed := true, recurses := true, apart := false }
def StylePathSaid : Prop := stylePathRow.holds Try.pinned (OpenSpec.ofChange stylePathSpec)

/-- ITS FALSE NEIGHBOUR: 'it returns false'. Refute it at one input. -/
def stylePathWrong : ChangeSpec := { name := "stylePath", fn := fun _ => fun
  | [d1, d2, d3] => { results := [.lit (.bool false)], args := [d1, d2, d3] }
  | _ => none }
def StylePathWrongFalsely : Prop := stylePathRow.holds Try.pinned (OpenSpec.ofChange stylePathWrong)

/-- 'vinculumlaw25.StyleJoined': WHATEVER THE INPUT: true; the input reads as it did. -/
def styleJoinedSpec : ChangeSpec := { name := "styleJoined", fn := fun _ => fun
  | [d1, d2, d3] => { results := [.lit (.bool true)], args := [d1, d2, d3] }
  | _ => none }
def styleJoinedRow : OpenClaim := { program := "ytillohdeljlchaa", sum := "43163dac51d503cdb0a698a50126933fa8095cc947914e66dcf427f49aa10689", func := "vinculum/vinculumlaw25.StyleJoined", spec := "styleJoined", unfollowed := true, recurses := true, apart := false }
def StyleJoinedSaid : Prop := styleJoinedRow.holds Try.pinned (OpenSpec.ofChange styleJoinedSpec)

/-- ITS FALSE NEIGHBOUR: 'it returns false'. Refute it at one input. -/
def styleJoinedWrong : ChangeSpec := { name := "styleJoined", fn := fun _ => fun
  | [d1, d2, d3] => { results := [.lit (.bool false)], args := [d1, d2, d3] }
  | _ => none }
def StyleJoinedWrongFalsely : Prop := styleJoinedRow.holds Try.pinned (OpenSpec.ofChange styleJoinedWrong)

/-- 'vinculumlaw25.StylePercent': WHATEVER THE INPUT: true; the input reads as it did. -/
def stylePercentSpec : ChangeSpec := { name := "stylePercent", fn := fun _ => fun
  | [d1, d2] => { results := [.lit (.bool true)], args := [d1, d2] }
  | _ => none }
def stylePercentRow : OpenClaim := { program := "ytillohdeljlchaa", sum := "43163dac51d503cdb0a698a50126933fa8095cc947914e66dcf427f49aa10689", func := "vinculum/vinculumlaw25.StylePercent", spec := "stylePercent", unfollowed := true, recurses := true, apart := false }
def StylePercentSaid : Prop := stylePercentRow.holds Try.pinned (OpenSpec.ofChange stylePercentSpec)

/-- ITS FALSE NEIGHBOUR: 'it returns false'. Refute it at one input. -/
def stylePercentWrong : ChangeSpec := { name := "stylePercent", fn := fun _ => fun
  | [d1, d2] => { results := [.lit (.bool false)], args := [d1, d2] }
  | _ => none }
def StylePercentWrongFalsely : Prop := stylePercentRow.holds Try.pinned (OpenSpec.ofChange stylePercentWrong)

/-- 'vinculumlaw25.StyleSizes': WHATEVER THE INPUT: true; the input reads as it did. -/
def styleSizesSpec : ChangeSpec := { name := "styleSizes", fn := fun _ => fun
  | [d1, d2, d3] => { results := [.lit (.bool true)], args := [d1, d2, d3] }
  | _ => none }
def styleSizesRow : OpenClaim := { program := "ytillohdeljlchaa", sum := "43163dac51d503cdb0a698a50126933fa8095cc947914e66dcf427f49aa10689", func := "vinculum/vinculumlaw25.StyleSizes", spec := "styleSizes", unfollowed := true, recurses := true, apart := false }
def StyleSizesSaid : Prop := styleSizesRow.holds Try.pinned (OpenSpec.ofChange styleSizesSpec)

/-- ITS FALSE NEIGHBOUR: 'it returns false'. Refute it at one input. -/
def styleSizesWrong : ChangeSpec := { name := "styleSizes", fn := fun _ => fun
  | [d1, d2, d3] => { results := [.lit (.bool false)], args := [d1, d2, d3] }
  | _ => none }
def StyleSizesWrongFalsely : Prop := styleSizesRow.holds Try.pinned (OpenSpec.ofChange styleSizesWrong)

/- THE SECOND FORM. 'bulk': how many values and letters a reading holds, each counted each time it is reached (what is shared counts as often as it is met; a slice's spare places count too). A statement '..UptoSaid' is the law's where the arguments, and the package variables that the reading takes, are together of bulk at most 1048576: NARROWER than '..Said'. Prove '..Said' where nothing that the law and all that it calls make is longer than what came in: it says more and counts as full. Else prove '..UptoSaid'. A law counts once. -/
mutual
def uptoBulk {H : Type} : DataW H → Nat
  | .lit (.string bytes) => bytes.length + 1
  | .lit _ => 1
  | .nil => 1
  | .ptr d => uptoBulk d + 1
  | .slice elems spare => uptoBulkAll elems + uptoBulkAll spare + 1
  | .agg parts => uptoBulkAll parts + 1
  | .iface _ d => uptoBulk d + 1
  | .map entries => uptoBulkEntries entries + 1
  | .held _ => 1
def uptoBulkAll {H : Type} : List (DataW H) → Nat
  | [] => 0
  | d :: r => uptoBulk d + uptoBulkAll r
def uptoBulkEntries {H : Type} : List (Lit × DataW H) → Nat
  | [] => 0
  | x :: r => uptoBulkEntry x + uptoBulkEntries r
def uptoBulkEntry {H : Type} : Lit × DataW H → Nat
  | (.string bytes, d) => bytes.length + uptoBulk d + 1
  | (_, d) => uptoBulk d + 1
 end
def uptoSmall : (H : Type) → List (DataW H) → Bool := fun _ ds => decide (uptoBulkAll ds ≤ 1048576)
def OpenSpec.upto (s : _root_.Go.ChangeSpec) : _root_.Go.OpenSpec := { _root_.Go.OpenSpec.ofChange s with cond := some uptoSmall }

/-- 'vinculumlaw25.StyleDescends', WHERE WHAT IT READS IS OF BULK AT MOST 1048576: true; the input reads as it did. -/
def styleDescendsUptoRow : OpenClaim := { program := "ytillohdeljlchaa", sum := "43163dac51d503cdb0a698a50126933fa8095cc947914e66dcf427f49aa10689", func := "vinculum/vinculumlaw25.StyleDescends", spec := "styleDescends", unfollowed := true, recurses := true, apart := false, narrowed := true }
def StyleDescendsUptoSaid : Prop := styleDescendsUptoRow.holds Try.pinned (OpenSpec.upto styleDescendsSpec)

/-- 'vinculumlaw25.StyleSlot', WHERE WHAT IT READS IS OF BULK AT MOST 1048576: true; the input reads as it did. -/
def styleSlotUptoRow : OpenClaim := { program := "ytillohdeljlchaa", sum := "43163dac51d503cdb0a698a50126933fa8095cc947914e66dcf427f49aa10689", func := "vinculum/vinculumlaw25.StyleSlot", spec := "styleSlot", unfollowed := true, recurses := true, apart := false, narrowed := true }
def StyleSlotUptoSaid : Prop := styleSlotUptoRow.holds Try.pinned (OpenSpec.upto styleSlotSpec)

/-- 'vinculumlaw25.StyleCramped', WHERE WHAT IT READS IS OF BULK AT MOST 1048576: true; the input reads as it did. -/
def styleCrampedUptoRow : OpenClaim := { program := "ytillohdeljlchaa", sum := "43163dac51d503cdb0a698a50126933fa8095cc947914e66dcf427f49aa10689", func := "vinculum/vinculumlaw25.StyleCramped", spec := "styleCramped", unfollowed := true, recurses := true, apart := false, narrowed := true }
def StyleCrampedUptoSaid : Prop := styleCrampedUptoRow.holds Try.pinned (OpenSpec.upto styleCrampedSpec)

/-- 'vinculumlaw25.StylePath', WHERE WHAT IT READS IS OF BULK AT MOST 1048576: true; the input reads as it did. -/
def stylePathUptoRow : OpenClaim := { program := "ytillohdeljlchaa", sum := "43163dac51d503cdb0a698a50126933fa8095cc947914e66dcf427f49aa10689", func := "vinculum/vinculumlaw25.StylePath", spec := "stylePath", unfollowed := true, recurses := true, apart := false, narrowed := true }
def StylePathUptoSaid : Prop := stylePathUptoRow.holds Try.pinned (OpenSpec.upto stylePathSpec)

/-- 'vinculumlaw25.StyleJoined', WHERE WHAT IT READS IS OF BULK AT MOST 1048576: true; the input reads as it did. -/
def styleJoinedUptoRow : OpenClaim := { program := "ytillohdeljlchaa", sum := "43163dac51d503cdb0a698a50126933fa8095cc947914e66dcf427f49aa10689", func := "vinculum/vinculumlaw25.StyleJoined", spec := "styleJoined", unfollowed := true, recurses := true, apart := false, narrowed := true }
def StyleJoinedUptoSaid : Prop := styleJoinedUptoRow.holds Try.pinned (OpenSpec.upto styleJoinedSpec)

/-- 'vinculumlaw25.StylePercent', WHERE WHAT IT READS IS OF BULK AT MOST 1048576: true; the input reads as it did. -/
def stylePercentUptoRow : OpenClaim := { program := "ytillohdeljlchaa", sum := "43163dac51d503cdb0a698a50126933fa8095cc947914e66dcf427f49aa10689", func := "vinculum/vinculumlaw25.StylePercent", spec := "stylePercent", unfollowed := true, recurses := true, apart := false, narrowed := true }
def StylePercentUptoSaid : Prop := stylePercentUptoRow.holds Try.pinned (OpenSpec.upto stylePercentSpec)

/-- 'vinculumlaw25.StyleSizes', WHERE WHAT IT READS IS OF BULK AT MOST 1048576: true; the input reads as it did. -/
def styleSizesUptoRow : OpenClaim := { program := "ytillohdeljlchaa", sum := "43163dac51d503cdb0a698a50126933fa8095cc947914e66dcf427f49aa10689", func := "vinculum/vinculumlaw25.StyleSizes", spec := "styleSizes", unfollowed := true, recurses := true, apart := false, narrowed := true }
def StyleSizesUptoSaid : Prop := styleSizesUptoRow.holds Try.pinned (OpenSpec.upto styleSizesSpec)

end Rows
end Go.Proofs.Ytillohdeljlchaa
