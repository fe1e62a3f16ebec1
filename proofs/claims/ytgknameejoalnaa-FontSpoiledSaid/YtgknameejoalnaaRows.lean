/-
  No cell of these rows narrows 'for every input' (looked for: loops, veiled, ifaces, maps, wideKeys, modest, calm, conditions, laid).
  DERIVED. THE GIVEN ROWS OF THIS SEAT. 7 by the template 'for every input the law returns true; each argument reads behind the call as it read before'; 0 by the template 'total and deterministic' (their statements: YtgknameejoalnaaTotals.lean).
  GIVEN WITH THE SEED: the statements are not yours to turn. If you find one false, say at which input.
  Laid BY PROGRAM, IN A SANDBOX (cutbox-rows.mjs): the forced cells as the released guide's own fill.sh prints them over the translation 80d4336dba3b9a5f… (all of the seat's roots in one cut). By AI agents, Wed Nov 11 2026. No macro, syntax, notation, axiom, sorry.
-/
import Derived.Test.YtgknameejoalnaaChecked
import GoSem.Claim
import GoSem.ClaimJoined
import GoSem.ClaimMapViews
import Derived.JoinedTies
import Derived.KernelRfl
namespace Go.Proofs.Ytgknameejoalnaa
/- THE CELL 'sum', in the pinned program and in every row, IS THE sha256 OF THE DUMP (.gsa) THAT YtgknameejoalnaaProg.lean LOADS. Nothing in Lean hashes anything: it is a label: what it is worth is what the hold of that sum in a sandbox is worth. -/
noncomputable def Try.pinned : Pinned := { name := "ytgknameejoalnaa", sum := "80d4336dba3b9a5fe0a50b77c730933b962f95467c7c24e42e27c7580e952ce0", checked := Try.checked }
namespace Rows
def none {H : Type} : Left H := { results := [], args := [] }

/-- 'vinculumlaw05.FontGrows': WHATEVER THE INPUT: true; the input reads as it did. -/
def fontGrowsSpec : ChangeSpec := { name := "fontGrows", fn := fun _ => fun
  | [d1, d2, d3] => { results := [.lit (.bool true)], args := [d1, d2, d3] }
  | _ => none }
def fontGrowsRow : OpenClaim := { program := "ytgknameejoalnaa", sum := "80d4336dba3b9a5fe0a50b77c730933b962f95467c7c24e42e27c7580e952ce0", func := "vinculum/vinculumlaw05.FontGrows", spec := "fontGrows", unfollowed := true, recurses := true, apart := false }
def FontGrowsSaid : Prop := fontGrowsRow.holds Try.pinned (OpenSpec.ofChange fontGrowsSpec)

/-- ITS FALSE NEIGHBOUR: 'it returns false'. Refute it at one input. -/
def fontGrowsWrong : ChangeSpec := { name := "fontGrows", fn := fun _ => fun
  | [d1, d2, d3] => { results := [.lit (.bool false)], args := [d1, d2, d3] }
  | _ => none }
def FontGrowsWrongFalsely : Prop := fontGrowsRow.holds Try.pinned (OpenSpec.ofChange fontGrowsWrong)

/-- 'vinculumlaw05.FontScaled': WHATEVER THE INPUT: true; the input reads as it did. -/
def fontScaledSpec : ChangeSpec := { name := "fontScaled", fn := fun _ => fun
  | [d1, d2] => { results := [.lit (.bool true)], args := [d1, d2] }
  | _ => none }
def fontScaledRow : OpenClaim := { program := "ytgknameejoalnaa", sum := "80d4336dba3b9a5fe0a50b77c730933b962f95467c7c24e42e27c7580e952ce0", func := "vinculum/vinculumlaw05.FontScaled", spec := "fontScaled", unfollowed := true, recurses := true, apart := false }
def FontScaledSaid : Prop := fontScaledRow.holds Try.pinned (OpenSpec.ofChange fontScaledSpec)

/-- ITS FALSE NEIGHBOUR: 'it returns false'. Refute it at one input. -/
def fontScaledWrong : ChangeSpec := { name := "fontScaled", fn := fun _ => fun
  | [d1, d2] => { results := [.lit (.bool false)], args := [d1, d2] }
  | _ => none }
def FontScaledWrongFalsely : Prop := fontScaledRow.holds Try.pinned (OpenSpec.ofChange fontScaledWrong)

/-- 'vinculumlaw05.FontFinds': WHATEVER THE INPUT: true; the input reads as it did. -/
def fontFindsSpec : ChangeSpec := { name := "fontFinds", fn := fun _ => fun
  | [d1, d2] => { results := [.lit (.bool true)], args := [d1, d2] }
  | _ => none }
def fontFindsRow : OpenClaim := { program := "ytgknameejoalnaa", sum := "80d4336dba3b9a5fe0a50b77c730933b962f95467c7c24e42e27c7580e952ce0", func := "vinculum/vinculumlaw05.FontFinds", spec := "fontFinds", unfollowed := true, recurses := true, apart := false }
def FontFindsSaid : Prop := fontFindsRow.holds Try.pinned (OpenSpec.ofChange fontFindsSpec)

/-- ITS FALSE NEIGHBOUR: 'it returns false'. Refute it at one input. -/
def fontFindsWrong : ChangeSpec := { name := "fontFinds", fn := fun _ => fun
  | [d1, d2] => { results := [.lit (.bool false)], args := [d1, d2] }
  | _ => none }
def FontFindsWrongFalsely : Prop := fontFindsRow.holds Try.pinned (OpenSpec.ofChange fontFindsWrong)

/-- 'vinculumlaw05.FontValid': WHATEVER THE INPUT: true; the input reads as it did. -/
def fontValidSpec : ChangeSpec := { name := "fontValid", fn := fun _ => fun
  | [d] => { results := [.lit (.bool true)], args := [d] }
  | _ => none }
def fontValidRow : OpenClaim := { program := "ytgknameejoalnaa", sum := "80d4336dba3b9a5fe0a50b77c730933b962f95467c7c24e42e27c7580e952ce0", func := "vinculum/vinculumlaw05.FontValid", spec := "fontValid", unfollowed := true, recurses := true, apart := false }
def FontValidSaid : Prop := fontValidRow.holds Try.pinned (OpenSpec.ofChange fontValidSpec)

/-- ITS FALSE NEIGHBOUR: 'it returns false'. Refute it at one input. -/
def fontValidWrong : ChangeSpec := { name := "fontValid", fn := fun _ => fun
  | [d] => { results := [.lit (.bool false)], args := [d] }
  | _ => none }
def FontValidWrongFalsely : Prop := fontValidRow.holds Try.pinned (OpenSpec.ofChange fontValidWrong)

/-- 'vinculumlaw05.FontSpoiled': WHATEVER THE INPUT: true; the input reads as it did. -/
def fontSpoiledSpec : ChangeSpec := { name := "fontSpoiled", fn := fun _ => fun
  | [d1, d2] => { results := [.lit (.bool true)], args := [d1, d2] }
  | _ => none }
def fontSpoiledRow : OpenClaim := { program := "ytgknameejoalnaa", sum := "80d4336dba3b9a5fe0a50b77c730933b962f95467c7c24e42e27c7580e952ce0", func := "vinculum/vinculumlaw05.FontSpoiled", spec := "fontSpoiled", unfollowed := true, recurses := true, apart := false }
def FontSpoiledSaid : Prop := fontSpoiledRow.holds Try.pinned (OpenSpec.ofChange fontSpoiledSpec)

/-- ITS FALSE NEIGHBOUR: 'it returns false'. Refute it at one input. -/
def fontSpoiledWrong : ChangeSpec := { name := "fontSpoiled", fn := fun _ => fun
  | [d1, d2] => { results := [.lit (.bool false)], args := [d1, d2] }
  | _ => none }
def FontSpoiledWrongFalsely : Prop := fontSpoiledRow.holds Try.pinned (OpenSpec.ofChange fontSpoiledWrong)

/-- 'vinculumlaw05.FontBox': WHATEVER THE INPUT: true; the input reads as it did. -/
def fontBoxSpec : ChangeSpec := { name := "fontBox", fn := fun _ => fun
  | [d1, d2, d3] => { results := [.lit (.bool true)], args := [d1, d2, d3] }
  | _ => none }
def fontBoxRow : OpenClaim := { program := "ytgknameejoalnaa", sum := "80d4336dba3b9a5fe0a50b77c730933b962f95467c7c24e42e27c7580e952ce0", func := "vinculum/vinculumlaw05.FontBox", spec := "fontBox", unfollowed := true, recurses := true, apart := false }
def FontBoxSaid : Prop := fontBoxRow.holds Try.pinned (OpenSpec.ofChange fontBoxSpec)

/-- ITS FALSE NEIGHBOUR: 'it returns false'. Refute it at one input. -/
def fontBoxWrong : ChangeSpec := { name := "fontBox", fn := fun _ => fun
  | [d1, d2, d3] => { results := [.lit (.bool false)], args := [d1, d2, d3] }
  | _ => none }
def FontBoxWrongFalsely : Prop := fontBoxRow.holds Try.pinned (OpenSpec.ofChange fontBoxWrong)

/-- 'vinculumlaw05.FontOrder': WHATEVER THE INPUT: true; the input reads as it did. -/
def fontOrderSpec : ChangeSpec := { name := "fontOrder", fn := fun _ => fun
  | [d1, d2] => { results := [.lit (.bool true)], args := [d1, d2] }
  | _ => none }
def fontOrderRow : OpenClaim := { program := "ytgknameejoalnaa", sum := "80d4336dba3b9a5fe0a50b77c730933b962f95467c7c24e42e27c7580e952ce0", func := "vinculum/vinculumlaw05.FontOrder", spec := "fontOrder", unfollowed := true, recurses := true, apart := false }
def FontOrderSaid : Prop := fontOrderRow.holds Try.pinned (OpenSpec.ofChange fontOrderSpec)

/-- ITS FALSE NEIGHBOUR: 'it returns false'. Refute it at one input. -/
def fontOrderWrong : ChangeSpec := { name := "fontOrder", fn := fun _ => fun
  | [d1, d2] => { results := [.lit (.bool false)], args := [d1, d2] }
  | _ => none }
def FontOrderWrongFalsely : Prop := fontOrderRow.holds Try.pinned (OpenSpec.ofChange fontOrderWrong)

/- THE SECOND FORM. 'bulk': how many values and letters a reading holds, each counted each time it is reached (what is shared counts as often as it is met; a slice's spare places count too). A statement '..UptoSaid' is the law's where the arguments, and the package variables that the reading takes, are together of bulk at most 1048576: NARROWER than '..Said'. Prove '..Said' where nothing that the law and all that it calls make is longer than what came in: it says more and counts as full. Else prove '..UptoSaid'. A law counts once. -/
mutual
def uptoBulk {H : Type} : DataW H → Nat
  | .lit (.string bytes) => bytes.length + 1
  | .lit _ => 1
  | .nil => 1
  | .ptr d => uptoBulk d + 1
  | .slice elems spare => uptoBulkAll elems + uptoBulkAll spare + 1
  | .agg parts => uptoBulkAll parts + 1
  | .iface _ d => uptoBulk d + 1
  | .map entries => uptoBulkEntries entries + 1
  | .held _ => 1
def uptoBulkAll {H : Type} : List (DataW H) → Nat
  | [] => 0
  | d :: r => uptoBulk d + uptoBulkAll r
def uptoBulkEntries {H : Type} : List (Lit × DataW H) → Nat
  | [] => 0
  | x :: r => uptoBulkEntry x + uptoBulkEntries r
def uptoBulkEntry {H : Type} : Lit × DataW H → Nat
  | (.string bytes, d) => bytes.length + uptoBulk d + 1
  | (_, d) => uptoBulk d + 1
 end
def uptoSmall : (H : Type) → List (DataW H) → Bool := fun _ ds => decide (uptoBulkAll ds ≤ 1048576)
def OpenSpec.upto (s : _root_.Go.ChangeSpec) : _root_.Go.OpenSpec := { _root_.Go.OpenSpec.ofChange s with cond := some uptoSmall }

/-- 'vinculumlaw05.FontGrows', WHERE WHAT IT READS IS OF BULK AT MOST 1048576: true; the input reads as it did. -/
def fontGrowsUptoRow : OpenClaim := { program := "ytgknameejoalnaa", sum := "80d4336dba3b9a5fe0a50b77c730933b962f95467c7c24e42e27c7580e952ce0", func := "vinculum/vinculumlaw05.FontGrows", spec := "fontGrows", unfollowed := true, recurses := true, apart := false, narrowed := true }
def FontGrowsUptoSaid : Prop := fontGrowsUptoRow.holds Try.pinned (OpenSpec.upto fontGrowsSpec)

/-- 'vinculumlaw05.FontScaled', WHERE WHAT IT READS IS OF BULK AT MOST 1048576: true; the input reads as it did. -/
def fontScaledUptoRow : OpenClaim := { program := "ytgknameejoalnaa", sum := "80d4336dba3b9a5fe0a50b77c730933b962f95467c7c24e42e27c7580e952ce0", func := "vinculum/vinculumlaw05.FontScaled", spec := "fontScaled", unfollowed := true, recurses := true, apart := false, narrowed := true }
def FontScaledUptoSaid : Prop := fontScaledUptoRow.holds Try.pinned (OpenSpec.upto fontScaledSpec)

/-- 'vinculumlaw05.FontFinds', WHERE WHAT IT READS IS OF BULK AT MOST 1048576: true; the input reads as it did. -/
def fontFindsUptoRow : OpenClaim := { program := "ytgknameejoalnaa", sum := "80d4336dba3b9a5fe0a50b77c730933b962f95467c7c24e42e27c7580e952ce0", func := "vinculum/vinculumlaw05.FontFinds", spec := "fontFinds", unfollowed := true, recurses := true, apart := false, narrowed := true }
def FontFindsUptoSaid : Prop := fontFindsUptoRow.holds Try.pinned (OpenSpec.upto fontFindsSpec)

/-- 'vinculumlaw05.FontValid', WHERE WHAT IT READS IS OF BULK AT MOST 1048576: true; the input reads as it did. -/
def fontValidUptoRow : OpenClaim := { program := "ytgknameejoalnaa", sum := "80d4336dba3b9a5fe0a50b77c730933b962f95467c7c24e42e27c7580e952ce0", func := "vinculum/vinculumlaw05.FontValid", spec := "fontValid", unfollowed := true, recurses := true, apart := false, narrowed := true }
def FontValidUptoSaid : Prop := fontValidUptoRow.holds Try.pinned (OpenSpec.upto fontValidSpec)

/-- 'vinculumlaw05.FontSpoiled', WHERE WHAT IT READS IS OF BULK AT MOST 1048576: true; the input reads as it did. -/
def fontSpoiledUptoRow : OpenClaim := { program := "ytgknameejoalnaa", sum := "80d4336dba3b9a5fe0a50b77c730933b962f95467c7c24e42e27c7580e952ce0", func := "vinculum/vinculumlaw05.FontSpoiled", spec := "fontSpoiled", unfollowed := true, recurses := true, apart := false, narrowed := true }
def FontSpoiledUptoSaid : Prop := fontSpoiledUptoRow.holds Try.pinned (OpenSpec.upto fontSpoiledSpec)

/-- 'vinculumlaw05.FontBox', WHERE WHAT IT READS IS OF BULK AT MOST 1048576: true; the input reads as it did. -/
def fontBoxUptoRow : OpenClaim := { program := "ytgknameejoalnaa", sum := "80d4336dba3b9a5fe0a50b77c730933b962f95467c7c24e42e27c7580e952ce0", func := "vinculum/vinculumlaw05.FontBox", spec := "fontBox", unfollowed := true, recurses := true, apart := false, narrowed := true }
def FontBoxUptoSaid : Prop := fontBoxUptoRow.holds Try.pinned (OpenSpec.upto fontBoxSpec)

/-- 'vinculumlaw05.FontOrder', WHERE WHAT IT READS IS OF BULK AT MOST 1048576: true; the input reads as it did. -/
def fontOrderUptoRow : OpenClaim := { program := "ytgknameejoalnaa", sum := "80d4336dba3b9a5fe0a50b77c730933b962f95467c7c24e42e27c7580e952ce0", func := "vinculum/vinculumlaw05.FontOrder", spec := "fontOrder", unfollowed := true, recurses := true, apart := false, narrowed := true }
def FontOrderUptoSaid : Prop := fontOrderUptoRow.holds Try.pinned (OpenSpec.upto fontOrderSpec)

end Rows
end Go.Proofs.Ytgknameejoalnaa
