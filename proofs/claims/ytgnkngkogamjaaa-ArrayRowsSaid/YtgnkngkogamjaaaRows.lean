/-
  NARROWER THAN 'FOR EVERY INPUT', by the rows' own cells (each row's printed sentence says how): ArrayMake: loops · ArrayApart: loops · ArrayGrid: loops · ArrayAxis: loops · ArrayRows: loops.
  DERIVED. THE GIVEN ROWS OF THIS SEAT. 5 by the template 'for every input the law returns true; each argument reads behind the call as it read before'; 0 by the template 'total and deterministic' (their statements: YtgnkngkogamjaaaTotals.lean).
  GIVEN WITH THE SEED: the statements are not yours to turn. If you find one false, say at which input.
  Laid BY PROGRAM, IN A SANDBOX (cutbox-rows.mjs): the forced cells as the released guide's own fill.sh prints them over the translation 59a33f035071be9d… (all of the seat's roots in one cut). By AI agents, Wed Nov 11 2026. No macro, syntax, notation, axiom, sorry.
-/
import Derived.Test.YtgnkngkogamjaaaChecked
import GoSem.Claim
import GoSem.ClaimJoined
import GoSem.ClaimMapViews
import Derived.JoinedTies
import Derived.KernelRfl
namespace Go.Proofs.Ytgnkngkogamjaaa
/- THE CELL 'sum', in the pinned program and in every row, IS THE sha256 OF THE DUMP (.gsa) THAT YtgnkngkogamjaaaProg.lean LOADS. Nothing in Lean hashes anything: it is a label: what it is worth is what the hold of that sum in a sandbox is worth. -/
noncomputable def Try.pinned : Pinned := { name := "ytgnkngkogamjaaa", sum := "59a33f035071be9d754b5d4710579f025757ebe765419457757d082e1ef89221", checked := Try.checked }
namespace Rows
def none {H : Type} : Left H := { results := [], args := [] }

/-- 'vinculumlaw37.ArrayMake': WHATEVER THE INPUT: true; the input reads as it did. -/
def arrayMakeSpec : ChangeSpec := { name := "arrayMake", fn := fun _ => fun
  | [d1, d2, d3] => { results := [.lit (.bool true)], args := [d1, d2, d3] }
  | _ => none }
def arrayMakeRow : OpenClaim := { program := "ytgnkngkogamjaaa", sum := "59a33f035071be9d754b5d4710579f025757ebe765419457757d082e1ef89221", func := "vinculum/vinculumlaw37.ArrayMake", spec := "arrayMake", unfollowed := true, recurses := true, loops := true, apart := false }
def ArrayMakeSaid : Prop := arrayMakeRow.holds Try.pinned (OpenSpec.ofChange arrayMakeSpec)

/-- ITS FALSE NEIGHBOUR: 'it returns false'. Refute it at one input. -/
def arrayMakeWrong : ChangeSpec := { name := "arrayMake", fn := fun _ => fun
  | [d1, d2, d3] => { results := [.lit (.bool false)], args := [d1, d2, d3] }
  | _ => none }
def ArrayMakeWrongFalsely : Prop := arrayMakeRow.holds Try.pinned (OpenSpec.ofChange arrayMakeWrong)

/-- 'vinculumlaw37.ArrayApart': WHATEVER THE INPUT: true; the input reads as it did. -/
def arrayApartSpec : ChangeSpec := { name := "arrayApart", fn := fun _ => fun
  | [d1, d2, d3] => { results := [.lit (.bool true)], args := [d1, d2, d3] }
  | _ => none }
def arrayApartRow : OpenClaim := { program := "ytgnkngkogamjaaa", sum := "59a33f035071be9d754b5d4710579f025757ebe765419457757d082e1ef89221", func := "vinculum/vinculumlaw37.ArrayApart", spec := "arrayApart", unfollowed := true, recurses := true, loops := true, apart := false }
def ArrayApartSaid : Prop := arrayApartRow.holds Try.pinned (OpenSpec.ofChange arrayApartSpec)

/-- ITS FALSE NEIGHBOUR: 'it returns false'. Refute it at one input. -/
def arrayApartWrong : ChangeSpec := { name := "arrayApart", fn := fun _ => fun
  | [d1, d2, d3] => { results := [.lit (.bool false)], args := [d1, d2, d3] }
  | _ => none }
def ArrayApartWrongFalsely : Prop := arrayApartRow.holds Try.pinned (OpenSpec.ofChange arrayApartWrong)

/-- 'vinculumlaw37.ArrayGrid': WHATEVER THE INPUT: true; the input reads as it did. -/
def arrayGridSpec : ChangeSpec := { name := "arrayGrid", fn := fun _ => fun
  | [d1, d2, d3] => { results := [.lit (.bool true)], args := [d1, d2, d3] }
  | _ => none }
def arrayGridRow : OpenClaim := { program := "ytgnkngkogamjaaa", sum := "59a33f035071be9d754b5d4710579f025757ebe765419457757d082e1ef89221", func := "vinculum/vinculumlaw37.ArrayGrid", spec := "arrayGrid", unfollowed := true, recurses := true, loops := true, apart := false }
def ArrayGridSaid : Prop := arrayGridRow.holds Try.pinned (OpenSpec.ofChange arrayGridSpec)

/-- ITS FALSE NEIGHBOUR: 'it returns false'. Refute it at one input. -/
def arrayGridWrong : ChangeSpec := { name := "arrayGrid", fn := fun _ => fun
  | [d1, d2, d3] => { results := [.lit (.bool false)], args := [d1, d2, d3] }
  | _ => none }
def ArrayGridWrongFalsely : Prop := arrayGridRow.holds Try.pinned (OpenSpec.ofChange arrayGridWrong)

/-- 'vinculumlaw37.ArrayAxis': WHATEVER THE INPUT: true; the input reads as it did. -/
def arrayAxisSpec : ChangeSpec := { name := "arrayAxis", fn := fun _ => fun
  | [d1, d2, d3] => { results := [.lit (.bool true)], args := [d1, d2, d3] }
  | _ => none }
def arrayAxisRow : OpenClaim := { program := "ytgnkngkogamjaaa", sum := "59a33f035071be9d754b5d4710579f025757ebe765419457757d082e1ef89221", func := "vinculum/vinculumlaw37.ArrayAxis", spec := "arrayAxis", unfollowed := true, recurses := true, loops := true, apart := false }
def ArrayAxisSaid : Prop := arrayAxisRow.holds Try.pinned (OpenSpec.ofChange arrayAxisSpec)

/-- ITS FALSE NEIGHBOUR: 'it returns false'. Refute it at one input. -/
def arrayAxisWrong : ChangeSpec := { name := "arrayAxis", fn := fun _ => fun
  | [d1, d2, d3] => { results := [.lit (.bool false)], args := [d1, d2, d3] }
  | _ => none }
def ArrayAxisWrongFalsely : Prop := arrayAxisRow.holds Try.pinned (OpenSpec.ofChange arrayAxisWrong)

/-- 'vinculumlaw37.ArrayRows': WHATEVER THE INPUT: true; the input reads as it did. -/
def arrayRowsSpec : ChangeSpec := { name := "arrayRows", fn := fun _ => fun
  | [d1, d2, d3] => { results := [.lit (.bool true)], args := [d1, d2, d3] }
  | _ => none }
def arrayRowsRow : OpenClaim := { program := "ytgnkngkogamjaaa", sum := "59a33f035071be9d754b5d4710579f025757ebe765419457757d082e1ef89221", func := "vinculum/vinculumlaw37.ArrayRows", spec := "arrayRows", unfollowed := true, recurses := true, loops := true, apart := false }
def ArrayRowsSaid : Prop := arrayRowsRow.holds Try.pinned (OpenSpec.ofChange arrayRowsSpec)

/-- ITS FALSE NEIGHBOUR: 'it returns false'. Refute it at one input. -/
def arrayRowsWrong : ChangeSpec := { name := "arrayRows", fn := fun _ => fun
  | [d1, d2, d3] => { results := [.lit (.bool false)], args := [d1, d2, d3] }
  | _ => none }
def ArrayRowsWrongFalsely : Prop := arrayRowsRow.holds Try.pinned (OpenSpec.ofChange arrayRowsWrong)

/- THE SECOND FORM. 'bulk': how many values and letters a reading holds, each counted each time it is reached (what is shared counts as often as it is met; a slice's spare places count too). A statement '..UptoSaid' is the law's where the arguments, and the package variables that the reading takes, are together of bulk at most 1048576: NARROWER than '..Said'. Prove '..Said' where nothing that the law and all that it calls make is longer than what came in: it says more and counts as full. Else prove '..UptoSaid'. A law counts once. -/
mutual
def uptoBulk {H : Type} : DataW H → Nat
  | .lit (.string bytes) => bytes.length + 1
  | .lit _ => 1
  | .nil => 1
  | .ptr d => uptoBulk d + 1
  | .slice elems spare => uptoBulkAll elems + uptoBulkAll spare + 1
  | .agg parts => uptoBulkAll parts + 1
  | .iface _ d => uptoBulk d + 1
  | .map entries => uptoBulkEntries entries + 1
  | .held _ => 1
def uptoBulkAll {H : Type} : List (DataW H) → Nat
  | [] => 0
  | d :: r => uptoBulk d + uptoBulkAll r
def uptoBulkEntries {H : Type} : List (Lit × DataW H) → Nat
  | [] => 0
  | x :: r => uptoBulkEntry x + uptoBulkEntries r
def uptoBulkEntry {H : Type} : Lit × DataW H → Nat
  | (.string bytes, d) => bytes.length + uptoBulk d + 1
  | (_, d) => uptoBulk d + 1
 end
def uptoSmall : (H : Type) → List (DataW H) → Bool := fun _ ds => decide (uptoBulkAll ds ≤ 1048576)
def OpenSpec.upto (s : _root_.Go.ChangeSpec) : _root_.Go.OpenSpec := { _root_.Go.OpenSpec.ofChange s with cond := some uptoSmall }

/-- 'vinculumlaw37.ArrayMake', WHERE WHAT IT READS IS OF BULK AT MOST 1048576: true; the input reads as it did. -/
def arrayMakeUptoRow : OpenClaim := { program := "ytgnkngkogamjaaa", sum := "59a33f035071be9d754b5d4710579f025757ebe765419457757d082e1ef89221", func := "vinculum/vinculumlaw37.ArrayMake", spec := "arrayMake", unfollowed := true, recurses := true, loops := true, apart := false, narrowed := true }
def ArrayMakeUptoSaid : Prop := arrayMakeUptoRow.holds Try.pinned (OpenSpec.upto arrayMakeSpec)

/-- 'vinculumlaw37.ArrayApart', WHERE WHAT IT READS IS OF BULK AT MOST 1048576: true; the input reads as it did. -/
def arrayApartUptoRow : OpenClaim := { program := "ytgnkngkogamjaaa", sum := "59a33f035071be9d754b5d4710579f025757ebe765419457757d082e1ef89221", func := "vinculum/vinculumlaw37.ArrayApart", spec := "arrayApart", unfollowed := true, recurses := true, loops := true, apart := false, narrowed := true }
def ArrayApartUptoSaid : Prop := arrayApartUptoRow.holds Try.pinned (OpenSpec.upto arrayApartSpec)

/-- 'vinculumlaw37.ArrayGrid', WHERE WHAT IT READS IS OF BULK AT MOST 1048576: true; the input reads as it did. -/
def arrayGridUptoRow : OpenClaim := { program := "ytgnkngkogamjaaa", sum := "59a33f035071be9d754b5d4710579f025757ebe765419457757d082e1ef89221", func := "vinculum/vinculumlaw37.ArrayGrid", spec := "arrayGrid", unfollowed := true, recurses := true, loops := true, apart := false, narrowed := true }
def ArrayGridUptoSaid : Prop := arrayGridUptoRow.holds Try.pinned (OpenSpec.upto arrayGridSpec)

/-- 'vinculumlaw37.ArrayAxis', WHERE WHAT IT READS IS OF BULK AT MOST 1048576: true; the input reads as it did. -/
def arrayAxisUptoRow : OpenClaim := { program := "ytgnkngkogamjaaa", sum := "59a33f035071be9d754b5d4710579f025757ebe765419457757d082e1ef89221", func := "vinculum/vinculumlaw37.ArrayAxis", spec := "arrayAxis", unfollowed := true, recurses := true, loops := true, apart := false, narrowed := true }
def ArrayAxisUptoSaid : Prop := arrayAxisUptoRow.holds Try.pinned (OpenSpec.upto arrayAxisSpec)

/-- 'vinculumlaw37.ArrayRows', WHERE WHAT IT READS IS OF BULK AT MOST 1048576: true; the input reads as it did. -/
def arrayRowsUptoRow : OpenClaim := { program := "ytgnkngkogamjaaa", sum := "59a33f035071be9d754b5d4710579f025757ebe765419457757d082e1ef89221", func := "vinculum/vinculumlaw37.ArrayRows", spec := "arrayRows", unfollowed := true, recurses := true, loops := true, apart := false, narrowed := true }
def ArrayRowsUptoSaid : Prop := arrayRowsUptoRow.holds Try.pinned (OpenSpec.upto arrayRowsSpec)

end Rows
end Go.Proofs.Ytgnkngkogamjaaa
