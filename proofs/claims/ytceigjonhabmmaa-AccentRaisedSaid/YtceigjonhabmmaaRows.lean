/-
  NARROWER THAN 'FOR EVERY INPUT', by the rows' own cells (each row's printed sentence says how): AccentMakes: loops · AccentAttach: loops · AccentAttached: loops · AccentInside: loops · AccentRaised: loops.
  DERIVED. THE GIVEN ROWS OF THIS SEAT. 5 by the template 'for every input the law returns true; each argument reads behind the call as it read before'; 0 by the template 'total and deterministic' (their statements: YtceigjonhabmmaaTotals.lean).
  GIVEN WITH THE SEED: the statements are not yours to turn. If you find one false, say at which input.
  Laid BY PROGRAM, IN A SANDBOX (cutbox-rows.mjs): the forced cells as the released guide's own fill.sh prints them over the translation 19abac4ddaf9fcad… (all of the seat's roots in one cut). By AI agents, Wed Nov 11 2026. No macro, syntax, notation, axiom, sorry.
-/
import Derived.Test.YtceigjonhabmmaaChecked
import GoSem.Claim
import GoSem.ClaimJoined
import GoSem.ClaimMapViews
import Derived.JoinedTies
import Derived.KernelRfl
namespace Go.Proofs.Ytceigjonhabmmaa
/- THE CELL 'sum', in the pinned program and in every row, IS THE sha256 OF THE DUMP (.gsa) THAT YtceigjonhabmmaaProg.lean LOADS. Nothing in Lean hashes anything: it is a label: what it is worth is what the hold of that sum in a sandbox is worth. -/
noncomputable def Try.pinned : Pinned := { name := "ytceigjonhabmmaa", sum := "19abac4ddaf9fcad29f8d9629af34860a820ff2f41ff169baff4d911cf00941a", checked := Try.checked }
namespace Rows
def none {H : Type} : Left H := { results := [], args := [] }

/-- 'vinculumlaw36.AccentMakes': WHATEVER THE INPUT: true; the input reads as it did. -/
def accentMakesSpec : ChangeSpec := { name := "accentMakes", fn := fun _ => fun
  | [d] => { results := [.lit (.bool true)], args := [d] }
  | _ => none }
def accentMakesRow : OpenClaim := { program := "ytceigjonhabmmaa", sum := "19abac4ddaf9fcad29f8d9629af34860a820ff2f41ff169baff4d911cf00941a", func := "vinculum/vinculumlaw36.AccentMakes", spec := "accentMakes", unfollowed := true, recurses := true, loops := true, apart := false }
def AccentMakesSaid : Prop := accentMakesRow.holds Try.pinned (OpenSpec.ofChange accentMakesSpec)

/-- ITS FALSE NEIGHBOUR: 'it returns false'. Refute it at one input. -/
def accentMakesWrong : ChangeSpec := { name := "accentMakes", fn := fun _ => fun
  | [d] => { results := [.lit (.bool false)], args := [d] }
  | _ => none }
def AccentMakesWrongFalsely : Prop := accentMakesRow.holds Try.pinned (OpenSpec.ofChange accentMakesWrong)

/-- 'vinculumlaw36.AccentAttach': WHATEVER THE INPUT: true; the input reads as it did. -/
def accentAttachSpec : ChangeSpec := { name := "accentAttach", fn := fun _ => fun
  | [d1, d2] => { results := [.lit (.bool true)], args := [d1, d2] }
  | _ => none }
def accentAttachRow : OpenClaim := { program := "ytceigjonhabmmaa", sum := "19abac4ddaf9fcad29f8d9629af34860a820ff2f41ff169baff4d911cf00941a", func := "vinculum/vinculumlaw36.AccentAttach", spec := "accentAttach", unfollowed := true, recurses := true, loops := true, apart := false }
def AccentAttachSaid : Prop := accentAttachRow.holds Try.pinned (OpenSpec.ofChange accentAttachSpec)

/-- ITS FALSE NEIGHBOUR: 'it returns false'. Refute it at one input. -/
def accentAttachWrong : ChangeSpec := { name := "accentAttach", fn := fun _ => fun
  | [d1, d2] => { results := [.lit (.bool false)], args := [d1, d2] }
  | _ => none }
def AccentAttachWrongFalsely : Prop := accentAttachRow.holds Try.pinned (OpenSpec.ofChange accentAttachWrong)

/-- 'vinculumlaw36.AccentAttached': WHATEVER THE INPUT: true; the input reads as it did. -/
def accentAttachedSpec : ChangeSpec := { name := "accentAttached", fn := fun _ => fun
  | [d] => { results := [.lit (.bool true)], args := [d] }
  | _ => none }
def accentAttachedRow : OpenClaim := { program := "ytceigjonhabmmaa", sum := "19abac4ddaf9fcad29f8d9629af34860a820ff2f41ff169baff4d911cf00941a", func := "vinculum/vinculumlaw36.AccentAttached", spec := "accentAttached", unfollowed := true, recurses := true, loops := true, apart := false }
def AccentAttachedSaid : Prop := accentAttachedRow.holds Try.pinned (OpenSpec.ofChange accentAttachedSpec)

/-- ITS FALSE NEIGHBOUR: 'it returns false'. Refute it at one input. -/
def accentAttachedWrong : ChangeSpec := { name := "accentAttached", fn := fun _ => fun
  | [d] => { results := [.lit (.bool false)], args := [d] }
  | _ => none }
def AccentAttachedWrongFalsely : Prop := accentAttachedRow.holds Try.pinned (OpenSpec.ofChange accentAttachedWrong)

/-- 'vinculumlaw36.AccentInside': WHATEVER THE INPUT: true; the input reads as it did. -/
def accentInsideSpec : ChangeSpec := { name := "accentInside", fn := fun _ => fun
  | [d] => { results := [.lit (.bool true)], args := [d] }
  | _ => none }
def accentInsideRow : OpenClaim := { program := "ytceigjonhabmmaa", sum := "19abac4ddaf9fcad29f8d9629af34860a820ff2f41ff169baff4d911cf00941a", func := "vinculum/vinculumlaw36.AccentInside", spec := "accentInside", unfollowed := true, recurses := true, loops := true, apart := false }
def AccentInsideSaid : Prop := accentInsideRow.holds Try.pinned (OpenSpec.ofChange accentInsideSpec)

/-- ITS FALSE NEIGHBOUR: 'it returns false'. Refute it at one input. -/
def accentInsideWrong : ChangeSpec := { name := "accentInside", fn := fun _ => fun
  | [d] => { results := [.lit (.bool false)], args := [d] }
  | _ => none }
def AccentInsideWrongFalsely : Prop := accentInsideRow.holds Try.pinned (OpenSpec.ofChange accentInsideWrong)

/-- 'vinculumlaw36.AccentRaised': WHATEVER THE INPUT: true; the input reads as it did. -/
def accentRaisedSpec : ChangeSpec := { name := "accentRaised", fn := fun _ => fun
  | [d1, d2] => { results := [.lit (.bool true)], args := [d1, d2] }
  | _ => none }
def accentRaisedRow : OpenClaim := { program := "ytceigjonhabmmaa", sum := "19abac4ddaf9fcad29f8d9629af34860a820ff2f41ff169baff4d911cf00941a", func := "vinculum/vinculumlaw36.AccentRaised", spec := "accentRaised", unfollowed := true, recurses := true, loops := true, apart := false }
def AccentRaisedSaid : Prop := accentRaisedRow.holds Try.pinned (OpenSpec.ofChange accentRaisedSpec)

/-- ITS FALSE NEIGHBOUR: 'it returns false'. Refute it at one input. -/
def accentRaisedWrong : ChangeSpec := { name := "accentRaised", fn := fun _ => fun
  | [d1, d2] => { results := [.lit (.bool false)], args := [d1, d2] }
  | _ => none }
def AccentRaisedWrongFalsely : Prop := accentRaisedRow.holds Try.pinned (OpenSpec.ofChange accentRaisedWrong)

/- THE SECOND FORM. 'bulk': how many values and letters a reading holds, each counted each time it is reached (what is shared counts as often as it is met; a slice's spare places count too). A statement '..UptoSaid' is the law's where the arguments, and the package variables that the reading takes, are together of bulk at most 1048576: NARROWER than '..Said'. Prove '..Said' where nothing that the law and all that it calls make is longer than what came in: it says more and counts as full. Else prove '..UptoSaid'. A law counts once. -/
mutual
def uptoBulk {H : Type} : DataW H → Nat
  | .lit (.string bytes) => bytes.length + 1
  | .lit _ => 1
  | .nil => 1
  | .ptr d => uptoBulk d + 1
  | .slice elems spare => uptoBulkAll elems + uptoBulkAll spare + 1
  | .agg parts => uptoBulkAll parts + 1
  | .iface _ d => uptoBulk d + 1
  | .map entries => uptoBulkEntries entries + 1
  | .held _ => 1
def uptoBulkAll {H : Type} : List (DataW H) → Nat
  | [] => 0
  | d :: r => uptoBulk d + uptoBulkAll r
def uptoBulkEntries {H : Type} : List (Lit × DataW H) → Nat
  | [] => 0
  | x :: r => uptoBulkEntry x + uptoBulkEntries r
def uptoBulkEntry {H : Type} : Lit × DataW H → Nat
  | (.string bytes, d) => bytes.length + uptoBulk d + 1
  | (_, d) => uptoBulk d + 1
 end
def uptoSmall : (H : Type) → List (DataW H) → Bool := fun _ ds => decide (uptoBulkAll ds ≤ 1048576)
def OpenSpec.upto (s : _root_.Go.ChangeSpec) : _root_.Go.OpenSpec := { _root_.Go.OpenSpec.ofChange s with cond := some uptoSmall }

/-- 'vinculumlaw36.AccentMakes', WHERE WHAT IT READS IS OF BULK AT MOST 1048576: true; the input reads as it did. -/
def accentMakesUptoRow : OpenClaim := { program := "ytceigjonhabmmaa", sum := "19abac4ddaf9fcad29f8d9629af34860a820ff2f41ff169baff4d911cf00941a", func := "vinculum/vinculumlaw36.AccentMakes", spec := "accentMakes", unfollowed := true, recurses := true, loops := true, apart := false, narrowed := true }
def AccentMakesUptoSaid : Prop := accentMakesUptoRow.holds Try.pinned (OpenSpec.upto accentMakesSpec)

/-- 'vinculumlaw36.AccentAttach', WHERE WHAT IT READS IS OF BULK AT MOST 1048576: true; the input reads as it did. -/
def accentAttachUptoRow : OpenClaim := { program := "ytceigjonhabmmaa", sum := "19abac4ddaf9fcad29f8d9629af34860a820ff2f41ff169baff4d911cf00941a", func := "vinculum/vinculumlaw36.AccentAttach", spec := "accentAttach", unfollowed := true, recurses := true, loops := true, apart := false, narrowed := true }
def AccentAttachUptoSaid : Prop := accentAttachUptoRow.holds Try.pinned (OpenSpec.upto accentAttachSpec)

/-- 'vinculumlaw36.AccentAttached', WHERE WHAT IT READS IS OF BULK AT MOST 1048576: true; the input reads as it did. -/
def accentAttachedUptoRow : OpenClaim := { program := "ytceigjonhabmmaa", sum := "19abac4ddaf9fcad29f8d9629af34860a820ff2f41ff169baff4d911cf00941a", func := "vinculum/vinculumlaw36.AccentAttached", spec := "accentAttached", unfollowed := true, recurses := true, loops := true, apart := false, narrowed := true }
def AccentAttachedUptoSaid : Prop := accentAttachedUptoRow.holds Try.pinned (OpenSpec.upto accentAttachedSpec)

/-- 'vinculumlaw36.AccentInside', WHERE WHAT IT READS IS OF BULK AT MOST 1048576: true; the input reads as it did. -/
def accentInsideUptoRow : OpenClaim := { program := "ytceigjonhabmmaa", sum := "19abac4ddaf9fcad29f8d9629af34860a820ff2f41ff169baff4d911cf00941a", func := "vinculum/vinculumlaw36.AccentInside", spec := "accentInside", unfollowed := true, recurses := true, loops := true, apart := false, narrowed := true }
def AccentInsideUptoSaid : Prop := accentInsideUptoRow.holds Try.pinned (OpenSpec.upto accentInsideSpec)

/-- 'vinculumlaw36.AccentRaised', WHERE WHAT IT READS IS OF BULK AT MOST 1048576: true; the input reads as it did. -/
def accentRaisedUptoRow : OpenClaim := { program := "ytceigjonhabmmaa", sum := "19abac4ddaf9fcad29f8d9629af34860a820ff2f41ff169baff4d911cf00941a", func := "vinculum/vinculumlaw36.AccentRaised", spec := "accentRaised", unfollowed := true, recurses := true, loops := true, apart := false, narrowed := true }
def AccentRaisedUptoSaid : Prop := accentRaisedUptoRow.holds Try.pinned (OpenSpec.upto accentRaisedSpec)

end Rows
end Go.Proofs.Ytceigjonhabmmaa
