/- Words used by the proofs of this seat: how a call ends, and what stays of the memory. -/
import Derived.Test.YtgknameejoalnaaRows
import Derived.WalkKit
import Derived.WalkSpells
import Derived.WalkLawsBesides
import Derived.Deep.QuietTactic
import Derived.Deep.RegionHeld3
import Derived.BigQuiet
import Derived.StillTailTactics
import Derived.Lib.Hide
import Derived.WalkSmall
import Derived.Deep.DeepFit
import Derived.Outline
import Derived.Handy
import Derived.Laws.EntriesVeiled
namespace Go.Proofs.Ytgknameejoalnaa
open Go.RowKit

/-- The call returns v, and nothing that was there before it has changed. -/
def Gives (v : Value) (w : World) (e : Ending) (w' : World) : Prop := e = .returned v ∧ Below w.heap.size w w'

theorem Gives.mk {v : Value} {w : World} {e : Ending} {w' : World} (h : e = .returned v) (hb : Below w.heap.size w w') : Gives v w e w' := ⟨h, hb⟩

theorem bcell {W w1 : World} (hb : Below W.heap.size W w1) : (∀ b o, b < W.heap.size → w1.cell? ⟨b, o, none⟩ = W.cell? ⟨b, o, none⟩) ∧ (∀ b o, b < W.heap.size → w1.frozen? ⟨b, o, none⟩ = W.frozen? ⟨b, o, none⟩) :=
  ⟨fun b o h => hb.cell (p := ⟨b, o, none⟩) h, fun b o h => hb.frozen (p := ⟨b, o, none⟩) h⟩

theorem ret_int {k : IntKind} {a b : Int} (h : a = b) : Ending.returned (.int k a) = .returned (.int k b) := by rw [h]
theorem ret_bool {a b : Bool} (h : a = b) : Ending.returned (.bool a) = .returned (.bool b) := by rw [h]

/-- A block that is older than a world is older than that world with some blocks more. -/
theorem lt_more {a b : Nat} (h : a < b) : a < b ∧ a < b + 1 ∧ a < b + 1 + 1 ∧ a < b + 1 + 1 + 1 ∧ a < b + 1 + 1 + 1 + 1 ∧ a < b + 1 + 1 + 1 + 1 + 1 ∧ a < b + 1 + 1 + 1 + 1 + 1 + 1 := by omega

/-- One call behind another. -/
theorem bthen {w a b : World} (h : Below w.heap.size w a) (k : Below a.heap.size a b) : Below w.heap.size w b := h.trans (k.mono h.size)
/-- A new block behind a call. -/
theorem bnew {w a : World} (h : Below w.heap.size w a) (o : Obj) : Below w.heap.size w (a.alloc o) := h.alloc h.size o
theorem bself (w : World) : Below w.heap.size w w := Below.refl _ _

end Go.Proofs.Ytgknameejoalnaa
