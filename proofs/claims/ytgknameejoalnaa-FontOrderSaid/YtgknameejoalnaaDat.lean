/- Glyphs, stretches and fonts as plain data, and how they lie in memory. -/
import Derived.Test.YtgknameejoalnaaBase
namespace Go.Proofs.Ytgknameejoalnaa
open Go.RowKit

/-- A glyph. -/
structure Gly where
  name : ByteArray
  w : Int
  h : Int
  d : Int
  it : Int
  at_ : Int

/-- An int of Go's. -/
def I64 (n : Int) : Prop := -9223372036854775808 ≤ n ∧ n ≤ 9223372036854775807

def Gly.wf (g : Gly) : Prop := I64 g.w ∧ I64 g.h ∧ I64 g.d ∧ I64 g.it ∧ I64 g.at_
def Gly.val (g : Gly) : Value := .agg #[.string g.name, .int .i64 g.w, .int .i64 g.h, .int .i64 g.d, .int .i64 g.it, .int .i64 g.at_]

/-- The six cells of a glyph at a place. -/
def GlyAt (w : World) (b o : Nat) (g : Gly) : Prop :=
  w.cell? ⟨b, o, none⟩ = some (.string g.name) ∧ w.cell? ⟨b, o + 1, none⟩ = some (.int .i64 g.w) ∧ w.cell? ⟨b, o + 2, none⟩ = some (.int .i64 g.h) ∧
  w.cell? ⟨b, o + 3, none⟩ = some (.int .i64 g.d) ∧ w.cell? ⟨b, o + 4, none⟩ = some (.int .i64 g.it) ∧ w.cell? ⟨b, o + 5, none⟩ = some (.int .i64 g.at_)

/-- The slice v holds these glyphs. -/
def GlysAt (w : World) (v : Value) (gs : List Gly) : Prop :=
  (∃ x c, v = .slice x 0 c ∧ gs = []) ∨ ∃ b o c, v = .slice (some ⟨b, o, none⟩) gs.length c ∧ ∀ i g, gs[i]? = some g → GlyAt w b (o + i * 6) g

/-- The first glyph with a name. -/
def findG (gs : List Gly) (s : ByteArray) : Option Gly := gs.find? fun g => g.name.toList == s.toList

end Go.Proofs.Ytgknameejoalnaa
