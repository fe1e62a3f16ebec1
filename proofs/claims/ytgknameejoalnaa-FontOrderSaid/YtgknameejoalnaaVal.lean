/- Stretches of a font, and a font: what is required of them. -/
import Derived.Test.YtgknameejoalnaaGlo
import Derived.Test.YtgknameejoalnaaOfl
namespace Go.Proofs.Ytgknameejoalnaa
open Go.RowKit

attribute [local irreducible] wpQuiet wpG wpP wpList Code.wp

/-- The k-th size is there, and higher than the one ahead. -/
def SizeOk (gs : List Gly) (sz : List ByteArray) (k : Nat) (n : ByteArray) : Prop :=
  ∃ g, findG gs n = some g ∧ ∀ m n' g', k = m + 1 → sz[m]? = some n' → findG gs n' = some g' → g'.h + g'.d < g.h + g.d
/-- A part is there, and higher than the overlap. -/
def PartOk (gs : List Gly) (ov : Int) (p : Prt) : Prop := ∃ g, findG gs p.name = some g ∧ ov < g.h + g.d
/-- A stretch by itself. -/
def StrReq (gs : List Gly) (s : Str) : Prop :=
  nameOk s.name = true ∧ 1 ≤ s.sizes.length ∧ s.sizes.length ≤ 16 ∧ s.parts.length ≤ 8 ∧ (∀ k n, s.sizes[k]? = some n → SizeOk gs s.sizes k n) ∧
  ((s.parts = [] ∧ s.ov = 0) ∨ (s.parts ≠ [] ∧ (∀ p ∈ s.parts, PartOk gs s.ov p) ∧ (s.parts.any fun p => p.ext) = true ∧ 0 ≤ s.ov))
/-- No stretch ahead has its name. -/
def freshS (ss : List Str) (k : Nat) (s : Str) : Prop := ∀ j, j < k → ∀ s', ss[j]? = some s' → (s'.name.toList == s.name.toList) = false
def StrsReq (gs : List Gly) (ss : List Str) : Prop := ∀ k s, ss[k]? = some s → StrReq gs s ∧ freshS ss k s
/-- A font is valid. -/
def ValidF (F : Fnt) : Prop := F.gs.length ≤ 400 ∧ F.ss.length ≤ 40 ∧ prmOk F = true ∧ GlysOk F.gs ∧ StrsReq F.gs F.ss

end Go.Proofs.Ytgknameejoalnaa
