/- Scaled and Height, in package font and in its reference. -/
import Derived.Test.YtillohdeljlchaaNum
import Derived.Test.YtillohdeljlchaaReg
namespace Go.Proofs.Ytillohdeljlchaa
open Go.RowKit

/-- The metrics of a glyph. -/
def Gly.nums (g : Gly) : List Int := [g.w, g.h, g.d, g.it, g.at_]
/-- All metrics are at most 20000. -/
def metricsOk (g : Gly) : Bool := allIn (-20000) 20000 g.nums
/-- A scaled glyph. -/
def sclG (g : Gly) (p : Int) : Gly := { name := g.name, w := scl g.w p, h := scl g.h p, d := scl g.d p, it := scl g.it p, at_ := scl g.at_ p }
def zeroG : Gly := { name := ⟨#[]⟩, w := 0, h := 0, d := 0, it := 0, at_ := 0 }
/-- The error of Scaled. -/
def scaledErr (g : Gly) (p : Int) : Int := if 1 ≤ p ∧ p ≤ 1000 then (if metricsOk g = true then 0 else 1) else 2
def scaledG (g : Gly) (p : Int) : Gly := if scaledErr g p = 0 then sclG g p else zeroG
/-- A glyph and a number, as a result. -/
def gePair (g : Gly) (e : Int) : Value := .tuple #[.agg #[.string g.name, .int .i64 g.w, .int .i64 g.h, .int .i64 g.d, .int .i64 g.it, .int .i64 g.at_], .int .i64 e]

theorem metricsOk_bd {g : Gly} (h : metricsOk g = true) : (-20000 ≤ g.w ∧ g.w ≤ 20000) ∧ (-20000 ≤ g.h ∧ g.h ≤ 20000) ∧ (-20000 ≤ g.d ∧ g.d ≤ 20000) ∧ (-20000 ≤ g.it ∧ g.it ≤ 20000) ∧ (-20000 ≤ g.at_ ∧ g.at_ ≤ 20000) := by
  simp [metricsOk, allIn, Gly.nums] at h
  omega





theorem within_one {w : World} {b : Nat} {n : Int} (h : w.cell? ⟨b, 0, none⟩ = some (.int .i64 n)) : ∀ i m, [n][i]? = some m → w.cell? ⟨b, 0 + i, none⟩ = some (.int .i64 m) := by
  intro i m hi
  rcases i with _ | i
  · simp at hi; subst hi; exact h
  · simp at hi

theorem within_five {w : World} {b : Nat} {n0 n1 n2 n3 n4 : Int} (h0 : w.cell? ⟨b, 0, none⟩ = some (.int .i64 n0)) (h1 : w.cell? ⟨b, 1, none⟩ = some (.int .i64 n1)) (h2 : w.cell? ⟨b, 2, none⟩ = some (.int .i64 n2))
    (h3 : w.cell? ⟨b, 3, none⟩ = some (.int .i64 n3)) (h4 : w.cell? ⟨b, 4, none⟩ = some (.int .i64 n4)) : ∀ i m, [n0, n1, n2, n3, n4][i]? = some m → w.cell? ⟨b, 0 + i, none⟩ = some (.int .i64 m) := by
  intro i m hi
  rcases i with _ | _ | _ | _ | _ | i <;> simp at hi
  · subst hi; exact h0
  · subst hi; exact h1
  · subst hi; exact h2
  · subst hi; exact h3
  · subst hi; exact h4









end Go.Proofs.Ytillohdeljlchaa
