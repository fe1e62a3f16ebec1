/- Package length: Valid, quotient by 100 and by 2, Scale, Half; the reference's scaling. -/
import Derived.Test.YtillohdeljlchaaBase
namespace Go.Proofs.Ytillohdeljlchaa
open Go.RowKit

/-- a / b, rounded to the nearest integer, halves away from zero. -/
def rdiv (a b : Int) : Int := if 0 ≤ a then (2 * a + b) / (2 * b) else -((2 * (-a) + b) / (2 * b))
/-- Is it a length? -/
def lenOk (n : Int) : Bool := decide (-1073741824 ≤ n) && decide (n ≤ 1073741824)
/-- A percentage of a length. -/
def scl (n p : Int) : Int := if lenOk n = true ∧ 0 ≤ p ∧ p ≤ 10000 then rdiv (n * p) 100 else 0
/-- Half a length. -/
def hlf (n : Int) : Int := if lenOk n = true then rdiv n 2 else 0

theorem lenOk_iff {n : Int} : lenOk n = true ↔ -1073741824 ≤ n ∧ n ≤ 1073741824 := by simp [lenOk]
theorem scl_ok {n p : Int} (h : -1073741824 ≤ n ∧ n ≤ 1073741824) (h0 : 0 ≤ p) (h1 : p ≤ 10000) : scl n p = rdiv (n * p) 100 := by
  unfold scl; rw [if_pos ⟨lenOk_iff.2 h, h0, h1⟩]
theorem hlf_ok {n : Int} (h : -1073741824 ≤ n ∧ n ≤ 1073741824) : hlf n = rdiv n 2 := by
  unfold hlf; rw [if_pos (lenOk_iff.2 h)]











/-- A call that leaves the world alone but for draws. -/
def Draws (v : Value) (w : World) (e : Ending) (w' : World) : Prop := e = .returned v ∧ ∃ n, w.drewN n = w'



theorem mul_bd {n p : Int} (h : -1073741824 ≤ n ∧ n ≤ 1073741824) (h0 : 0 ≤ p) (h1 : p ≤ 10000) : -10737418240000 ≤ n * p ∧ n * p ≤ 10737418240000 := by
  have a1 : n * p ≤ 1073741824 * p := Int.mul_le_mul_of_nonneg_right h.2 h0
  have a2 : -1073741824 * p ≤ n * p := Int.mul_le_mul_of_nonneg_right h.1 h0
  omega







theorem Draws.gives {v : Value} {w w' : World} {e : Ending} (h : Draws v w e w') : Gives v w e w' := by
  obtain ⟨he, n, rfl⟩ := h
  exact ⟨he, below_drewN (Below.refl _ _) n⟩

end Go.Proofs.Ytillohdeljlchaa
