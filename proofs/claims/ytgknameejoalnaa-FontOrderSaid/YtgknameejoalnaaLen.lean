/- Package length: Valid, quotient by 100 and by 2, Scale, Half; the reference's scaling. -/
import Derived.Test.YtgknameejoalnaaBase
namespace Go.Proofs.Ytgknameejoalnaa
open Go.RowKit

/-- a / b, rounded to the nearest integer, halves away from zero. -/
def rdiv (a b : Int) : Int := if 0 ≤ a then (2 * a + b) / (2 * b) else -((2 * (-a) + b) / (2 * b))
/-- Is it a length? -/
def lenOk (n : Int) : Bool := decide (-1073741824 ≤ n) && decide (n ≤ 1073741824)
/-- A percentage of a length. -/
def scl (n p : Int) : Int := if lenOk n = true ∧ 0 ≤ p ∧ p ≤ 10000 then rdiv (n * p) 100 else 0
/-- Half a length. -/
def hlf (n : Int) : Int := if lenOk n = true then rdiv n 2 else 0

theorem lenOk_iff {n : Int} : lenOk n = true ↔ -1073741824 ≤ n ∧ n ≤ 1073741824 := by simp [lenOk]
theorem scl_ok {n p : Int} (h : -1073741824 ≤ n ∧ n ≤ 1073741824) (h0 : 0 ≤ p) (h1 : p ≤ 10000) : scl n p = rdiv (n * p) 100 := by
  unfold scl; rw [if_pos ⟨lenOk_iff.2 h, h0, h1⟩]
theorem hlf_ok {n : Int} (h : -1073741824 ≤ n ∧ n ≤ 1073741824) : hlf n = rdiv n 2 := by
  unfold hlf; rw [if_pos (lenOk_iff.2 h)]

set_option maxHeartbeats 400000 in
theorem length_Valid_calls (a : Int) (w : World) :
    Calls Try.prog 41 #[.int .i64 a] w fun e w' => e = .returned (.bool (lenOk a)) ∧ w = w' := by
  go_enter Try.func41, Try.ntmps41
  go_wp2
  all_goals (go_ret; refine ⟨ret_bool ?_, rfl⟩; unfold lenOk; simp; omega)

set_option maxHeartbeats 1000000 in
theorem quotient_100_p (a : Int) (w : World) (h0 : 0 ≤ a) (h1 : a ≤ 10737418240000) :
    Calls Try.prog 42 #[.int .i64 a, .int .i64 100] w fun e w' => e = .returned (.int .i64 (rdiv a 100)) ∧ ∃ n, w.drewN n = w' := by
  go_enter Try.func42, Try.ntmps42
  go_wp2
  go_quiet (fail)
  go_wp2
  all_goals (go_ret; refine ⟨ret_int ?_, _, rfl⟩; unfold rdiv; simp at *; try omega)

set_option maxHeartbeats 1000000 in
theorem quotient_100_n (a : Int) (w : World) (h0 : a < 0) (h1 : -10737418240000 ≤ a) :
    Calls Try.prog 42 #[.int .i64 a, .int .i64 100] w fun e w' => e = .returned (.int .i64 (rdiv a 100)) ∧ ∃ n, w.drewN n = w' := by
  have e1 : a.tdiv 100 = -((-a) / 100) := by rw [← Int.tdiv_eq_ediv_of_nonneg (by omega), Int.neg_tdiv]; omega
  have e2 : a.tmod 100 = -((-a) % 100) := by rw [← Int.tmod_eq_emod_of_nonneg (by omega), Int.neg_tmod]; omega
  have b1 : 0 ≤ (-a) / 100 ∧ (-a) / 100 ≤ 10737418240000 ∧ 0 ≤ (-a) % 100 ∧ (-a) % 100 < 100 := by omega
  go_enter Try.func42, Try.ntmps42
  go_wp2
  go_quiet (fail)
  go_wp2
  all_goals (go_ret; refine ⟨ret_int ?_, _, rfl⟩; unfold rdiv; simp at *; try omega)

set_option maxHeartbeats 1000000 in
theorem quotient_2_p (a : Int) (w : World) (h0 : 0 ≤ a) (h1 : a ≤ 10737418240000) :
    Calls Try.prog 42 #[.int .i64 a, .int .i64 2] w fun e w' => e = .returned (.int .i64 (rdiv a 2)) ∧ ∃ n, w.drewN n = w' := by
  go_enter Try.func42, Try.ntmps42
  go_wp2
  go_quiet (fail)
  go_wp2
  all_goals (go_ret; refine ⟨ret_int ?_, _, rfl⟩; unfold rdiv; simp at *; try omega)

set_option maxHeartbeats 1000000 in
theorem quotient_2_n (a : Int) (w : World) (h0 : a < 0) (h1 : -10737418240000 ≤ a) :
    Calls Try.prog 42 #[.int .i64 a, .int .i64 2] w fun e w' => e = .returned (.int .i64 (rdiv a 2)) ∧ ∃ n, w.drewN n = w' := by
  have e1 : a.tdiv 2 = -((-a) / 2) := by rw [← Int.tdiv_eq_ediv_of_nonneg (by omega), Int.neg_tdiv]; omega
  have e2 : a.tmod 2 = -((-a) % 2) := by rw [← Int.tmod_eq_emod_of_nonneg (by omega), Int.neg_tmod]; omega
  have b1 : 0 ≤ (-a) / 2 ∧ (-a) / 2 ≤ 10737418240000 ∧ 0 ≤ (-a) % 2 ∧ (-a) % 2 < 2 := by omega
  go_enter Try.func42, Try.ntmps42
  go_wp2
  go_quiet (fail)
  go_wp2
  all_goals (go_ret; refine ⟨ret_int ?_, _, rfl⟩; unfold rdiv; simp at *; try omega)

/-- A call that leaves the world alone but for draws. -/
def Draws (v : Value) (w : World) (e : Ending) (w' : World) : Prop := e = .returned v ∧ ∃ n, w.drewN n = w'

theorem quotient_100_calls (a : Int) (w : World) (h0 : -10737418240000 ≤ a) (h1 : a ≤ 10737418240000) :
    Calls Try.prog 42 #[.int .i64 a, .int .i64 100] w (Draws (.int .i64 (rdiv a 100)) w) := by
  by_cases h : 0 ≤ a
  · exact quotient_100_p a w h h1
  · exact quotient_100_n a w (by omega) h0
theorem quotient_2_calls (a : Int) (w : World) (h0 : -10737418240000 ≤ a) (h1 : a ≤ 10737418240000) :
    Calls Try.prog 42 #[.int .i64 a, .int .i64 2] w (Draws (.int .i64 (rdiv a 2)) w) := by
  by_cases h : 0 ≤ a
  · exact quotient_2_p a w h h1
  · exact quotient_2_n a w (by omega) h0

theorem mul_bd {n p : Int} (h : -1073741824 ≤ n ∧ n ≤ 1073741824) (h0 : 0 ≤ p) (h1 : p ≤ 10000) : -10737418240000 ≤ n * p ∧ n * p ≤ 10737418240000 := by
  have a1 : n * p ≤ 1073741824 * p := Int.mul_le_mul_of_nonneg_right h.2 h0
  have a2 : -1073741824 * p ≤ n * p := Int.mul_le_mul_of_nonneg_right h.1 h0
  omega

set_option maxHeartbeats 1000000 in
theorem scale_in (n p : Int) (w : World) (h : -1073741824 ≤ n ∧ n ≤ 1073741824) (h0 : 0 ≤ p) (h1 : p ≤ 10000) :
    Calls Try.prog 29 #[.int .i64 n, .int .i64 p] w (Draws (.int .i64 (scl n p)) w) := by
  have hb := mul_bd h h0 h1
  have hv : lenOk n = true := lenOk_iff.2 h
  have hs := Lib.hid (scl_ok h h0 h1)
  have hm : wrap64 (n * p) = n * p := IntWalk.wrap64_in _ (by omega)
  go_enter Try.func29, Try.ntmps29
  go_wp2_with fail
  refine (length_Valid_calls _ _).mono ?_
  rintro e w' ⟨rfl, rfl⟩
  go_wp2_with fail
  refine (quotient_100_calls _ _ hb.1 hb.2).mono ?_
  rintro e w' ⟨rfl, m, rfl⟩
  go_wp2_with fail
  go_ret
  exact ⟨ret_int hs.out.symm, m, rfl⟩

set_option maxHeartbeats 1000000 in
theorem scale_out (n p : Int) (w : World) (h : ¬ (lenOk n = true ∧ 0 ≤ p ∧ p ≤ 10000)) :
    Calls Try.prog 29 #[.int .i64 n, .int .i64 p] w (Draws (.int .i64 (scl n p)) w) := by
  have hs := Lib.hid (show scl n p = 0 by unfold scl; rw [if_neg h])
  have hc : lenOk n = false ∨ (lenOk n = true ∧ p < 0) ∨ (lenOk n = true ∧ 0 ≤ p ∧ 10000 < p) := by
    cases hl : lenOk n
    · exact .inl rfl
    · rw [hl] at h; simp at h; by_cases h2 : 0 ≤ p
      · exact .inr (.inr ⟨rfl, h2, h h2⟩)
      · exact .inr (.inl ⟨rfl, by omega⟩)
  clear h
  rcases hc with h | ⟨h, h2⟩ | ⟨h, h2, h3⟩
  all_goals
    go_enter Try.func29, Try.ntmps29
    go_wp2_with fail
    refine (length_Valid_calls _ _).mono ?_
    rintro e w' ⟨rfl, rfl⟩
    go_wp2_with fail
    go_ret
    exact ⟨ret_int hs.out.symm, 0, rfl⟩

theorem length_Scale_calls (n p : Int) (w : World) : Calls Try.prog 29 #[.int .i64 n, .int .i64 p] w (Draws (.int .i64 (scl n p)) w) := by
  by_cases h : lenOk n = true ∧ 0 ≤ p ∧ p ≤ 10000
  · exact scale_in n p w (lenOk_iff.1 h.1) h.2.1 h.2.2
  · exact scale_out n p w h

theorem Draws.gives {v : Value} {w w' : World} {e : Ending} (h : Draws v w e w') : Gives v w e w' := by
  obtain ⟨he, n, rfl⟩ := h
  exact ⟨he, below_drewN (Below.refl _ _) n⟩

end Go.Proofs.Ytgknameejoalnaa
