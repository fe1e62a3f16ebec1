/- Scaled and Height, in package font and in its reference. -/
import Derived.Test.YtgknameejoalnaaNum
import Derived.Test.YtgknameejoalnaaReg
namespace Go.Proofs.Ytgknameejoalnaa
open Go.RowKit

/-- The metrics of a glyph. -/
def Gly.nums (g : Gly) : List Int := [g.w, g.h, g.d, g.it, g.at_]
/-- All metrics are at most 20000. -/
def metricsOk (g : Gly) : Bool := allIn (-20000) 20000 g.nums
/-- A scaled glyph. -/
def sclG (g : Gly) (p : Int) : Gly := { name := g.name, w := scl g.w p, h := scl g.h p, d := scl g.d p, it := scl g.it p, at_ := scl g.at_ p }
def zeroG : Gly := { name := ⟨#[]⟩, w := 0, h := 0, d := 0, it := 0, at_ := 0 }
/-- The error of Scaled. -/
def scaledErr (g : Gly) (p : Int) : Int := if 1 ≤ p ∧ p ≤ 1000 then (if metricsOk g = true then 0 else 1) else 2
def scaledG (g : Gly) (p : Int) : Gly := if scaledErr g p = 0 then sclG g p else zeroG
/-- A glyph and a number, as a result. -/
def gePair (g : Gly) (e : Int) : Value := .tuple #[.agg #[.string g.name, .int .i64 g.w, .int .i64 g.h, .int .i64 g.d, .int .i64 g.it, .int .i64 g.at_], .int .i64 e]

theorem metricsOk_bd {g : Gly} (h : metricsOk g = true) : (-20000 ≤ g.w ∧ g.w ≤ 20000) ∧ (-20000 ≤ g.h ∧ g.h ≤ 20000) ∧ (-20000 ≤ g.d ∧ g.d ≤ 20000) ∧ (-20000 ≤ g.it ∧ g.it ≤ 20000) ∧ (-20000 ≤ g.at_ ∧ g.at_ ≤ 20000) := by
  simp [metricsOk, allIn, Gly.nums] at h
  omega

set_option maxHeartbeats 400000 in
theorem scaled1_calls (n p : Int) (a : Addr) (w : World) (h : w.cell? a = some (.int .i64 p)) :
    Calls Try.prog 28 #[.int .i64 n, .pointer (some a)] w (Draws (.int .i64 (scl n p)) w) := by
  go_enter Try.func28, Try.ntmps28
  go_wp2_with fail
  refine (length_Scale_calls n p _).mono ?_
  rintro e w' ⟨rfl, m, rfl⟩
  go_wp2_with fail
  go_ret
  exact ⟨rfl, m, rfl⟩

theorem scaled1_gives (n p : Int) (a : Addr) (w : World) (h : w.cell? a = some (.int .i64 p)) :
    Calls Try.prog 28 #[.int .i64 n, .pointer (some a)] w (Gives (.int .i64 (scl n p)) w) := (scaled1_calls n p a w h).mono fun _ _ h => h.gives

theorem within_one {w : World} {b : Nat} {n : Int} (h : w.cell? ⟨b, 0, none⟩ = some (.int .i64 n)) : ∀ i m, [n][i]? = some m → w.cell? ⟨b, 0 + i, none⟩ = some (.int .i64 m) := by
  intro i m hi
  rcases i with _ | i
  · simp at hi; subst hi; exact h
  · simp at hi

theorem within_five {w : World} {b : Nat} {n0 n1 n2 n3 n4 : Int} (h0 : w.cell? ⟨b, 0, none⟩ = some (.int .i64 n0)) (h1 : w.cell? ⟨b, 1, none⟩ = some (.int .i64 n1)) (h2 : w.cell? ⟨b, 2, none⟩ = some (.int .i64 n2))
    (h3 : w.cell? ⟨b, 3, none⟩ = some (.int .i64 n3)) (h4 : w.cell? ⟨b, 4, none⟩ = some (.int .i64 n4)) : ∀ i m, [n0, n1, n2, n3, n4][i]? = some m → w.cell? ⟨b, 0 + i, none⟩ = some (.int .i64 m) := by
  intro i m hi
  rcases i with _ | _ | _ | _ | _ | i <;> simp at hi
  · subst hi; exact h0
  · subst hi; exact h1
  · subst hi; exact h2
  · subst hi; exact h3
  · subst hi; exact h4

set_option maxHeartbeats 2000000 in
theorem font_Scaled_range (g : Gly) (p : Int) (w : World) (hp : ¬ (1 ≤ p ∧ p ≤ 1000)) :
    Calls Try.prog 11 #[.agg #[.string g.name, .int .i64 g.w, .int .i64 g.h, .int .i64 g.d, .int .i64 g.it, .int .i64 g.at_], .int .i64 p] w (Gives (gePair zeroG 2) w) := by
  have hr : allIn 1 1000 [p] = false := by simp [allIn]; omega
  go_enter Try.func11, Try.ntmps11
  go_wp2_with fail
  refine (font_within_calls 1 1000 [p] _ 0 1 _ (by simp) (within_one (by simp [go_sem]))).mono ?_
  rintro e w' ⟨rfl, rfl⟩
  go_wp2_with fail
  refine bodyPost_ret (v := gePair zeroG 2) (by simp [results, Try.results11, gePair, zeroG, go_sem]) rfl ⟨rfl, bnew (bnew (bnew (bnew (bself w) _) _) _) _⟩

set_option maxHeartbeats 2000000 in
theorem font_Scaled_arg (g : Gly) (p : Int) (w : World) (hp : 1 ≤ p ∧ p ≤ 1000) (hm : metricsOk g = false) :
    Calls Try.prog 11 #[.agg #[.string g.name, .int .i64 g.w, .int .i64 g.h, .int .i64 g.d, .int .i64 g.it, .int .i64 g.at_], .int .i64 p] w (Gives (gePair zeroG 1) w) := by
  have hr : allIn 1 1000 [p] = true := by simp [allIn]; omega
  have hm' : allIn (-20000) 20000 [g.w, g.h, g.d, g.it, g.at_] = false := hm
  clear hm
  go_enter Try.func11, Try.ntmps11
  go_wp2_with fail
  refine (font_within_calls 1 1000 [p] _ 0 1 _ (by simp) (within_one (by simp [go_sem]))).mono ?_
  rintro e w' ⟨rfl, rfl⟩
  go_wp2_with fail
  refine (font_within_calls (-20000) 20000 [g.w, g.h, g.d, g.it, g.at_] _ 0 5 _ (by simp) (within_five (by simp [go_sem]) (by simp [go_sem]) (by simp [go_sem]) (by simp [go_sem]) (by simp [go_sem]))).mono ?_
  rintro e w' ⟨rfl, rfl⟩
  go_wp2_with fail
  refine bodyPost_ret (v := gePair zeroG 1) (by simp [results, Try.results11, gePair, zeroG, go_sem]) rfl ⟨rfl, bnew (bnew (bnew (bnew (bnew (bself w) _) _) _) _) _⟩

set_option maxHeartbeats 4000000 in
theorem font_Scaled_ok (g : Gly) (p : Int) (w : World) (hp : 1 ≤ p ∧ p ≤ 1000) (hm : metricsOk g = true) :
    Calls Try.prog 11 #[.agg #[.string g.name, .int .i64 g.w, .int .i64 g.h, .int .i64 g.d, .int .i64 g.it, .int .i64 g.at_], .int .i64 p] w (Gives (gePair (sclG g p) 0) w) := by
  have hr : allIn 1 1000 [p] = true := by simp [allIn]; omega
  have hm' : allIn (-20000) 20000 [g.w, g.h, g.d, g.it, g.at_] = true := hm
  clear hm
  go_enter Try.func11, Try.ntmps11
  go_wp2_with fail
  refine (font_within_calls 1 1000 [p] _ 0 1 _ (by simp) (within_one (by simp [go_sem]))).mono ?_
  rintro e w' ⟨rfl, rfl⟩
  go_wp2_with fail
  refine (font_within_calls (-20000) 20000 [g.w, g.h, g.d, g.it, g.at_] _ 0 5 _ (by simp) (within_five (by simp [go_sem]) (by simp [go_sem]) (by simp [go_sem]) (by simp [go_sem]) (by simp [go_sem]))).mono ?_
  rintro e w' ⟨rfl, rfl⟩
  go_wp2_with fail
  refine wp_region_cls_tail [(⟨w.heap.size, 0, none⟩, .string g.name), (⟨w.heap.size, 1, none⟩, .int .i64 g.w), (⟨w.heap.size, 2, none⟩, .int .i64 g.h), (⟨w.heap.size, 3, none⟩, .int .i64 g.d), (⟨w.heap.size, 4, none⟩, .int .i64 g.it), (⟨w.heap.size, 5, none⟩, .int .i64 g.at_), (⟨w.heap.size + 1, 0, none⟩, .int .i64 p)] 23 (by kernel_rfl) (by kernel_rfl) (by simp [go_sem]) (fun C hC => ?_)
  simp only [List.take_succ_cons, List.take_zero, List.drop_succ_cons, List.drop_zero]
  repeat (first
      | (refine quiet_plain (by with_reducible rfl) ?_
         apply Exists.intro
         refine ⟨?_, ?_⟩
         focus (intro wq hq; have hc := hC.cells _ hq; simp at hc; go_simp; first | (go_at_call 28; exact hC.call hq (scaled1_gives _ p _ _ hc.2.2.2.2.2.2)) | (with_reducible rfl))
         simp only [Act.put, List.setIfInBounds_toArray, List.set_cons_zero, List.set_cons_succ])
      | (refine quiet_at (by with_reducible rfl) (by rfl) (by rfl) (by simp only [List.getElem?_toArray, List.getElem?_cons_succ, List.getElem?_cons_zero]; rfl) ?_
         first | (with_reducible refine QG_tt ?_) | (with_reducible refine QG_ff ?_)
         apply Exists.intro
         refine ⟨?_, ?_⟩
         focus (intro wq hq; have hc := hC.cells _ hq; simp at hc; go_simp; first | (go_at_call 28; exact hC.call hq (scaled1_gives _ p _ _ hc.2.2.2.2.2.2)) | (with_reducible rfl))
         simp only [Act.put, List.setIfInBounds_toArray, List.set_cons_zero, List.set_cons_succ])
      | (refine quiet_at (by with_reducible rfl) (by rfl) (by rfl) (by simp only [List.getElem?_toArray, List.getElem?_cons_succ, List.getElem?_cons_zero]; rfl) ?_
         first | (with_reducible refine QG_tf ?_) | (with_reducible refine QG_ft ?_) | (with_reducible refine QG_u ?_)
         simp only [Act.put, List.setIfInBounds_toArray, List.set_cons_zero, List.set_cons_succ]))
  refine wpQuiet_nil ?_
  intro wz hz
  have hbz := hC.below _ hz
  have d0 := hbz.cell (p := ⟨w.heap.size + 1 + 1, 0, none⟩) (by go_size)
  have d1 := hbz.cell (p := ⟨w.heap.size + 1 + 1, 1, none⟩) (by go_size)
  have d2 := hbz.cell (p := ⟨w.heap.size + 1 + 1, 2, none⟩) (by go_size)
  have d3 := hbz.cell (p := ⟨w.heap.size + 1 + 1, 3, none⟩) (by go_size)
  have d4 := hbz.cell (p := ⟨w.heap.size + 1 + 1, 4, none⟩) (by go_size)
  have d5 := hbz.cell (p := ⟨w.heap.size + 1 + 1, 5, none⟩) (by go_size)
  have f0 := hbz.frozen (p := ⟨w.heap.size + 1 + 1, 0, none⟩) (by go_size)
  have f1 := hbz.frozen (p := ⟨w.heap.size + 1 + 1, 1, none⟩) (by go_size)
  have f2 := hbz.frozen (p := ⟨w.heap.size + 1 + 1, 2, none⟩) (by go_size)
  have f3 := hbz.frozen (p := ⟨w.heap.size + 1 + 1, 3, none⟩) (by go_size)
  have f4 := hbz.frozen (p := ⟨w.heap.size + 1 + 1, 4, none⟩) (by go_size)
  have f5 := hbz.frozen (p := ⟨w.heap.size + 1 + 1, 5, none⟩) (by go_size)
  simp [go_sem] at d0 d1 d2 d3 d4 d5 f0 f1 f2 f3 f4 f5
  go_wp2_with fail
  refine bodyPost_ret (v := gePair (sclG g p) 0) (by simp [results, Try.results11, gePair, sclG, go_sem, *]) rfl ⟨rfl, ?_⟩
  have hb0 := bthen (bnew (bnew (bnew (bnew (bnew (bself w) _) _) _) _) _) hbz
  clear hbz
  repeat (first | (with_reducible exact hb0) | (with_reducible refine Below.setCell ?_ ?_ _) | go_size)

theorem font_Scaled_calls (g : Gly) (p : Int) (w : World) :
    Calls Try.prog 11 #[.agg #[.string g.name, .int .i64 g.w, .int .i64 g.h, .int .i64 g.d, .int .i64 g.it, .int .i64 g.at_], .int .i64 p] w (Gives (gePair (scaledG g p) (scaledErr g p)) w) := by
  unfold scaledG scaledErr
  by_cases hp : 1 ≤ p ∧ p ≤ 1000
  · rw [if_pos hp]
    cases hm : metricsOk g
    · exact font_Scaled_arg g p w hp hm
    · exact font_Scaled_ok g p w hp hm
  · rw [if_neg hp]
    exact font_Scaled_range g p w hp

end Go.Proofs.Ytgknameejoalnaa
