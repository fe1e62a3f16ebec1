/- The law's package is awake: style.Slot at one input. -/
import Derived.Test.YtillohdeljlchaaSty
import Derived.Test.YtillohdeljlchaaReg
namespace Go.Proofs.Ytillohdeljlchaa
open Go.RowKit

theorem awk_rules (w : World) : Calls Try.prog 21 #[] w fun e w' => e = .returned (rulesVal w.heap.size) ∧ Below w.heap.size w w' ∧ w'.cell? ⟨w.heap.size + 1, 0, none⟩ = some (.func (.func 27) #[] #[]) ∧ w'.cell? ⟨w.heap.size + 1, 1, none⟩ = some (.bool false) ∧ w'.cell? ⟨w.heap.size + 1, 2, none⟩ = some (.func (.func 27) #[] #[]) ∧ w'.cell? ⟨w.heap.size + 1, 3, none⟩ = some (.bool true) :=
  (style_rules_calls w).mono fun _ _ ⟨he, hw⟩ => hw ▸ ⟨he, rulesWorld_below w, rulesWorld_5 w⟩

set_option maxHeartbeats 1000000 in
theorem awk_slot (l : Int) (w : World) (h0 : 0 ≤ l) (h3 : l ≤ 3) :
    Calls Try.prog 11 #[.int .i64 5, .int .i64 1, .agg #[.int .i64 l, .bool false]] w (Gives (.tuple #[.agg #[.int .i64 (min (l + 1) 3), .bool true], .int .i64 0]) w) := by
  have hv : (decide (0 ≤ l) && decide (l ≤ 3)) = true := by simp; omega
  go_enter Try.func11, Try.ntmps11
  go_wp2_with fail
  refine (style_Valid_calls _ _ _).mono ?_
  rintro e w' ⟨rfl, rfl⟩
  go_wp2_with fail
  refine (awk_rules _).mono ?_
  rintro e w1 ⟨rfl, hb, c0, c1, c2, c3⟩
  simp only [World.size_alloc] at hb c0 c1 c2 c3
  have d0 := hb.cell (p := ⟨w.heap.size, 0, none⟩) (by simp; omega)
  have d1 := hb.cell (p := ⟨w.heap.size, 1, none⟩) (by simp; omega)
  have d2 := hb.cell (p := ⟨w.heap.size + 1, 0, none⟩) (by simp)
  have d3 := hb.cell (p := ⟨w.heap.size + 1, 1, none⟩) (by simp)
  have f2 := hb.frozen (p := ⟨w.heap.size + 1, 0, none⟩) (by simp)
  have f3 := hb.frozen (p := ⟨w.heap.size + 1, 1, none⟩) (by simp)
  simp [go_sem] at d0 d1 d2 d3 f2 f3
  have hz : w.heap.size + 1 + 1 + 1 ≤ w1.heap.size := by simpa using hb.size
  have hbb : Below w.heap.size w w1 := ((((Below.refl _ _).alloc (Nat.le_refl _) _).alloc (by go_size) _).alloc (by go_size) _).trans (hb.mono (by go_size))
  have hz0 : w.heap.size < w1.heap.size := by omega
  have hz1 : w.heap.size + 1 < w1.heap.size := by omega
  have i5 := rules_index_5
  go_wp2_with fail
  refine wp_region_steady (fun w' => ∃ n, w' = World.drewN _ n) 12 (by kernel_rfl) (by kernel_rfl) ⟨1, rfl⟩ ?_
  simp only [List.take_succ_cons, List.take_zero, List.drop_succ_cons, List.drop_zero]
  repeat (quiet_step ((go_at_call 27; exact Calls.quiet_of_same ((style_next_calls _ _ h0 h3).mono fun _ _ ⟨he, hw⟩ => ⟨he, hw.symm⟩))))
  refine wpQuiet_nil ?_
  intro _ hw'
  obtain ⟨nq, hw''⟩ := hw'
  subst hw''
  go_wp2
  refine bodyPost_ret (v := .tuple #[.agg #[.int .i64 (min (l + 1) 3), .bool true], .int .i64 0]) (by simp [results, Try.results11, go_sem, *]) rfl ⟨rfl, ?_⟩
  refine Below.setCell (Below.setCell (below_drewN (Below.alloc hbb ?_ _) _) ?_ _) ?_ _ <;> go_size

theorem awake25_calls (w : World) : Calls Try.prog 10 #[] w (Gives (.bool true) w) := by
  go_enter Try.func10, Try.ntmps10
  go_wp2_with fail
  refine (awk_slot 0 _ (by decide) (by decide)).mono ?_
  rw [show min ((0 : Int) + 1) 3 = 1 from rfl]
  rintro e w1 ⟨rfl, hb⟩
  go_wp2_with fail
  go_ret
  exact ⟨rfl, hb.alloc hb.size _⟩

end Go.Proofs.Ytillohdeljlchaa
