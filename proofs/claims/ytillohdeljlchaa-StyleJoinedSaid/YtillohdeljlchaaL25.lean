/- The laws of chapter 25 on Slot. -/
import Derived.Test.YtillohdeljlchaaSlotA
import Derived.Test.YtillohdeljlchaaLaw
namespace Go.Proofs.Ytillohdeljlchaa
open Go.RowKit Go.ChangeShapes Go.WideShapes Go.ChangeAt

set_option maxHeartbeats 400000 in
theorem awake_calls (w : World) : Calls Try.prog 10 #[] w (Gives (.bool true) w) := by
  go_enter Try.func10, Try.ntmps10
  go_wp2_with fail
  refine (style_Slot_calls 5 1 0 false _).mono ?_
  rw [show slotVal 5 1 0 false = .tuple #[.agg #[.int .i64 1, .bool true], .int .i64 0] from rfl]
  rintro e w1 ⟨rfl, hb⟩
  go_wp2_with fail
  go_ret
  exact ⟨rfl, hb.alloc hb.size _⟩

set_option maxHeartbeats 400000 in
theorem descends_err (k s l E : Int) (c : Bool) (w : World) (hE : E = 1 ∨ E = 2)
    (H : ∀ w, Calls Try.prog 11 #[.int .i64 k, .int .i64 s, .agg #[.int .i64 l, .bool c]] w (Gives (.tuple #[.agg #[.int .i64 0, .bool false], .int .i64 E]) w)) :
    Calls Try.prog 3 #[.int .i64 k, .int .i64 s, .agg #[.int .i64 l, .bool c]] w (Gives (.bool true) w) := by
  have HH := Lib.hid H
  clear H
  have h1 : (E != 0) = true := by rw [bne_iff_ne]; omega
  clear hE
  go_enter Try.func3, Try.ntmps3
  go_wp2_with fail
  refine (awake_calls _).mono ?_
  rintro e w1 ⟨rfl, hb⟩
  have d0 := hb.cell (p := ⟨w.heap.size, 0, none⟩) (by simp)
  have d1 := hb.cell (p := ⟨w.heap.size, 1, none⟩) (by simp)
  simp [go_sem] at d0 d1
  go_wp2_with fail
  refine (HH.out _).mono ?_
  rintro e w2 ⟨rfl, hb2⟩
  go_wp2_with fail
  go_ret
  exact ⟨rfl, bnew (bthen (bthen (bnew (bself w) _) hb) hb2) _⟩

set_option maxHeartbeats 400000 in
theorem descends_ok (k s l L : Int) (c C : Bool) (w : World) (h0 : 0 ≤ l) (h3 : l ≤ 3) (g0 : 0 ≤ L) (g3 : L ≤ 3) (hl : l ≤ L) (hc : C = true ∨ c = false)
    (H : ∀ w, Calls Try.prog 11 #[.int .i64 k, .int .i64 s, .agg #[.int .i64 l, .bool c]] w (Gives (.tuple #[.agg #[.int .i64 L, .bool C], .int .i64 0]) w)) :
    Calls Try.prog 3 #[.int .i64 k, .int .i64 s, .agg #[.int .i64 l, .bool c]] w (Gives (.bool true) w) := by
  have HH := Lib.hid H
  clear H
  have v1 : (decide (0 ≤ l) && decide (l ≤ 3)) = true := by simp; omega
  have v2 : (decide (0 ≤ L) && decide (L ≤ 3)) = true := by simp; omega
  go_enter Try.func3, Try.ntmps3
  go_wp2_with fail
  refine (awake_calls _).mono ?_
  rintro e w1 ⟨rfl, hb⟩
  have d0 := hb.cell (p := ⟨w.heap.size, 0, none⟩) (by simp)
  have d1 := hb.cell (p := ⟨w.heap.size, 1, none⟩) (by simp)
  simp [go_sem] at d0 d1
  have hz := hb.size
  simp only [World.size_alloc] at hz
  have hz0 : w.heap.size < w1.heap.size := by omega
  go_wp2_with fail
  refine (HH.out _).mono ?_
  rintro e w2 ⟨rfl, hb2⟩
  have e0 := hb2.cell (p := ⟨w.heap.size, 0, none⟩) hz0
  have e1 := hb2.cell (p := ⟨w.heap.size, 1, none⟩) hz0
  rw [d0] at e0
  rw [d1] at e1
  have hz2 := hb2.size
  have hz3 := lt_more (show w.heap.size < w2.heap.size by omega)
  rcases hc with rfl | rfl
  all_goals
    go_wp2_with fail
    refine (style_Valid_calls _ _ _).mono ?_
    rintro e w' ⟨rfl, rfl⟩
    go_wp2_with fail
    refine (style_Valid_calls _ _ _).mono ?_
    rintro e w' ⟨rfl, rfl⟩
    go_wp2_with fail
  all_goals
    go_ret
    exact ⟨rfl, bnew (bnew (bnew (bthen (bthen (bnew (bself w) _) hb) hb2) _) _) _⟩

set_option maxHeartbeats 400000 in
theorem slotLaw (k s l L E : Int) (c C : Bool) (w : World)
    (H : ∀ w, Calls Try.prog 11 #[.int .i64 k, .int .i64 s, .agg #[.int .i64 l, .bool c]] w (Gives (.tuple #[.agg #[.int .i64 L, .bool C], .int .i64 E]) w))
    (G : ∀ w, Calls Try.prog 13 #[.int .i64 k, .int .i64 s, .agg #[.int .i64 l, .bool c]] w (Gives (.tuple #[.agg #[.int .i64 L, .bool C], .int .i64 E]) w)) :
    Calls Try.prog 4 #[.int .i64 k, .int .i64 s, .agg #[.int .i64 l, .bool c]] w (Gives (.bool true) w) := by
  have HH := Lib.hid H
  have GG := Lib.hid G
  clear H G
  go_enter Try.func4, Try.ntmps4
  go_wp2_with fail
  refine (awake_calls _).mono ?_
  rintro e w1 ⟨rfl, hb⟩
  have d0 := hb.cell (p := ⟨w.heap.size, 0, none⟩) (by simp)
  have d1 := hb.cell (p := ⟨w.heap.size, 1, none⟩) (by simp)
  simp [go_sem] at d0 d1
  have hz := hb.size
  simp only [World.size_alloc] at hz
  have hz1 := lt_more (show w.heap.size < w1.heap.size by omega)
  go_wp2_with fail
  refine (HH.out _).mono ?_
  rintro e w2 ⟨rfl, hb2⟩
  have e0 := hb2.cell (p := ⟨w.heap.size, 0, none⟩) hz1.1
  have e1 := hb2.cell (p := ⟨w.heap.size, 1, none⟩) hz1.1
  rw [d0] at e0
  rw [d1] at e1
  have hz2 := hb2.size
  have hz3 := lt_more (show w.heap.size < w2.heap.size by omega)
  go_wp2_with fail
  refine (GG.out _).mono ?_
  rintro e w3 ⟨rfl, hb3⟩
  have f0 := hb3.cell (p := ⟨w.heap.size, 0, none⟩) (by go_size)
  have f1 := hb3.cell (p := ⟨w.heap.size, 1, none⟩) (by go_size)
  have f2 := hb3.cell (p := ⟨w2.heap.size, 0, none⟩) (by go_size)
  have f3 := hb3.cell (p := ⟨w2.heap.size, 1, none⟩) (by go_size)
  simp [go_sem, e0, e1, hz3] at f0 f1 f2 f3
  have hz4 := hb3.size
  simp only [World.size_alloc] at hz4
  have hz5 := lt_more (show w.heap.size < w3.heap.size by omega)
  have hz6 := lt_more (show w2.heap.size < w3.heap.size by omega)
  have hbw : Below w.heap.size w w3 := bthen (bnew (bthen (bthen (bnew (bself w) _) hb) hb2) _) hb3
  clear d0 d1 e0 e1 hb hb2 hb3 hz hz1 hz2 hz3
  go_wp2_with fail
  refine wp_region_cls [(⟨w.heap.size, 0, none⟩, .int .i64 l), (⟨w.heap.size, 1, none⟩, .bool c), (⟨w2.heap.size, 0, none⟩, .int .i64 L), (⟨w2.heap.size, 1, none⟩, .bool C), (⟨w3.heap.size, 0, none⟩, .int .i64 L), (⟨w3.heap.size, 1, none⟩, .bool C)] (by kernel_rfl) (by kernel_rfl) (by simp [go_sem, f0, f1, f2, f3, hz5, hz6]) (fun C hC => ?_)
  repeat (first
      | (refine quiet_plain (by with_reducible rfl) ?_
         apply Exists.intro
         refine ⟨?_, ?_⟩
         focus (intro wq hq; have hc := hC.cells _ hq; simp at hc; go_simp; first | (go_at_call 12; exact hC.call hq (style_Valid_gives _ _ _)) | (go_at_call 14; exact hC.call hq (ref25_Valid_gives _ _ _)) | (go_at_call 15; exact hC.call hq (style_Cramp_calls _ _ _)) | (with_reducible rfl))
         simp only [Act.put, List.setIfInBounds_toArray, List.set_cons_zero, List.set_cons_succ])
      | (refine quiet_at (by with_reducible rfl) (by rfl) (by rfl) (by simp only [List.getElem?_toArray, List.getElem?_cons_succ, List.getElem?_cons_zero]; rfl) ?_
         first | (with_reducible refine QG_tt ?_) | (with_reducible refine QG_ff ?_)
         apply Exists.intro
         refine ⟨?_, ?_⟩
         focus (intro wq hq; have hc := hC.cells _ hq; simp at hc; go_simp; first | (go_at_call 12; exact hC.call hq (style_Valid_gives _ _ _)) | (go_at_call 14; exact hC.call hq (ref25_Valid_gives _ _ _)) | (go_at_call 15; exact hC.call hq (style_Cramp_calls _ _ _)) | (with_reducible rfl))
         simp only [Act.put, List.setIfInBounds_toArray, List.set_cons_zero, List.set_cons_succ])
      | (refine quiet_at (by with_reducible rfl) (by rfl) (by rfl) (by simp only [List.getElem?_toArray, List.getElem?_cons_succ, List.getElem?_cons_zero]; rfl) ?_
         first | (with_reducible refine QG_tf ?_) | (with_reducible refine QG_ft ?_) | (with_reducible refine QG_u ?_)
         simp only [Act.put, List.setIfInBounds_toArray, List.set_cons_zero, List.set_cons_succ]))
  refine wpQuiet_nil ?_
  intro wz hz
  have hbz := hC.below _ hz
  go_wp2_with fail
  go_ret
  exact ⟨rfl, bthen (bnew hbw _) hbz⟩

set_option maxHeartbeats 400000 in
theorem crampedLaw (k s l L E : Int) (c C C' : Bool) (w : World) (hE : E ≠ 0 ∨ C' = true)
    (H : ∀ w, Calls Try.prog 11 #[.int .i64 k, .int .i64 s, .agg #[.int .i64 l, .bool c]] w (Gives (.tuple #[.agg #[.int .i64 L, .bool C], .int .i64 E]) w))
    (G : ∀ w, Calls Try.prog 11 #[.int .i64 k, .int .i64 s, .agg #[.int .i64 l, .bool true]] w (Gives (.tuple #[.agg #[.int .i64 L, .bool C'], .int .i64 E]) w)) :
    Calls Try.prog 5 #[.int .i64 k, .int .i64 s, .agg #[.int .i64 l, .bool c]] w (Gives (.bool true) w) := by
  have HH := Lib.hid H
  have GG := Lib.hid G
  clear H G
  have hc : (E != 0) = true ∨ ((E != 0) = false ∧ C' = true) := by
    by_cases h : E = 0
    · exact .inr ⟨by simpa using h, by simpa [h] using hE⟩
    · exact .inl (by simpa using h)
  clear hE
  go_enter Try.func5, Try.ntmps5
  go_wp2_with fail
  refine (awake_calls _).mono ?_
  rintro e w1 ⟨rfl, hb⟩
  have d0 := hb.cell (p := ⟨w.heap.size, 0, none⟩) (by simp)
  have d1 := hb.cell (p := ⟨w.heap.size, 1, none⟩) (by simp)
  simp [go_sem] at d0 d1
  have hz := hb.size
  simp only [World.size_alloc] at hz
  have hz1 := lt_more (show w.heap.size < w1.heap.size by omega)
  go_wp2_with fail
  refine (HH.out _).mono ?_
  rintro e w2 ⟨rfl, hb2⟩
  have e0 := hb2.cell (p := ⟨w.heap.size, 0, none⟩) hz1.1
  have e1 := hb2.cell (p := ⟨w.heap.size, 1, none⟩) hz1.1
  rw [d0] at e0
  rw [d1] at e1
  have hz2 := hb2.size
  have hz3 := lt_more (show w.heap.size < w2.heap.size by omega)
  go_wp2_with fail
  refine (style_Cramp_calls _ _ _).mono ?_
  rintro e w3 ⟨rfl, hb3⟩
  have f2 := hb3.cell (p := ⟨w2.heap.size, 0, none⟩) (by go_size)
  have f3 := hb3.cell (p := ⟨w2.heap.size, 1, none⟩) (by go_size)
  simp [go_sem] at f2 f3
  have hz4 := hb3.size
  simp only [World.size_alloc] at hz4
  have hz6 := lt_more (show w2.heap.size < w3.heap.size by omega)
  have hbw : Below w.heap.size w w3 := bthen (bnew (bthen (bthen (bnew (bself w) _) hb) hb2) _) hb3
  clear d0 d1 e0 e1 hb hb2 hb3 hz hz1 hz3
  go_wp2_with fail
  refine (GG.out _).mono ?_
  rintro e w4 ⟨rfl, hb4⟩
  have g2 := hb4.cell (p := ⟨w2.heap.size, 0, none⟩) (by go_size)
  have g3 := hb4.cell (p := ⟨w2.heap.size, 1, none⟩) (by go_size)
  rw [f2] at g2
  rw [f3] at g3
  have hz7 := hb4.size
  have hz8 := lt_more (show w2.heap.size < w4.heap.size by omega)
  have hbw' : Below w.heap.size w w4 := bthen hbw hb4
  rcases hc with hc | ⟨hc, rfl⟩
  all_goals
    go_wp2_with fail
    refine wp_region_cls [(⟨w2.heap.size, 0, none⟩, .int .i64 L), (⟨w2.heap.size, 1, none⟩, .bool C), (⟨w4.heap.size, 0, none⟩, .int .i64 L), (⟨w4.heap.size, 1, none⟩, .bool _)] (by kernel_rfl) (by kernel_rfl) (by simp [go_sem, g2, g3, hz8]; try rfl) (fun C hC => ?_)
    repeat (first
        | (refine quiet_plain (by with_reducible rfl) ?_
           apply Exists.intro
           refine ⟨?_, ?_⟩
           focus (intro wq hq; have hc := hC.cells _ hq; simp at hc; go_simp; first | (go_at_call 15; exact hC.call hq (style_Cramp_calls _ _ _)) | (with_reducible rfl))
           simp only [Act.put, List.setIfInBounds_toArray, List.set_cons_zero, List.set_cons_succ])
        | (refine quiet_at (by with_reducible rfl) (by rfl) (by rfl) (by simp only [List.getElem?_toArray, List.getElem?_cons_succ, List.getElem?_cons_zero]; rfl) ?_
           first | (with_reducible refine QG_tt ?_) | (with_reducible refine QG_ff ?_)
           apply Exists.intro
           refine ⟨?_, ?_⟩
           focus (intro wq hq; have hc := hC.cells _ hq; simp at hc; go_simp; first | (go_at_call 15; exact hC.call hq (style_Cramp_calls _ _ _)) | (with_reducible rfl))
           simp only [Act.put, List.setIfInBounds_toArray, List.set_cons_zero, List.set_cons_succ])
        | (refine quiet_at (by with_reducible rfl) (by rfl) (by rfl) (by simp only [List.getElem?_toArray, List.getElem?_cons_succ, List.getElem?_cons_zero]; rfl) ?_
           first | (with_reducible refine QG_tf ?_) | (with_reducible refine QG_ft ?_) | (with_reducible refine QG_u ?_)
           simp only [Act.put, List.setIfInBounds_toArray, List.set_cons_zero, List.set_cons_succ]))
    refine wpQuiet_nil ?_
    intro wz hz
    have hbz := hC.below _ hz
    go_wp2_with fail
    go_ret
    exact ⟨rfl, bthen (bnew hbw' _) hbz⟩

end Go.Proofs.Ytillohdeljlchaa
