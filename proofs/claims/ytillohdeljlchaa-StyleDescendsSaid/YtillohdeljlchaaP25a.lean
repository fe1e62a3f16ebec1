/- For every kind, slot and style: the laws StyleDescends, StyleSlot and StyleCramped return true. No condition. -/
import Derived.Test.YtillohdeljlchaaL25
namespace Go.Proofs.Ytillohdeljlchaa
open Go.RowKit Go.ChangeShapes Go.WideShapes Go.ChangeAt Go.Joins

theorem Try.cellsStyle : Try.prog.cellsOf 23 = 2 := by kernel_rfl

theorem slotErr_cases (k s l : Int) : slotErr k s l = 0 ∧ 0 ≤ l ∧ l ≤ 3 ∧ 5 ≤ k ∧ k ≤ 12 ∨ slotErr k s l = 1 ∨ slotErr k s l = 2 := by
  unfold slotErr
  by_cases h : l < 0 ∨ 3 < l ∨ k < 5 ∨ 12 < k
  · rw [if_pos h]; exact .inr (.inl rfl)
  · rw [if_neg h]
    by_cases h2 : s < 0 ∨ slotsOf k ≤ s
    · rw [if_pos h2]; exact .inr (.inr rfl)
    · rw [if_neg h2]; exact .inl (by omega)

theorem descends_calls (k s l : Int) (c : Bool) (w : World) :
    Calls Try.prog 3 #[.int .i64 k, .int .i64 s, .agg #[.int .i64 l, .bool c]] w (Gives (.bool true) w) := by
  rcases slotErr_cases k s l with ⟨h, h0, h3, k5, k12⟩ | h | h
  · have hL : 0 ≤ slotLevel k s l ∧ slotLevel k s l ≤ 3 ∧ l ≤ slotLevel k s l := by
      unfold slotLevel
      rw [if_pos h]
      repeat (split <;> try omega)
    have hC : slotCr k s l c = true ∨ c = false := by
      unfold slotCr
      rw [if_pos h]
      cases c <;> simp
    refine descends_ok k s l (slotLevel k s l) c (slotCr k s l c) w h0 h3 hL.1 hL.2.1 hL.2.2 hC fun w => ?_
    have := style_Slot_calls k s l c w
    unfold slotVal at this
    rwa [h] at this
  · refine descends_err k s l 1 c w (.inl rfl) fun w => ?_
    have := style_Slot_calls k s l c w
    rwa [slotVal_err h (by decide)] at this
  · refine descends_err k s l 2 c w (.inr rfl) fun w => ?_
    have := style_Slot_calls k s l c w
    rwa [slotVal_err h (by decide)] at this

theorem cramped_calls (k s l : Int) (c : Bool) (w : World) :
    Calls Try.prog 5 #[.int .i64 k, .int .i64 s, .agg #[.int .i64 l, .bool c]] w (Gives (.bool true) w) := by
  refine crampedLaw k s l (slotLevel k s l) (slotErr k s l) c (slotCr k s l c) (slotCr k s l true) w ?_ (fun w => style_Slot_calls k s l c w) (fun w => style_Slot_calls k s l true w)
  by_cases h : slotErr k s l = 0
  · refine .inr ?_
    unfold slotCr
    rw [if_pos h]
    simp
  · exact .inl h

theorem slot_law_calls (k s l : Int) (c : Bool) (w : World) :
    Calls Try.prog 4 #[.int .i64 k, .int .i64 s, .agg #[.int .i64 l, .bool c]] w (Gives (.bool true) w) :=
  slotLaw k s l (slotLevel k s l) (slotErr k s l) c (slotCr k s l c) w (fun w => style_Slot_calls k s l c w) (fun w => ref25_Slot_calls k s l c w)

set_option maxRecDepth 100000 in
theorem styleDescends_lifted (os : Os) (started : os.Started) (H : Type) (enc : TypeId × Value → H) :
    ReturnsInHanded {} Try.checked os 3 .any (Rows.styleDescendsSpec.pre6 enc Try.prog Try.f3 Rows.styleDescendsRow.domain false) (Rows.styleDescendsSpec.post enc Try.prog Try.f3 false true false false) := by
  refine returnsInHanded_of_change (C := Try.checked) Try.own started (by kernel_rfl) Try.func3
    (ChangeSpec.witness6 (enc := enc) (C := Try.checked) false ⟨#[], #[.int .i64 0, .int .i64 0, .agg #[.int .i64 0, .bool false]], []⟩ 8 (by kernel_rfl) (by kernel_rfl) (by kernel_rfl) (by kernel_rfl)) ?_
  intro W base args ds gs before hval0 hW hcnd _
  have hval : ∀ (j : Nat) t v, Try.f3.params[j]? = some t → args[j]? = some v → Value.okWide Try.prog W .any base t v := hval0
  have hW' := hW
  obtain ⟨p, q, hA0, hV, rfl, hfz, hnd⟩ := hW
  have hA : DataW.TrodAll enc Try.prog W 0 (fun _ => true) true Try.f3.params.toList args.toList ds p := hA0
  rw [Try.params3] at hA hval
  obtain ⟨v0, v1, v2, d0, d1, d2, p0, p1, p2, rfl, rfl, rfl, h0, h1, h2⟩ := trodAll_three hA
  obtain ⟨rfl, rfl⟩ := trodVars_none hV
  obtain ⟨k, rfl, rfl, rfl, wk⟩ := open_int Try.underlying3 (hval 0 3 v0 rfl rfl) h0
  obtain ⟨s, rfl, rfl, rfl, ws⟩ := open_int Try.underlying3 (hval 1 3 v1 rfl rfl) h1
  obtain ⟨c0, c1, y0, y1, m, rfl, rfl, rfl, hy0, hy1⟩ := open_agg2 Try.underlying23 (by kernel_rfl) Try.cellsStyle (hval 2 23 v2 rfl rfl) h2
  obtain ⟨l, e0, rfl, wl⟩ := DataW.trod_int Try.underlying3 hy0
  obtain ⟨c, e1, rfl⟩ := DataW.trod_bool Try.underlying4 hy1
  simp at e0 e1
  subst e0 e1
  refine (descends_calls k s l c W).mono fun e W' ⟨he, hb⟩ => ?_
  subst he
  exact ⟨_, rfl, law_post Try.laidOut rfl rfl Try.underlying4 (by rw [Try.params3]; intro t ht; simp at ht; rcases ht with rfl | rfl <;> exact ⟨by kernel_rfl, of_decide_eq_true (by kernel_rfl)⟩) rfl hW' hb⟩

theorem styleDescends_holds : Rows.StyleDescendsSaid :=
  OpenClaim.holds_of_wide 3 Try.f3 rfl rfl rfl rfl rfl rfl rfl ⟨rfl, rfl, rfl, rfl, rfl⟩ rfl rfl rfl rfl rfl (by kernel_rfl) Try.func3 (by kernel_rfl)
    (of_decide_eq_true (by kernel_rfl)) (by unfold Func.isWrapper; first | (rw [if_pos (by decide +kernel)]; kernel_rfl) | (rw [if_neg (by decide +kernel)]; exact ⟨rfl, rfl⟩))
    (fun os started H enc _ => styleDescends_lifted os started H enc)

set_option maxRecDepth 100000 in
theorem styleSlot_lifted (os : Os) (started : os.Started) (H : Type) (enc : TypeId × Value → H) :
    ReturnsInHanded {} Try.checked os 4 .any (Rows.styleSlotSpec.pre6 enc Try.prog Try.f4 Rows.styleSlotRow.domain false) (Rows.styleSlotSpec.post enc Try.prog Try.f4 false true false false) := by
  refine returnsInHanded_of_change (C := Try.checked) Try.own started (by kernel_rfl) Try.func4
    (ChangeSpec.witness6 (enc := enc) (C := Try.checked) false ⟨#[], #[.int .i64 0, .int .i64 0, .agg #[.int .i64 0, .bool false]], []⟩ 8 (by kernel_rfl) (by kernel_rfl) (by kernel_rfl) (by kernel_rfl)) ?_
  intro W base args ds gs before hval0 hW hcnd _
  have hval : ∀ (j : Nat) t v, Try.f4.params[j]? = some t → args[j]? = some v → Value.okWide Try.prog W .any base t v := hval0
  have hW' := hW
  obtain ⟨p, q, hA0, hV, rfl, hfz, hnd⟩ := hW
  have hA : DataW.TrodAll enc Try.prog W 0 (fun _ => true) true Try.f4.params.toList args.toList ds p := hA0
  rw [Try.params4] at hA hval
  obtain ⟨v0, v1, v2, d0, d1, d2, p0, p1, p2, rfl, rfl, rfl, h0, h1, h2⟩ := trodAll_three hA
  obtain ⟨rfl, rfl⟩ := trodVars_none hV
  obtain ⟨k, rfl, rfl, rfl, wk⟩ := open_int Try.underlying3 (hval 0 3 v0 rfl rfl) h0
  obtain ⟨s, rfl, rfl, rfl, ws⟩ := open_int Try.underlying3 (hval 1 3 v1 rfl rfl) h1
  obtain ⟨c0, c1, y0, y1, m, rfl, rfl, rfl, hy0, hy1⟩ := open_agg2 Try.underlying23 (by kernel_rfl) Try.cellsStyle (hval 2 23 v2 rfl rfl) h2
  obtain ⟨l, e0, rfl, wl⟩ := DataW.trod_int Try.underlying3 hy0
  obtain ⟨c, e1, rfl⟩ := DataW.trod_bool Try.underlying4 hy1
  simp at e0 e1
  subst e0 e1
  refine (slot_law_calls k s l c W).mono fun e W' ⟨he, hb⟩ => ?_
  subst he
  exact ⟨_, rfl, law_post Try.laidOut rfl rfl Try.underlying4 (by rw [Try.params4]; intro t ht; simp at ht; rcases ht with rfl | rfl <;> exact ⟨by kernel_rfl, of_decide_eq_true (by kernel_rfl)⟩) rfl hW' hb⟩

theorem styleSlot_holds : Rows.StyleSlotSaid :=
  OpenClaim.holds_of_wide 4 Try.f4 rfl rfl rfl rfl rfl rfl rfl ⟨rfl, rfl, rfl, rfl, rfl⟩ rfl rfl rfl rfl rfl (by kernel_rfl) Try.func4 (by kernel_rfl)
    (of_decide_eq_true (by kernel_rfl)) (by unfold Func.isWrapper; first | (rw [if_pos (by decide +kernel)]; kernel_rfl) | (rw [if_neg (by decide +kernel)]; exact ⟨rfl, rfl⟩))
    (fun os started H enc _ => styleSlot_lifted os started H enc)

set_option maxRecDepth 100000 in
theorem styleCramped_lifted (os : Os) (started : os.Started) (H : Type) (enc : TypeId × Value → H) :
    ReturnsInHanded {} Try.checked os 5 .any (Rows.styleCrampedSpec.pre6 enc Try.prog Try.f5 Rows.styleCrampedRow.domain false) (Rows.styleCrampedSpec.post enc Try.prog Try.f5 false true false false) := by
  refine returnsInHanded_of_change (C := Try.checked) Try.own started (by kernel_rfl) Try.func5
    (ChangeSpec.witness6 (enc := enc) (C := Try.checked) false ⟨#[], #[.int .i64 0, .int .i64 0, .agg #[.int .i64 0, .bool false]], []⟩ 8 (by kernel_rfl) (by kernel_rfl) (by kernel_rfl) (by kernel_rfl)) ?_
  intro W base args ds gs before hval0 hW hcnd _
  have hval : ∀ (j : Nat) t v, Try.f5.params[j]? = some t → args[j]? = some v → Value.okWide Try.prog W .any base t v := hval0
  have hW' := hW
  obtain ⟨p, q, hA0, hV, rfl, hfz, hnd⟩ := hW
  have hA : DataW.TrodAll enc Try.prog W 0 (fun _ => true) true Try.f5.params.toList args.toList ds p := hA0
  rw [Try.params5] at hA hval
  obtain ⟨v0, v1, v2, d0, d1, d2, p0, p1, p2, rfl, rfl, rfl, h0, h1, h2⟩ := trodAll_three hA
  obtain ⟨rfl, rfl⟩ := trodVars_none hV
  obtain ⟨k, rfl, rfl, rfl, wk⟩ := open_int Try.underlying3 (hval 0 3 v0 rfl rfl) h0
  obtain ⟨s, rfl, rfl, rfl, ws⟩ := open_int Try.underlying3 (hval 1 3 v1 rfl rfl) h1
  obtain ⟨c0, c1, y0, y1, m, rfl, rfl, rfl, hy0, hy1⟩ := open_agg2 Try.underlying23 (by kernel_rfl) Try.cellsStyle (hval 2 23 v2 rfl rfl) h2
  obtain ⟨l, e0, rfl, wl⟩ := DataW.trod_int Try.underlying3 hy0
  obtain ⟨c, e1, rfl⟩ := DataW.trod_bool Try.underlying4 hy1
  simp at e0 e1
  subst e0 e1
  refine (cramped_calls k s l c W).mono fun e W' ⟨he, hb⟩ => ?_
  subst he
  exact ⟨_, rfl, law_post Try.laidOut rfl rfl Try.underlying4 (by rw [Try.params5]; intro t ht; simp at ht; rcases ht with rfl | rfl <;> exact ⟨by kernel_rfl, of_decide_eq_true (by kernel_rfl)⟩) rfl hW' hb⟩

theorem styleCramped_holds : Rows.StyleCrampedSaid :=
  OpenClaim.holds_of_wide 5 Try.f5 rfl rfl rfl rfl rfl rfl rfl ⟨rfl, rfl, rfl, rfl, rfl⟩ rfl rfl rfl rfl rfl (by kernel_rfl) Try.func5 (by kernel_rfl)
    (of_decide_eq_true (by kernel_rfl)) (by unfold Func.isWrapper; first | (rw [if_pos (by decide +kernel)]; kernel_rfl) | (rw [if_neg (by decide +kernel)]; exact ⟨rfl, rfl⟩))
    (fun os started H enc _ => styleCramped_lifted os started H enc)

end Go.Proofs.Ytillohdeljlchaa
