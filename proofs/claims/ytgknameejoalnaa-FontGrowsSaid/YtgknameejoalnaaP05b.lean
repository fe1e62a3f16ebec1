/- For every glyph and every two percentages: the law FontGrows returns true. No condition. -/
import Derived.Test.YtgknameejoalnaaL05b
import Derived.Test.YtgknameejoalnaaOpenG
namespace Go.Proofs.Ytgknameejoalnaa
open Go.RowKit Go.ChangeShapes Go.WideShapes Go.ChangeAt

theorem u16_of {n : Int} (h : (Lit.int .u16 n).wf = true) : 0 ≤ n ∧ n ≤ 65535 := by
  simp [Lit.wf, IntKind.min, IntKind.max, IntKind.signed, IntKind.bits] at h
  omega

set_option maxRecDepth 100000 in
theorem fontGrows_lifted (os : Os) (started : os.Started) (H : Type) (enc : TypeId × Value → H) :
    ReturnsInHanded {} Try.checked os 3 .any (Rows.fontGrowsSpec.pre6 enc Try.prog Try.f3 Rows.fontGrowsRow.domain false) (Rows.fontGrowsSpec.post enc Try.prog Try.f3 false true false false) := by
  refine returnsInHanded_of_change (C := Try.checked) Try.own started (by kernel_rfl) Try.func3
    (ChangeSpec.witness6 (enc := enc) (C := Try.checked) false ⟨#[], #[.agg #[.string ⟨#[]⟩, .int .i64 0, .int .i64 0, .int .i64 0, .int .i64 0, .int .i64 0], .int .u16 0, .int .u16 0], []⟩ 8 (by kernel_rfl) (by kernel_rfl) (by kernel_rfl) (by kernel_rfl)) ?_
  intro W base args ds gs before hval0 hW hcnd _
  have hval : ∀ (j : Nat) t v, Try.f3.params[j]? = some t → args[j]? = some v → Value.okWide Try.prog W .any base t v := hval0
  have hW' := hW
  obtain ⟨p, q, hA0, hV, rfl, hfz, hnd⟩ := hW
  have hA : DataW.TrodAll enc Try.prog W 0 (fun _ => true) true Try.f3.params.toList args.toList ds p := hA0
  rw [Try.params3] at hA hval
  obtain ⟨v0, v1, v2, d0, d1, d2, p0, p1, p2, rfl, rfl, rfl, h0, h1, h2⟩ := trodAll_three hA
  obtain ⟨rfl, rfl⟩ := trodVars_none hV
  obtain ⟨g, rfl, _, _⟩ := open_glyph (hval 0 23 v0 rfl rfl) h0
  obtain ⟨n, rfl, rfl, rfl, wn⟩ := open_int Try.underlying24 (hval 1 24 v1 rfl rfl) h1
  obtain ⟨m, rfl, rfl, rfl, wm⟩ := open_int Try.underlying24 (hval 2 24 v2 rfl rfl) h2
  refine (fontGrows_calls g n m W (u16_of wn) (u16_of wm)).mono fun e W' ⟨he, hb⟩ => ?_
  subst he
  exact ⟨_, rfl, law_post Try.laidOut rfl rfl Try.underlying4 (by rw [Try.params3]; intro t ht; simp at ht; repeat (first | (rcases ht with rfl | ht; exact ⟨by kernel_rfl, of_decide_eq_true (by kernel_rfl)⟩) | (subst ht; exact ⟨by kernel_rfl, of_decide_eq_true (by kernel_rfl)⟩))) rfl hW' hb⟩

theorem fontGrows_holds : Rows.FontGrowsSaid :=
  OpenClaim.holds_of_wide 3 Try.f3 rfl rfl rfl rfl rfl rfl rfl ⟨rfl, rfl, rfl, rfl, rfl⟩ rfl rfl rfl rfl rfl (by kernel_rfl) Try.func3 (by kernel_rfl)
    (of_decide_eq_true (by kernel_rfl)) (by unfold Func.isWrapper; first | (rw [if_pos (by decide +kernel)]; kernel_rfl) | (rw [if_neg (by decide +kernel)]; exact ⟨rfl, rfl⟩))
    (fun os started H enc _ => fontGrows_lifted os started H enc)

end Go.Proofs.Ytgknameejoalnaa
