/- For every font and every style: the law StylePercent returns true. No condition. -/
import Derived.Test.YtillohdeljlchaaL25e
import Derived.Test.YtillohdeljlchaaOpF
import Derived.Test.YtillohdeljlchaaLaw
import Derived.ProofKit
namespace Go.Proofs.Ytillohdeljlchaa
open Go.RowKit Go.ChangeShapes Go.WideShapes Go.ChangeAt Go.Joins

theorem Try.cellsStyle' : Try.prog.cellsOf 23 = 2 := by kernel_rfl

set_option maxRecDepth 100000 in
theorem stylePercent_lifted (os : Os) (started : os.Started) (H : Type) (enc : TypeId × Value → H) :
    ReturnsInHanded {} Try.checked os 8 .any (Rows.stylePercentSpec.pre6 enc Try.prog Try.f8 Rows.stylePercentRow.domain false) (Rows.stylePercentSpec.post enc Try.prog Try.f8 false true false false) := by
  refine returnsInHanded_of_change (C := Try.checked) Try.own started (by kernel_rfl) Try.func8
    (ChangeSpec.witness6 (enc := enc) (C := Try.checked) false ⟨#[], #[.agg #[.slice none 0 0, .slice none 0 0, .int .i64 0, .int .i64 0, .int .i64 0, .int .i64 0, .int .i64 0, .int .i64 0, .int .i64 0, .int .i64 0, .int .i64 0, .int .i64 0, .int .i64 0, .int .i64 0, .int .i64 0, .int .i64 0, .int .i64 0, .int .i64 0, .int .i64 0, .int .i64 0, .int .i64 0, .int .i64 0], .agg #[.int .i64 0, .bool false]], []⟩ 8 (by kernel_rfl) (by kernel_rfl) (by kernel_rfl) (by kernel_rfl)) ?_
  intro W base args ds gs before hval0 hW hcnd _
  have hval : ∀ (j : Nat) t v, Try.f8.params[j]? = some t → args[j]? = some v → Value.okWide Try.prog W .any base t v := hval0
  have hW' := hW
  obtain ⟨p, q, hA0, hV, rfl, hfz, hnd⟩ := hW
  have hA : DataW.TrodAll enc Try.prog W 0 (fun _ => true) true Try.f8.params.toList args.toList ds p := hA0
  rw [Try.params8] at hA hval
  obtain ⟨v0, v1, d0, d1, p0, p1, rfl, rfl, rfl, h0, h1⟩ := trodAll_two hA
  obtain ⟨rfl, rfl⟩ := trodVars_none hV
  obtain ⟨F, rfl, hF⟩ := open_font (hval 0 39 v0 rfl rfl) h0
  obtain ⟨c0, c1, y0, y1, m, rfl, rfl, rfl, hy0, hy1⟩ := open_agg2 Try.underlying23 (by kernel_rfl) Try.cellsStyle' (hval 1 23 v1 rfl rfl) h1
  obtain ⟨l, e0, rfl, wl⟩ := DataW.trod_int Try.underlying3 hy0
  obtain ⟨c, e1, rfl⟩ := DataW.trod_bool Try.underlying4 hy1
  simp at e0 e1
  subst e0 e1
  refine (stylePercent_calls F l c W hF).mono fun e W' ⟨he, hb⟩ => ?_
  subst he
  exact ⟨_, rfl, law_post Try.laidOut rfl rfl Try.underlying4 (by rw [Try.params8]; intro t ht; simp at ht; repeat (first | (rcases ht with rfl | ht; exact ⟨by kernel_rfl, of_decide_eq_true (by kernel_rfl)⟩) | (subst ht; exact ⟨by kernel_rfl, of_decide_eq_true (by kernel_rfl)⟩))) rfl hW' hb⟩

theorem stylePercent_holds : Rows.StylePercentSaid :=
  OpenClaim.holds_of_wide 8 Try.f8 rfl rfl rfl rfl rfl rfl rfl ⟨rfl, rfl, rfl, rfl, rfl⟩ rfl rfl rfl rfl rfl (by kernel_rfl) Try.func8 (by kernel_rfl)
    (of_decide_eq_true (by kernel_rfl)) (by unfold Func.isWrapper; first | (rw [if_pos (by decide +kernel)]; kernel_rfl) | (rw [if_neg (by decide +kernel)]; exact ⟨rfl, rfl⟩))
    (fun os started H enc _ => stylePercent_lifted os started H enc)

end Go.Proofs.Ytillohdeljlchaa
