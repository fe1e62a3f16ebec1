/- For every font, name and percentage: the law FontBox returns true. No condition. -/
import Derived.Test.YtgknameejoalnaaBxl
import Derived.ChangeMaps5
import Derived.Test.YtgknameejoalnaaOpF
import Derived.Test.YtgknameejoalnaaLaw
import Derived.ProofKit
namespace Go.Proofs.Ytgknameejoalnaa
open Go.RowKit Go.ChangeShapes Go.WideShapes Go.ChangeAt Go.Joins

set_option maxRecDepth 100000 in
theorem fontBox_lifted (os : Os) (started : os.Started) (H : Type) (enc : TypeId × Value → H) :
    ReturnsInHanded {} Try.checked os 8 .any (Rows.fontBoxSpec.pre6 enc Try.prog Try.f8 Rows.fontBoxRow.domain false) (Rows.fontBoxSpec.post enc Try.prog Try.f8 false true false false) := by
  refine returnsInHanded_of_change (C := Try.checked) Try.own started (by kernel_rfl) Try.func8
    (ChangeSpec.witness6 (enc := enc) (C := Try.checked) false ⟨#[], #[.agg #[.slice none 0 0, .slice none 0 0, .int .i64 0, .int .i64 0, .int .i64 0, .int .i64 0, .int .i64 0, .int .i64 0, .int .i64 0, .int .i64 0, .int .i64 0, .int .i64 0, .int .i64 0, .int .i64 0, .int .i64 0, .int .i64 0, .int .i64 0, .int .i64 0, .int .i64 0, .int .i64 0, .int .i64 0, .int .i64 0], .string ⟨#[]⟩, .int .i64 0], []⟩ 8 (by kernel_rfl) (by kernel_rfl) (by kernel_rfl) (by kernel_rfl)) ?_
  intro W base args ds gs before hval0 hW hcnd _
  have hval : ∀ (j : Nat) t v, Try.f8.params[j]? = some t → args[j]? = some v → Value.okWide Try.prog W .any base t v := hval0
  have hW' := hW
  obtain ⟨p, q, hA0, hV, rfl, hfz, hnd⟩ := hW
  have hA : DataW.TrodAll enc Try.prog W 0 (fun _ => true) true Try.f8.params.toList args.toList ds p := hA0
  rw [Try.params8] at hA hval
  obtain ⟨v0, v1, v2, d0, d1, d2, p0, p1, p2, rfl, rfl, rfl, h0, h1, h2⟩ := trodAll_three hA
  obtain ⟨rfl, rfl⟩ := trodVars_none hV
  obtain ⟨F, rfl, hF⟩ := open_font (hval 0 38 v0 rfl rfl) h0
  obtain ⟨s, rfl, _⟩ := ChangeMaps.open_string Try.underlying9 (hval 1 9 v1 rfl rfl) h1
  obtain ⟨p, rfl, rfl, rfl, wp⟩ := open_int Try.underlying3 (hval 2 3 v2 rfl rfl) h2
  refine (fontBox_calls F s p W hF).mono fun e W' ⟨he, hb⟩ => ?_
  subst he
  exact ⟨_, rfl, law_post Try.laidOut rfl rfl Try.underlying4 (by rw [Try.params8]; intro t ht; simp at ht; repeat (first | (rcases ht with rfl | ht; exact ⟨by kernel_rfl, of_decide_eq_true (by kernel_rfl)⟩) | (subst ht; exact ⟨by kernel_rfl, of_decide_eq_true (by kernel_rfl)⟩))) rfl hW' hb⟩

theorem fontBox_holds : Rows.FontBoxSaid :=
  OpenClaim.holds_of_wide 8 Try.f8 rfl rfl rfl rfl rfl rfl rfl ⟨rfl, rfl, rfl, rfl, rfl⟩ rfl rfl rfl rfl rfl (by kernel_rfl) Try.func8 (by kernel_rfl)
    (of_decide_eq_true (by kernel_rfl)) (by unfold Func.isWrapper; first | (rw [if_pos (by decide +kernel)]; kernel_rfl) | (rw [if_neg (by decide +kernel)]; exact ⟨rfl, rfl⟩))
    (fun os started H enc _ => fontBox_lifted os started H enc)

end Go.Proofs.Ytgknameejoalnaa
