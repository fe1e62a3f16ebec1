/- For every two slices of ints and every style: the law StylePath returns true. No condition. -/
import Derived.Test.YtillohdeljlchaaL25b
import Derived.ProofKit
import Derived.ChangeSlices
namespace Go.Proofs.Ytillohdeljlchaa
open Go.RowKit Go.ChangeShapes Go.WideShapes Go.ChangeAt Go.Joins

theorem Try.cellsStyle' : Try.prog.cellsOf 23 = 2 := by kernel_rfl

/-- A slice of ints as an argument. -/
theorem open_intSl {H : Type} {enc : TypeId × Value → H} {w : World} {r : Reach} {b0 : Nat} {v : Value} {d : DataW H} {p : List MemPlace} (hv : Value.okWide Try.prog w r b0 31 v)
    (h : DataW.Trod enc Try.prog w 0 (fun _ => true) true 31 v d p) : ∃ x c ns, v = .slice x ns.length c ∧ ns.length ≤ c ∧ c ≤ maxLen ∧ (∀ n ∈ ns, (Lit.int .i64 n).wf = true) ∧ (x = none → c = 0) ∧ (∀ b, x = some b → b.spot = none ∨ c = 0) ∧ IntSl w x ns := by
  obtain ⟨x, n, c, rfl⟩ := okWide_slice Try.underlying31 hv
  obtain ⟨fuel, hf⟩ := h
  rcases open_ints Try.underlying31 Try.underlying3 (by kernel_rfl) hf with ⟨h1, _⟩ | ⟨a, len, cap, zs, h1, _, hl, hm, hz, _, hc, hw⟩
  · simp [Value.cells] at h1
    obtain ⟨rfl, rfl, rfl⟩ := h1
    exact ⟨none, 0, [], rfl, Nat.le_refl _, Nat.zero_le _, fun n hn => by simp at hn, fun _ => rfl, fun b hb => (by cases hb), .inl rfl⟩
  · simp [Value.cells] at h1
    obtain ⟨rfl, rfl, rfl⟩ := h1
    simp only [if_true] at hz
    have hspot : a.spot = none ∨ c = 0 := by
      rcases Nat.eq_zero_or_pos c with h0 | h0
      · exact .inr h0
      · have h2 := hc 0 (by omega)
        obtain ⟨b, o, s⟩ := a
        cases s with
        | none => exact .inl rfl
        | some z => simp [World.cell?, Addr.add] at h2; split at h2 <;> simp at h2
    have hlen : (zs.take n).length = n := by simp; omega
    refine ⟨some a, c, zs.take n, by rw [hlen], by omega, hm, fun m hm => hw m (List.mem_of_mem_take hm), fun h => (by cases h), fun b hb => (by cases hb; exact hspot), ?_⟩
    rcases hspot with hs | h0
    · refine .inr ⟨a.block, a.off, by rw [← hs], fun i m hi => ?_⟩
      have hi' : zs[i]? = some m := by
        rw [List.getElem?_take] at hi
        split at hi
        · exact hi
        · cases hi
      have h3 := hc i (List.getElem?_eq_some_iff.1 hi').1
      rw [List.getD_eq_getElem?_getD, hi'] at h3
      obtain ⟨b, o, s⟩ := a
      simp only at hs
      subst hs
      rw [show (⟨b, o, none⟩ : Addr).add i = ⟨b, o + i, none⟩ by unfold Addr.add; split <;> simp_all] at h3
      exact h3
    · refine .inl ?_
      rw [← List.length_eq_zero_iff]; omega

set_option maxRecDepth 100000 in
theorem stylePath_lifted (os : Os) (started : os.Started) (H : Type) (enc : TypeId × Value → H) :
    ReturnsInHanded {} Try.checked os 6 .any (Rows.stylePathSpec.pre6 enc Try.prog Try.f6 Rows.stylePathRow.domain false) (Rows.stylePathSpec.post enc Try.prog Try.f6 false true false false) := by
  refine returnsInHanded_of_change (C := Try.checked) Try.own started (by kernel_rfl) Try.func6
    (ChangeSpec.witness6 (enc := enc) (C := Try.checked) false ⟨#[], #[.slice none 0 0, .slice none 0 0, .agg #[.int .i64 0, .bool false]], []⟩ 8 (by kernel_rfl) (by kernel_rfl) (by kernel_rfl) (by kernel_rfl)) ?_
  intro W base args ds gs before hval0 hW hcnd _
  have hval : ∀ (j : Nat) t v, Try.f6.params[j]? = some t → args[j]? = some v → Value.okWide Try.prog W .any base t v := hval0
  have hW' := hW
  obtain ⟨p, q, hA0, hV, rfl, hfz, hnd⟩ := hW
  have hA : DataW.TrodAll enc Try.prog W 0 (fun _ => true) true Try.f6.params.toList args.toList ds p := hA0
  rw [Try.params6] at hA hval
  obtain ⟨v0, v1, v2, d0, d1, d2, p0, p1, p2, rfl, rfl, rfl, h0, h1, h2⟩ := trodAll_three hA
  obtain ⟨rfl, rfl⟩ := trodVars_none hV
  obtain ⟨x0, a0, ks, rfl, _, _, _, _, _, hk⟩ := open_intSl (hval 0 31 v0 rfl rfl) h0
  obtain ⟨x1, a1, ss, rfl, _, _, _, _, _, hs⟩ := open_intSl (hval 1 31 v1 rfl rfl) h1
  obtain ⟨c0, c1, y0, y1, m, rfl, rfl, rfl, hy0, hy1⟩ := open_agg2 Try.underlying23 (by kernel_rfl) Try.cellsStyle' (hval 2 23 v2 rfl rfl) h2
  obtain ⟨l, e0, rfl, wl⟩ := DataW.trod_int Try.underlying3 hy0
  obtain ⟨c, e1, rfl⟩ := DataW.trod_bool Try.underlying4 hy1
  simp at e0 e1
  subst e0 e1
  refine (path_law_calls x0 x1 a0 a1 ks ss l c W hk hs).mono fun e W' ⟨he, hb⟩ => ?_
  subst he
  exact ⟨_, rfl, law_post Try.laidOut rfl rfl Try.underlying4 (by rw [Try.params6]; intro t ht; simp at ht; repeat (first | (rcases ht with rfl | ht; exact ⟨by kernel_rfl, of_decide_eq_true (by kernel_rfl)⟩) | (subst ht; exact ⟨by kernel_rfl, of_decide_eq_true (by kernel_rfl)⟩))) rfl hW' hb⟩

theorem stylePath_holds : Rows.StylePathSaid :=
  OpenClaim.holds_of_wide 6 Try.f6 rfl rfl rfl rfl rfl rfl rfl ⟨rfl, rfl, rfl, rfl, rfl⟩ rfl rfl rfl rfl rfl (by kernel_rfl) Try.func6 (by kernel_rfl)
    (of_decide_eq_true (by kernel_rfl)) (by unfold Func.isWrapper; first | (rw [if_pos (by decide +kernel)]; kernel_rfl) | (rw [if_neg (by decide +kernel)]; exact ⟨rfl, rfl⟩))
    (fun os started H enc _ => stylePath_lifted os started H enc)

end Go.Proofs.Ytillohdeljlchaa
