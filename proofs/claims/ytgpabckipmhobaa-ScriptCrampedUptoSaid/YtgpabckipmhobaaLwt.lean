/- Chapter 34: plain laws of results. -/
import Derived.Test.YtgpabckipmhobaaJ22
import Derived.Test.YtgpabckipmhobaaJ23
namespace Go.Proofs.Ytgpabckipmhobaa
open Go.RowKit

/-- What an extent holds. -/
theorem fold_ge : ∀ (l : List Hd) (e : E4), (e.r ≤ (l.foldl extStep e).r ∧ e.h ≤ (l.foldl extStep e).h ∧ e.d ≤ (l.foldl extStep e).d) ∧ ∀ a ∈ l, a.x + a.w ≤ (l.foldl extStep e).r ∧ a.y + a.h ≤ (l.foldl extStep e).h ∧ a.d - a.y ≤ (l.foldl extStep e).d := by
  intro l
  induction l with
  | nil => intro e; exact ⟨⟨Int.le_refl _, Int.le_refl _, Int.le_refl _⟩, fun a ha => by cases ha⟩
  | cons b l ih =>
    intro e
    have h := ih (extStep e b)
    have hs : e.r ≤ (extStep e b).r ∧ e.h ≤ (extStep e b).h ∧ e.d ≤ (extStep e b).d ∧ b.x + b.w ≤ (extStep e b).r ∧ b.y + b.h ≤ (extStep e b).h ∧ b.d - b.y ≤ (extStep e b).d := by
      unfold extStep
      simp only
      omega
    rw [List.foldl_cons]
    refine ⟨by omega, fun a ha => ?_⟩
    rcases List.mem_cons.1 ha with rfl | ha
    · omega
    · exact h.2 a ha
theorem extL_ge {l : List Hd} {a : Hd} (ha : a ∈ l) : a.x + a.w ≤ (extL l).r ∧ a.y + a.h ≤ (extL l).h ∧ a.d - a.y ≤ (extL l).d := by
  cases l with
  | nil => cases ha
  | cons b l =>
    have h := fold_ge l (ext1 b)
    show a.x + a.w ≤ (l.foldl extStep (ext1 b)).r ∧ _
    rcases List.mem_cons.1 ha with rfl | ha
    · have e : (ext1 a).r = a.x + a.w ∧ (ext1 a).h = a.y + a.h ∧ (ext1 a).d = a.d - a.y := ⟨rfl, rfl, rfl⟩
      refine ⟨by omega, ?_, ?_⟩
      · show _ ≤ (l.foldl extStep (ext1 a)).h
        omega
      · show _ ≤ (l.foldl extStep (ext1 a)).d
        omega
    · exact h.2 a ha
/-- Each kid is inside. -/
theorem scrK_in {F : Fnt} {l : Int} {c : Bool} {n : Nat} {base : Bx (n + 1)} {subs sups : List (Bx (n + 1))} (h : ScrOk F l n base subs sups) {k : Bx (n + 1)} (hk : k ∈ scrK F l c n base subs sups) :
    (k.1.x + k.1.w ≤ (extL ((scrK F l c n base subs sups).map (·.1))).r ∧ k.1.y + k.1.h ≤ (extL ((scrK F l c n base subs sups).map (·.1))).h ∧ k.1.d - k.1.y ≤ (extL ((scrK F l c n base subs sups).map (·.1))).d) ∧ (italB F (n + 1) base ≤ base.1.w → 0 ≤ k.1.x) := by
  refine ⟨extL_ge (List.mem_map_of_mem (f := (·.1)) hk), fun hw => ?_⟩
  have hi := ital_in h.1 h.2.2.1
  simp only [scrK, List.mem_cons, List.mem_append, List.mem_map] at hk
  rcases hk with rfl | ⟨b, hm, rfl⟩ | ⟨b, hm, rfl⟩
  · exact Int.le_refl _
  · show 0 ≤ base.1.w - italB F (n + 1) base
    omega
  · show 0 ≤ base.1.w
    omega
/-- Where each kid is. -/
theorem scrK_at {F : Fnt} {l : Int} {c : Bool} {n : Nat} {base : Bx (n + 1)} {subs sups : List (Bx (n + 1))} (h1 : subs.length ≤ 1) {j : Nat} {k a : Bx (n + 1)} (hk : (scrK F l c n base subs sups)[j]? = some k) (ha : (base :: (subs ++ sups))[j]? = some a) :
    (j = 0 → k = atXY (n + 1) a 0 0) ∧ (j = 1 → subs.length = 1 → ∃ y, k = atXY (n + 1) a (base.1.w - italB F (n + 1) base) y) ∧ (j ≠ 0 → ¬ (j = 1 ∧ subs.length = 1) → ∃ y, k = atXY (n + 1) a base.1.w y) := by
  cases j with
  | zero =>
    obtain rfl : base = a := by simpa using ha
    obtain rfl : atXY (n + 1) base 0 0 = k := by simpa [scrK] using hk
    exact ⟨fun _ => rfl, fun h => by omega, fun h => absurd rfl h⟩
  | succ j =>
    refine ⟨fun h => by omega, fun h2 h3 => ?_, fun _ h2 => ?_⟩
    · obtain rfl : j = 0 := by omega
      obtain ⟨b, rfl⟩ := List.length_eq_one_iff.1 h3
      obtain rfl : b = a := by simpa using ha
      exact ⟨_, by simpa [scrK] using hk.symm⟩
    · have ha2 : (subs ++ sups)[j]? = some a := by simpa using ha
      have hk2 : (subs.map (fun b => atXY (n + 1) b (base.1.w - italB F (n + 1) base) (-(scrUV F l c n base subs sups).2)) ++ sups.map (fun b => atXY (n + 1) b base.1.w (scrUV F l c n base subs sups).1))[j]? = some k := by simpa [scrK] using hk
      have hj : subs.length ≤ j := by omega
      rw [List.getElem?_append_right (by simpa using hj)] at hk2
      rw [List.getElem?_append_right hj] at ha2
      rw [List.length_map, List.getElem?_map, ha2] at hk2
      exact ⟨_, by simpa using hk2.symm⟩
theorem scrK_len {F : Fnt} {l : Int} {c : Bool} {n : Nat} {base : Bx (n + 1)} {subs sups : List (Bx (n + 1))} : (scrK F l c n base subs sups).length = 1 + subs.length + sups.length := by
  simp [scrK]
  omega
/-- A box alone has the extent of the box. -/
theorem scrE_one {F : Fnt} {l : Int} {c : Bool} {n : Nat} {base : Bx (n + 1)} : (extL ((scrK F l c n base [] []).map (·.1))).r = base.1.w ∧ (extL ((scrK F l c n base [] []).map (·.1))).h = base.1.h ∧ (extL ((scrK F l c n base [] []).map (·.1))).d = base.1.d := by
  refine ⟨?_, ?_, ?_⟩
  · show 0 + base.1.w = _
    omega
  · show 0 + base.1.h = _
    omega
  · show base.1.d - 0 = _
    omega
theorem ref34_Italic_ok (F : Fnt) (n : Nat) (b : Bx n) (cs : List Value) (w : World) (hF : FntOk w F) (hr : Rep w n b cs) (hf : ValidF F) (hb : validB n b) : Calls Try.prog 18 #[F.val, .agg cs.toArray] w (Gives (.int .i64 (italB F n b)) w) := by
  cases hi : innerS n b with
  | none =>
    have e : italB F n b = 0 := by unfold italB; rw [hi]
    rw [e]
    exact ref34_Italic_none F n b cs w hr hi
  | some g => exact ref34_Italic_some F n b cs w hF hr hf hb g.1 g.2 hi

end Go.Proofs.Ytgpabckipmhobaa
