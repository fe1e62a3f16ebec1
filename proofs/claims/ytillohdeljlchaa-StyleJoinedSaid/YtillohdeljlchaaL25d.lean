/- The law StyleJoined: the plain law and the joint. -/
import Derived.Test.YtillohdeljlchaaL25c
namespace Go.Proofs.Ytillohdeljlchaa
open Go.RowKit

theorem slotLevel_range {k s l : Int} (h : slotErr k s l = 0) : 0 ≤ slotLevel k s l ∧ slotLevel k s l ≤ 3 := by
  have hl : ¬ (l < 0 ∨ 3 < l ∨ k < 5 ∨ 12 < k) := fun hc => by rw [slotErr_one hc] at h; cases h
  unfold slotLevel
  rw [if_pos h]
  repeat (split)
  all_goals omega

theorem pathGo_append (a b : List (Int × Int)) : ∀ (l : Int) (c : Bool), pathGo (a ++ b) l c = if (pathGo a l c).2.2 = 0 then pathGo b (pathGo a l c).1 (pathGo a l c).2.1 else (0, false, (pathGo a l c).2.2) := by
  induction a with
  | nil => intro l c; simp [pathGo]
  | cons x r ih =>
    intro l c
    have hu : ∀ (s : List (Int × Int)), pathGo (x :: s) l c = if slotErr x.1 x.2 l = 0 then pathGo s (slotLevel x.1 x.2 l) (slotCr x.1 x.2 l c) else (0, false, slotErr x.1 x.2 l) := fun _ => rfl
    rw [List.cons_append, hu, hu]
    by_cases h : slotErr x.1 x.2 l = 0
    · simp only [if_pos h]; exact ih _ _
    · simp only [if_neg h]

theorem pathGo_range (a : List (Int × Int)) : ∀ (l : Int) (c : Bool), 0 ≤ l → l ≤ 3 → 0 ≤ (pathGo a l c).1 ∧ (pathGo a l c).1 ≤ 3 := by
  induction a with
  | nil => intro l c h0 h3; exact ⟨h0, h3⟩
  | cons x r ih =>
    intro l c h0 h3
    simp only [pathGo]
    by_cases h : slotErr x.1 x.2 l = 0
    · rw [if_pos h]
      have := slotLevel_range h
      exact ih _ _ this.1 this.2
    · rw [if_neg h]; exact ⟨by simp, by simp⟩

theorem pathOf_joined (ks ss : List Int) (l : Int) (c : Bool) (m : Nat) (hl : ss.length = ks.length) :
    let B := pathOf (ks.take m) (ss.take m) l c
    let A := pathOf ks ss l c
    let D := pathOf (ks.drop m) (ss.drop m) B.1 B.2.1
    (B.2.2 ≠ 0 ∧ A.2.2 = B.2.2) ∨ (B.2.2 = 0 ∧ A.2.2 = D.2.2 ∧ A.1 = D.1 ∧ A.2.1 = D.2.1) := by
  intro B A D
  by_cases hv : l < 0 ∨ 3 < l
  · refine .inl ⟨?_, ?_⟩
    · show (pathOf (ks.take m) (ss.take m) l c).2.2 ≠ 0
      unfold pathOf; rw [if_pos (.inr hv)]; simp
    · show (pathOf ks ss l c).2.2 = (pathOf (ks.take m) (ss.take m) l c).2.2
      unfold pathOf; rw [if_pos (.inr hv), if_pos (.inr hv)]
  · have hB : B = pathGo ((ks.take m).zip (ss.take m)) l c := by
      show pathOf _ _ _ _ = _
      unfold pathOf; rw [if_neg]
      rintro (h | h)
      · simp [hl] at h
      · exact hv h
    have hA : A = pathGo ((ks.take m).zip (ss.take m) ++ (ks.drop m).zip (ss.drop m)) l c := by
      show pathOf _ _ _ _ = _
      unfold pathOf; rw [if_neg]
      · congr 1
        rw [← List.zip_append (by simp [hl]), List.take_append_drop, List.take_append_drop]
      · rintro (h | h)
        · exact h hl.symm
        · exact hv h
    rw [pathGo_append, ← hB] at hA
    by_cases he : B.2.2 = 0
    · rw [if_pos he] at hA
      have hr := pathGo_range ((ks.take m).zip (ss.take m)) l c (by omega) (by omega)
      rw [← hB] at hr
      have hD : D = pathGo ((ks.drop m).zip (ss.drop m)) B.1 B.2.1 := by
        show pathOf _ _ _ _ = _
        unfold pathOf; rw [if_neg]
        rintro (h | h | h)
        · simp [hl] at h
        · omega
        · omega
      exact .inr ⟨he, by rw [hA, hD], by rw [hA, hD], by rw [hA, hD]⟩
    · rw [if_neg he] at hA
      exact .inl ⟨he, by rw [hA]⟩

theorem IntSl.take {w : World} {b o : Nat} {ns : List Int} (m : Nat) (h : ∀ i n, ns[i]? = some n → w.cell? ⟨b, o + i, none⟩ = some (.int .i64 n)) : IntSl w (some ⟨b, o, none⟩) (ns.take m) := by
  refine .inr ⟨b, o, rfl, fun i n hi => h i n ?_⟩
  rw [List.getElem?_take] at hi
  split at hi
  · exact hi
  · cases hi
theorem IntSl.drop {w : World} {b o : Nat} {ns : List Int} (m : Nat) (h : ∀ i n, ns[i]? = some n → w.cell? ⟨b, o + i, none⟩ = some (.int .i64 n)) : IntSl w (some ⟨b, o + m, none⟩) (ns.drop m) := by
  refine .inr ⟨b, o + m, rfl, fun i n hi => ?_⟩
  rw [List.getElem?_drop] at hi
  rw [Nat.add_assoc]
  exact h _ _ hi

theorem joined_law_calls (x x' : Option Addr) (c c' : Nat) (ks ss : List Int) (l : Int) (cr : Bool) (w : World) (hk : IntSl w x ks) (hs : IntSl w x' ss) (hkc : ks.length ≤ c) (hsc : ss.length ≤ c') (hc : c ≤ maxLen) (hc' : c' ≤ maxLen)
    (hx : x = none → c = 0) (hx' : x' = none → c' = 0) (hp : ∀ b, x = some b → b.spot = none ∨ c = 0) (hp' : ∀ b, x' = some b → b.spot = none ∨ c' = 0) :
    Calls Try.prog 7 #[.slice x ks.length c, .slice x' ss.length c', .agg #[.int .i64 l, .bool cr]] w (Gives (.bool true) w) := by
  by_cases h : 30 < ks.length ∨ ss.length ≠ ks.length
  · exact joined_far _ _ _ _ _ _ _ _ _ h
  · have hl : ss.length = ks.length := by omega
    rcases Nat.eq_zero_or_pos ks.length with h0 | h0
    · have hk0 : ks = [] := List.length_eq_zero_iff.1 h0
      have hs0 : ss = [] := by rw [← List.length_eq_zero_iff]; omega
      subst hk0 hs0
      have cases1 : ∀ (x : Option Addr) (c : Nat), (x = none → c = 0) → (∀ b, x = some b → b.spot = none ∨ c = 0) → (x = none ∧ c = 0) ∨ (∃ b o, x = some ⟨b, o, none⟩) ∨ (∃ a, x = some a ∧ c = 0) := by
        intro x c h1 h2
        cases x with
        | none => exact .inl ⟨rfl, h1 rfl⟩
        | some a =>
          rcases h2 a rfl with h3 | h3
          · obtain ⟨b, o, z⟩ := a
            simp only at h3
            subst h3
            exact .inr (.inl ⟨b, o, rfl⟩)
          · exact .inr (.inr ⟨a, rfl, h3⟩)
      refine joined_none x x' c c' l (pathOf [] [] l cr).1 (pathOf [] [] l cr).2.2 cr (pathOf [] [] l cr).2.1 w hc hc' (cases1 _ _ hx hp) (cases1 _ _ hx' hp') ?_ (fun y y' d d' w' hb => style_Path_calls y y' d d' [] [] l cr w' (by simp) (.inl rfl) (.inl rfl))
      unfold pathOf
      split
      · exact .inl (by simp)
      · exact .inr ⟨rfl, rfl, rfl⟩
    · rcases hk with rfl | ⟨b, o, rfl, hk⟩
      · simp at h0
      · rcases hs with rfl | ⟨b', o', rfl, hs⟩
        · simp at hl; omega
        · obtain ⟨m, hm, hmn⟩ : ∃ m : Nat, ((ks.length : Int).tdiv 2 = m) ∧ 2 * m ≤ ks.length := ⟨ks.length / 2, by rw [Int.tdiv_eq_ediv_of_nonneg (by omega)]; omega, by omega⟩
          have hj := pathOf_joined ks ss l cr m hl
          have ht : (ks.take m).length = m := by simp; omega
          have ht' : (ss.take m).length = m := by simp; omega
          have hd : (ks.drop m).length = ks.length - m := by simp
          have hd' : (ss.drop m).length = ks.length - m := by simp [hl]
          have K1 : ∀ w', Below w.heap.size w w' → ∀ i n, ks[i]? = some n → w'.cell? ⟨b, o + i, none⟩ = some (.int .i64 n) := fun w' hb i n hi => (hb.cell (World.block_lt_of_cell? w _ (hk i n hi))).trans (hk i n hi)
          have S1 : ∀ w', Below w.heap.size w w' → ∀ i n, ss[i]? = some n → w'.cell? ⟨b', o' + i, none⟩ = some (.int .i64 n) := fun w' hb i n hi => (hb.cell (World.block_lt_of_cell? w _ (hs i n hi))).trans (hs i n hi)
          rw [hl]
          refine joined_pre b o b' o' ks.length m c c' l (pathOf ks ss l cr).1 (pathOf ks ss l cr).2.2 (pathOf (ks.take m) (ss.take m) l cr).1 (pathOf (ks.take m) (ss.take m) l cr).2.2 (pathOf (ks.drop m) (ss.drop m) (pathOf (ks.take m) (ss.take m) l cr).1 (pathOf (ks.take m) (ss.take m) l cr).2.1).1 (pathOf (ks.drop m) (ss.drop m) (pathOf (ks.take m) (ss.take m) l cr).1 (pathOf (ks.take m) (ss.take m) l cr).2.1).2.2 cr (pathOf ks ss l cr).2.1 (pathOf (ks.take m) (ss.take m) l cr).2.1 (pathOf (ks.drop m) (ss.drop m) (pathOf (ks.take m) (ss.take m) l cr).1 (pathOf (ks.take m) (ss.take m) l cr).2.1).2.1 w (by omega) hkc (by omega) hc hc' hm hmn h0 hj (fun w' hb => ?_) (fun w' hb => ?_) (fun w' hb => ?_)
          · have := style_Path_calls (some ⟨b, o, none⟩) (some ⟨b', o', none⟩) c c' ks ss l cr w' (by omega) (.inr ⟨b, o, rfl, K1 w' hb⟩) (.inr ⟨b', o', rfl, S1 w' hb⟩)
            rw [hl] at this
            exact this
          · have := style_Path_calls (some ⟨b, o, none⟩) (some ⟨b', o', none⟩) c c' (ks.take m) (ss.take m) l cr w' (by omega) (IntSl.take m (K1 w' hb)) (IntSl.take m (S1 w' hb))
            rw [ht, ht'] at this
            exact this
          · have := style_Path_calls (some ⟨b, o + m, none⟩) (some ⟨b', o' + m, none⟩) (c - m) (c' - m) (ks.drop m) (ss.drop m) (pathOf (ks.take m) (ss.take m) l cr).1 (pathOf (ks.take m) (ss.take m) l cr).2.1 w' (by omega) (IntSl.drop m (K1 w' hb)) (IntSl.drop m (S1 w' hb))
            rw [hd, hd'] at this
            exact this

end Go.Proofs.Ytillohdeljlchaa
