/- Chapter 34: a result with modest boxes is a valid box. -/
import Derived.Test.YtgpabckipmhobaaLwt
namespace Go.Proofs.Ytgpabckipmhobaa
open Go.RowKit

theorem allOwn_kids {n : Nat} {bw bh bd : Int} {kids : List (Bx (n + 1))} (hl : lensOk [bw, bh, bd, 0, 0] = true) (hk : ∀ k ∈ kids, allOwn (n + 1) k = true) : allOwn (n + 2) (listB (n + 1) bw bh bd kids) = true := by
  have h1 : kindOk ⟨3, ⟨#[]⟩, 0, bw, bh, bd, 0, 0, 0, []⟩ kids.length = true := by simp [kindOk, Lib.toList_data]
  have h2 : srcOk ⟨3, ⟨#[]⟩, 0, bw, bh, bd, 0, 0, 0, []⟩ = true := by simp [srcOk, srcEnd]
  have e : allOwn (n + 2) (listB (n + 1) bw bh bd kids) = ((lensOk [bw, bh, bd, 0, 0] && kindOk ⟨3, ⟨#[]⟩, 0, bw, bh, bd, 0, 0, 0, []⟩ kids.length && srcOk ⟨3, ⟨#[]⟩, 0, bw, bh, bd, 0, 0, 0, []⟩) && kids.all (allOwn (n + 1))) := rfl
  rw [e, hl, h1, h2]
  simpa using hk
theorem allOwn_at {n : Nat} {b : Bx (n + 1)} {x y : Int} (h : allOwn (n + 1) b = true) (hb : (-1073741824 ≤ b.1.w ∧ b.1.w ≤ 1073741824) ∧ (-1073741824 ≤ b.1.h ∧ b.1.h ≤ 1073741824) ∧ (-1073741824 ≤ b.1.d ∧ b.1.d ≤ 1073741824)) (hx : -1073741824 ≤ x ∧ x ≤ 1073741824) (hy : -1073741824 ≤ y ∧ y ≤ 1073741824) : allOwn (n + 1) (atXY (n + 1) b x y) = true := by
  obtain ⟨⟨k, nm, sz, bw, bh, bd, bx, by_, o, src⟩, ks⟩ := b
  exact allOwn_head (a' := ⟨k, nm, sz, bw, bh, bd, x, y, o, src⟩) h (lens5.2 ⟨hb.1, hb.2.1, hb.2.2, hx, hy⟩) rfl rfl
/-- A box that is not great. -/
def Soft (a : Hd) : Prop := (-100000000 ≤ a.w ∧ a.w ≤ 100000000) ∧ (-200000000 ≤ a.h ∧ a.h ≤ 200000000) ∧ (-200000000 ≤ a.d ∧ a.d ≤ 200000000)
/-- .. at a place. -/
def SoftAt (a : Hd) : Prop := Soft a ∧ (-200000000 ≤ a.x ∧ a.x ≤ 200000000) ∧ (-600000000 ≤ a.y ∧ a.y ≤ 600000000)
theorem soft_fold : ∀ (l : List Hd) (e : E4), (∀ a ∈ l, SoftAt a) → (-300000000 ≤ e.r ∧ e.r ≤ 300000000) ∧ (-800000000 ≤ e.h ∧ e.h ≤ 800000000) ∧ (-800000000 ≤ e.d ∧ e.d ≤ 800000000) → (-300000000 ≤ (l.foldl extStep e).r ∧ (l.foldl extStep e).r ≤ 300000000) ∧ (-800000000 ≤ (l.foldl extStep e).h ∧ (l.foldl extStep e).h ≤ 800000000) ∧ (-800000000 ≤ (l.foldl extStep e).d ∧ (l.foldl extStep e).d ≤ 800000000) := by
  intro l
  induction l with
  | nil => intro e _ h; exact h
  | cons a l ih =>
    intro e hl h
    refine ih (extStep e a) (fun b hb => hl b (by simp [hb])) ?_
    have ha := hl a (by simp)
    unfold SoftAt Soft at ha
    unfold extStep
    simp only
    omega
theorem soft_ext {l : List Hd} (h : ∀ a ∈ l, SoftAt a) : (-300000000 ≤ (extL l).r ∧ (extL l).r ≤ 300000000) ∧ (-800000000 ≤ (extL l).h ∧ (extL l).h ≤ 800000000) ∧ (-800000000 ≤ (extL l).d ∧ (extL l).d ≤ 800000000) := by
  cases l with
  | nil => unfold extL; simp only; omega
  | cons a l =>
    refine soft_fold l (ext1 a) (fun b hb => h b (by simp [hb])) ?_
    have ha := h a (by simp)
    unfold SoftAt Soft at ha
    unfold ext1
    simp only
    omega
theorem shift_soft {F : Fnt} {l : Int} {c s : Bool} {b : Hd} {subs sups : List Hd} (hv : ValidF F) (hb : (-200000000 ≤ b.h ∧ b.h ≤ 200000000) ∧ (-200000000 ≤ b.d ∧ b.d ≤ 200000000)) (hs : ∀ a ∈ subs, -100000000 ≤ a.h ∧ a.h ≤ 100000000) (hu : ∀ a ∈ sups, -100000000 ≤ a.d ∧ a.d ≤ 100000000) :
    (-600000000 ≤ (shiftP F l c s b subs sups).1 ∧ (shiftP F l c s b subs sups).1 ≤ 600000000) ∧ (-600000000 ≤ (shiftP F l c s b subs sups).2 ∧ (shiftP F l c s b subs sups).2 ≤ 600000000) := by
  have hp := prm_scr hv
  have q1 := shQ_in (l := l) hv hp.2.2.2.2.2.2.2.1.1 hp.2.2.2.2.2.2.2.1.2
  have q2 := shQ_in (l := l) hv hp.2.2.2.2.2.2.2.2.1 hp.2.2.2.2.2.2.2.2.2
  have x1 := shX_in (l := l) (p := 25) hv (by omega)
  have x2 := shX_in (l := l) (p := 80) hv (by omega)
  have r0 := par_in (l := l) hv hp.2.1.1 hp.2.1.2
  have r1 := par_in (l := l) hv hp.2.2.1.1 hp.2.2.1.2
  have r2 := par_in (l := l) hv hp.2.2.2.1.1 hp.2.2.2.1.2
  have r3 := par_in (l := l) hv hp.2.2.2.2.1.1 hp.2.2.2.2.1.2
  have s1 := par_in (l := l) hv hp.2.2.2.2.2.1.1 hp.2.2.2.2.2.1.2
  have s2 := par_in (l := l) hv hp.2.2.2.2.2.2.1.1 hp.2.2.2.2.2.2.1.2
  have hr : 0 ≤ par F l (raiseP F l c) ∧ par F l (raiseP F l c) ≤ 20000 := by
    unfold raiseP
    repeat' split
    all_goals omega
  have u0 : -200020000 ≤ shU0 F l s b.h ∧ shU0 F l s b.h ≤ 200000000 := by unfold shU0; split <;> omega
  have v0 : -200000000 ≤ shV0 F l s b.d ∧ shV0 F l s b.d ≤ 200020000 := by unfold shV0; split <;> omega
  cases subs with
  | nil =>
    cases sups with
    | nil => unfold shiftP; simp only; omega
    | cons a sups =>
      have := hu a (by simp)
      unfold shiftP shUp
      simp only
      omega
  | cons e subs =>
    have h1 := hs e (by simp)
    cases sups with
    | nil => unfold shiftP shLow; simp only; omega
    | cons a sups =>
      have h2 := hu a (by simp)
      unfold shiftP shUp shGap
      simp only
      repeat' split
      all_goals (simp only; omega)
/-- A base that is not great with modest scripts: what is asked of each box of the result. -/
theorem scrB_own {F : Fnt} {l : Int} {c : Bool} {n : Nat} {base : Bx (n + 1)} {subs sups : List (Bx (n + 1))} (h : ScrOk F l n base subs sups) (hb : Soft base.1) (hs : ∀ a ∈ subs, modB n a = true) (hu : ∀ a ∈ sups, modB n a = true) : allOwn (n + 2) (scrB F l c n base subs sups) = true := by
  have hi := ital_in h.1 h.2.2.1
  have huv := shift_soft (F := F) (l := l) (c := c) (s := (innerS (n + 1) base).isSome) (b := base.1) (subs := subs.map (·.1)) (sups := sups.map (·.1)) h.1 hb.2 (fun a ha => by
    obtain ⟨b, hb, rfl⟩ := List.mem_map.1 ha
    exact (modB_out (hs b hb)).2.1) (fun a ha => by
    obtain ⟨b, hb, rfl⟩ := List.mem_map.1 ha
    exact (modB_out (hu b hb)).2.2.1)
  have huv : (-600000000 ≤ (scrUV F l c n base subs sups).1 ∧ (scrUV F l c n base subs sups).1 ≤ 600000000) ∧ (-600000000 ≤ (scrUV F l c n base subs sups).2 ∧ (scrUV F l c n base subs sups).2 ≤ 600000000) := huv
  unfold Soft at hb
  have hk : ∀ k ∈ scrK F l c n base subs sups, SoftAt k.1 ∧ allOwn (n + 1) k = true := by
    intro k hk
    simp only [scrK, List.mem_cons, List.mem_append, List.mem_map] at hk
    rcases hk with rfl | ⟨b, hm, rfl⟩ | ⟨b, hm, rfl⟩
    · refine ⟨?_, allOwn_at h.2.2.1.1 (vlens h.2.2.1) (by omega) (by omega)⟩
      unfold SoftAt Soft atXY
      simp only
      omega
    · have hbm := modB_out (hs b hm)
      refine ⟨?_, allOwn_at (h.2.2.2.1.2 b hm).1 (vlens (h.2.2.2.1.2 b hm)) (by omega) (by omega)⟩
      unfold SoftAt Soft atXY
      simp only
      omega
    · have hbm := modB_out (hu b hm)
      refine ⟨?_, allOwn_at (h.2.2.2.2.2 b hm).1 (vlens (h.2.2.2.2.2 b hm)) (by omega) (by omega)⟩
      unfold SoftAt Soft atXY
      simp only
      omega
  have he := soft_ext (l := (scrK F l c n base subs sups).map (·.1)) (fun a ha => by
    obtain ⟨k, hm, rfl⟩ := List.mem_map.1 ha
    exact (hk k hm).1)
  exact allOwn_kids (lens5.2 (by omega)) (fun k hm => (hk k hm).2)
theorem soft_mod {n : Nat} {b : Bx (n + 1)} (h : modB n b = true) : Soft b.1 := by
  have := modB_out h
  unfold Soft
  omega
theorem nest_at {n : Nat} {b : Bx (n + 1)} {x y : Int} : bNested (n + 1) (atXY (n + 1) b x y) = bNested (n + 1) b := rfl
theorem scr_count {F : Fnt} {l : Int} {c : Bool} {n : Nat} {base : Bx (n + 1)} {subs sups : List (Bx (n + 1))} : bCount (n + 2) (scrB F l c n base subs sups) = 1 + (bCount (n + 1) base + ((subs.map (bCount (n + 1))).sum + (sups.map (bCount (n + 1))).sum)) := by
  show 1 + ((scrK F l c n base subs sups).map (bCount (n + 1))).sum = _
  have e : ∀ (l : List (Bx (n + 1))) (f g : Bx (n + 1) → Int), (l.map (fun b => atXY (n + 1) b (f b) (g b))).map (bCount (n + 1)) = l.map (bCount (n + 1)) := fun l f g => by
    rw [List.map_map]
    exact List.map_congr_left (fun b _ => count_at)
  unfold scrK
  rw [List.map_cons, List.map_append, e subs (fun _ => _) (fun _ => _), e sups (fun _ => _) (fun _ => _), List.sum_cons, List.sum_append, count_at]
theorem scr_nested {F : Fnt} {l : Int} {c : Bool} {n : Nat} {base : Bx (n + 1)} {subs sups : List (Bx (n + 1))} : bNested (n + 2) (scrB F l c n base subs sups) = 1 + sups.foldl (fun m k => max m (bNested (n + 1) k)) (subs.foldl (fun m k => max m (bNested (n + 1) k)) (max 0 (bNested (n + 1) base))) := by
  show 1 + (scrK F l c n base subs sups).foldl (fun m k => max m (bNested (n + 1) k)) 0 = _
  unfold scrK
  rw [List.foldl_cons, List.foldl_append, List.foldl_map, List.foldl_map]
  rfl
/-- Cramped or not: a valid box, the other way round too. -/
theorem scr_cramp {F : Fnt} {l : Int} {c c' : Bool} {n : Nat} {base : Bx (n + 1)} {subs sups : List (Bx (n + 1))} (h : MadeOkS F l c n base subs sups) : MadeOkS F l c' n base subs sups := by
  have hm : ∀ b ∈ base :: (subs ++ sups), modB n b = true := fun b hb => List.all_eq_true.1 h.2.2.2.1 b hb
  refine ⟨h.1, h.2.1, h.2.2.1, h.2.2.2.1, h.2.2.2.2.1, scrB_own h.2.2.2.2.1 (soft_mod (hm base (by simp))) (fun a ha => hm a (by simp [ha])) (fun a ha => hm a (by simp [ha])), ?_⟩
  have h2 := h.2.2.2.2.2.2
  rw [scr_count, scr_nested] at h2 ⊢
  exact h2
theorem raise_cramp {F : Fnt} {l : Int} (h1 : F.sup3 ≤ F.sup1) (h2 : F.sup3 ≤ F.sup2) : raiseP F l true ≤ raiseP F l false := by
  unfold raiseP
  simp only [if_true, Bool.false_eq_true, if_false]
  split <;> omega
theorem rdiv_mono {a b : Int} (ha : 0 ≤ a) (h : a ≤ b) : rdiv a 100 ≤ rdiv b 100 := by
  unfold rdiv
  rw [if_pos ha, if_pos (by omega)]
  omega
theorem par_mono {F : Fnt} {l a b : Int} (hv : ValidF F) (h0 : 0 ≤ a) (h : a ≤ b) (hb : b ≤ 20000) : par F l a ≤ par F l b := by
  have hs := size_in (l := l) hv
  unfold par
  rw [scl_ok (by omega) (by omega) (by omega), scl_ok (by omega) (by omega) (by omega)]
  exact rdiv_mono (Int.mul_nonneg h0 (by omega)) (Int.mul_le_mul_of_nonneg_right h (by omega))
/-- In a cramped style a superscript is not higher. -/
theorem up_cramp {F : Fnt} {l : Int} {n : Nat} {base sp : Bx (n + 1)} (hv : ValidF F) (h1 : F.sup3 ≤ F.sup1) (h2 : F.sup3 ≤ F.sup2) : (scrUV F l true n base [] [sp]).1 ≤ (scrUV F l false n base [] [sp]).1 := by
  have hp := prm_scr hv
  have hr := raise_cramp (l := l) h1 h2
  have h0 : 0 ≤ raiseP F l true ∧ raiseP F l false ≤ 20000 := by
    unfold raiseP
    simp only [if_true, Bool.false_eq_true, if_false]
    split <;> omega
  have := par_mono (l := l) hv h0.1 hr h0.2
  show shUp F l true _ _ ≤ shUp F l false _ _
  unfold shUp
  omega
/-- A higher and deeper base that is not simple. -/
theorem inner_dim {n : Nat} {base : Bx (n + 1)} {h d : Int} (hi : innerS (n + 1) base = none) : innerS (n + 1) (dimB base h d) = none := by
  obtain ⟨⟨k, nm, sz, bw, bh, bd, bx, by_, o, src⟩, ks⟩ := base
  unfold innerS at hi ⊢
  unfold dimB
  simp only at hi ⊢
  by_cases h1 : k = 1
  · rw [if_pos h1] at hi
    cases hi
  · rw [if_neg h1] at hi ⊢
    exact hi
theorem up_dim {F : Fnt} {l : Int} {c : Bool} {n : Nat} {base sp : Bx (n + 1)} {m : Int} (hm : 0 ≤ m) (hi : innerS (n + 1) base = none) : (scrUV F l c n base [] [sp]).1 ≤ (scrUV F l c n (dimB base (base.1.h + m) (base.1.d + m)) [] [sp]).1 := by
  unfold scrUV
  rw [inner_dim hi, hi]
  show shUp F l c (shU0 F l false base.1.h) sp.1.d ≤ shUp F l c (shU0 F l false (base.1.h + m)) sp.1.d
  unfold shUp shU0
  simp only [Bool.false_eq_true, if_false]
  omega
theorem low_dim {F : Fnt} {l : Int} {c : Bool} {n : Nat} {base sb : Bx (n + 1)} {m : Int} (hm : 0 ≤ m) (hi : innerS (n + 1) base = none) : (scrUV F l c n base [sb] []).2 ≤ (scrUV F l c n (dimB base (base.1.h + m) (base.1.d + m)) [sb] []).2 := by
  unfold scrUV
  rw [inner_dim hi, hi]
  show shLow F l (shV0 F l false base.1.d) sb.1.h ≤ shLow F l (shV0 F l false (base.1.d + m)) sb.1.h
  unfold shLow shV0
  simp only [Bool.false_eq_true, if_false]
  omega
theorem scr_dim {F : Fnt} {l : Int} {c : Bool} {n : Nat} {base : Bx (n + 1)} {subs sups : List (Bx (n + 1))} {m : Int} (h : MadeOkS F l c n base subs sups) (hm : 0 ≤ m ∧ m ≤ 65535) : ScrOk F l n (dimB base (base.1.h + m) (base.1.d + m)) subs sups ∧ validB (n + 2) (scrB F l c n (dimB base (base.1.h + m) (base.1.d + m)) subs sups) := by
  have hmo : ∀ b ∈ base :: (subs ++ sups), modB n b = true := fun b hb => List.all_eq_true.1 h.2.2.2.1 b hb
  have mb := modB_out (hmo base (by simp))
  have hO : ScrOk F l n (dimB base (base.1.h + m) (base.1.d + m)) subs sups := ⟨h.2.2.2.2.1.1, h.2.2.2.2.1.2.1, validB_dim h.2.2.2.2.1.2.2.1 (hmo base (by simp)) (by omega) (by omega), h.2.2.2.2.1.2.2.2⟩
  refine ⟨hO, scrB_own hO ?_ (fun a ha => hmo a (by simp [ha])) (fun a ha => hmo a (by simp [ha])), ?_⟩
  · unfold Soft dimB
    simp only
    omega
  have h2 := h.2.2.2.2.2.2
  rw [scr_count, scr_nested] at h2 ⊢
  exact h2

end Go.Proofs.Ytgpabckipmhobaa
