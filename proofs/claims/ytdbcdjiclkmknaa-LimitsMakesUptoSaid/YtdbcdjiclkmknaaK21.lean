/- Texts Lmf, Lpl00. -/
import Derived.Test.YtdbcdjiclkmknaaK19
namespace Go.Proofs.Ytdbcdjiclkmknaa
open Go.RowKit

theorem fmax_ge : ∀ (l : List Int) (i : Int), i ≤ l.foldl max i ∧ ∀ x ∈ l, x ≤ l.foldl max i := by
  intro l
  induction l with
  | nil => intro i; exact ⟨Int.le_refl _, fun x hx => by cases hx⟩
  | cons a l ih =>
    intro i
    have h := ih (max i a)
    rw [List.foldl_cons]
    refine ⟨by omega, fun x hx => ?_⟩
    rcases List.mem_cons.1 hx with rfl | hx
    · omega
    · exact h.2 x hx
theorem fmax_le : ∀ (l : List Int) (i hi : Int), i ≤ hi → (∀ x ∈ l, x ≤ hi) → l.foldl max i ≤ hi := by
  intro l
  induction l with
  | nil => intro i hi h _; exact h
  | cons a l ih =>
    intro i hi h hl
    have := hl a (by simp)
    exact ih (max i a) hi (by omega) (fun x hx => hl x (by simp [hx]))
theorem fmin_le : ∀ (l : List Int) (i : Int), l.foldl min i ≤ i ∧ ∀ x ∈ l, l.foldl min i ≤ x := by
  intro l
  induction l with
  | nil => intro i; exact ⟨Int.le_refl _, fun x hx => by cases hx⟩
  | cons a l ih =>
    intro i
    have h := ih (min i a)
    rw [List.foldl_cons]
    refine ⟨by omega, fun x hx => ?_⟩
    rcases List.mem_cons.1 hx with rfl | hx
    · omega
    · exact h.2 x hx
theorem fmin_ge : ∀ (l : List Int) (i lo : Int), lo ≤ i → (∀ x ∈ l, lo ≤ x) → lo ≤ l.foldl min i := by
  intro l
  induction l with
  | nil => intro i lo h _; exact h
  | cons a l ih =>
    intro i lo h hl
    have := hl a (by simp)
    exact ih (min i a) lo (by omega) (fun x hx => hl x (by simp [hx]))
section
variable {W h L ow : Int} {ss us : List Int}
theorem lmW_ge : 0 ≤ lmW ow ss us ∧ ow ≤ lmW ow ss us ∧ (∀ s ∈ ss, s ≤ lmW ow ss us) ∧ ∀ u ∈ us, u ≤ lmW ow ss us := by
  have a := fmax_ge us (ss.foldl max (max 0 ow))
  have b := fmax_ge ss (max 0 ow)
  unfold lmW
  exact ⟨by omega, by omega, fun s hs => by have := b.2 s hs; omega, a.2⟩
theorem lmW_le {hi : Int} (h0 : 0 ≤ hi) (h1 : ow ≤ hi) (h2 : ∀ s ∈ ss, s ≤ hi) (h3 : ∀ u ∈ us, u ≤ hi) : lmW ow ss us ≤ hi :=
  fmax_le _ _ _ (fmax_le _ _ _ (by omega) h2) h3
theorem lmL_le : lmL W h ow ss us ≤ 0 ∧ lmL W h ow ss us ≤ lmX0 W ow ∧ (∀ s ∈ ss, lmL W h ow ss us ≤ lmX1 W h s) ∧ ∀ u ∈ us, lmL W h ow ss us ≤ lmX2 W h u := by
  have a := fmin_le (us.map (lmX2 W h)) ((ss.map (lmX1 W h)).foldl min (min 0 (lmX0 W ow)))
  have b := fmin_le (ss.map (lmX1 W h)) (min 0 (lmX0 W ow))
  unfold lmL
  exact ⟨by omega, by omega, fun s hs => by have := b.2 _ (List.mem_map_of_mem (f := lmX1 W h) hs); omega, fun u hu => a.2 _ (List.mem_map_of_mem (f := lmX2 W h) hu)⟩
theorem lmL_ge {lo : Int} (h0 : lo ≤ 0) (h1 : lo ≤ lmX0 W ow) (h2 : ∀ s ∈ ss, lo ≤ lmX1 W h s) (h3 : ∀ u ∈ us, lo ≤ lmX2 W h u) : lo ≤ lmL W h ow ss us :=
  fmin_ge _ _ _ (fmin_ge _ _ _ (by omega) (fun x hx => by obtain ⟨s, hs, rfl⟩ := List.mem_map.1 hx; exact h2 s hs)) (fun x hx => by obtain ⟨s, hs, rfl⟩ := List.mem_map.1 hx; exact h3 s hs)
theorem lmE_ge : W ≤ lmE W h L ow ss us ∧ lmX0 W ow - L + ow ≤ lmE W h L ow ss us ∧ (∀ s ∈ ss, lmX1 W h s - L + s ≤ lmE W h L ow ss us) ∧ ∀ u ∈ us, lmX2 W h u - L + u ≤ lmE W h L ow ss us := by
  have a := fmax_ge (us.map fun u => lmX2 W h u - L + u) ((ss.map fun s => lmX1 W h s - L + s).foldl max (max W (lmX0 W ow - L + ow)))
  have b := fmax_ge (ss.map fun s => lmX1 W h s - L + s) (max W (lmX0 W ow - L + ow))
  unfold lmE
  exact ⟨by omega, by omega, fun s hs => by have := b.2 _ (List.mem_map_of_mem (f := fun s => lmX1 W h s - L + s) hs); omega, fun u hu => a.2 _ (List.mem_map_of_mem (f := fun u => lmX2 W h u - L + u) hu)⟩
theorem lmE_le {hi : Int} (h0 : W ≤ hi) (h1 : lmX0 W ow - L + ow ≤ hi) (h2 : ∀ s ∈ ss, lmX1 W h s - L + s ≤ hi) (h3 : ∀ u ∈ us, lmX2 W h u - L + u ≤ hi) : lmE W h L ow ss us ≤ hi :=
  fmax_le _ _ _ (fmax_le _ _ _ (by omega) (fun x hx => by obtain ⟨s, hs, rfl⟩ := List.mem_map.1 hx; exact h2 s hs)) (fun x hx => by obtain ⟨s, hs, rfl⟩ := List.mem_map.1 hx; exact h3 s hs)
end
theorem lmX_in (W h x : Int) (hh : -536870912 ≤ h ∧ h ≤ 536870912) : (-536870912 ≤ lmX0 W x ∧ lmX0 W x ≤ 536870912) ∧ (-1073741824 ≤ lmX1 W h x ∧ lmX1 W h x ≤ 1073741824) ∧ (-1073741824 ≤ lmX2 W h x ∧ lmX2 W h x ≤ 1073741824) := by
  have := hlf_bd (W - x)
  unfold lmX0 lmX1 lmX2
  omega
/-- The bounds of all, from bounds of the widths. -/
theorem lmAll_in {h ow : Int} {ss us : List Int} (hh : -536870912 ≤ h ∧ h ≤ 536870912) (h1 : -1073741824 ≤ ow ∧ ow ≤ 1073741824) (h2 : ∀ s ∈ ss, -1073741824 ≤ s ∧ s ≤ 1073741824) (h3 : ∀ u ∈ us, -1073741824 ≤ u ∧ u ≤ 1073741824) :
    (0 ≤ lmW ow ss us ∧ lmW ow ss us ≤ 1073741824) ∧ (-2147483648 ≤ lmL (lmW ow ss us) h ow ss us ∧ lmL (lmW ow ss us) h ow ss us ≤ 0) ∧ (0 ≤ lmE (lmW ow ss us) h (lmL (lmW ow ss us) h ow ss us) ow ss us ∧ lmE (lmW ow ss us) h (lmL (lmW ow ss us) h ow ss us) ow ss us ≤ 8589934592) := by
  have w0 := (lmW_ge (ow := ow) (ss := ss) (us := us)).1
  have w1 := lmW_le (ow := ow) (ss := ss) (us := us) (hi := 1073741824) (by omega) h1.2 (fun s hs => (h2 s hs).2) (fun s hs => (h3 s hs).2)
  generalize lmW ow ss us = W at *
  have l0 := (lmL_le (W := W) (h := h) (ow := ow) (ss := ss) (us := us)).1
  have l1 := lmL_ge (W := W) (h := h) (ow := ow) (ss := ss) (us := us) (lo := -2147483648) (by omega) (by have := lmX_in W h ow hh; omega) (fun s _ => by have := lmX_in W h s hh; omega) (fun s _ => by have := lmX_in W h s hh; omega)
  generalize lmL W h ow ss us = L at *
  have e0 := (lmE_ge (W := W) (h := h) (L := L) (ow := ow) (ss := ss) (us := us)).1
  have e1 := lmE_le (W := W) (h := h) (L := L) (ow := ow) (ss := ss) (us := us) (hi := 8589934592) (by omega) (by have := lmX_in W h ow hh; omega) (fun s hs => by have := lmX_in W h s hh; have := h2 s hs; omega) (fun s hs => by have := lmX_in W h s hh; have := h3 s hs; omega)
  omega

end Go.Proofs.Ytdbcdjiclkmknaa
namespace Go.Proofs.Ytdbcdjiclkmknaa
open Go.RowKit

attribute [local irreducible] wpQuiet wpG wpP wpK wpList Code.wp Calls

set_option maxHeartbeats 16000000 in
set_option maxRecDepth 100000 in
theorem places_00 (h ow : Int) (bk bo bc sc uc : Nat) (b0 b1 b2 b4 b5 b6 b7 b8 b9 b10 : Value) (w : World) (hb : w.rangeAt bk bo [b0, b1, b2, .int .i64 ow, b4, b5, b6, b7, b8, b9, b10]) (ab : ([b0, b1, b2, .int .i64 ow, b4, b5, b6, b7, b8, b9, b10] : List Value).all (·.oneCell') = true) (iw : -1073741824 ≤ ow ∧ ow ≤ 1073741824) (_ih : -536870912 ≤ h ∧ h ≤ 536870912) (sx : Option Addr) (ux : Option Addr) (A0 p0 L0 y0 z0 C0 y1 y2 : Int) (eA0 : A0 = max 0 ow) (ep0 : p0 = hlf (A0 - ow)) (eL0 : L0 = min 0 p0) (ey0 : y0 = p0 - L0) (ez0 : z0 = y0 + ow) (eC0 : C0 = max A0 z0) (ey1 : y1 = 0 - L0) (ey2 : y2 = 0 - L0) :
    Calls Try.prog 22 #[.agg #[.slice (some ⟨bk, bo, none⟩) 1 bc, .slice sx 0 sc, .slice ux 0 uc], .int .i64 h] w (Gives (.tuple #[.agg #[.int .i64 y0, .int .i64 y1, .int .i64 y2], .int .i64 C0]) w) := by
  have Hp0 := Lib.hid (fun (w' : World) => show Calls Try.prog 23 #[.int .i64 (A0 - ow)] w' (Gives (.int .i64 p0) w') by rw [ep0]; exact length_Half_gives _ _)
  have mA0 := fun (w : World) (ts : Array TypeId) (t : TypeId) => eA0 ▸ lm_max2 (P := Try.prog) 0 ow w ts t
  have mL0 := fun (w : World) (ts : Array TypeId) (t : TypeId) => eL0 ▸ lm_min2 (P := Try.prog) 0 p0 w ts t
  have mC0 := fun (w : World) (ts : Array TypeId) (t : TypeId) => eC0 ▸ lm_max2 (P := Try.prog) A0 z0 w ts t
  have bp0 : -536870912 ≤ p0 ∧ p0 ≤ 536870912 := by rw [ep0]; exact hlf_bd _
  have bA0 : 0 ≤ A0 ∧ A0 ≤ 1073741824 := by clear eL0 eC0; omega
  have bL0 : -1073741824 ≤ L0 ∧ L0 ≤ 0 := by clear eA0 eC0; omega
  clear eA0 eL0 eC0
  have i1653 : IntKind.i64.wrap (A0 - ow) = A0 - ow := IntWalk.i64_in _ (by omega)
  have iy0 : IntKind.i64.wrap (p0 - L0) = y0 := by rw [ey0]; exact IntWalk.i64_in _ (by omega)
  have iz0 : IntKind.i64.wrap (y0 + ow) = z0 := by rw [ez0]; exact IntWalk.i64_in _ (by omega)
  have iy1 : IntKind.i64.wrap (0 - L0) = y1 := by rw [ey1]; exact IntWalk.i64_in _ (by omega)
  have iy2 : IntKind.i64.wrap (0 - L0) = y2 := by rw [ey2]; exact IntWalk.i64_in _ (by omega)
  have iy1n : IntKind.i64.wrap (-L0) = y1 := (IntWalk.i64_in _ (by omega)).trans (by omega)
  have y21 : y1 = y2 := by omega
  have a0 := arr3_0
  have a1 := arr3_1
  have a2 := arr3_2
  clear ep0 ey0 ez0 ey1 ey2 bp0 bA0 bL0 iw _ih
  go_enter Try.func22, Try.ntmps22
  have hS := own_start w
  iterate 2
    go_wp2_with (first|(refine own_unguard (by rfl) ?_)|(refine w_ld rfl _ rfl (by rfl) (by first|exact rd_1 (by repeat constructor) (by first|rfl|assumption)|exact rd_w (by repeat constructor) (by rfl)|((first|refine rd_o ‹_› (by rfl) ?_|refine rd_h ‹_› (by rfl) ?_|refine rd_1o ‹_› ?_|refine rd_1h ‹_› (by first|rfl|assumption) ?_);first|exact nmn|assumption|simp)) hS ?_)|((first|refine own_box rfl _ _ rfl (by rfl) hS ?_|refine w_al rfl rfl hS ?_);clear hS;(try clear ww);intro bb ww hS)|((first|refine w_st rfl _ _ rfl (by rfl) (by rfl) (by repeat constructor) (by rfl) (by rfl) (by first|rfl|assumption) hS ?_|refine w_s1 rfl _ _ rfl (by rfl) (by repeat constructor) (by first|exact .c|exact .t rfl) (by rfl) (by repeat constructor) hS ?_);clear hS;(try clear ww);intro ww hS))
    refine wp_loop_rounds 4 ?_
    rw [rounds_succ]
  go_wp2_with (first|(refine own_unguard (by rfl) ?_)|(refine w_ld rfl _ rfl (by rfl) (by first|exact rd_1 (by repeat constructor) (by first|rfl|assumption)|exact rd_w (by repeat constructor) (by rfl)|((first|refine rd_o ‹_› (by rfl) ?_|refine rd_h ‹_› (by rfl) ?_|refine rd_1o ‹_› ?_|refine rd_1h ‹_› (by first|rfl|assumption) ?_);first|exact nmn|assumption|simp)) hS ?_)|((first|refine own_box rfl _ _ rfl (by rfl) hS ?_|refine w_al rfl rfl hS ?_);clear hS;(try clear ww);intro bb ww hS)|((first|refine w_st rfl _ _ rfl (by rfl) (by rfl) (by repeat constructor) (by rfl) (by rfl) (by first|rfl|assumption) hS ?_|refine w_s1 rfl _ _ rfl (by rfl) (by repeat constructor) (by first|exact .c|exact .t rfl) (by rfl) (by repeat constructor) hS ?_);clear hS;(try clear ww);intro ww hS))
  iterate 2
    rw [rounds_succ]
    go_wp2_with (first|(refine own_unguard (by rfl) ?_)|(refine w_ld rfl _ rfl (by rfl) (by first|exact rd_1 (by repeat constructor) (by first|rfl|assumption)|exact rd_w (by repeat constructor) (by rfl)|((first|refine rd_o ‹_› (by rfl) ?_|refine rd_h ‹_› (by rfl) ?_|refine rd_1o ‹_› ?_|refine rd_1h ‹_› (by first|rfl|assumption) ?_);first|exact nmn|assumption|simp)) hS ?_)|((first|refine own_box rfl _ _ rfl (by rfl) hS ?_|refine w_al rfl rfl hS ?_);clear hS;(try clear ww);intro bb ww hS)|((first|refine w_st rfl _ _ rfl (by rfl) (by rfl) (by repeat constructor) (by rfl) (by rfl) (by first|rfl|assumption) hS ?_|refine w_s1 rfl _ _ rfl (by rfl) (by repeat constructor) (by first|exact .c|exact .t rfl) (by rfl) (by repeat constructor) hS ?_);clear hS;(try clear ww);intro ww hS))
    rw [rounds_succ]
    go_wp2_with (first|(refine own_unguard (by rfl) ?_)|(refine w_ld rfl _ rfl (by rfl) (by first|exact rd_1 (by repeat constructor) (by first|rfl|assumption)|exact rd_w (by repeat constructor) (by rfl)|((first|refine rd_o ‹_› (by rfl) ?_|refine rd_h ‹_› (by rfl) ?_|refine rd_1o ‹_› ?_|refine rd_1h ‹_› (by first|rfl|assumption) ?_);first|exact nmn|assumption|simp)) hS ?_)|((first|refine own_box rfl _ _ rfl (by rfl) hS ?_|refine w_al rfl rfl hS ?_);clear hS;(try clear ww);intro bb ww hS)|((first|refine w_st rfl _ _ rfl (by rfl) (by rfl) (by repeat constructor) (by rfl) (by rfl) (by first|rfl|assumption) hS ?_|refine w_s1 rfl _ _ rfl (by rfl) (by repeat constructor) (by first|exact .c|exact .t rfl) (by rfl) (by repeat constructor) hS ?_);clear hS;(try clear ww);intro ww hS))
    refine wp_loop_rounds 1 ?_
  iterate 2
    rw [rounds_succ]
    go_wp2_with (first|(refine own_unguard (by rfl) ?_)|(refine w_ld rfl _ rfl (by rfl) (by first|exact rd_1 (by repeat constructor) (by first|rfl|assumption)|exact rd_w (by repeat constructor) (by rfl)|((first|refine rd_o ‹_› (by rfl) ?_|refine rd_h ‹_› (by rfl) ?_|refine rd_1o ‹_› ?_|refine rd_1h ‹_› (by first|rfl|assumption) ?_);first|exact nmn|assumption|simp)) hS ?_)|((first|refine own_box rfl _ _ rfl (by rfl) hS ?_|refine w_al rfl rfl hS ?_);clear hS;(try clear ww);intro bb ww hS)|((first|refine w_st rfl _ _ rfl (by rfl) (by rfl) (by repeat constructor) (by rfl) (by rfl) (by first|rfl|assumption) hS ?_|refine w_s1 rfl _ _ rfl (by rfl) (by repeat constructor) (by first|exact .c|exact .t rfl) (by rfl) (by repeat constructor) hS ?_);clear hS;(try clear ww);intro ww hS))
  iterate 2
    refine wp_loop_rounds 4 ?_
    rw [rounds_succ]
    go_wp2_with (first|(refine own_unguard (by rfl) ?_)|(go_at_call 23;refine own_calls hS (by first|exact Hp0.out _) ?_;clear hS;(try clear ww);intro ww hS)|(refine w_ld rfl _ rfl (by rfl) (by first|exact rd_1 (by repeat constructor) (by first|rfl|assumption)|exact rd_w (by repeat constructor) (by rfl)|((first|refine rd_o ‹_› (by rfl) ?_|refine rd_h ‹_› (by rfl) ?_|refine rd_1o ‹_› ?_|refine rd_1h ‹_› (by first|rfl|assumption) ?_);first|exact nmn|assumption|simp)) hS ?_)|((first|refine own_box rfl _ _ rfl (by rfl) hS ?_|refine w_al rfl rfl hS ?_);clear hS;(try clear ww);intro bb ww hS)|((first|refine w_st rfl _ _ rfl (by rfl) (by rfl) (by repeat constructor) (by rfl) (by rfl) (by first|rfl|assumption) hS ?_|refine w_s1 rfl _ _ rfl (by rfl) (by repeat constructor) (by first|exact .c|exact .t rfl) (by rfl) (by repeat constructor) hS ?_);clear hS;(try clear ww);intro ww hS))
  iterate 2
    rw [rounds_succ]
    go_wp2_with (first|(refine own_unguard (by rfl) ?_)|(refine w_ld rfl _ rfl (by rfl) (by first|exact rd_1 (by repeat constructor) (by first|rfl|assumption)|exact rd_w (by repeat constructor) (by rfl)|((first|refine rd_o ‹_› (by rfl) ?_|refine rd_h ‹_› (by rfl) ?_|refine rd_1o ‹_› ?_|refine rd_1h ‹_› (by first|rfl|assumption) ?_);first|exact nmn|assumption|simp)) hS ?_)|((first|refine own_box rfl _ _ rfl (by rfl) hS ?_|refine w_al rfl rfl hS ?_);clear hS;(try clear ww);intro bb ww hS)|((first|refine w_st rfl _ _ rfl (by rfl) (by rfl) (by repeat constructor) (by rfl) (by rfl) (by first|rfl|assumption) hS ?_|refine w_s1 rfl _ _ rfl (by rfl) (by repeat constructor) (by first|exact .c|exact .t rfl) (by rfl) (by repeat constructor) hS ?_);clear hS;(try clear ww);intro ww hS))
    rw [rounds_succ]
    go_wp2_with (first|(refine own_unguard (by rfl) ?_)|(go_at_call 23;refine own_calls hS (by first|exact Hp0.out _) ?_;clear hS;(try clear ww);intro ww hS)|(refine w_ld rfl _ rfl (by rfl) (by first|exact rd_1 (by repeat constructor) (by first|rfl|assumption)|exact rd_w (by repeat constructor) (by rfl)|((first|refine rd_o ‹_› (by rfl) ?_|refine rd_h ‹_› (by rfl) ?_|refine rd_1o ‹_› ?_|refine rd_1h ‹_› (by first|rfl|assumption) ?_);first|exact nmn|assumption|simp)) hS ?_)|((first|refine own_box rfl _ _ rfl (by rfl) hS ?_|refine w_al rfl rfl hS ?_);clear hS;(try clear ww);intro bb ww hS)|((first|refine w_st rfl _ _ rfl (by rfl) (by rfl) (by repeat constructor) (by rfl) (by rfl) (by first|rfl|assumption) hS ?_|refine w_s1 rfl _ _ rfl (by rfl) (by repeat constructor) (by first|exact .c|exact .t rfl) (by rfl) (by repeat constructor) hS ?_);clear hS;(try clear ww);intro ww hS))
    refine wp_loop_rounds 1 ?_
  rw [rounds_succ]
  go_wp2_with (first|(refine own_unguard (by rfl) ?_)|(refine w_ld rfl _ rfl (by rfl) (by first|exact rd_1 (by repeat constructor) (by first|rfl|assumption)|exact rd_w (by repeat constructor) (by rfl)|((first|refine rd_o ‹_› (by rfl) ?_|refine rd_h ‹_› (by rfl) ?_|refine rd_1o ‹_› ?_|refine rd_1h ‹_› (by first|rfl|assumption) ?_);first|exact nmn|assumption|simp)) hS ?_)|((first|refine own_box rfl _ _ rfl (by rfl) hS ?_|refine w_al rfl rfl hS ?_);clear hS;(try clear ww);intro bb ww hS)|((first|refine w_st rfl _ _ rfl (by rfl) (by rfl) (by repeat constructor) (by rfl) (by rfl) (by first|rfl|assumption) hS ?_|refine w_s1 rfl _ _ rfl (by rfl) (by repeat constructor) (by first|exact .c|exact .t rfl) (by rfl) (by repeat constructor) hS ?_);clear hS;(try clear ww);intro ww hS))
  iterate 2
    rw [rounds_succ]
    go_wp2_with (first|(refine own_unguard (by rfl) ?_)|(refine w_ld rfl _ rfl (by rfl) (by first|exact rd_1 (by repeat constructor) (by first|rfl|assumption)|exact rd_w (by repeat constructor) (by rfl)|((first|refine rd_o ‹_› (by rfl) ?_|refine rd_h ‹_› (by rfl) ?_|refine rd_1o ‹_› ?_|refine rd_1h ‹_› (by first|rfl|assumption) ?_);first|exact nmn|assumption|simp)) hS ?_)|((first|refine own_box rfl _ _ rfl (by rfl) hS ?_|refine w_al rfl rfl hS ?_);clear hS;(try clear ww);intro bb ww hS)|((first|refine w_st rfl _ _ rfl (by rfl) (by rfl) (by repeat constructor) (by rfl) (by rfl) (by first|rfl|assumption) hS ?_|refine w_s1 rfl _ _ rfl (by rfl) (by repeat constructor) (by first|exact .c|exact .t rfl) (by rfl) (by repeat constructor) hS ?_);clear hS;(try clear ww);intro ww hS))
    refine wp_loop_rounds 4 ?_
  rw [rounds_succ]
  go_upto_region 33 with (first|(refine own_unguard (by rfl) ?_)|(refine w_ld rfl _ rfl (by rfl) (by first|exact rd_1 (by repeat constructor) (by first|rfl|assumption)|exact rd_w (by repeat constructor) (by rfl)|((first|refine rd_o ‹_› (by rfl) ?_|refine rd_h ‹_› (by rfl) ?_|refine rd_1o ‹_› ?_|refine rd_1h ‹_› (by first|rfl|assumption) ?_);first|exact nmn|assumption|simp)) hS ?_)|((first|refine own_box rfl _ _ rfl (by rfl) hS ?_|refine w_al rfl rfl hS ?_);clear hS;(try clear ww);intro bb ww hS)|((first|refine w_st rfl _ _ rfl (by rfl) (by rfl) (by repeat constructor) (by rfl) (by rfl) (by first|rfl|assumption) hS ?_|refine w_s1 rfl _ _ rfl (by rfl) (by repeat constructor) (by first|exact .c|exact .t rfl) (by rfl) (by repeat constructor) hS ?_);clear hS;(try clear ww);intro ww hS))
  (try simp only [Act.put]);(try simp only [List.setIfInBounds_toArray]);(try simp only [List.set_cons_succ]);(try simp only [List.set_cons_zero])
  refine own_region hS (by kernel_rfl) (by kernel_rfl) ?_
  (try simp only [List.append])
  (try simp only);(try simp only [List.drop_succ_cons]);(try simp only [List.drop_zero]);(try simp only [List.take_succ_cons]);(try simp only [List.take_zero])
  repeat (first
      | (first|(refine quiet_plain rfl ?_)|(refine quiet_yes rfl rfl rfl (by simp only [List.getElem?_toArray, List.getElem?_cons_succ, List.getElem?_cons_zero];rfl) (by with_reducible constructor) ?_)
         apply Exists.intro; refine ⟨?_, ?_⟩
         focus (intro wq hq0;have hq : Own _ _ _ wq := hq0;first|(exact quietAt_rd rfl (by rfl) (by first|exact rd_1 (by repeat constructor) (by first|rfl|assumption)|exact rd_w (by repeat constructor) (by rfl)|((first|refine rd_o ‹_› (by rfl) ?_|refine rd_h ‹_› (by rfl) ?_|refine rd_1o ‹_› ?_|refine rd_1h ‹_› (by first|rfl|assumption) ?_);first|exact nmn|assumption|simp)) hq)|(go_simp;first|(with_reducible rfl)))
         simp only [Act.put, List.setIfInBounds_toArray, List.set_cons_zero, List.set_cons_succ])
      | (refine quiet_no rfl rfl rfl (by simp only [List.getElem?_toArray, List.getElem?_cons_succ, List.getElem?_cons_zero];rfl) (by with_reducible constructor) ?_;simp only [Act.put, List.setIfInBounds_toArray, List.set_cons_zero, List.set_cons_succ]))
  refine wpQuiet_nil ?_
  clear hS
  intro ww hS
  go_wp2_with (first|(refine own_unguard (by rfl) ?_)|(refine w_ld rfl _ rfl (by rfl) (by first|exact rd_1 (by repeat constructor) (by first|rfl|assumption)|exact rd_w (by repeat constructor) (by rfl)|((first|refine rd_o ‹_› (by rfl) ?_|refine rd_h ‹_› (by rfl) ?_|refine rd_1o ‹_› ?_|refine rd_1h ‹_› (by first|rfl|assumption) ?_);first|exact nmn|assumption|simp)) hS ?_)|((first|refine own_box rfl _ _ rfl (by rfl) hS ?_|refine w_al rfl rfl hS ?_);clear hS;(try clear ww);intro bb ww hS)|((first|refine w_st rfl _ _ rfl (by rfl) (by rfl) (by repeat constructor) (by rfl) (by rfl) (by first|rfl|assumption) hS ?_|refine w_s1 rfl _ _ rfl (by rfl) (by repeat constructor) (by first|exact .c|exact .t rfl) (by rfl) (by repeat constructor) hS ?_);clear hS;(try clear ww);intro ww hS))
  iterate 2
    rw [rounds_succ]
    go_wp2_with (first|(refine own_unguard (by rfl) ?_)|(refine w_ld rfl _ rfl (by rfl) (by first|exact rd_1 (by repeat constructor) (by first|rfl|assumption)|exact rd_w (by repeat constructor) (by rfl)|((first|refine rd_o ‹_› (by rfl) ?_|refine rd_h ‹_› (by rfl) ?_|refine rd_1o ‹_› ?_|refine rd_1h ‹_› (by first|rfl|assumption) ?_);first|exact nmn|assumption|simp)) hS ?_)|((first|refine own_box rfl _ _ rfl (by rfl) hS ?_|refine w_al rfl rfl hS ?_);clear hS;(try clear ww);intro bb ww hS)|((first|refine w_st rfl _ _ rfl (by rfl) (by rfl) (by repeat constructor) (by rfl) (by rfl) (by first|rfl|assumption) hS ?_|refine w_s1 rfl _ _ rfl (by rfl) (by repeat constructor) (by first|exact .c|exact .t rfl) (by rfl) (by repeat constructor) hS ?_);clear hS;(try clear ww);intro ww hS))
    rw [rounds_succ]
    go_wp2_with (first|(refine own_unguard (by rfl) ?_)|(refine w_ld rfl _ rfl (by rfl) (by first|exact rd_1 (by repeat constructor) (by first|rfl|assumption)|exact rd_w (by repeat constructor) (by rfl)|((first|refine rd_o ‹_› (by rfl) ?_|refine rd_h ‹_› (by rfl) ?_|refine rd_1o ‹_› ?_|refine rd_1h ‹_› (by first|rfl|assumption) ?_);first|exact nmn|assumption|simp)) hS ?_)|((first|refine own_box rfl _ _ rfl (by rfl) hS ?_|refine w_al rfl rfl hS ?_);clear hS;(try clear ww);intro bb ww hS)|((first|refine w_st rfl _ _ rfl (by rfl) (by rfl) (by repeat constructor) (by rfl) (by rfl) (by first|rfl|assumption) hS ?_|refine w_s1 rfl _ _ rfl (by rfl) (by repeat constructor) (by first|exact .c|exact .t rfl) (by rfl) (by repeat constructor) hS ?_);clear hS;(try clear ww);intro ww hS))
    refine wp_loop_rounds 1 ?_
  iterate 2
    rw [rounds_succ]
    go_wp2_with (first|(refine own_unguard (by rfl) ?_)|(refine w_ld rfl _ rfl (by rfl) (by first|exact rd_1 (by repeat constructor) (by first|rfl|assumption)|exact rd_w (by repeat constructor) (by rfl)|((first|refine rd_o ‹_› (by rfl) ?_|refine rd_h ‹_› (by rfl) ?_|refine rd_1o ‹_› ?_|refine rd_1h ‹_› (by first|rfl|assumption) ?_);first|exact nmn|assumption|simp)) hS ?_)|((first|refine own_box rfl _ _ rfl (by rfl) hS ?_|refine w_al rfl rfl hS ?_);clear hS;(try clear ww);intro bb ww hS)|((first|refine w_st rfl _ _ rfl (by rfl) (by rfl) (by repeat constructor) (by rfl) (by rfl) (by first|rfl|assumption) hS ?_|refine w_s1 rfl _ _ rfl (by rfl) (by repeat constructor) (by first|exact .c|exact .t rfl) (by rfl) (by repeat constructor) hS ?_);clear hS;(try clear ww);intro ww hS))
  have hc := (hS.get (atl (by exact .next (.next (.next (.here)))))).cell
  refine bodyPost_ret (v := .tuple #[.agg #[.int .i64 y0, .int .i64 y1, .int .i64 y2], .int .i64 C0]) (by simp [results, Try.results22, go_sem, hc, y21]) rfl (own_gives hS)

end Go.Proofs.Ytdbcdjiclkmknaa
