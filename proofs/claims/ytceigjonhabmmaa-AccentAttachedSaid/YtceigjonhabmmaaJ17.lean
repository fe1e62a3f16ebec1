/- Texts Atc, Atr, Acn. -/
import Derived.Test.YtceigjonhabmmaaJ16
import Derived.Test.YtceigjonhabmmaaJ13
import Derived.Test.YtceigjonhabmmaaJ15
import Derived.Test.YtceigjonhabmmaaJ03
import Derived.Test.YtceigjonhabmmaaJ07
namespace Go.Proofs.Ytceigjonhabmmaa
open Go.RowKit

attribute [local irreducible] wpQuiet wpG wpP wpK wpList Code.wp Calls

/-- The point of attachment of a glyph, at a size; of a box. -/
def attG (F : Fnt) (s : ByteArray) (p : Int) : Int := scl (pickG F.gs s).at_ p
def attB (F : Fnt) (n : Nat) (b : Bx (n + 1)) : Int :=
  match innerS (n + 1) b with
  | none => hlf b.1.w
  | some g => attG F g.2.1.name g.2.1.size
theorem att_scl {F : Fnt} (hv : ValidF F) (s : ByteArray) {p : Int} (hp : 1 ≤ p ∧ p ≤ 1000) : (scaledG (pickG F.gs s) p).at_ = attG F s p := by
  unfold scaledG scaledErr attG
  rw [if_pos hp, if_pos (pick_metrics hv _)]
  rfl
theorem inner_count : ∀ (n : Nat) (b : Bx n) (m : Nat) (g : Bx (m + 1)), innerS n b = some ⟨m, g⟩ → bCount (m + 1) g ≤ bCount n b := by
  intro n
  induction n with
  | zero => intro b; exact b.elim
  | succ n ih =>
    rintro ⟨a, ks⟩ m g h
    by_cases h1 : a.kind = 1
    · rw [inner_glyph h1] at h
      cases h
      exact Nat.le_refl _
    · by_cases h3 : a.kind = 3
      · by_cases hl : ks.length = 1
        · obtain ⟨k, rfl⟩ := List.length_eq_one_iff.1 hl
          cases ha : atO n k
          · rw [inner_off h1 ha] at h; cases h
          · rw [inner_down h3 ha] at h
            have := ih k m g h
            have e : bCount (n + 1) (a, [k]) = 1 + bCount n k := by simp [bCount]
            omega
        · rw [inner_len h1 hl] at h; cases h
      · rw [inner_kind h1 h3] at h; cases h
theorem inner_small {n : Nat} {b : Bx n} {m : Nat} {g : Bx (m + 1)} (h : innerS n b = some ⟨m, g⟩) (hv : validB n b) : Small (m + 1) g ∧ bCount (m + 1) g ≤ 20000 := by
  have h1 := inner_count n b m g h
  have h2 := (validB_small hv).2
  have h3 := (inner_own n b m g h hv.1).2
  exact ⟨small_of _ _ h3 (by omega), by omega⟩

set_option maxHeartbeats 8000000 in
set_option maxRecDepth 100000 in
theorem accent_attach_calls (F : Fnt) (s : ByteArray) (p : Int) (w : World) (hF : FntOk w F) (hv : ValidF F) (hp : 1 ≤ p ∧ p ≤ 1000) : Calls Try.prog 28 #[F.val, .string s, .int .i64 p] w (Gives (.int .i64 (attG F s p)) w) := by
  have HP := Lib.hid (fun w' (h : Below w.heap.size w w') => font_pick34 F s w' (hF.below h) (by have := hv.1; omega))
  have HSc := Lib.hid (fun w' => font_Scaled_calls (pickG F.gs s) p w')
  have HA := Lib.hid (att_scl hv s hp)
  unfold gePair at HSc
  generalize pickG F.gs s = G at *
  generalize scaledG G p = G2 at *
  generalize scaledErr G p = er at *
  clear hF hv hp
  go_enter Try.func28, Try.ntmps28
  have hS := own_start w
  go_wp2_with (first | (refine own_unguard (by rfl) ?_) | (go_at_call 60; refine own_calls hS (by first | exact HP.out _ hS.below) ?_; clear hS; (try clear ww); intro ww hS) | (go_at_call 59; refine own_calls hS (by first | exact HSc.out _) ?_; clear hS; (try clear ww); intro ww hS) | (refine w_ld rfl _ rfl (by rfl) (by first | exact rd_1 (by repeat constructor) (by first | rfl | assumption) | exact rd_w (by repeat constructor) (by rfl) | exact rd_o (by assumption) (by rfl) (by first | exact nmn | assumption | simp) | exact rd_h (by assumption) (by rfl) (by first | exact nmn | assumption | simp) | exact rd_1o (by assumption) (by first | exact nmn | assumption | simp) | exact rd_1h (by assumption) (by first | rfl | assumption) (by first | exact nmn | assumption | simp)) hS ?_) | (refine own_box rfl _ _ rfl (by rfl) hS ?_; clear hS; (try clear ww); intro bb ww hS) | (refine w_al rfl rfl hS ?_; clear hS; (try clear ww); intro bb ww hS) | (refine w_st rfl _ _ rfl (by rfl) (by rfl) (by repeat constructor) (by rfl) (by rfl) (by first | rfl | assumption) hS ?_; clear hS; (try clear ww); intro ww hS) | (refine w_s1 rfl _ _ rfl (by rfl) (by repeat constructor) (by first | exact .c | exact .t rfl) (by rfl) (by repeat constructor) hS ?_; clear hS; (try clear ww); intro ww hS))
  go_ret
  exact ⟨ret_int HA.out, hS.below⟩

set_option maxHeartbeats 8000000 in
set_option maxRecDepth 100000 in
theorem attach_no1 (F : Fnt) (n : Nat) (b : Bx (n + 1)) (cs : List Value) (w : World) (hF : FntOk w F) (hr : Rep w (n + 1) b cs) (hv : ¬ ValidF F) : Calls Try.prog 18 #[F.val, .agg cs.toArray] w (Gives (.int .i64 0) w) := by
  have HV := Lib.hid (fun w' (h : Below w.heap.size w w') => font_Valid_calls F w' (hF.below h) false (iff_f hv))
  obtain ⟨c0, c1, c2, c3, c4, c5, c6, c7, c8, c9, c10, rfl⟩ := eleven hr.len
  clear hF hr hv
  go_enter Try.func18, Try.ntmps18
  have hS := own_start w
  go_wp2_with (first | (refine own_unguard (by rfl) ?_) | (go_at_call 51; refine own_calls hS (by first | exact HV.out _ hS.below) ?_; clear hS; (try clear ww); intro ww hS) | (refine w_ld rfl _ rfl (by rfl) (by first | exact rd_1 (by repeat constructor) (by first | rfl | assumption) | exact rd_w (by repeat constructor) (by rfl) | exact rd_o (by assumption) (by rfl) (by first | exact nmn | assumption | simp) | exact rd_h (by assumption) (by rfl) (by first | exact nmn | assumption | simp) | exact rd_1o (by assumption) (by first | exact nmn | assumption | simp) | exact rd_1h (by assumption) (by first | rfl | assumption) (by first | exact nmn | assumption | simp)) hS ?_) | (refine own_box rfl _ _ rfl (by rfl) hS ?_; clear hS; (try clear ww); intro bb ww hS) | (refine w_al rfl rfl hS ?_; clear hS; (try clear ww); intro bb ww hS) | (refine w_st rfl _ _ rfl (by rfl) (by rfl) (by repeat constructor) (by rfl) (by rfl) (by first | rfl | assumption) hS ?_; clear hS; (try clear ww); intro ww hS) | (refine w_s1 rfl _ _ rfl (by rfl) (by repeat constructor) (by first | exact .c | exact .t rfl) (by rfl) (by repeat constructor) hS ?_; clear hS; (try clear ww); intro ww hS))
  go_ret
  exact own_gives hS

set_option maxHeartbeats 8000000 in
set_option maxRecDepth 100000 in
theorem attach_no2 (F : Fnt) (n : Nat) (b : Bx (n + 1)) (cs : List Value) (w : World) (hF : FntOk w F) (hr : Rep w (n + 1) b cs) (hv : ValidF F) (hb : ¬ validB (n + 1) b) : Calls Try.prog 18 #[F.val, .agg cs.toArray] w (Gives (.int .i64 0) w) := by
  have HV := Lib.hid (fun w' (h : Below w.heap.size w w') => font_Valid_calls F w' (hF.below h) true (iff_t hv))
  have HB := Lib.hid (fun w' (h : Below w.heap.size w w') => box_Valid_calls (n + 1) b cs w' (hr.step h) hr.wide _ (iff_f hb))
  obtain ⟨c0, c1, c2, c3, c4, c5, c6, c7, c8, c9, c10, rfl⟩ := eleven hr.len
  clear hF hr hv hb
  go_enter Try.func18, Try.ntmps18
  have hS := own_start w
  go_wp2_with (first | (refine own_unguard (by rfl) ?_) | (go_at_call 51; refine own_calls hS (by first | exact HV.out _ hS.below) ?_; clear hS; (try clear ww); intro ww hS) | (go_at_call 24; refine own_calls hS (by first | exact HB.out _ hS.below) ?_; clear hS; (try clear ww); intro ww hS) | (refine w_ld rfl _ rfl (by rfl) (by first | exact rd_1 (by repeat constructor) (by first | rfl | assumption) | exact rd_w (by repeat constructor) (by rfl) | exact rd_o (by assumption) (by rfl) (by first | exact nmn | assumption | simp) | exact rd_h (by assumption) (by rfl) (by first | exact nmn | assumption | simp) | exact rd_1o (by assumption) (by first | exact nmn | assumption | simp) | exact rd_1h (by assumption) (by first | rfl | assumption) (by first | exact nmn | assumption | simp)) hS ?_) | (refine own_box rfl _ _ rfl (by rfl) hS ?_; clear hS; (try clear ww); intro bb ww hS) | (refine w_al rfl rfl hS ?_; clear hS; (try clear ww); intro bb ww hS) | (refine w_st rfl _ _ rfl (by rfl) (by rfl) (by repeat constructor) (by rfl) (by rfl) (by first | rfl | assumption) hS ?_; clear hS; (try clear ww); intro ww hS) | (refine w_s1 rfl _ _ rfl (by rfl) (by repeat constructor) (by first | exact .c | exact .t rfl) (by rfl) (by repeat constructor) hS ?_; clear hS; (try clear ww); intro ww hS))
  go_ret
  exact own_gives hS

set_option maxHeartbeats 8000000 in
set_option maxRecDepth 100000 in
theorem attach_none (F : Fnt) (n : Nat) (b : Bx (n + 1)) (cs : List Value) (w : World) (hF : FntOk w F) (hr : Rep w (n + 1) b cs) (hv : ValidF F) (hb : validB (n + 1) b) (hi : innerS (n + 1) b = none) : Calls Try.prog 18 #[F.val, .agg cs.toArray] w (Gives (.int .i64 (hlf b.1.w)) w) := by
  have HV := Lib.hid (fun w' (h : Below w.heap.size w w') => font_Valid_calls F w' (hF.below h) true (iff_t hv))
  have HB := Lib.hid (fun w' (h : Below w.heap.size w w') => box_Valid_calls (n + 1) b cs w' (hr.step h) hr.wide _ (iff_t hb))
  have HI := Lib.hid (fun w' (h : Below w.heap.size w w') => script_Simple_none (n + 1) b cs w' (hr.step h) hi)
  have HH := Lib.hid (fun w' => length_Half_gives b.1.w w')
  obtain ⟨⟨kind, name, size, bw, bh, bd, bx, by_, of, src⟩, kids⟩ := b
  obtain ⟨kx, kc, sx, sc, rfl, _, _, _, _⟩ := rep_out hr
  simp only at HH ⊢
  clear hF hr hv hb hi
  go_enter Try.func18, Try.ntmps18
  have hS := own_start w
  go_wp2_with (first | (refine own_unguard (by rfl) ?_) | (go_at_call 51; refine own_calls hS (by first | exact HV.out _ hS.below) ?_; clear hS; (try clear ww); intro ww hS) | (go_at_call 24; refine own_calls hS (by first | exact HB.out _ hS.below) ?_; clear hS; (try clear ww); intro ww hS) | (go_at_call 52; refine own_calls hS (by first | exact HI.out _ hS.below) ?_; clear hS; (try clear ww); intro ww hS) | (go_at_call 53; refine own_calls hS (by first | exact HH.out _) ?_; clear hS; (try clear ww); intro ww hS) | (refine w_ld rfl _ rfl (by rfl) (by first | exact rd_1 (by repeat constructor) (by first | rfl | assumption) | exact rd_w (by repeat constructor) (by rfl) | exact rd_o (by assumption) (by rfl) (by first | exact nmn | assumption | simp) | exact rd_h (by assumption) (by rfl) (by first | exact nmn | assumption | simp) | exact rd_1o (by assumption) (by first | exact nmn | assumption | simp) | exact rd_1h (by assumption) (by first | rfl | assumption) (by first | exact nmn | assumption | simp)) hS ?_) | (refine own_box rfl _ _ rfl (by rfl) hS ?_; clear hS; (try clear ww); intro bb ww hS) | (refine w_al rfl rfl hS ?_; clear hS; (try clear ww); intro bb ww hS) | (refine w_st rfl _ _ rfl (by rfl) (by rfl) (by repeat constructor) (by rfl) (by rfl) (by first | rfl | assumption) hS ?_; clear hS; (try clear ww); intro ww hS) | (refine w_s1 rfl _ _ rfl (by rfl) (by repeat constructor) (by first | exact .c | exact .t rfl) (by rfl) (by repeat constructor) hS ?_; clear hS; (try clear ww); intro ww hS))
  go_ret
  exact own_gives hS

set_option maxHeartbeats 8000000 in
set_option maxRecDepth 100000 in
theorem attach_some (F : Fnt) (n : Nat) (b : Bx (n + 1)) (cs : List Value) (w : World) (hF : FntOk w F) (hr : Rep w (n + 1) b cs) (hv : ValidF F) (hb : validB (n + 1) b) (m : Nat) (g : Bx (m + 1)) (hi : innerS (n + 1) b = some ⟨m, g⟩) : Calls Try.prog 18 #[F.val, .agg cs.toArray] w (Gives (.int .i64 (attG F g.1.name g.1.size)) w) := by
  have HV := Lib.hid (fun w' (h : Below w.heap.size w w') => font_Valid_calls F w' (hF.below h) true (iff_t hv))
  have HB := Lib.hid (fun w' (h : Below w.heap.size w w') => box_Valid_calls (n + 1) b cs w' (hr.step h) hr.wide _ (iff_t hb))
  have hsm := inner_small hi hb
  have HI := Lib.hid (fun w' (h : Below w.heap.size w w') => script_Simple_some (n + 1) b cs w' (hr.step h) m g hi hsm.1 (by have := hsm.2; omega))
  have HA := Lib.hid (fun w' (h : Below w.heap.size w w') => accent_attach_calls F g.1.name g.1.size w' (hF.below h) hv (inner_size hi hb))
  obtain ⟨⟨gk, gn, gz, gw, gh, gd, gx2, gy2, go2, gs2⟩, gks⟩ := g
  simp only at HA ⊢
  generalize attG F gn gz = z at *
  obtain ⟨c0, c1, c2, c3, c4, c5, c6, c7, c8, c9, c10, rfl⟩ := eleven hr.len
  clear hF hr hv hb hi hsm
  go_enter Try.func18, Try.ntmps18
  have hS := own_start w
  go_wp2_with (first | (refine own_unguard (by rfl) ?_) | (go_at_call 51; refine own_calls hS (by first | exact HV.out _ hS.below) ?_; clear hS; (try clear ww); intro ww hS) | (go_at_call 24; refine own_calls hS (by first | exact HB.out _ hS.below) ?_; clear hS; (try clear ww); intro ww hS) | (go_at_call 52; refine Calls.mono (HI.out _ hS.below) ?_; rintro e w1 ⟨gcs, rfl, hg, hb1⟩; obtain ⟨_, _, _, _, rfl, _⟩ := rep_out hg; have hall := rep_all hg; have hS1 := hS.step hb1; clear hS hg hb1; (try clear ww); have hS := hS1; clear hS1) | (go_at_call 28; refine own_calls hS (by first | exact HA.out _ hS.below) ?_; clear hS; (try clear ww); intro ww hS) | (refine w_ld rfl _ rfl (by rfl) (by first | exact rd_1 (by repeat constructor) (by first | rfl | assumption) | exact rd_w (by repeat constructor) (by rfl) | exact rd_o (by assumption) (by rfl) (by first | exact nmn | assumption | simp) | exact rd_h (by assumption) (by rfl) (by first | exact nmn | assumption | simp) | exact rd_1o (by assumption) (by first | exact nmn | assumption | simp) | exact rd_1h (by assumption) (by first | rfl | assumption) (by first | exact nmn | assumption | simp)) hS ?_) | (refine own_box rfl _ _ rfl (by rfl) hS ?_; clear hS; (try clear ww); intro bb ww hS) | (refine w_al rfl rfl hS ?_; clear hS; (try clear ww); intro bb ww hS) | (refine w_st rfl _ _ rfl (by rfl) (by rfl) (by repeat constructor) (by rfl) (by rfl) (by first | rfl | assumption) hS ?_; clear hS; (try clear ww); intro ww hS) | (refine w_s1 rfl _ _ rfl (by rfl) (by repeat constructor) (by first | exact .c | exact .t rfl) (by rfl) (by repeat constructor) hS ?_; clear hS; (try clear ww); intro ww hS))
  go_ret
  exact own_gives hS

theorem accent_Attach_calls (F : Fnt) (n : Nat) (b : Bx (n + 1)) (cs : List Value) (w : World) (hF : FntOk w F) (hr : Rep w (n + 1) b cs) (v : Int) (h1 : ValidF F ∧ validB (n + 1) b → v = attB F n b) (h2 : ¬ (ValidF F ∧ validB (n + 1) b) → v = 0) : Calls Try.prog 18 #[F.val, .agg cs.toArray] w (Gives (.int .i64 v) w) := by
  by_cases hv : ValidF F
  · by_cases hb : validB (n + 1) b
    · rw [h1 ⟨hv, hb⟩]
      unfold attB
      cases hi : innerS (n + 1) b with
      | none => exact attach_none F n b cs w hF hr hv hb hi
      | some g => exact attach_some F n b cs w hF hr hv hb g.1 g.2 hi
    · rw [h2 (fun h => hb h.2)]
      exact attach_no2 F n b cs w hF hr hv hb
  · rw [h2 (fun h => hv h.1)]
    exact attach_no1 F n b cs w hF hr hv

end Go.Proofs.Ytceigjonhabmmaa
namespace Go.Proofs.Ytceigjonhabmmaa
open Go.RowKit

attribute [local irreducible] wpQuiet wpG wpP wpK wpList Code.wp Calls

set_option maxHeartbeats 8000000 in
set_option maxRecDepth 100000 in
theorem ref36_Attach_none (F : Fnt) (n : Nat) (b : Bx (n + 1)) (cs : List Value) (w : World) (_hF : FntOk w F) (hr : Rep w (n + 1) b cs) (hi : innerS (n + 1) b = none) : Calls Try.prog 17 #[F.val, .agg cs.toArray] w (Gives (.int .i64 (hlf b.1.w)) w) := by
  obtain ⟨v, hv, hc⟩ := ref34_Simple_calls (n + 1) b cs w hr
  rw [hi] at hv
  obtain rfl : v = _ := hv
  have HC := Lib.hid hc
  have HH := Lib.hid (fun w' => ref32_Half_calls b.1.w w')
  obtain ⟨⟨kind, name, size, bw, bh, bd, bx, by_, of, src⟩, kids⟩ := b
  obtain ⟨kx, kc, sx, sc, rfl, _, _, _, _⟩ := rep_out hr
  simp only at HH ⊢
  clear _hF hr hi hc
  go_enter Try.func17, Try.ntmps17
  have hS := own_start w
  go_wp2_with (first | (refine own_unguard (by rfl) ?_) | (go_at_call 47; refine own_calls hS (by first | exact HC.out _ hS.below) ?_; clear hS; (try clear ww); intro ww hS) | (go_at_call 50; refine own_calls hS (by first | exact HH.out _) ?_; clear hS; (try clear ww); intro ww hS) | (refine w_ld rfl _ rfl (by rfl) (by first | exact rd_1 (by repeat constructor) (by first | rfl | assumption) | exact rd_w (by repeat constructor) (by rfl) | exact rd_o (by assumption) (by rfl) (by first | exact nmn | assumption | simp) | exact rd_h (by assumption) (by rfl) (by first | exact nmn | assumption | simp) | exact rd_1o (by assumption) (by first | exact nmn | assumption | simp) | exact rd_1h (by assumption) (by first | rfl | assumption) (by first | exact nmn | assumption | simp)) hS ?_) | (refine own_box rfl _ _ rfl (by rfl) hS ?_; clear hS; (try clear ww); intro bb ww hS) | (refine w_al rfl rfl hS ?_; clear hS; (try clear ww); intro bb ww hS) | (refine w_st rfl _ _ rfl (by rfl) (by rfl) (by repeat constructor) (by rfl) (by rfl) (by first | rfl | assumption) hS ?_; clear hS; (try clear ww); intro ww hS) | (refine w_s1 rfl _ _ rfl (by rfl) (by repeat constructor) (by first | exact .c | exact .t rfl) (by rfl) (by repeat constructor) hS ?_; clear hS; (try clear ww); intro ww hS))
  go_ret
  exact own_gives hS

set_option maxHeartbeats 8000000 in
set_option maxRecDepth 100000 in
theorem ref36_Attach_some (F : Fnt) (n : Nat) (b : Bx (n + 1)) (cs : List Value) (w : World) (hF : FntOk w F) (hr : Rep w (n + 1) b cs) (hf : ValidF F) (hb : validB (n + 1) b) (m : Nat) (g : Bx (m + 1)) (hi : innerS (n + 1) b = some ⟨m, g⟩) : Calls Try.prog 17 #[F.val, .agg cs.toArray] w (Gives (.int .i64 (attG F g.1.name g.1.size)) w) := by
  obtain ⟨v, hv, hc⟩ := ref34_Simple_calls (n + 1) b cs w hr
  rw [hi] at hv
  obtain ⟨gcs, rfl, hg⟩ := hv
  have hs := inner_size hi hb
  have hm := metricsOk_bd (pick_metrics hf g.1.name)
  have HP := Lib.hid (fun w' (h : Below w.heap.size w w') => ref05_pick34 F g.1.name w' (hF.below h) (by have := hf.1; omega))
  have HSc := Lib.hid (fun w' => ref05_Scale_gives (pickG F.gs g.1.name).at_ g.1.size w' hm.2.2.2.2 hs)
  obtain ⟨⟨gk, gn, gz, gw, gh, gd, gx2, gy2, go2, gs2⟩, gks⟩ := g
  obtain ⟨_, _, _, _, rfl, _⟩ := rep_out hg
  have hall := rep_all hg
  unfold attG
  simp only at HP HSc ⊢
  generalize pickG F.gs gn = G at *
  generalize scl G.at_ gz = I at *
  have hfl : ∀ (w : World), (Instr.field 55 (.agg #[.string G.name, .int .i64 G.w, .int .i64 G.h, .int .i64 G.d, .int .i64 G.it, .int .i64 G.at_]) 5).run Try.prog w = .ok (.int .i64 G.at_) w := fun w => by
    simp [Instr.field, asAgg, run_underlying Try.underlying55, go_sem]
  have HC := Lib.hid hc
  obtain ⟨c0, c1, c2, c3, c4, c5, c6, c7, c8, c9, c10, rfl⟩ := eleven hr.len
  clear hF hr hi hc hf hb hg hs hm
  go_enter Try.func17, Try.ntmps17
  have hS := own_start w
  go_upto_region 4 with (first | (refine own_unguard (by rfl) ?_) | (go_at_call 47; refine own_calls hS (by first | exact HC.out _ hS.below) ?_; clear hS; (try clear ww); intro ww hS) | (refine w_ld rfl _ rfl (by rfl) (by first | exact rd_1 (by repeat constructor) (by first | rfl | assumption) | exact rd_w (by repeat constructor) (by rfl) | exact rd_o (by assumption) (by rfl) (by first | exact nmn | assumption | simp) | exact rd_h (by assumption) (by rfl) (by first | exact nmn | assumption | simp) | exact rd_1o (by assumption) (by first | exact nmn | assumption | simp) | exact rd_1h (by assumption) (by first | rfl | assumption) (by first | exact nmn | assumption | simp)) hS ?_) | (refine own_box rfl _ _ rfl (by rfl) hS ?_; clear hS; (try clear ww); intro bb ww hS) | (refine w_al rfl rfl hS ?_; clear hS; (try clear ww); intro bb ww hS) | (refine w_st rfl _ _ rfl (by rfl) (by rfl) (by repeat constructor) (by rfl) (by rfl) (by first | rfl | assumption) hS ?_; clear hS; (try clear ww); intro ww hS) | (refine w_s1 rfl _ _ rfl (by rfl) (by repeat constructor) (by first | exact .c | exact .t rfl) (by rfl) (by repeat constructor) hS ?_; clear hS; (try clear ww); intro ww hS))
  (try simp only [Act.put]); (try simp only [List.setIfInBounds_toArray]); (try simp only [List.set_cons_succ]); (try simp only [List.set_cons_zero])
  refine own_region hS (by kernel_rfl) (by kernel_rfl) ?_
  (try simp only); (try simp only [List.drop_succ_cons]); (try simp only [List.drop_zero]); (try simp only [List.take_succ_cons]); (try simp only [List.take_zero])
  repeat (first
      | (first | (refine quiet_plain rfl ?_) | (refine quiet_yes rfl rfl rfl (by simp only [List.getElem?_toArray, List.getElem?_cons_succ, List.getElem?_cons_zero]; rfl) (by with_reducible constructor) ?_)
         apply Exists.intro; refine ⟨?_, ?_⟩
         focus (intro wq hq0; have hq : Own _ _ _ wq := hq0; first | (exact quietAt_rd rfl (by rfl) (by first | exact rd_1 (by repeat constructor) (by first | rfl | assumption) | exact rd_w (by repeat constructor) (by rfl) | exact rd_o (by assumption) (by rfl) (by first | exact nmn | assumption | simp) | exact rd_h (by assumption) (by rfl) (by first | exact nmn | assumption | simp) | exact rd_1o (by assumption) (by first | exact nmn | assumption | simp) | exact rd_1h (by assumption) (by first | rfl | assumption) (by first | exact nmn | assumption | simp)) hq) | (go_simp; first | (go_at_call 49; exact quietG hq (HP.out _ hq.below)) | (go_at_call 48; exact quietG hq (HSc.out _)) | (with_reducible rfl)))
         simp only [Act.put, List.setIfInBounds_toArray, List.set_cons_zero, List.set_cons_succ])
      | (refine quiet_no rfl rfl rfl (by simp only [List.getElem?_toArray, List.getElem?_cons_succ, List.getElem?_cons_zero]; rfl) (by with_reducible constructor) ?_; simp only [Act.put, List.setIfInBounds_toArray, List.set_cons_zero, List.set_cons_succ]))
  refine wpQuiet_nil ?_
  clear hS
  intro ww hS
  go_wp2_with (first | (refine own_unguard (by rfl) ?_) | (refine w_ld rfl _ rfl (by rfl) (by first | exact rd_1 (by repeat constructor) (by first | rfl | assumption) | exact rd_w (by repeat constructor) (by rfl) | exact rd_o (by assumption) (by rfl) (by first | exact nmn | assumption | simp) | exact rd_h (by assumption) (by rfl) (by first | exact nmn | assumption | simp) | exact rd_1o (by assumption) (by first | exact nmn | assumption | simp) | exact rd_1h (by assumption) (by first | rfl | assumption) (by first | exact nmn | assumption | simp)) hS ?_) | (refine own_box rfl _ _ rfl (by rfl) hS ?_; clear hS; (try clear ww); intro bb ww hS) | (refine w_al rfl rfl hS ?_; clear hS; (try clear ww); intro bb ww hS) | (refine w_st rfl _ _ rfl (by rfl) (by rfl) (by repeat constructor) (by rfl) (by rfl) (by first | rfl | assumption) hS ?_; clear hS; (try clear ww); intro ww hS) | (refine w_s1 rfl _ _ rfl (by rfl) (by repeat constructor) (by first | exact .c | exact .t rfl) (by rfl) (by repeat constructor) hS ?_; clear hS; (try clear ww); intro ww hS))
  go_ret
  exact own_gives hS

theorem ref36_Attach_calls (F : Fnt) (n : Nat) (b : Bx (n + 1)) (cs : List Value) (w : World) (hF : FntOk w F) (hr : Rep w (n + 1) b cs) (hf : ValidF F) (hb : validB (n + 1) b) : Calls Try.prog 17 #[F.val, .agg cs.toArray] w (Gives (.int .i64 (attB F n b)) w) := by
  unfold attB
  cases hi : innerS (n + 1) b with
  | none => exact ref36_Attach_none F n b cs w hF hr hi
  | some g => exact ref36_Attach_some F n b cs w hF hr hf hb g.1 g.2 hi

set_option maxHeartbeats 8000000 in
set_option maxRecDepth 100000 in
theorem ref36_Own_calls (F : Fnt) (l : Int) (c : Bool) (s : ByteArray) (w : World) (hF : FntOk w F) (hl : lvlOk l = true) (hv : ValidF F) : Calls Try.prog 20 #[F.val, .agg #[.int .i64 l, .bool c], .string s] w (Gives (.int .i64 (attG F s (sizeOf' F l))) w) := by
  have hz := size_in (l := l) hv
  have hm := metricsOk_bd (pick_metrics hv s)
  have HP := Lib.hid (fun w' (h : Below w.heap.size w w') => ref05_pick34 F s w' (hF.below h) (by have := hv.1; omega))
  have HZ := Lib.hid (fun w' => ref25_Size_in F l c w' hl)
  have HSc := Lib.hid (fun w' => ref05_Scale_gives (pickG F.gs s).at_ (sizeOf' F l) w' hm.2.2.2.2 (by omega))
  unfold attG
  generalize sizeOf' F l = Z at *
  generalize pickG F.gs s = G at *
  generalize scl G.at_ Z = I at *
  have hfl : ∀ (w : World), (Instr.field 55 (.agg #[.string G.name, .int .i64 G.w, .int .i64 G.h, .int .i64 G.d, .int .i64 G.it, .int .i64 G.at_]) 5).run Try.prog w = .ok (.int .i64 G.at_) w := fun w => by
    simp [Instr.field, asAgg, run_underlying Try.underlying55, go_sem]
  clear hF hl hv hz hm
  go_enter Try.func20, Try.ntmps20
  have hS := own_start w
  go_upto_region 1 with (first | (refine own_unguard (by rfl) ?_) | (refine w_ld rfl _ rfl (by rfl) (by first | exact rd_1 (by repeat constructor) (by first | rfl | assumption) | exact rd_w (by repeat constructor) (by rfl) | exact rd_o (by assumption) (by rfl) (by first | exact nmn | assumption | simp) | exact rd_h (by assumption) (by rfl) (by first | exact nmn | assumption | simp) | exact rd_1o (by assumption) (by first | exact nmn | assumption | simp) | exact rd_1h (by assumption) (by first | rfl | assumption) (by first | exact nmn | assumption | simp)) hS ?_) | (refine own_box rfl _ _ rfl (by rfl) hS ?_; clear hS; (try clear ww); intro bb ww hS) | (refine w_al rfl rfl hS ?_; clear hS; (try clear ww); intro bb ww hS) | (refine w_st rfl _ _ rfl (by rfl) (by rfl) (by repeat constructor) (by rfl) (by rfl) (by first | rfl | assumption) hS ?_; clear hS; (try clear ww); intro ww hS) | (refine w_s1 rfl _ _ rfl (by rfl) (by repeat constructor) (by first | exact .c | exact .t rfl) (by rfl) (by repeat constructor) hS ?_; clear hS; (try clear ww); intro ww hS))
  (try simp only [Act.put]); (try simp only [List.setIfInBounds_toArray]); (try simp only [List.set_cons_succ]); (try simp only [List.set_cons_zero])
  refine own_region hS (by kernel_rfl) (by kernel_rfl) ?_
  (try simp only); (try simp only [List.drop_succ_cons]); (try simp only [List.drop_zero]); (try simp only [List.take_succ_cons]); (try simp only [List.take_zero])
  repeat (first
      | (first | (refine quiet_plain rfl ?_) | (refine quiet_yes rfl rfl rfl (by simp only [List.getElem?_toArray, List.getElem?_cons_succ, List.getElem?_cons_zero]; rfl) (by with_reducible constructor) ?_)
         apply Exists.intro; refine ⟨?_, ?_⟩
         focus (intro wq hq0; have hq : Own _ _ _ wq := hq0; first | (exact quietAt_rd rfl (by rfl) (by first | exact rd_1 (by repeat constructor) (by first | rfl | assumption) | exact rd_w (by repeat constructor) (by rfl) | exact rd_o (by assumption) (by rfl) (by first | exact nmn | assumption | simp) | exact rd_h (by assumption) (by rfl) (by first | exact nmn | assumption | simp) | exact rd_1o (by assumption) (by first | exact nmn | assumption | simp) | exact rd_1h (by assumption) (by first | rfl | assumption) (by first | exact nmn | assumption | simp)) hq) | (go_simp; first | (go_at_call 49; exact quietG hq (HP.out _ hq.below)) | (go_at_call 35; exact quietG hq (HZ.out _)) | (go_at_call 48; exact quietG hq (HSc.out _)) | (with_reducible rfl)))
         simp only [Act.put, List.setIfInBounds_toArray, List.set_cons_zero, List.set_cons_succ])
      | (refine quiet_no rfl rfl rfl (by simp only [List.getElem?_toArray, List.getElem?_cons_succ, List.getElem?_cons_zero]; rfl) (by with_reducible constructor) ?_; simp only [Act.put, List.setIfInBounds_toArray, List.set_cons_zero, List.set_cons_succ]))
  refine wpQuiet_nil ?_
  clear hS
  intro ww hS
  go_wp2_with (first | (refine own_unguard (by rfl) ?_) | (refine w_ld rfl _ rfl (by rfl) (by first | exact rd_1 (by repeat constructor) (by first | rfl | assumption) | exact rd_w (by repeat constructor) (by rfl) | exact rd_o (by assumption) (by rfl) (by first | exact nmn | assumption | simp) | exact rd_h (by assumption) (by rfl) (by first | exact nmn | assumption | simp) | exact rd_1o (by assumption) (by first | exact nmn | assumption | simp) | exact rd_1h (by assumption) (by first | rfl | assumption) (by first | exact nmn | assumption | simp)) hS ?_) | (refine own_box rfl _ _ rfl (by rfl) hS ?_; clear hS; (try clear ww); intro bb ww hS) | (refine w_al rfl rfl hS ?_; clear hS; (try clear ww); intro bb ww hS) | (refine w_st rfl _ _ rfl (by rfl) (by rfl) (by repeat constructor) (by rfl) (by rfl) (by first | rfl | assumption) hS ?_; clear hS; (try clear ww); intro ww hS) | (refine w_s1 rfl _ _ rfl (by rfl) (by repeat constructor) (by first | exact .c | exact .t rfl) (by rfl) (by repeat constructor) hS ?_; clear hS; (try clear ww); intro ww hS))
  go_ret
  exact own_gives hS

/-- How much an accent is raised. -/
def raiseI (F : Fnt) (l h : Int) : Int := h - min h (par F l F.acc)

set_option maxHeartbeats 8000000 in
set_option maxRecDepth 100000 in
theorem ref36_Raise_calls (F : Fnt) (l : Int) (c : Bool) (n : Nat) (b : Bx (n + 1)) (cs : List Value) (w : World) (hr : Rep w (n + 1) b cs) (hl : lvlOk l = true) (hv : ValidF F) (hh : -1073741824 ≤ b.1.h ∧ b.1.h ≤ 1073741824) (ha : 0 ≤ F.acc ∧ F.acc ≤ 20000) : Calls Try.prog 36 #[F.val, .agg #[.int .i64 l, .bool c], .agg cs.toArray] w (Gives (.int .i64 (raiseI F l b.1.h)) w) := by
  have HPr := Lib.hid (fun w' => ref32_Par_calls F l F.acc c w' hl hv (by omega))
  have hp := par_in (l := l) hv ha.1 ha.2
  obtain ⟨⟨kind, name, size, bw, bh, bd, bx, by_, of, src⟩, kids⟩ := b
  obtain ⟨kx, kc, sx, sc, rfl, _, _, _, _⟩ := rep_out hr
  unfold raiseI
  simp only at HPr hh ⊢
  generalize par F l F.acc = I at *
  have hmx : ∀ (w : World) (ts : Array TypeId) (t : TypeId), (Builtin.min_ ts t #[.int .i64 bh, .int .i64 I]).run Try.prog w = .ok (.int .i64 (min bh I)) w := fun w ts t => by
    rw [run_min_int2]
    congr 2
    split <;> omega
  have hw : IntKind.i64.wrap (bh - min bh I) = bh - min bh I := IntWalk.i64_in _ (by omega)
  clear hr hl hv hh ha hp
  go_enter Try.func36, Try.ntmps36
  have hS := own_start w
  go_upto_region 1 with (first | (refine own_unguard (by rfl) ?_) | (refine w_ld rfl _ rfl (by rfl) (by first | exact rd_1 (by repeat constructor) (by first | rfl | assumption) | exact rd_w (by repeat constructor) (by rfl) | exact rd_o (by assumption) (by rfl) (by first | exact nmn | assumption | simp) | exact rd_h (by assumption) (by rfl) (by first | exact nmn | assumption | simp) | exact rd_1o (by assumption) (by first | exact nmn | assumption | simp) | exact rd_1h (by assumption) (by first | rfl | assumption) (by first | exact nmn | assumption | simp)) hS ?_) | (refine own_box rfl _ _ rfl (by rfl) hS ?_; clear hS; (try clear ww); intro bb ww hS) | (refine w_al rfl rfl hS ?_; clear hS; (try clear ww); intro bb ww hS) | (refine w_st rfl _ _ rfl (by rfl) (by rfl) (by repeat constructor) (by rfl) (by rfl) (by first | rfl | assumption) hS ?_; clear hS; (try clear ww); intro ww hS) | (refine w_s1 rfl _ _ rfl (by rfl) (by repeat constructor) (by first | exact .c | exact .t rfl) (by rfl) (by repeat constructor) hS ?_; clear hS; (try clear ww); intro ww hS))
  (try simp only [Act.put]); (try simp only [List.setIfInBounds_toArray]); (try simp only [List.set_cons_succ]); (try simp only [List.set_cons_zero])
  refine own_region hS (by kernel_rfl) (by kernel_rfl) ?_
  (try simp only); (try simp only [List.drop_succ_cons]); (try simp only [List.drop_zero]); (try simp only [List.take_succ_cons]); (try simp only [List.take_zero])
  repeat (first
      | (first | (refine quiet_plain rfl ?_) | (refine quiet_yes rfl rfl rfl (by simp only [List.getElem?_toArray, List.getElem?_cons_succ, List.getElem?_cons_zero]; rfl) (by with_reducible constructor) ?_)
         apply Exists.intro; refine ⟨?_, ?_⟩
         focus (intro wq hq0; have hq : Own _ _ _ wq := hq0; first | (exact quietAt_rd rfl (by rfl) (by first | exact rd_1 (by repeat constructor) (by first | rfl | assumption) | exact rd_w (by repeat constructor) (by rfl) | exact rd_o (by assumption) (by rfl) (by first | exact nmn | assumption | simp) | exact rd_h (by assumption) (by rfl) (by first | exact nmn | assumption | simp) | exact rd_1o (by assumption) (by first | exact nmn | assumption | simp) | exact rd_1h (by assumption) (by first | rfl | assumption) (by first | exact nmn | assumption | simp)) hq) | (go_simp; first | (go_at_call 22; exact quietG hq (HPr.out _)) | (with_reducible rfl)))
         simp only [Act.put, List.setIfInBounds_toArray, List.set_cons_zero, List.set_cons_succ])
      | (refine quiet_no rfl rfl rfl (by simp only [List.getElem?_toArray, List.getElem?_cons_succ, List.getElem?_cons_zero]; rfl) (by with_reducible constructor) ?_; simp only [Act.put, List.setIfInBounds_toArray, List.set_cons_zero, List.set_cons_succ]))
  refine wpQuiet_nil ?_
  clear hS
  intro ww hS
  go_wp2_with (first | (refine own_unguard (by rfl) ?_) | (refine w_ld rfl _ rfl (by rfl) (by first | exact rd_1 (by repeat constructor) (by first | rfl | assumption) | exact rd_w (by repeat constructor) (by rfl) | exact rd_o (by assumption) (by rfl) (by first | exact nmn | assumption | simp) | exact rd_h (by assumption) (by rfl) (by first | exact nmn | assumption | simp) | exact rd_1o (by assumption) (by first | exact nmn | assumption | simp) | exact rd_1h (by assumption) (by first | rfl | assumption) (by first | exact nmn | assumption | simp)) hS ?_) | (refine own_box rfl _ _ rfl (by rfl) hS ?_; clear hS; (try clear ww); intro bb ww hS) | (refine w_al rfl rfl hS ?_; clear hS; (try clear ww); intro bb ww hS) | (refine w_st rfl _ _ rfl (by rfl) (by rfl) (by repeat constructor) (by rfl) (by rfl) (by first | rfl | assumption) hS ?_; clear hS; (try clear ww); intro ww hS) | (refine w_s1 rfl _ _ rfl (by rfl) (by repeat constructor) (by first | exact .c | exact .t rfl) (by rfl) (by repeat constructor) hS ?_; clear hS; (try clear ww); intro ww hS))
  go_ret
  exact own_gives hS

end Go.Proofs.Ytceigjonhabmmaa
namespace Go.Proofs.Ytceigjonhabmmaa
open Go.RowKit

attribute [local irreducible] wpQuiet wpG wpP wpK wpList Code.wp Calls

/-- The place of a string in a list, from a number on; -1 where there is none. -/
def idxS : List ByteArray → ByteArray → Int → Int
  | [], _, _ => -1
  | t :: r, s, k => if t = s then k else idxS r s (k + 1)
theorem idxS_drop {ss : List ByteArray} {s t : ByteArray} {k : Nat} {z : Int} (h : ss[k]? = some t) : idxS (ss.drop k) s z = if t = s then z else idxS (ss.drop (k + 1)) s (z + 1) := by
  obtain ⟨hk, rfl⟩ := List.getElem?_eq_some_iff.1 h
  rw [List.drop_eq_getElem_cons hk, idxS]
theorem idxS_ge (ss : List ByteArray) (s : ByteArray) : ∀ z : Int, 0 ≤ z → (0 ≤ idxS ss s z ↔ s ∈ ss) := by
  induction ss with
  | nil => intro z _; simp [idxS]
  | cons t r ih =>
    intro z hz
    unfold idxS
    split
    · rename_i h; subst h; simp [hz]
    · rename_i h
      rw [ih (z + 1) (by omega)]
      simp [show ¬ s = t from fun e => h e.symm]
theorem idxS_in (ss : List ByteArray) (s : ByteArray) : ∀ z : Int, 0 ≤ z → -1 ≤ idxS ss s z ∧ idxS ss s z ≤ z + ss.length := by
  induction ss with
  | nil => intro z _; simp only [idxS, List.length_nil]; omega
  | cons t r ih =>
    intro z hz
    have h1 := ih (z + 1) (by omega)
    unfold idxS
    simp only [List.length_cons]
    split <;> omega
/-- The names of the accents. -/
def accNames : List ByteArray := [⟨#[104, 97, 116]⟩, ⟨#[98, 97, 114]⟩, ⟨#[118, 101, 99]⟩, ⟨#[100, 111, 116]⟩, ⟨#[116, 105, 108, 100, 101]⟩, ⟨#[99, 104, 101, 99, 107]⟩]
theorem str_ne {s t : ByteArray} (h : ¬ t = s) : (t.toList == s.toList) = false ∧ (s.toList == t.toList) = false := by
  have h2 : ¬ t.toList = s.toList := fun e => h (by rw [Lib.toList_data, Lib.toList_data] at e; exact ByteArray.ext (Array.toList_inj.1 e))
  exact ⟨by simpa using h2, by simpa using fun e => h2 e.symm⟩
theorem str_eq (s : ByteArray) : (s.toList == s.toList) = true := by simp

set_option maxHeartbeats 8000000 in
set_option maxRecDepth 100000 in
theorem index_calls (ss : List ByteArray) (s : ByteArray) (k o c : Nat) (w : World) (hr : w.rangeAt k o (ss.map Value.string)) (hl : ss.length ≤ 1000) : Calls Try.prog 83 #[.slice (some ⟨k, o, none⟩) ss.length c, .string s] w (Gives (.int .i64 (idxS ss s 0)) w) := by
  have HR := Lib.hid hr
  clear hr
  go_enter Try.func83, Try.ntmps83
  have hS := own_start w
  go_wp2_with (first | (refine own_unguard (by rfl) ?_) | (refine w_ld rfl _ rfl (by rfl) (by first | exact rd_1 (by repeat constructor) (by first | rfl | assumption) | exact rd_w (by repeat constructor) (by rfl) | exact rd_o (by assumption) (by rfl) (by first | exact nmn | assumption | simp) | exact rd_h (by assumption) (by rfl) (by first | exact nmn | assumption | simp) | exact rd_1o (by assumption) (by first | exact nmn | assumption | simp) | exact rd_1h (by assumption) (by first | rfl | assumption) (by first | exact nmn | assumption | simp)) hS ?_) | (refine own_box rfl _ _ rfl (by rfl) hS ?_; clear hS; (try clear ww); intro bb ww hS) | (refine w_s1 rfl _ _ rfl (by rfl) (by repeat constructor) (by first | exact .c | exact .t rfl) (by rfl) (by repeat constructor) hS ?_; clear hS; (try clear ww); intro ww hS))
  go_loopw [8] (fun i wr => ∃ j : Nat, j ≤ ss.length ∧ i = .int .i64 j ∧ idxS ss s 0 = idxS (ss.drop j) s j ∧ Own [] w [] wr) (fun i _ => ss.length - (intOf i).toNat)
  case atStart => exact ⟨0, Nat.zero_le _, rfl, rfl, hS⟩
  case round =>
    clear hS
    obtain ⟨j, hj, rfl, hf, hS⟩ := hrel
    by_cases hlt : j < ss.length
    · obtain ⟨t, ht⟩ : ∃ t, ss[j]? = some t := ⟨ss[j], by simp [hlt]⟩
      have hc : w.cell? ⟨k, o + j, none⟩ = some (.string t) := HR.out j _ (by rw [List.getElem?_map, ht]; rfl)
      rw [idxS_drop ht] at hf
      have HF := Lib.hid hf
      clear hf ht
      by_cases he : t = s
      · subst he
        have E1 := Lib.hid (show idxS ss t 0 = j by rw [HF.out, if_pos rfl])
        have e1 := str_eq t
        go_wp2_with (first | (refine own_unguard (by rfl) ?_) | (refine w_ld rfl _ rfl (by rfl) (by first | exact rd_1 (by repeat constructor) (by first | rfl | assumption) | exact rd_w (by repeat constructor) (by rfl) | exact rd_o (by assumption) (by rfl) (by first | exact nmn | assumption | simp) | exact rd_h (by assumption) (by rfl) (by first | exact nmn | assumption | simp) | exact rd_1o (by assumption) (by first | exact nmn | assumption | simp) | exact rd_1h (by assumption) (by first | rfl | assumption) (by first | exact nmn | assumption | simp)) hS ?_) | (refine own_box rfl _ _ rfl (by rfl) hS ?_; clear hS; (try clear ww); intro bb ww hS) | (refine w_s1 rfl _ _ rfl (by rfl) (by repeat constructor) (by first | exact .c | exact .t rfl) (by rfl) (by repeat constructor) hS ?_; clear hS; (try clear ww); intro ww hS))
        go_ret
        exact ⟨ret_int E1.out.symm, hS.below⟩
      · have E1 := Lib.hid (show idxS ss s 0 = idxS (ss.drop (j + 1)) s ((j + 1 : Nat) : Int) by rw [HF.out, if_neg he]; rfl)
        obtain ⟨e1, e2⟩ := str_ne he
        go_wp2_with (first | (refine own_unguard (by rfl) ?_) | (refine w_ld rfl _ rfl (by rfl) (by first | exact rd_1 (by repeat constructor) (by first | rfl | assumption) | exact rd_w (by repeat constructor) (by rfl) | exact rd_o (by assumption) (by rfl) (by first | exact nmn | assumption | simp) | exact rd_h (by assumption) (by rfl) (by first | exact nmn | assumption | simp) | exact rd_1o (by assumption) (by first | exact nmn | assumption | simp) | exact rd_1h (by assumption) (by first | rfl | assumption) (by first | exact nmn | assumption | simp)) hS ?_) | (refine own_box rfl _ _ rfl (by rfl) hS ?_; clear hS; (try clear ww); intro bb ww hS) | (refine w_s1 rfl _ _ rfl (by rfl) (by repeat constructor) (by first | exact .c | exact .t rfl) (by rfl) (by repeat constructor) hS ?_; clear hS; (try clear ww); intro ww hS))
        go_roundw
        case rel => exact ⟨j + 1, hlt, by go_num, E1.out, hS.forget (List.nil_sublist _)⟩
        case measure => exact loop_meas hlt
    · have E1 := Lib.hid (show idxS ss s 0 = -1 by rw [hf, List.drop_of_length_le (by omega)]; rfl)
      clear hf
      go_wp2_with (first | (refine own_unguard (by rfl) ?_) | (refine w_ld rfl _ rfl (by rfl) (by first | exact rd_1 (by repeat constructor) (by first | rfl | assumption) | exact rd_w (by repeat constructor) (by rfl) | exact rd_o (by assumption) (by rfl) (by first | exact nmn | assumption | simp) | exact rd_h (by assumption) (by rfl) (by first | exact nmn | assumption | simp) | exact rd_1o (by assumption) (by first | exact nmn | assumption | simp) | exact rd_1h (by assumption) (by first | rfl | assumption) (by first | exact nmn | assumption | simp)) hS ?_) | (refine own_box rfl _ _ rfl (by rfl) hS ?_; clear hS; (try clear ww); intro bb ww hS) | (refine w_s1 rfl _ _ rfl (by rfl) (by repeat constructor) (by first | exact .c | exact .t rfl) (by rfl) (by repeat constructor) hS ?_; clear hS; (try clear ww); intro ww hS))
      go_ret
      exact ⟨ret_int E1.out.symm, hS.below⟩

set_option maxHeartbeats 8000000 in
set_option maxRecDepth 100000 in
theorem contains_calls (ss : List ByteArray) (s : ByteArray) (k o c : Nat) (w : World) (hr : w.rangeAt k o (ss.map Value.string)) (hl : ss.length ≤ 1000) (b : Bool) (hb : b = true ↔ s ∈ ss) : Calls Try.prog 58 #[.slice (some ⟨k, o, none⟩) ss.length c, .string s] w (Gives (.bool b) w) := by
  have HX := Lib.hid (fun w' (h : Below w.heap.size w w') => index_calls ss s k o c w' (rangeAt_below hr h) hl)
  have hz := idxS_in ss s 0 (Int.le_refl _)
  have hg := idxS_ge ss s 0 (Int.le_refl _)
  rw [← hb] at hg
  generalize idxS ss s 0 = z at *
  have E1 := Lib.hid (show b = decide (0 ≤ z) by cases b <;> simp at hg ⊢ <;> omega)
  clear hr hb hg
  go_enter Try.func58, Try.ntmps58
  have hS := own_start w
  go_wp2_with (first | (refine own_unguard (by rfl) ?_) | (go_at_call 83; refine own_calls hS (HX.out _ hS.below) ?_; clear hS; (try clear ww); intro ww hS) | (refine w_ld rfl _ rfl (by rfl) (by first | exact rd_1 (by repeat constructor) (by first | rfl | assumption) | exact rd_w (by repeat constructor) (by rfl) | exact rd_o (by assumption) (by rfl) (by first | exact nmn | assumption | simp) | exact rd_h (by assumption) (by rfl) (by first | exact nmn | assumption | simp) | exact rd_1o (by assumption) (by first | exact nmn | assumption | simp) | exact rd_1h (by assumption) (by first | rfl | assumption) (by first | exact nmn | assumption | simp)) hS ?_) | (refine own_box rfl _ _ rfl (by rfl) hS ?_; clear hS; (try clear ww); intro bb ww hS) | (refine w_s1 rfl _ _ rfl (by rfl) (by repeat constructor) (by first | exact .c | exact .t rfl) (by rfl) (by repeat constructor) hS ?_; clear hS; (try clear ww); intro ww hS))
  go_ret
  exact ⟨ret_bool E1.out.symm, hS.below⟩

theorem el_arr6 : ZeroTy Try.prog 87 [.string ⟨#[]⟩, .string ⟨#[]⟩, .string ⟨#[]⟩, .string ⟨#[]⟩, .string ⟨#[]⟩, .string ⟨#[]⟩] := ⟨.agg #[.string ⟨#[]⟩, .string ⟨#[]⟩, .string ⟨#[]⟩, .string ⟨#[]⟩, .string ⟨#[]⟩, .string ⟨#[]⟩], by kernel_rfl, rfl⟩
instance rt_arr6 : RowTy Try.prog 87 6 := ⟨⟨_, Try.underlying87, rfl⟩, by kernel_rfl⟩
instance zt_arr6 : ZeroTy Try.prog 87 [.string ⟨#[]⟩, .string ⟨#[]⟩, .string ⟨#[]⟩, .string ⟨#[]⟩, .string ⟨#[]⟩, .string ⟨#[]⟩] := el_arr6

set_option maxHeartbeats 8000000 in
set_option maxRecDepth 100000 in
theorem accent_calls (s : ByteArray) (w : World) (b : Bool) (hb : b = true ↔ s ∈ accNames) : Calls Try.prog 25 #[.string s] w (Gives (.bool b) w) := by
  have HX := Lib.hid (fun k o c w' (hr : w'.rangeAt k o (accNames.map Value.string)) => contains_calls accNames s k o c w' hr (by decide) b hb)
  clear hb
  go_enter Try.func25, Try.ntmps25
  have hS := own_start w
  go_wp2_with (first | (refine own_unguard (by rfl) ?_) | (go_at_call 58; refine own_calls hS (HX.out _ _ _ _ (hS.get at0).range) ?_; clear hS; (try clear ww); intro ww hS) | (refine w_ld rfl _ rfl (by rfl) (by first | exact rd_1 (by repeat constructor) (by first | rfl | assumption) | exact rd_w (by repeat constructor) (by rfl) | exact rd_o (by assumption) (by rfl) (by first | exact nmn | assumption | simp) | exact rd_h (by assumption) (by rfl) (by first | exact nmn | assumption | simp) | exact rd_1o (by assumption) (by first | exact nmn | assumption | simp) | exact rd_1h (by assumption) (by first | rfl | assumption) (by first | exact nmn | assumption | simp)) hS ?_) | (refine own_box rfl _ _ rfl (by rfl) hS ?_; clear hS; (try clear ww); intro bb ww hS) | (refine w_al rfl rfl hS ?_; clear hS; (try clear ww); intro bb ww hS) | (refine w_st rfl _ _ rfl (by rfl) (by rfl) (by repeat constructor) (by rfl) (by rfl) (by first | rfl | assumption) hS ?_; clear hS; (try clear ww); intro ww hS) | (refine w_s1 rfl _ _ rfl (by rfl) (by repeat constructor) (by first | exact .c | exact .t rfl) (by rfl) (by repeat constructor) hS ?_; clear hS; (try clear ww); intro ww hS))
  go_ret
  exact own_gives hS

set_option maxHeartbeats 8000000 in
set_option maxRecDepth 100000 in
theorem ref36_Accent_calls (s : ByteArray) (w : World) (b : Bool) (hb : b = true ↔ s ∈ accNames) : Calls Try.prog 33 #[.string s] w (Gives (.bool b) w) := by
  have HB := Lib.hid hb
  clear hb
  go_enter Try.func33, Try.ntmps33
  have hS := own_start w
  go_wp2_with (first | (refine own_unguard (by rfl) ?_) | (refine own_buildSlice rfl _ _ 6 _ rfl (accNames.map Value.string) hS Try.underlying71 (by kernel_rfl) ?_; clear hS; (try clear ww); intro bb ww hS) | (refine w_ld rfl _ rfl (by rfl) (by first | exact rd_1 (by repeat constructor) (by first | rfl | assumption) | exact rd_w (by repeat constructor) (by rfl) | exact rd_o (by assumption) (by rfl) (by first | exact nmn | assumption | simp) | exact rd_h (by assumption) (by rfl) (by first | exact nmn | assumption | simp) | exact rd_1o (by assumption) (by first | exact nmn | assumption | simp) | exact rd_1h (by assumption) (by first | rfl | assumption) (by first | exact nmn | assumption | simp)) hS ?_) | (refine own_box rfl _ _ rfl (by rfl) hS ?_; clear hS; (try clear ww); intro bb ww hS) | (refine w_s1 rfl _ _ rfl (by rfl) (by repeat constructor) (by first | exact .c | exact .t rfl) (by rfl) (by repeat constructor) hS ?_; clear hS; (try clear ww); intro ww hS))
  obtain ⟨ns, HN⟩ : ∃ ns, Hid (ns = accNames) := ⟨_, rfl⟩
  rw [← HN.out] at hS
  have hnl : ns.length ≤ 6 ∧ 6 ≤ ns.length := by rw [HN.out]; decide
  obtain ⟨L0, HL, hS0⟩ := hS.named
  clear hS
  have hS := hS0
  clear hS0
  go_loopw [4] (fun i wr => ∃ j : Nat, j ≤ 6 ∧ i = .int .i64 j ∧ (s ∈ ns ↔ s ∈ ns.drop j) ∧ Own [] w L0 wr) (fun i _ => 6 - (intOf i).toNat)
  case atStart => exact ⟨0, Nat.zero_le _, rfl, by rw [List.drop_zero], hS⟩
  case round =>
    clear hS
    obtain ⟨j, hj, rfl, hf, hS⟩ := hrel
    obtain rfl := HL.out
    clear HL
    by_cases hlt : j < 6
    · obtain ⟨t, ht⟩ : ∃ t, ns[j]? = some t := ⟨ns[j]'(by omega), by simp⟩
      have hcell : (ns.map Value.string)[j]? = some (.string t) := by rw [List.getElem?_map, ht]; rfl
      have hd : ns.drop j = t :: ns.drop (j + 1) := by
        obtain ⟨hk, rfl⟩ := List.getElem?_eq_some_iff.1 ht
        exact List.drop_eq_getElem_cons hk
      rw [hd] at hf
      have HF := Lib.hid hf
      clear hf ht hd
      by_cases he : t = s
      · subst he
        have E1 := Lib.hid (show b = true by rw [HB.out, ← HN.out, HF.out]; simp)
        have e1 := str_eq t
        go_wp2_with (first | (refine own_unguard (by rfl) ?_) | (refine w_ld rfl _ rfl (by rfl) (by first | exact rd_1 (by repeat constructor) (by first | rfl | assumption) | exact rd_w (by repeat constructor) (by rfl) | exact rd_o (by assumption) (by rfl) (by first | exact nmn | assumption | simp) | exact rd_h (by assumption) (by rfl) (by first | exact nmn | assumption | simp) | exact rd_1o (by assumption) (by first | exact nmn | assumption | simp) | exact rd_1h (by assumption) (by first | rfl | assumption) (by first | exact nmn | assumption | simp)) hS ?_) | (refine own_box rfl _ _ rfl (by rfl) hS ?_; clear hS; (try clear ww); intro bb ww hS) | (refine w_s1 rfl _ _ rfl (by rfl) (by repeat constructor) (by first | exact .c | exact .t rfl) (by rfl) (by repeat constructor) hS ?_; clear hS; (try clear ww); intro ww hS))
        go_ret
        exact ⟨ret_bool E1.out.symm, hS.below⟩
      · have E1 := Lib.hid (show (s ∈ ns ↔ s ∈ ns.drop (j + 1)) by rw [HF.out]; simp [show ¬ s = t from fun e => he e.symm])
        obtain ⟨e1, e2⟩ := str_ne he
        go_wp2_with (first | (refine own_unguard (by rfl) ?_) | (refine w_ld rfl _ rfl (by rfl) (by first | exact rd_1 (by repeat constructor) (by first | rfl | assumption) | exact rd_w (by repeat constructor) (by rfl) | exact rd_o (by assumption) (by rfl) (by first | exact nmn | assumption | simp) | exact rd_h (by assumption) (by rfl) (by first | exact nmn | assumption | simp) | exact rd_1o (by assumption) (by first | exact nmn | assumption | simp) | exact rd_1h (by assumption) (by first | rfl | assumption) (by first | exact nmn | assumption | simp)) hS ?_) | (refine own_box rfl _ _ rfl (by rfl) hS ?_; clear hS; (try clear ww); intro bb ww hS) | (refine w_s1 rfl _ _ rfl (by rfl) (by repeat constructor) (by first | exact .c | exact .t rfl) (by rfl) (by repeat constructor) hS ?_; clear hS; (try clear ww); intro ww hS))
        go_roundw
        case rel => exact ⟨j + 1, hlt, by go_num, E1.out, hS⟩
        case measure => exact loop_meas hlt
    · have E1 := Lib.hid (show b = false by
        have : ¬ s ∈ ns := by rw [hf, List.drop_of_length_le (by omega)]; simp
        cases b
        · rfl
        · exact absurd (HN.out ▸ HB.out.1 rfl) this)
      clear hf
      go_wp2_with (first | (refine own_unguard (by rfl) ?_) | (refine w_ld rfl _ rfl (by rfl) (by first | exact rd_1 (by repeat constructor) (by first | rfl | assumption) | exact rd_w (by repeat constructor) (by rfl) | exact rd_o (by assumption) (by rfl) (by first | exact nmn | assumption | simp) | exact rd_h (by assumption) (by rfl) (by first | exact nmn | assumption | simp) | exact rd_1o (by assumption) (by first | exact nmn | assumption | simp) | exact rd_1h (by assumption) (by first | rfl | assumption) (by first | exact nmn | assumption | simp)) hS ?_) | (refine own_box rfl _ _ rfl (by rfl) hS ?_; clear hS; (try clear ww); intro bb ww hS) | (refine w_s1 rfl _ _ rfl (by rfl) (by repeat constructor) (by first | exact .c | exact .t rfl) (by rfl) (by repeat constructor) hS ?_; clear hS; (try clear ww); intro ww hS))
      go_ret
      exact ⟨ret_bool E1.out.symm, hS.below⟩

end Go.Proofs.Ytceigjonhabmmaa
