/- Texts Rsi, Rit, Scp, Lmp, Rai, Shf, Sty, Slot, Ext, Sfp, Scb. -/
import Derived.Test.YtdbcdjiclkmknaaK17
import Derived.Test.YtdbcdjiclkmknaaK18
import Derived.Test.YtdbcdjiclkmknaaK02
import Derived.Test.YtdbcdjiclkmknaaK14
import Derived.Test.YtdbcdjiclkmknaaK15
import Derived.LoopN
import Derived.Test.YtdbcdjiclkmknaaK08
import Derived.Test.YtdbcdjiclkmknaaK00
namespace Go.Proofs.Ytdbcdjiclkmknaa
open Go.RowKit

attribute [local irreducible] wpQuiet wpG wpP wpK wpList Code.wp Calls

/-- The cells of a box that stands alone, and those of its first kid. -/
theorem rep_kid {w : World} {n : Nat} {a : Hd} {kid : Bx n} {cs : List Value} (h : Rep w (n + 1) (a, [kid]) cs) : ∃ k o kc sx sc css, cs = a.cells (.slice (some ⟨k, o, none⟩) 1 kc) (.slice sx a.src.length sc) ∧ w.rangeAt k o css ∧ Rep w n kid css := by
  obtain ⟨kx, kc, sx, sc, rfl, _, _, _, hk⟩ := rep_out h
  obtain ⟨k, o, css, rfl, hr, hp⟩ := hk 0 kid rfl
  rw [Nat.zero_mul, Nat.add_zero] at hr
  exact ⟨k, o, kc, sx, sc, css, rfl, hr, hp⟩
/-- What Simple returns of cells: the glyph's cells and true, or none. -/
def SimpleV (w : World) (r : Option (Σ m, Bx (m + 1))) (v : Value) : Prop :=
  match r with
  | none => v = .tuple #[.agg #[.int .i64 0, .string ⟨#[]⟩, .int .i64 0, .int .i64 0, .int .i64 0, .int .i64 0, .int .i64 0, .int .i64 0, .slice none 0 0, .int .i64 0, .slice none 0 0], .bool false]
  | some g => ∃ cs, v = .tuple #[.agg cs.toArray, .bool true] ∧ Rep w (g.1 + 1) g.2 cs

set_option maxHeartbeats 8000000 in
set_option maxRecDepth 100000 in
theorem ref34_Simple_step (n : Nat) (ih : ∀ (b : Bx n) (cs : List Value) (w : World), Rep w n b cs → ∃ v, SimpleV w (innerS n b) v ∧ ∀ w', Below w.heap.size w w' → Calls Try.prog 35 #[.agg cs.toArray] w' (Gives v w'))
    (b : Bx (n + 1)) (cs : List Value) (w : World) (hr : Rep w (n + 1) b cs) : ∃ v, SimpleV w (innerS (n + 1) b) v ∧ ∀ w', Below w.heap.size w w' → Calls Try.prog 35 #[.agg cs.toArray] w' (Gives v w') := by
  obtain ⟨⟨kind, name, size, bw, bh, bd, bx, by_, of, src⟩, kids⟩ := b
  by_cases h1 : kind = 1
  · subst h1
    rw [inner_glyph rfl]
    obtain ⟨kx, kc, sx, sc, e, _⟩ := rep_out hr
    refine ⟨_, ⟨cs, rfl, hr⟩, fun w' hb => ?_⟩
    subst e
    clear hr ih hb
    go_enter Try.func35, Try.ntmps35
    have hS := own_start w'
    go_wp2_with (first|(refine own_unguard (by rfl) ?_)|(refine w_ld rfl _ rfl (by rfl) (by first|exact rd_1 (by repeat constructor) (by first|rfl|assumption)|exact rd_w (by repeat constructor) (by rfl)|((first|refine rd_o ‹_› (by rfl) ?_|refine rd_h ‹_› (by rfl) ?_|refine rd_1o ‹_› ?_|refine rd_1h ‹_› (by first|rfl|assumption) ?_);first|exact nmn|assumption|simp)) hS ?_)|((first|refine own_box rfl _ _ rfl (by rfl) hS ?_|refine w_al rfl rfl hS ?_);clear hS;(try clear ww);intro bb ww hS)|((first|refine w_st rfl _ _ rfl (by rfl) (by rfl) (by repeat constructor) (by rfl) (by rfl) (by first|rfl|assumption) hS ?_|refine w_s1 rfl _ _ rfl (by rfl) (by repeat constructor) (by first|exact .c|exact .t rfl) (by rfl) (by repeat constructor) hS ?_);clear hS;(try clear ww);intro ww hS))
    have hc := (hS.get at0).cell
    refine bodyPost_ret (v := .tuple #[.agg #[.int .i64 1, .string name, .int .i64 size, .int .i64 bw, .int .i64 bh, .int .i64 bd, .int .i64 bx, .int .i64 by_, .slice kx kids.length kc, .int .i64 of, .slice sx src.length sc], .bool true]) (by simp [results, Try.results35, go_sem, hc]) rfl ⟨rfl, hS.below⟩
  · have d1 : decide (kind = 1) = false := decide_eq_false h1
    by_cases h3 : kind = 3
    · subst h3
      by_cases hl : kids.length = 1
      · obtain ⟨kid, rfl⟩ := List.length_eq_one_iff.1 hl
        obtain ⟨k, o, kc, sx, sc, css, rfl, hk, hp⟩ := rep_kid hr
        cases n with
        | zero => exact kid.elim
        | succ n =>
          obtain ⟨v, hv, hc⟩ := ih kid css w hp
          obtain ⟨⟨kind2, name2, size2, bw2, bh2, bd2, x2, y2, of2, src2⟩, kids2⟩ := kid
          obtain ⟨_, _, _, _, rfl, _⟩ := rep_out hp
          rename_i kx2 kc2 sx2 sc2
          by_cases hx : x2 = 0
          · subst hx
            by_cases hy : y2 = 0
            · subst hy
              rw [inner_down rfl (by simp [atO])]
              refine ⟨v, hv, fun w' hb => ?_⟩
              have hk := rangeAt_below hk hb
              have e6 : w'.cell? ⟨k, o + 6, none⟩ = some (.int .i64 0) := hk 6 _ rfl
              have e7 : w'.cell? ⟨k, o + 7, none⟩ = some (.int .i64 0) := hk 7 _ rfl
              have HC := Lib.hid (fun w2 (h2 : Below w'.heap.size w' w2) => hc w2 (bthen hb h2))
              cases hq : innerS (n + 1) (⟨kind2, name2, size2, bw2, bh2, bd2, 0, 0, of2, src2⟩, kids2) with
              | none =>
                rw [hq] at hv
                obtain rfl : v = _ := hv
                clear ih hr hp hb hc hq h1 hl
                go_enter Try.func35, Try.ntmps35
                have hS := own_start w'
                go_wp2_with (first|(refine own_unguard (by rfl) ?_)|(go_at_call 35;refine own_calls hS (HC.out _ hS.below) ?_;clear hS;(try clear ww);intro ww hS)|(refine w_ld rfl _ rfl (by rfl) (by first|exact rd_1 (by repeat constructor) (by first|rfl|assumption)|exact rd_w (by repeat constructor) (by rfl)|((first|refine rd_o ‹_› (by rfl) ?_|refine rd_h ‹_› (by rfl) ?_|refine rd_1o ‹_› ?_|refine rd_1h ‹_› (by first|rfl|assumption) ?_);first|exact nmn|assumption|simp)) hS ?_)|((first|refine own_box rfl _ _ rfl (by rfl) hS ?_|refine w_al rfl rfl hS ?_);clear hS;(try clear ww);intro bb ww hS)|((first|refine w_st rfl _ _ rfl (by rfl) (by rfl) (by repeat constructor) (by rfl) (by rfl) (by first|rfl|assumption) hS ?_|refine w_s1 rfl _ _ rfl (by rfl) (by repeat constructor) (by first|exact .c|exact .t rfl) (by rfl) (by repeat constructor) hS ?_);clear hS;(try clear ww);intro ww hS))
                have hc := (hS.get at0).cell
                refine bodyPost_ret (v := .tuple #[.agg #[.int .i64 0, .string ⟨#[]⟩, .int .i64 0, .int .i64 0, .int .i64 0, .int .i64 0, .int .i64 0, .int .i64 0, .slice none 0 0, .int .i64 0, .slice none 0 0], .bool false]) (by simp [results, Try.results35, go_sem, hc]) rfl ⟨rfl, hS.below⟩
              | some g =>
                rw [hq] at hv
                obtain ⟨cg, rfl, hg⟩ := hv
                have hall := rep_all hg
                obtain ⟨e0, e1, e2, e3, e4, e5, e8, e9, f0, f1, f2, rfl⟩ := eleven hg.len
                clear ih hr hp hb hc hq h1 hl hg
                go_enter Try.func35, Try.ntmps35
                have hS := own_start w'
                go_wp2_with (first|(refine own_unguard (by rfl) ?_)|(go_at_call 35;refine own_calls hS (HC.out _ hS.below) ?_;clear hS;(try clear ww);intro ww hS)|(refine w_ld rfl _ rfl (by rfl) (by first|exact rd_1 (by repeat constructor) (by first|rfl|assumption)|exact rd_w (by repeat constructor) (by rfl)|((first|refine rd_o ‹_› (by rfl) ?_|refine rd_h ‹_› (by rfl) ?_|refine rd_1o ‹_› ?_|refine rd_1h ‹_› (by first|rfl|assumption) ?_);first|exact nmn|assumption|simp)) hS ?_)|((first|refine own_box rfl _ _ rfl (by rfl) hS ?_|refine w_al rfl rfl hS ?_);clear hS;(try clear ww);intro bb ww hS)|((first|refine w_st rfl _ _ rfl (by rfl) (by rfl) (by repeat constructor) (by rfl) (by rfl) (by first|rfl|assumption) hS ?_|refine w_s1 rfl _ _ rfl (by rfl) (by repeat constructor) (by first|exact .c|exact .t rfl) (by rfl) (by repeat constructor) hS ?_);clear hS;(try clear ww);intro ww hS))
                have hc := (hS.get at0).cell
                refine bodyPost_ret (v := .tuple #[.agg #[e0, e1, e2, e3, e4, e5, e8, e9, f0, f1, f2], .bool true]) (by simp [results, Try.results35, go_sem, hc]) rfl ⟨rfl, hS.below⟩
            · rw [inner_off (show (3 : Int) ≠ 1 by decide) (by simp [atO, hy])]
              refine ⟨_, rfl, fun w' hb => ?_⟩
              have dy : decide (y2 = 0) = false := decide_eq_false hy
              have hk := rangeAt_below hk hb
              have e6 : w'.cell? ⟨k, o + 6, none⟩ = some (.int .i64 0) := hk 6 _ rfl
              have e7 : w'.cell? ⟨k, o + 7, none⟩ = some (.int .i64 y2) := hk 7 _ rfl
              clear ih hr hp hc hb hk
              go_enter Try.func35, Try.ntmps35
              have hS := own_start w'
              go_wp2_with (first|(refine own_unguard (by rfl) ?_)|(refine w_ld rfl _ rfl (by rfl) (by first|exact rd_1 (by repeat constructor) (by first|rfl|assumption)|exact rd_w (by repeat constructor) (by rfl)|((first|refine rd_o ‹_› (by rfl) ?_|refine rd_h ‹_› (by rfl) ?_|refine rd_1o ‹_› ?_|refine rd_1h ‹_› (by first|rfl|assumption) ?_);first|exact nmn|assumption|simp)) hS ?_)|((first|refine own_box rfl _ _ rfl (by rfl) hS ?_|refine w_al rfl rfl hS ?_);clear hS;(try clear ww);intro bb ww hS)|((first|refine w_st rfl _ _ rfl (by rfl) (by rfl) (by repeat constructor) (by rfl) (by rfl) (by first|rfl|assumption) hS ?_|refine w_s1 rfl _ _ rfl (by rfl) (by repeat constructor) (by first|exact .c|exact .t rfl) (by rfl) (by repeat constructor) hS ?_);clear hS;(try clear ww);intro ww hS))
              have hc := (hS.get at0).cell
              refine bodyPost_ret (v := .tuple #[.agg #[.int .i64 0, .string ⟨#[]⟩, .int .i64 0, .int .i64 0, .int .i64 0, .int .i64 0, .int .i64 0, .int .i64 0, .slice none 0 0, .int .i64 0, .slice none 0 0], .bool false]) (by simp [results, Try.results35, go_sem, hc]) rfl ⟨rfl, hS.below⟩
          · rw [inner_off (show (3 : Int) ≠ 1 by decide) (by simp [atO, hx])]
            refine ⟨_, rfl, fun w' hb => ?_⟩
            have dx : decide (x2 = 0) = false := decide_eq_false hx
            have hk := rangeAt_below hk hb
            have e6 : w'.cell? ⟨k, o + 6, none⟩ = some (.int .i64 x2) := hk 6 _ rfl
            clear ih hr hp hc hb hk
            go_enter Try.func35, Try.ntmps35
            have hS := own_start w'
            go_wp2_with (first|(refine own_unguard (by rfl) ?_)|(refine w_ld rfl _ rfl (by rfl) (by first|exact rd_1 (by repeat constructor) (by first|rfl|assumption)|exact rd_w (by repeat constructor) (by rfl)|((first|refine rd_o ‹_› (by rfl) ?_|refine rd_h ‹_› (by rfl) ?_|refine rd_1o ‹_› ?_|refine rd_1h ‹_› (by first|rfl|assumption) ?_);first|exact nmn|assumption|simp)) hS ?_)|((first|refine own_box rfl _ _ rfl (by rfl) hS ?_|refine w_al rfl rfl hS ?_);clear hS;(try clear ww);intro bb ww hS)|((first|refine w_st rfl _ _ rfl (by rfl) (by rfl) (by repeat constructor) (by rfl) (by rfl) (by first|rfl|assumption) hS ?_|refine w_s1 rfl _ _ rfl (by rfl) (by repeat constructor) (by first|exact .c|exact .t rfl) (by rfl) (by repeat constructor) hS ?_);clear hS;(try clear ww);intro ww hS))
            have hc := (hS.get at0).cell
            refine bodyPost_ret (v := .tuple #[.agg #[.int .i64 0, .string ⟨#[]⟩, .int .i64 0, .int .i64 0, .int .i64 0, .int .i64 0, .int .i64 0, .int .i64 0, .slice none 0 0, .int .i64 0, .slice none 0 0], .bool false]) (by simp [results, Try.results35, go_sem, hc]) rfl ⟨rfl, hS.below⟩
      · rw [inner_len (show (3 : Int) ≠ 1 by decide) hl]
        obtain ⟨kx, kc, sx, sc, rfl, _⟩ := rep_out hr
        refine ⟨_, rfl, fun w' hb => ?_⟩
        have dl : decide ((kids.length : Int) = 1) = false := decide_eq_false (by omega)
        clear ih hr hb
        go_enter Try.func35, Try.ntmps35
        have hS := own_start w'
        go_wp2_with (first|(refine own_unguard (by rfl) ?_)|(refine w_ld rfl _ rfl (by rfl) (by first|exact rd_1 (by repeat constructor) (by first|rfl|assumption)|exact rd_w (by repeat constructor) (by rfl)|((first|refine rd_o ‹_› (by rfl) ?_|refine rd_h ‹_› (by rfl) ?_|refine rd_1o ‹_› ?_|refine rd_1h ‹_› (by first|rfl|assumption) ?_);first|exact nmn|assumption|simp)) hS ?_)|((first|refine own_box rfl _ _ rfl (by rfl) hS ?_|refine w_al rfl rfl hS ?_);clear hS;(try clear ww);intro bb ww hS)|((first|refine w_st rfl _ _ rfl (by rfl) (by rfl) (by repeat constructor) (by rfl) (by rfl) (by first|rfl|assumption) hS ?_|refine w_s1 rfl _ _ rfl (by rfl) (by repeat constructor) (by first|exact .c|exact .t rfl) (by rfl) (by repeat constructor) hS ?_);clear hS;(try clear ww);intro ww hS))
        have hc := (hS.get at0).cell
        refine bodyPost_ret (v := .tuple #[.agg #[.int .i64 0, .string ⟨#[]⟩, .int .i64 0, .int .i64 0, .int .i64 0, .int .i64 0, .int .i64 0, .int .i64 0, .slice none 0 0, .int .i64 0, .slice none 0 0], .bool false]) (by simp [results, Try.results35, go_sem, hc]) rfl ⟨rfl, hS.below⟩
    · rw [inner_kind h1 h3]
      obtain ⟨kx, kc, sx, sc, rfl, _⟩ := rep_out hr
      refine ⟨_, rfl, fun w' hb => ?_⟩
      have d3 : decide (kind = 3) = false := decide_eq_false h3
      clear ih hr hb
      go_enter Try.func35, Try.ntmps35
      have hS := own_start w'
      go_wp2_with (first|(refine own_unguard (by rfl) ?_)|(refine w_ld rfl _ rfl (by rfl) (by first|exact rd_1 (by repeat constructor) (by first|rfl|assumption)|exact rd_w (by repeat constructor) (by rfl)|((first|refine rd_o ‹_› (by rfl) ?_|refine rd_h ‹_› (by rfl) ?_|refine rd_1o ‹_› ?_|refine rd_1h ‹_› (by first|rfl|assumption) ?_);first|exact nmn|assumption|simp)) hS ?_)|((first|refine own_box rfl _ _ rfl (by rfl) hS ?_|refine w_al rfl rfl hS ?_);clear hS;(try clear ww);intro bb ww hS)|((first|refine w_st rfl _ _ rfl (by rfl) (by rfl) (by repeat constructor) (by rfl) (by rfl) (by first|rfl|assumption) hS ?_|refine w_s1 rfl _ _ rfl (by rfl) (by repeat constructor) (by first|exact .c|exact .t rfl) (by rfl) (by repeat constructor) hS ?_);clear hS;(try clear ww);intro ww hS))
      have hc := (hS.get at0).cell
      refine bodyPost_ret (v := .tuple #[.agg #[.int .i64 0, .string ⟨#[]⟩, .int .i64 0, .int .i64 0, .int .i64 0, .int .i64 0, .int .i64 0, .int .i64 0, .slice none 0 0, .int .i64 0, .slice none 0 0], .bool false]) (by simp [results, Try.results35, go_sem, hc]) rfl ⟨rfl, hS.below⟩

theorem ref34_Simple_calls : ∀ (n : Nat) (b : Bx n) (cs : List Value) (w : World), Rep w n b cs → ∃ v, SimpleV w (innerS n b) v ∧ ∀ w', Below w.heap.size w w' → Calls Try.prog 35 #[.agg cs.toArray] w' (Gives v w')
  | 0, _, _, _, h => h.elim
  | n + 1, b, cs, w, h => ref34_Simple_step n (ref34_Simple_calls n) b cs w h

end Go.Proofs.Ytdbcdjiclkmknaa
namespace Go.Proofs.Ytdbcdjiclkmknaa
open Go.RowKit

attribute [local irreducible] wpQuiet wpG wpP wpK wpList Code.wp Calls

theorem inner_own : ∀ (n : Nat) (b : Bx n) (m : Nat) (g : Bx (m + 1)), innerS n b = some ⟨m, g⟩ → allOwn n b = true → g.1.kind = 1 ∧ allOwn (m + 1) g = true := by
  intro n
  induction n with
  | zero => intro b; exact b.elim
  | succ n ih =>
    rintro ⟨a, ks⟩ m g h ho
    by_cases h1 : a.kind = 1
    · rw [inner_glyph h1] at h
      cases h
      exact ⟨h1, ho⟩
    · by_cases h3 : a.kind = 3
      · by_cases hl : ks.length = 1
        · obtain ⟨k, rfl⟩ := List.length_eq_one_iff.1 hl
          cases ha : atO n k
          · rw [inner_off h1 ha] at h; cases h
          · rw [inner_down h3 ha] at h
            simp only [allOwn, Bool.and_eq_true, List.all_cons, List.all_nil] at ho
            exact ih k m g h ho.2.1
        · rw [inner_len h1 hl] at h; cases h
      · rw [inner_kind h1 h3] at h; cases h
/-- The glyph of a valid box has a size. -/
theorem inner_size {n : Nat} {b : Bx n} {m : Nat} {g : Bx (m + 1)} (h : innerS n b = some ⟨m, g⟩) (hv : validB n b) : 1 ≤ g.1.size ∧ g.1.size ≤ 1000 := by
  obtain ⟨hk, ho⟩ := inner_own n b m g h hv.1
  simp only [allOwn, ownOk, Bool.and_eq_true] at ho
  have h1 := ho.1.1.2
  rw [kind_1 hk] at h1
  simp only [Bool.and_eq_true, decide_eq_true_eq] at h1
  exact h1.1.2
theorem pick_metrics {F : Fnt} (hv : ValidF F) (s : ByteArray) : metricsOk (pickG F.gs s) = true := by
  have key : ∀ t g, findG F.gs t = some g → metricsOk g = true := fun t g h => by
    obtain ⟨k, hk⟩ := List.mem_iff_getElem?.1 (List.mem_of_find?_eq_some h)
    have := (hv.2.2.2.1 k g hk).1
    simp [gIn] at this
    exact this.1.2
  unfold pickG
  split
  · exact key _ _ (by assumption)
  · split
    · exact key _ _ (by assumption)
    · rfl
/-- The italic correction of a valid box in a valid font, without the errors. -/
theorem ital_scl {F : Fnt} {n : Nat} {b : Bx n} {m : Nat} {g : Bx (m + 1)} (hf : ValidF F) (h : innerS n b = some ⟨m, g⟩) (hv : validB n b) : italB F n b = max 0 (scl (pickG F.gs g.1.name).it g.1.size) := by
  have hs := inner_size h hv
  unfold italB scaledG scaledErr
  rw [h]
  simp only
  rw [if_pos hs, if_pos (pick_metrics hf _)]
  rfl
theorem ref05_pick34 (F : Fnt) (s : ByteArray) (w : World) (h : FntOk w F) (hn : F.gs.length ≤ 500) : Calls Try.prog 36 #[F.val, .string s] w (Gives (.agg #[.string (pickG F.gs s).name, .int .i64 (pickG F.gs s).w, .int .i64 (pickG F.gs s).h, .int .i64 (pickG F.gs s).d, .int .i64 (pickG F.gs s).it, .int .i64 (pickG F.gs s).at_]) w) :=
  ref05_Pick_calls F.gx F.sx F.gs.length F.gc F.ss.length F.sc F.quad F.xheight F.axis F.rule F.num1 F.num2 F.den1 F.den2 F.sup1 F.sup2 F.sup3 F.sub1 F.sub2 F.supdrop F.subdrop F.script F.sscript F.dpercent F.dshort F.acc F.gs s w (by omega) h.glysAt

set_option maxHeartbeats 8000000 in
set_option maxRecDepth 100000 in
theorem ref34_Italic_none (F : Fnt) (n : Nat) (b : Bx n) (cs : List Value) (w : World) (hr : Rep w n b cs) (hi : innerS n b = none) : Calls Try.prog 15 #[F.val, .agg cs.toArray] w (Gives (.int .i64 0) w) := by
  obtain ⟨v, hv, hc⟩ := ref34_Simple_calls n b cs w hr
  rw [hi] at hv
  obtain rfl : v = _ := hv
  have HC := Lib.hid hc
  obtain ⟨c0, c1, c2, c3, c4, c5, c6, c7, c8, c9, c10, rfl⟩ := eleven hr.len
  clear hr hi hc
  go_enter Try.func15, Try.ntmps15
  have hS := own_start w
  go_wp2_with (first|(refine own_unguard (by rfl) ?_)|(go_at_call 35;refine own_calls hS (HC.out _ hS.below) ?_;clear hS;(try clear ww);intro ww hS)|(refine w_ld rfl _ rfl (by rfl) (by first|exact rd_1 (by repeat constructor) (by first|rfl|assumption)|exact rd_w (by repeat constructor) (by rfl)|((first|refine rd_o ‹_› (by rfl) ?_|refine rd_h ‹_› (by rfl) ?_|refine rd_1o ‹_› ?_|refine rd_1h ‹_› (by first|rfl|assumption) ?_);first|exact nmn|assumption|simp)) hS ?_)|((first|refine own_box rfl _ _ rfl (by rfl) hS ?_|refine w_al rfl rfl hS ?_);clear hS;(try clear ww);intro bb ww hS)|((first|refine w_st rfl _ _ rfl (by rfl) (by rfl) (by repeat constructor) (by rfl) (by rfl) (by first|rfl|assumption) hS ?_|refine w_s1 rfl _ _ rfl (by rfl) (by repeat constructor) (by first|exact .c|exact .t rfl) (by rfl) (by repeat constructor) hS ?_);clear hS;(try clear ww);intro ww hS))
  go_ret
  exact own_gives hS

set_option maxHeartbeats 8000000 in
set_option maxRecDepth 100000 in
theorem ref34_Italic_some (F : Fnt) (n : Nat) (b : Bx n) (cs : List Value) (w : World) (hF : FntOk w F) (hr : Rep w n b cs) (hf : ValidF F) (hb : validB n b) (m : Nat) (g : Bx (m + 1)) (hi : innerS n b = some ⟨m, g⟩) : Calls Try.prog 15 #[F.val, .agg cs.toArray] w (Gives (.int .i64 (italB F n b)) w) := by
  rw [ital_scl hf hi hb]
  obtain ⟨v, hv, hc⟩ := ref34_Simple_calls n b cs w hr
  rw [hi] at hv
  obtain ⟨gcs, rfl, hg⟩ := hv
  have hs := inner_size hi hb
  have hm := metricsOk_bd (pick_metrics hf g.1.name)
  have HP := Lib.hid (fun w' (h : Below w.heap.size w w') => ref05_pick34 F g.1.name w' (hF.below h) (by have := hf.1; omega))
  have HSc := Lib.hid (fun w' => ref05_Scale_gives (pickG F.gs g.1.name).it g.1.size w' hm.2.2.2.1 hs)
  obtain ⟨⟨gk, gn, gz, gw, gh, gd, gx2, gy2, go2, gs2⟩, gks⟩ := g
  obtain ⟨_, _, _, _, rfl, _⟩ := rep_out hg
  simp only at HP HSc ⊢
  generalize pickG F.gs gn = G at *
  generalize scl G.it gz = I at *
  have hmx : ∀ (w : World) (ts : Array TypeId) (t : TypeId), (Builtin.max_ ts t #[.int .i64 0, .int .i64 I]).run Try.prog w = .ok (.int .i64 (max 0 I)) w := fun w ts t => by
    rw [run_max_int2]
    congr 2
    split <;> omega
  have hfl : ∀ (w : World), (Instr.field 65 (.agg #[.string G.name, .int .i64 G.w, .int .i64 G.h, .int .i64 G.d, .int .i64 G.it, .int .i64 G.at_]) 4).run Try.prog w = .ok (.int .i64 G.it) w := fun w => by
    simp [Instr.field, asAgg, run_underlying Try.underlying65, go_sem]
  have HC := Lib.hid hc
  obtain ⟨c0, c1, c2, c3, c4, c5, c6, c7, c8, c9, c10, rfl⟩ := eleven hr.len
  clear hF hr hi hc hf hb hg hs hm
  go_enter Try.func15, Try.ntmps15
  have hS := own_start w
  go_upto_region 4 with (first|(refine own_unguard (by rfl) ?_)|(go_at_call 35;refine own_calls hS (HC.out _ hS.below) ?_;clear hS;(try clear ww);intro ww hS)|(refine w_ld rfl _ rfl (by rfl) (by first|exact rd_1 (by repeat constructor) (by first|rfl|assumption)|exact rd_w (by repeat constructor) (by rfl)|((first|refine rd_o ‹_› (by rfl) ?_|refine rd_h ‹_› (by rfl) ?_|refine rd_1o ‹_› ?_|refine rd_1h ‹_› (by first|rfl|assumption) ?_);first|exact nmn|assumption|simp)) hS ?_)|((first|refine own_box rfl _ _ rfl (by rfl) hS ?_|refine w_al rfl rfl hS ?_);clear hS;(try clear ww);intro bb ww hS)|((first|refine w_st rfl _ _ rfl (by rfl) (by rfl) (by repeat constructor) (by rfl) (by rfl) (by first|rfl|assumption) hS ?_|refine w_s1 rfl _ _ rfl (by rfl) (by repeat constructor) (by first|exact .c|exact .t rfl) (by rfl) (by repeat constructor) hS ?_);clear hS;(try clear ww);intro ww hS))
  (try simp only [Act.put]);(try simp only [List.setIfInBounds_toArray]);(try simp only [List.set_cons_succ]);(try simp only [List.set_cons_zero])
  refine own_region hS (by kernel_rfl) (by kernel_rfl) ?_
  (try simp only);(try simp only [List.drop_succ_cons]);(try simp only [List.drop_zero]);(try simp only [List.take_succ_cons]);(try simp only [List.take_zero])
  repeat (first
      | (first|(refine quiet_plain rfl ?_)|(refine quiet_yes rfl rfl rfl (by simp only [List.getElem?_toArray, List.getElem?_cons_succ, List.getElem?_cons_zero];rfl) (by with_reducible constructor) ?_)
         apply Exists.intro; refine ⟨?_, ?_⟩
         focus (intro wq hq0;have hq : Own _ _ _ wq := hq0;first|(exact quietAt_rd rfl (by rfl) (by first|exact rd_1 (by repeat constructor) (by first|rfl|assumption)|exact rd_w (by repeat constructor) (by rfl)|((first|refine rd_o ‹_› (by rfl) ?_|refine rd_h ‹_› (by rfl) ?_|refine rd_1o ‹_› ?_|refine rd_1h ‹_› (by first|rfl|assumption) ?_);first|exact nmn|assumption|simp)) hq)|(go_simp;first|(go_at_call 36;exact quietG hq (HP.out _ hq.below))|(go_at_call 33;exact quietG hq (HSc.out _))|(with_reducible rfl)))
         simp only [Act.put, List.setIfInBounds_toArray, List.set_cons_zero, List.set_cons_succ])
      | (refine quiet_no rfl rfl rfl (by simp only [List.getElem?_toArray, List.getElem?_cons_succ, List.getElem?_cons_zero];rfl) (by with_reducible constructor) ?_;simp only [Act.put, List.setIfInBounds_toArray, List.set_cons_zero, List.set_cons_succ]))
  refine wpQuiet_nil ?_
  clear hS
  intro ww hS
  go_wp2_with (first|(refine own_unguard (by rfl) ?_)|(refine w_ld rfl _ rfl (by rfl) (by first|exact rd_1 (by repeat constructor) (by first|rfl|assumption)|exact rd_w (by repeat constructor) (by rfl)|((first|refine rd_o ‹_› (by rfl) ?_|refine rd_h ‹_› (by rfl) ?_|refine rd_1o ‹_› ?_|refine rd_1h ‹_› (by first|rfl|assumption) ?_);first|exact nmn|assumption|simp)) hS ?_)|((first|refine own_box rfl _ _ rfl (by rfl) hS ?_|refine w_al rfl rfl hS ?_);clear hS;(try clear ww);intro bb ww hS)|((first|refine w_st rfl _ _ rfl (by rfl) (by rfl) (by repeat constructor) (by rfl) (by rfl) (by first|rfl|assumption) hS ?_|refine w_s1 rfl _ _ rfl (by rfl) (by repeat constructor) (by first|exact .c|exact .t rfl) (by rfl) (by repeat constructor) hS ?_);clear hS;(try clear ww);intro ww hS))
  go_ret
  exact own_gives hS

end Go.Proofs.Ytdbcdjiclkmknaa
namespace Go.Proofs.Ytdbcdjiclkmknaa
open Go.RowKit

attribute [local irreducible] wpQuiet wpG wpP wpK wpList Code.wp Calls









end Go.Proofs.Ytdbcdjiclkmknaa
namespace Go.Proofs.Ytdbcdjiclkmknaa
open Go.RowKit

instance rt_arr3b : RowTy Try.prog 51 3 := ⟨⟨_, Try.underlying51, rfl⟩, by kernel_rfl⟩
instance rt_arr3i : RowTy Try.prog 54 3 := ⟨⟨_, Try.underlying54, rfl⟩, by kernel_rfl⟩
instance zt_arr3i : ZeroTy Try.prog 54 [.int .i64 0, .int .i64 0, .int .i64 0] := ⟨.agg #[.int .i64 0, .int .i64 0, .int .i64 0], by kernel_rfl, rfl⟩
instance zt_arr3b : ZeroTy Try.prog 51 [.slice none 0 0, .slice none 0 0, .slice none 0 0] := ⟨.agg #[.slice none 0 0, .slice none 0 0, .slice none 0 0], by kernel_rfl, rfl⟩
theorem arr3_0 (a b c : Value) (w : World) : (Instr.index 51 (.agg #[a, b, c]) (.int .i64 0)).run Try.prog w = .ok a w := by simp [Instr.index, asIntOf, run_underlying Try.underlying51, go_sem]
theorem arr3_1 (a b c : Value) (w : World) : (Instr.index 51 (.agg #[a, b, c]) (.int .i64 1)).run Try.prog w = .ok b w := by simp [Instr.index, asIntOf, run_underlying Try.underlying51, go_sem]
theorem arr3_2 (a b c : Value) (w : World) : (Instr.index 51 (.agg #[a, b, c]) (.int .i64 2)).run Try.prog w = .ok c w := by simp [Instr.index, asIntOf, run_underlying Try.underlying51, go_sem]
theorem lm_max2 {P : Program} (a b : Int) (w : World) (ts : Array TypeId) (t : TypeId) : (Builtin.max_ ts t #[.int .i64 a, .int .i64 b]).run P w = .ok (.int .i64 (max a b)) w := by
  rw [run_max_int2]
  congr 2
  split <;> omega
theorem lm_min2 {P : Program} (a b : Int) (w : World) (ts : Array TypeId) (t : TypeId) : (Builtin.min_ ts t #[.int .i64 a, .int .i64 b]).run P w = .ok (.int .i64 (min a b)) w := by
  rw [run_min_int2]
  congr 2
  split <;> omega

theorem lm_perm {α : Type} (x y r : α) (L : List α) : (x :: y :: r :: L).Perm ((x :: y :: L) ++ [r]) :=
  .cons _ (.cons _ (List.perm_append_comm (l₁ := [r]) (l₂ := L)))

/-- The width of the widest; where the boxes are; how far the leftmost is left of 0; the width of all. ss, us: the widths below and above, h: the shift. -/
def lmW (ow : Int) (ss us : List Int) : Int := us.foldl max (ss.foldl max (max 0 ow))
def lmX0 (W ow : Int) : Int := hlf (W - ow)
def lmX1 (W h sw : Int) : Int := hlf (W - sw) - h
def lmX2 (W h uw : Int) : Int := hlf (W - uw) + h
def lmL (W h ow : Int) (ss us : List Int) : Int := (us.map (lmX2 W h)).foldl min ((ss.map (lmX1 W h)).foldl min (min 0 (lmX0 W ow)))
def lmE (W h L ow : Int) (ss us : List Int) : Int := (us.map fun u => lmX2 W h u - L + u).foldl max ((ss.map fun s => lmX1 W h s - L + s).foldl max (max W (lmX0 W ow - L + ow)))
/-- A percentage of the width of a quad. -/
def lmQ (F : Fnt) (l p : Int) : Int := scl (par F l F.quad) p
section
variable (F : Fnt) (l : Int) (n : Nat) (base : Bx (n + 1)) (subs sups : List (Bx (n + 1)))
def limW : Int := lmW base.1.w (subs.map (·.1.w)) (sups.map (·.1.w))
def limI : Int := hlf (italB F (n + 1) base)
def limL : Int := lmL (limW n base subs sups) (limI F n base) base.1.w (subs.map (·.1.w)) (sups.map (·.1.w))
def limE : Int := lmE (limW n base subs sups) (limI F n base) (limL F n base subs sups) base.1.w (subs.map (·.1.w)) (sups.map (·.1.w))
def limK : List (Bx (n + 1)) :=
  atXY (n + 1) base (lmX0 (limW n base subs sups) base.1.w - limL F n base subs sups) 0 ::
    (subs.map (fun b => atXY (n + 1) b (lmX1 (limW n base subs sups) (limI F n base) b.1.w - limL F n base subs sups) (-(base.1.d + lmQ F l 17 + b.1.h))) ++
     sups.map (fun b => atXY (n + 1) b (lmX2 (limW n base subs sups) (limI F n base) b.1.w - limL F n base subs sups) (base.1.h + lmQ F l 11 + b.1.d)))
def limH : Int := (sups.map fun b => base.1.h + lmQ F l 11 + b.1.d + b.1.h + lmQ F l 10).foldl max base.1.h
def limD : Int := (subs.map fun b => base.1.d + lmQ F l 17 + b.1.h + b.1.d + lmQ F l 10).foldl max base.1.d
def limB : Bx (n + 2) := listB (n + 1) (limE F n base subs sups) (limH F l n base sups) (limD F l n base subs) (limK F l n base subs sups)
end
theorem quad_in {F : Fnt} (h : ValidF F) : 0 ≤ F.quad ∧ F.quad ≤ 20000 := by
  have := h.2.2.1
  simp [prmOk, allIn] at this
  omega
theorem scl_in35 {n p : Int} (h0 : 0 ≤ n) (h1 : n ≤ 20000) (hp : 0 ≤ p ∧ p ≤ 100) : 0 ≤ scl n p ∧ scl n p ≤ n := by
  rw [scl_ok (by omega) hp.1 (by omega)]
  have hm : 0 ≤ n * p := Int.mul_nonneg h0 hp.1
  have hk : n * p ≤ n * 100 := Int.mul_le_mul_of_nonneg_left hp.2 h0
  unfold rdiv
  rw [if_pos hm]
  omega
theorem lmQ_in {F : Fnt} {l p : Int} (h : ValidF F) (hp : 0 ≤ p ∧ p ≤ 100) : 0 ≤ lmQ F l p ∧ lmQ F l p ≤ 20000 := by
  have hq := quad_in h
  have h1 := par_in (l := l) h hq.1 hq.2
  have h2 := scl_in35 h1.1 (by omega) hp
  unfold lmQ
  omega

end Go.Proofs.Ytdbcdjiclkmknaa
namespace Go.Proofs.Ytdbcdjiclkmknaa
open Go.RowKit

attribute [local irreducible] wpQuiet wpG wpP wpK wpList Code.wp Calls

end Go.Proofs.Ytdbcdjiclkmknaa
namespace Go.Proofs.Ytdbcdjiclkmknaa
open Go.RowKit



end Go.Proofs.Ytdbcdjiclkmknaa
namespace Go.Proofs.Ytdbcdjiclkmknaa
open Go.RowKit

end Go.Proofs.Ytdbcdjiclkmknaa
namespace Go.Proofs.Ytdbcdjiclkmknaa
open Go.RowKit

















































end Go.Proofs.Ytdbcdjiclkmknaa
namespace Go.Proofs.Ytdbcdjiclkmknaa
open Go.RowKit

attribute [local irreducible] wpQuiet wpG wpP wpK wpList Code.wp Calls

/-- An extent: left, right, height, depth. -/
structure E4 where
  l : Int
  r : Int
  h : Int
  d : Int
end Go.Proofs.Ytdbcdjiclkmknaa
namespace Go.Proofs.Ytdbcdjiclkmknaa
open Go.RowKit

end Go.Proofs.Ytdbcdjiclkmknaa
namespace Go.Proofs.Ytdbcdjiclkmknaa
open Go.RowKit

/-- What is asked of a font, a style and boxes. -/
def ScrOk (F : Fnt) (l : Int) (n : Nat) (base : Bx (n + 1)) (subs sups : List (Bx (n + 1))) : Prop := ValidF F ∧ lvlOk l = true ∧ validB (n + 1) base ∧ (subs.length ≤ 1 ∧ ∀ b ∈ subs, validB (n + 1) b) ∧ (sups.length ≤ 1 ∧ ∀ b ∈ sups, validB (n + 1) b)
theorem vlens {n : Nat} {b : Bx (n + 1)} (h : validB (n + 1) b) : (-1073741824 ≤ b.1.w ∧ b.1.w ≤ 1073741824) ∧ (-1073741824 ≤ b.1.h ∧ b.1.h ≤ 1073741824) ∧ (-1073741824 ≤ b.1.d ∧ b.1.d ≤ 1073741824) := by
  obtain ⟨a, ks⟩ := b
  exact valid_lens h
end Go.Proofs.Ytdbcdjiclkmknaa
