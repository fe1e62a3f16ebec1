/- Texts ScalR, Glo, Val, Fnd. -/
import Derived.Test.YtgpabckipmhobaaK06
import Derived.Test.YtgpabckipmhobaaK04
import Derived.Test.YtgpabckipmhobaaK01
namespace Go.Proofs.Ytgpabckipmhobaa
open Go.RowKit



set_option maxHeartbeats 2000000 in
theorem ref05_metrics_calls (g : Gly) (w : World) :
    Calls Try.prog 53 #[.agg #[.string g.name, .int .i64 g.w, .int .i64 g.h, .int .i64 g.d, .int .i64 g.it, .int .i64 g.at_]] w (Gives (.bool (metricsOk g)) w) := by
  obtain ⟨ns, hns⟩ : ∃ ns, ns = g.nums := ⟨_, rfl⟩
  have hm := Lib.hid (show metricsOk g = allIn (-20000) 20000 ns by rw [hns]; rfl)
  have hlen : ns.length = 5 := by rw [hns]; rfl
  have hat : ∀ k n, ns[k]? = some n → ((w.alloc (.cells #[.string g.name, .int .i64 g.w, .int .i64 g.h, .int .i64 g.d, .int .i64 g.it, .int .i64 g.at_] 55)).alloc (.cells #[.int .i64 g.w, .int .i64 g.h, .int .i64 g.d, .int .i64 g.it, .int .i64 g.at_] 3)).cell? ⟨w.heap.size + 1, k, none⟩ = some (.int .i64 n) := by
    intro k n hk
    rw [hns] at hk
    simp only [Gly.nums] at hk
    rcases k with _ | _ | _ | _ | _ | k <;> simp at hk <;> subst hk <;> simp [go_sem]
  have HAT := Lib.hid hat
  have HLEN := Lib.hid hlen
  clear hat hns hlen
  go_enter Try.func53, Try.ntmps53
  go_wp2_with fail
  generalize hW : (w.alloc (.cells #[.string g.name, .int .i64 g.w, .int .i64 g.h, .int .i64 g.d, .int .i64 g.it, .int .i64 g.at_] 55)).alloc (.cells #[.int .i64 g.w, .int .i64 g.h, .int .i64 g.d, .int .i64 g.it, .int .i64 g.at_] 3) = W at *
  have hb : Below w.heap.size w W := by rw [← hW]; exact bnew (bnew (bself w) _) _
  clear hW
  go_loop [4] (fun i => ∃ k : Nat, k ≤ 5 ∧ i = .int .i64 k ∧ allIn (-20000) 20000 ns = allIn (-20000) 20000 (ns.drop k)) (fun i => 5 - (intOf i).toNat)
  case atStart => exact ⟨0, Nat.zero_le _, rfl, rfl⟩
  case round =>
    obtain ⟨k, hk, rfl, hf⟩ := hrel
    by_cases hlt : k < 5
    · obtain ⟨n, hg⟩ : ∃ n, ns[k]? = some n := ⟨ns[k]'(by rw [HLEN.out]; omega), by simp [HLEN.out, hlt]⟩
      have g0 := HAT.out k n hg
      rw [allIn_drop _ _ ns k n hg] at hf
      have HF := Lib.hid hf
      clear hf hg
      by_cases h1 : (decide (-20000 ≤ n) && decide (n ≤ 20000)) = true
      · have E1 := Lib.hid (show allIn (-20000) 20000 ns = allIn (-20000) 20000 (ns.drop (k + 1)) by rw [HF.out, h1, Bool.true_and])
        go_wp2_with fail
        refine (ref05_within_calls _ _ _ _).mono ?_
        rintro e w' ⟨rfl, rfl⟩
        go_wp2_with fail
        go_round
        case rel => exact ⟨k + 1, by omega, by go_num, E1.out⟩
        case measure => simp [intOf]; omega
      · have h1' : (decide (-20000 ≤ n) && decide (n ≤ 20000)) = false := by simpa using h1
        have E1 := Lib.hid (show allIn (-20000) 20000 ns = false by rw [HF.out, h1', Bool.false_and])
        clear h1
        go_wp2_with fail
        refine (ref05_within_calls _ _ _ _).mono ?_
        rintro e w' ⟨rfl, rfl⟩
        go_wp2_with fail
        go_ret
        refine ⟨ret_bool ?_, hb⟩
        rw [hm.out, E1.out]
    · have E1 := Lib.hid (show allIn (-20000) 20000 ns = true by rw [hf, List.drop_of_length_le (by rw [HLEN.out]; omega)]; rfl)
      clear hf
      go_wp2_with fail
      go_ret
      refine ⟨ret_bool ?_, hb⟩
      rw [hm.out, E1.out]





theorem ref05_Scale_gives (n p : Int) (w : World) (h : -20000 ≤ n ∧ n ≤ 20000) (p0 : 1 ≤ p ∧ p ≤ 1000) :
    Calls Try.prog 36 #[.int .i64 n, .int .i64 p] w (Gives (.int .i64 (scl n p)) w) :=
  (ref05_Scale_calls n p w (by omega) (by omega) (by omega)).mono fun _ _ ⟨he, hw⟩ => ⟨he, hw ▸ bself w⟩





end Go.Proofs.Ytgpabckipmhobaa
namespace Go.Proofs.Ytgpabckipmhobaa
open Go.RowKit

attribute [local irreducible] wpQuiet wpList Code.wp

/-- A glyph by itself. -/
def gIn (g : Gly) : Bool := nameOk g.name && metricsOk g && decide (0 ≤ g.w)
/-- No glyph ahead has its name. -/
def freshG (gs : List Gly) (k : Nat) (g : Gly) : Prop := ∀ j, j < k → ∀ g', gs[j]? = some g' → (g'.name.toList == g.name.toList) = false
/-- All glyphs are as required. -/
def GlysOk (gs : List Gly) : Prop := ∀ k g, gs[k]? = some g → gIn g = true ∧ freshG gs k g

theorem GlysOk.not_in {gs : List Gly} {k : Nat} {g : Gly} {b : Bool} (hb : Hid (b = true ↔ GlysOk gs)) (h : gs[k]? = some g) (hn : gIn g = false) : false = b := by
  cases b
  · rfl
  · have := (hb.out.1 rfl k g h).1
    rw [hn] at this; cases this
theorem GlysOk.not_fresh {gs : List Gly} {k j : Nat} {g g' : Gly} {b : Bool} (hb : Hid (b = true ↔ GlysOk gs)) (h : gs[k]? = some g) (hj : j < k) (h' : gs[j]? = some g') (hn : (g'.name.toList == g.name.toList) = true) : false = b := by
  cases b
  · rfl
  · have := (hb.out.1 rfl k g h).2 j hj g' h'
    rw [hn] at this; cases this
theorem GlysOk.all {gs : List Gly} {b : Bool} (hb : Hid (b = true ↔ GlysOk gs)) (h : ∀ j, j < gs.length → ∀ g, gs[j]? = some g → gIn g = true ∧ freshG gs j g) : true = b :=
  (hb.out.2 fun k g hk => h k (List.getElem?_eq_some_iff.1 hk).1 g hk).symm
theorem glys_next {gs : List Gly} {k : Nat} {g : Gly} (h : Hid (∀ j, j < k → ∀ g, gs[j]? = some g → gIn g = true ∧ freshG gs j g)) (hg : gs[k]? = some g) (h1 : gIn g = true) (h2 : freshG gs k g) : ∀ j, j < k + 1 → ∀ g, gs[j]? = some g → gIn g = true ∧ freshG gs j g := by
  intro j hj g' hg'
  by_cases he : j = k
  · subst he
    rw [hg] at hg'
    cases hg'
    exact ⟨h1, h2⟩
  · exact h.out j (by omega) g' hg'

theorem ref05_Name_v {s : ByteArray} {w : World} {v : Bool} (hs : s.size ≤ maxLen) (hv : Hid (nameOk s = v)) : Calls Try.prog 52 #[.string s] w fun e w' => e = .returned (.bool v) ∧ w = w' := by
  have := ref05_Name_calls s w hs
  rwa [hv.out] at this
theorem ref05_metrics_v {g : Gly} {w : World} {v : Bool} (hv : Hid (metricsOk g = v)) : Calls Try.prog 53 #[.agg #[.string g.name, .int .i64 g.w, .int .i64 g.h, .int .i64 g.d, .int .i64 g.it, .int .i64 g.at_]] w (Gives (.bool v) w) := by
  have := ref05_metrics_calls g w
  rwa [hv.out] at this

set_option maxHeartbeats 8000000 in
set_option maxRecDepth 100000 in
theorem ref05_glyphs_calls (gx : Option Addr) (gc : Nat) (gs : List Gly) (w : World) (hr : RowAt w gx 6 Gly.cells gs) (hl : ∀ g ∈ gs, g.name.size ≤ maxLen) (hn : gs.length ≤ 1000000) (b : Bool) (hb : b = true ↔ GlysOk gs) :
    Calls Try.prog 31 #[.slice gx gs.length gc] w (Gives (.bool b) w) := by
  have HR := Lib.hid hr
  have HL := Lib.hid hl
  have HB := Lib.hid hb
  clear hr hl hb
  go_enter Try.func31, Try.ntmps31
  have hS := own_start w
  go_wp2_with (first | (refine own_unguard (by rfl) ?_) | (refine w_ld rfl _ rfl (by rfl) (by first | exact rd_1 (by repeat constructor) (by first | rfl | assumption) | exact rd_w (by repeat constructor) (by rfl) | exact rd_o (by assumption) (by rfl) (by first | exact nmn | assumption | simp) | exact rd_h (by assumption) (by rfl) (by first | exact nmn | assumption | simp) | exact rd_1o (by assumption) (by first | exact nmn | assumption | simp) | exact rd_1h (by assumption) (by first | rfl | assumption) (by first | exact nmn | assumption | simp)) hS ?_) | (refine own_box rfl _ _ rfl (by rfl) hS ?_; clear hS; (try clear ww); intro bb ww hS) | (refine w_st rfl _ _ rfl (by rfl) (by rfl) (by repeat constructor) (by rfl) (by rfl) (by first | rfl | assumption) hS ?_; clear hS; (try clear ww); intro ww hS) | (refine w_s1 rfl _ _ rfl (by rfl) (by repeat constructor) (by first | exact .c | exact .t rfl) (by rfl) (by repeat constructor) hS ?_; clear hS; (try clear ww); intro ww hS))
  go_loopw [3] (fun i wr => ∃ k : Nat, k ≤ gs.length ∧ i = .int .i64 k ∧ (∀ j, j < k → ∀ g, gs[j]? = some g → gIn g = true ∧ freshG gs j g) ∧ Own [] w [] wr) (fun i _ => gs.length - (intOf i).toNat)
  case atStart => exact ⟨0, Nat.zero_le _, rfl, fun j hj => absurd hj (Nat.not_lt_zero j), hS⟩
  case round =>
    clear hS
    obtain ⟨k, hk, rfl, hp, hS⟩ := hrel
    have HP := Lib.hid hp
    clear hp
    by_cases hlt : k < gs.length
    · obtain ⟨g, hg⟩ : ∃ g, gs[k]? = some g := ⟨gs[k], by simp [hlt]⟩
      obtain ⟨b0, o0, hx, r0⟩ := HR.out.get hg
      obtain rfl : gx = some ⟨b0, o0, none⟩ := hx
      have HG := Lib.hid hg
      have hsz := Lib.hid (HL.out g (List.mem_of_getElem? hg))
      clear hg
      have s0 : w.rangeAt b0 (o0 + k * 6) [.string g.name, .int .i64 g.w, .int .i64 g.h, .int .i64 g.d, .int .i64 g.it, .int .i64 g.at_] := r0
      have c0 : w.cell? ⟨b0, o0 + k * 6, none⟩ = some (.string g.name) := r0 0 _ rfl
      have c1 : w.cell? ⟨b0, o0 + k * 6 + 1, none⟩ = some (.int .i64 g.w) := r0 1 _ rfl
      clear r0
      cases h1 : nameOk g.name
      · have H1 := Lib.hid h1
        have E1 := Lib.hid (GlysOk.not_in HB HG.out (show gIn g = false by simp [gIn, h1]))
        clear h1
        go_wp2_with (first | (refine own_unguard (by rfl) ?_) | (go_at_call 52; refine own_callsS hS (ref05_Name_v hsz.out H1) ?_) | (refine w_ld rfl _ rfl (by rfl) (by first | exact rd_1 (by repeat constructor) (by first | rfl | assumption) | exact rd_w (by repeat constructor) (by rfl) | exact rd_o (by assumption) (by rfl) (by first | exact nmn | assumption | simp) | exact rd_h (by assumption) (by rfl) (by first | exact nmn | assumption | simp) | exact rd_1o (by assumption) (by first | exact nmn | assumption | simp) | exact rd_1h (by assumption) (by first | rfl | assumption) (by first | exact nmn | assumption | simp)) hS ?_) | (refine own_box rfl _ _ rfl (by rfl) hS ?_; clear hS; (try clear ww); intro bb ww hS) | (refine w_st rfl _ _ rfl (by rfl) (by rfl) (by repeat constructor) (by rfl) (by rfl) (by first | rfl | assumption) hS ?_; clear hS; (try clear ww); intro ww hS) | (refine w_s1 rfl _ _ rfl (by rfl) (by repeat constructor) (by first | exact .c | exact .t rfl) (by rfl) (by repeat constructor) hS ?_; clear hS; (try clear ww); intro ww hS))
        go_ret
        exact ⟨ret_bool E1.out, hS.below⟩
      · have H1 := Lib.hid h1
        cases h2 : metricsOk g
        · have H2 := Lib.hid h2
          have E1 := Lib.hid (GlysOk.not_in HB HG.out (show gIn g = false by simp [gIn, h2]))
          clear h1 h2
          go_wp2_with (first | (refine own_unguard (by rfl) ?_) | (go_at_call 52; refine own_callsS hS (ref05_Name_v hsz.out H1) ?_) | (go_at_call 53; refine own_calls hS (ref05_metrics_v (g := g) H2) ?_; clear hS; (try clear ww); intro ww hS) | (refine w_ld rfl _ rfl (by rfl) (by first | exact rd_1 (by repeat constructor) (by first | rfl | assumption) | exact rd_w (by repeat constructor) (by rfl) | exact rd_o (by assumption) (by rfl) (by first | exact nmn | assumption | simp) | exact rd_h (by assumption) (by rfl) (by first | exact nmn | assumption | simp) | exact rd_1o (by assumption) (by first | exact nmn | assumption | simp) | exact rd_1h (by assumption) (by first | rfl | assumption) (by first | exact nmn | assumption | simp)) hS ?_) | (refine own_box rfl _ _ rfl (by rfl) hS ?_; clear hS; (try clear ww); intro bb ww hS) | (refine w_st rfl _ _ rfl (by rfl) (by rfl) (by repeat constructor) (by rfl) (by rfl) (by first | rfl | assumption) hS ?_; clear hS; (try clear ww); intro ww hS) | (refine w_s1 rfl _ _ rfl (by rfl) (by repeat constructor) (by first | exact .c | exact .t rfl) (by rfl) (by repeat constructor) hS ?_; clear hS; (try clear ww); intro ww hS))
          go_ret
          exact ⟨ret_bool E1.out, hS.below⟩
        · have H2 := Lib.hid h2
          cases h3 : decide (g.w < 0)
          · have E1 := Lib.hid (show gIn g = true by simp at h3; simp [gIn, h1, h2, h3])
            clear h1 h2
            go_wp2_with (first | (refine own_unguard (by rfl) ?_) | (go_at_call 52; refine own_callsS hS (ref05_Name_v hsz.out H1) ?_) | (go_at_call 53; refine own_calls hS (ref05_metrics_v (g := g) H2) ?_; clear hS; (try clear ww); intro ww hS) | (refine w_ld rfl _ rfl (by rfl) (by first | exact rd_1 (by repeat constructor) (by first | rfl | assumption) | exact rd_w (by repeat constructor) (by rfl) | exact rd_o (by assumption) (by rfl) (by first | exact nmn | assumption | simp) | exact rd_h (by assumption) (by rfl) (by first | exact nmn | assumption | simp) | exact rd_1o (by assumption) (by first | exact nmn | assumption | simp) | exact rd_1h (by assumption) (by first | rfl | assumption) (by first | exact nmn | assumption | simp)) hS ?_) | (refine own_box rfl _ _ rfl (by rfl) hS ?_; clear hS; (try clear ww); intro bb ww hS) | (refine w_st rfl _ _ rfl (by rfl) (by rfl) (by repeat constructor) (by rfl) (by rfl) (by first | rfl | assumption) hS ?_; clear hS; (try clear ww); intro ww hS) | (refine w_s1 rfl _ _ rfl (by rfl) (by repeat constructor) (by first | exact .c | exact .t rfl) (by rfl) (by repeat constructor) hS ?_; clear hS; (try clear ww); intro ww hS))
            go_loopw [4] (fun i wr => ∃ m : Nat, m ≤ k ∧ i = .int .i64 m ∧ freshG gs m g ∧ Own [] w [] wr) (fun i _ => k - (intOf i).toNat)
            case atStart => exact ⟨0, Nat.zero_le _, rfl, fun j hj => absurd hj (Nat.not_lt_zero j), hS⟩
            case round =>
              clear hS
              obtain ⟨m, hm, rfl, hf, hS⟩ := hrel
              have HF := Lib.hid hf
              clear hf
              by_cases hlm : m < k
              · have hmn : m < gs.length := by omega
                obtain ⟨g2, hg2⟩ : ∃ g, gs[m]? = some g := ⟨gs[m], by simp [hmn]⟩
                obtain ⟨b2, o2, hx2, r2⟩ := HR.out.get hg2
                obtain ⟨rfl, rfl⟩ : b0 = b2 ∧ o0 = o2 := by simpa using hx2
                have d0 : w.cell? ⟨b0, o0 + m * 6, none⟩ = some (.string g2.name) := r2 0 _ rfl
                have HG2 := Lib.hid hg2
                clear r2 hx2 hg2
                cases he : (g2.name.toList == g.name.toList)
                · have E2 := Lib.hid (show freshG gs (m + 1) g by
                    intro j hj g' hg'
                    by_cases e : j = m
                    · subst e
                      rw [HG2.out] at hg'
                      cases hg'
                      exact he
                    · exact HF.out j (by omega) g' hg')
                  go_wp2_with (first | (refine own_unguard (by rfl) ?_) | (refine w_ld rfl _ rfl (by rfl) (by first | exact rd_1 (by repeat constructor) (by first | rfl | assumption) | exact rd_w (by repeat constructor) (by rfl) | exact rd_o (by assumption) (by rfl) (by first | exact nmn | assumption | simp) | exact rd_h (by assumption) (by rfl) (by first | exact nmn | assumption | simp) | exact rd_1o (by assumption) (by first | exact nmn | assumption | simp) | exact rd_1h (by assumption) (by first | rfl | assumption) (by first | exact nmn | assumption | simp)) hS ?_) | (refine own_box rfl _ _ rfl (by rfl) hS ?_; clear hS; (try clear ww); intro bb ww hS) | (refine w_st rfl _ _ rfl (by rfl) (by rfl) (by repeat constructor) (by rfl) (by rfl) (by first | rfl | assumption) hS ?_; clear hS; (try clear ww); intro ww hS) | (refine w_s1 rfl _ _ rfl (by rfl) (by repeat constructor) (by first | exact .c | exact .t rfl) (by rfl) (by repeat constructor) hS ?_; clear hS; (try clear ww); intro ww hS))
                  refine own_region hS (by kernel_rfl) (by kernel_rfl) ?_
                  (try simp only); (try simp only [List.drop_succ_cons]); (try simp only [List.drop_zero]); (try simp only [List.take_succ_cons]); (try simp only [List.take_zero])
                  repeat (first
                      | (first | (refine quiet_plain rfl ?_) | (refine quiet_yes rfl rfl rfl (by simp only [List.getElem?_toArray, List.getElem?_cons_succ, List.getElem?_cons_zero]; rfl) (by with_reducible constructor) ?_)
                         apply Exists.intro; refine ⟨?_, ?_⟩
                         focus (intro wq hq0; have hq : Own _ _ _ wq := hq0; first | (exact quietAt_rd rfl (by rfl) (by first | exact rd_1 (by repeat constructor) (by first | rfl | assumption) | exact rd_w (by repeat constructor) (by rfl) | exact rd_o (by assumption) (by rfl) (by first | exact nmn | assumption | simp) | exact rd_h (by assumption) (by rfl) (by first | exact nmn | assumption | simp) | exact rd_1o (by assumption) (by first | exact nmn | assumption | simp) | exact rd_1h (by assumption) (by first | rfl | assumption) (by first | exact nmn | assumption | simp)) hq) | (go_simp; first | (with_reducible rfl)))
                         simp only [Act.put, List.setIfInBounds_toArray, List.set_cons_zero, List.set_cons_succ])
                      | (refine quiet_no rfl rfl rfl (by simp only [List.getElem?_toArray, List.getElem?_cons_succ, List.getElem?_cons_zero]; rfl) (by with_reducible constructor) ?_; simp only [Act.put, List.setIfInBounds_toArray, List.set_cons_zero, List.set_cons_succ]))
                  refine wpQuiet_nil ?_
                  clear hS
                  intro ww hS
                  go_wp2_with (first | (refine own_unguard (by rfl) ?_) | (refine w_ld rfl _ rfl (by rfl) (by first | exact rd_1 (by repeat constructor) (by first | rfl | assumption) | exact rd_w (by repeat constructor) (by rfl) | exact rd_o (by assumption) (by rfl) (by first | exact nmn | assumption | simp) | exact rd_h (by assumption) (by rfl) (by first | exact nmn | assumption | simp) | exact rd_1o (by assumption) (by first | exact nmn | assumption | simp) | exact rd_1h (by assumption) (by first | rfl | assumption) (by first | exact nmn | assumption | simp)) hS ?_) | (refine own_box rfl _ _ rfl (by rfl) hS ?_; clear hS; (try clear ww); intro bb ww hS) | (refine w_st rfl _ _ rfl (by rfl) (by rfl) (by repeat constructor) (by rfl) (by rfl) (by first | rfl | assumption) hS ?_; clear hS; (try clear ww); intro ww hS) | (refine w_s1 rfl _ _ rfl (by rfl) (by repeat constructor) (by first | exact .c | exact .t rfl) (by rfl) (by repeat constructor) hS ?_; clear hS; (try clear ww); intro ww hS))
                  go_roundw
                  case rel => exact ⟨m + 1, hlm, by go_num, E2.out, hS⟩
                  case measure => exact loop_meas hlm
                · have E2 := Lib.hid (GlysOk.not_fresh HB HG.out hlm HG2.out he)
                  go_wp2_with (first | (refine own_unguard (by rfl) ?_) | (refine w_ld rfl _ rfl (by rfl) (by first | exact rd_1 (by repeat constructor) (by first | rfl | assumption) | exact rd_w (by repeat constructor) (by rfl) | exact rd_o (by assumption) (by rfl) (by first | exact nmn | assumption | simp) | exact rd_h (by assumption) (by rfl) (by first | exact nmn | assumption | simp) | exact rd_1o (by assumption) (by first | exact nmn | assumption | simp) | exact rd_1h (by assumption) (by first | rfl | assumption) (by first | exact nmn | assumption | simp)) hS ?_) | (refine own_box rfl _ _ rfl (by rfl) hS ?_; clear hS; (try clear ww); intro bb ww hS) | (refine w_st rfl _ _ rfl (by rfl) (by rfl) (by repeat constructor) (by rfl) (by rfl) (by first | rfl | assumption) hS ?_; clear hS; (try clear ww); intro ww hS) | (refine w_s1 rfl _ _ rfl (by rfl) (by repeat constructor) (by first | exact .c | exact .t rfl) (by rfl) (by repeat constructor) hS ?_; clear hS; (try clear ww); intro ww hS))
                  refine own_region hS (by kernel_rfl) (by kernel_rfl) ?_
                  (try simp only); (try simp only [List.drop_succ_cons]); (try simp only [List.drop_zero]); (try simp only [List.take_succ_cons]); (try simp only [List.take_zero])
                  repeat (first
                      | (first | (refine quiet_plain rfl ?_) | (refine quiet_yes rfl rfl rfl (by simp only [List.getElem?_toArray, List.getElem?_cons_succ, List.getElem?_cons_zero]; rfl) (by with_reducible constructor) ?_)
                         apply Exists.intro; refine ⟨?_, ?_⟩
                         focus (intro wq hq0; have hq : Own _ _ _ wq := hq0; first | (exact quietAt_rd rfl (by rfl) (by first | exact rd_1 (by repeat constructor) (by first | rfl | assumption) | exact rd_w (by repeat constructor) (by rfl) | exact rd_o (by assumption) (by rfl) (by first | exact nmn | assumption | simp) | exact rd_h (by assumption) (by rfl) (by first | exact nmn | assumption | simp) | exact rd_1o (by assumption) (by first | exact nmn | assumption | simp) | exact rd_1h (by assumption) (by first | rfl | assumption) (by first | exact nmn | assumption | simp)) hq) | (go_simp; first | (with_reducible rfl)))
                         simp only [Act.put, List.setIfInBounds_toArray, List.set_cons_zero, List.set_cons_succ])
                      | (refine quiet_no rfl rfl rfl (by simp only [List.getElem?_toArray, List.getElem?_cons_succ, List.getElem?_cons_zero]; rfl) (by with_reducible constructor) ?_; simp only [Act.put, List.setIfInBounds_toArray, List.set_cons_zero, List.set_cons_succ]))
                  refine wpQuiet_nil ?_
                  clear hS
                  intro ww hS
                  go_wp2_with (first | (refine own_unguard (by rfl) ?_) | (refine w_ld rfl _ rfl (by rfl) (by first | exact rd_1 (by repeat constructor) (by first | rfl | assumption) | exact rd_w (by repeat constructor) (by rfl) | exact rd_o (by assumption) (by rfl) (by first | exact nmn | assumption | simp) | exact rd_h (by assumption) (by rfl) (by first | exact nmn | assumption | simp) | exact rd_1o (by assumption) (by first | exact nmn | assumption | simp) | exact rd_1h (by assumption) (by first | rfl | assumption) (by first | exact nmn | assumption | simp)) hS ?_) | (refine own_box rfl _ _ rfl (by rfl) hS ?_; clear hS; (try clear ww); intro bb ww hS) | (refine w_st rfl _ _ rfl (by rfl) (by rfl) (by repeat constructor) (by rfl) (by rfl) (by first | rfl | assumption) hS ?_; clear hS; (try clear ww); intro ww hS) | (refine w_s1 rfl _ _ rfl (by rfl) (by repeat constructor) (by first | exact .c | exact .t rfl) (by rfl) (by repeat constructor) hS ?_; clear hS; (try clear ww); intro ww hS))
                  go_ret
                  exact ⟨ret_bool E2.out, hS.below⟩
              · obtain rfl : m = k := by omega
                go_wp2_with (first | (refine own_unguard (by rfl) ?_) | (refine w_ld rfl _ rfl (by rfl) (by first | exact rd_1 (by repeat constructor) (by first | rfl | assumption) | exact rd_w (by repeat constructor) (by rfl) | exact rd_o (by assumption) (by rfl) (by first | exact nmn | assumption | simp) | exact rd_h (by assumption) (by rfl) (by first | exact nmn | assumption | simp) | exact rd_1o (by assumption) (by first | exact nmn | assumption | simp) | exact rd_1h (by assumption) (by first | rfl | assumption) (by first | exact nmn | assumption | simp)) hS ?_) | (refine own_box rfl _ _ rfl (by rfl) hS ?_; clear hS; (try clear ww); intro bb ww hS) | (refine w_st rfl _ _ rfl (by rfl) (by rfl) (by repeat constructor) (by rfl) (by rfl) (by first | rfl | assumption) hS ?_; clear hS; (try clear ww); intro ww hS) | (refine w_s1 rfl _ _ rfl (by rfl) (by repeat constructor) (by first | exact .c | exact .t rfl) (by rfl) (by repeat constructor) hS ?_; clear hS; (try clear ww); intro ww hS))
                go_roundw
                case rel => exact ⟨m + 1, hlt, by go_num, glys_next HP HG.out E1.out HF.out, hS⟩
                case measure => exact loop_meas hlt
          · have E1 := Lib.hid (GlysOk.not_in HB HG.out (show gIn g = false by simp at h3; simp [gIn]; intro _ _; omega))
            clear h1 h2
            go_wp2_with (first | (refine own_unguard (by rfl) ?_) | (go_at_call 52; refine own_callsS hS (ref05_Name_v hsz.out H1) ?_) | (go_at_call 53; refine own_calls hS (ref05_metrics_v (g := g) H2) ?_; clear hS; (try clear ww); intro ww hS) | (refine w_ld rfl _ rfl (by rfl) (by first | exact rd_1 (by repeat constructor) (by first | rfl | assumption) | exact rd_w (by repeat constructor) (by rfl) | exact rd_o (by assumption) (by rfl) (by first | exact nmn | assumption | simp) | exact rd_h (by assumption) (by rfl) (by first | exact nmn | assumption | simp) | exact rd_1o (by assumption) (by first | exact nmn | assumption | simp) | exact rd_1h (by assumption) (by first | rfl | assumption) (by first | exact nmn | assumption | simp)) hS ?_) | (refine own_box rfl _ _ rfl (by rfl) hS ?_; clear hS; (try clear ww); intro bb ww hS) | (refine w_st rfl _ _ rfl (by rfl) (by rfl) (by repeat constructor) (by rfl) (by rfl) (by first | rfl | assumption) hS ?_; clear hS; (try clear ww); intro ww hS) | (refine w_s1 rfl _ _ rfl (by rfl) (by repeat constructor) (by first | exact .c | exact .t rfl) (by rfl) (by repeat constructor) hS ?_; clear hS; (try clear ww); intro ww hS))
            go_ret
            exact ⟨ret_bool E1.out, hS.below⟩
    · have E1 := Lib.hid (GlysOk.all HB (fun j hj => HP.out j (by omega)))
      go_wp2_with (first | (refine own_unguard (by rfl) ?_) | (refine w_ld rfl _ rfl (by rfl) (by first | exact rd_1 (by repeat constructor) (by first | rfl | assumption) | exact rd_w (by repeat constructor) (by rfl) | exact rd_o (by assumption) (by rfl) (by first | exact nmn | assumption | simp) | exact rd_h (by assumption) (by rfl) (by first | exact nmn | assumption | simp) | exact rd_1o (by assumption) (by first | exact nmn | assumption | simp) | exact rd_1h (by assumption) (by first | rfl | assumption) (by first | exact nmn | assumption | simp)) hS ?_) | (refine own_box rfl _ _ rfl (by rfl) hS ?_; clear hS; (try clear ww); intro bb ww hS) | (refine w_st rfl _ _ rfl (by rfl) (by rfl) (by repeat constructor) (by rfl) (by rfl) (by first | rfl | assumption) hS ?_; clear hS; (try clear ww); intro ww hS) | (refine w_s1 rfl _ _ rfl (by rfl) (by repeat constructor) (by first | exact .c | exact .t rfl) (by rfl) (by repeat constructor) hS ?_; clear hS; (try clear ww); intro ww hS))
      go_ret
      exact ⟨ret_bool E1.out, hS.below⟩

end Go.Proofs.Ytgpabckipmhobaa
namespace Go.Proofs.Ytgpabckipmhobaa
open Go.RowKit

attribute [local irreducible] wpQuiet wpG wpP wpList Code.wp

/-- The k-th size is there, and higher than the one ahead. -/
def SizeOk (gs : List Gly) (sz : List ByteArray) (k : Nat) (n : ByteArray) : Prop :=
  ∃ g, findG gs n = some g ∧ ∀ m n' g', k = m + 1 → sz[m]? = some n' → findG gs n' = some g' → g'.h + g'.d < g.h + g.d
/-- A part is there, and higher than the overlap. -/
def PartOk (gs : List Gly) (ov : Int) (p : Prt) : Prop := ∃ g, findG gs p.name = some g ∧ ov < g.h + g.d
/-- A stretch by itself. -/
def StrReq (gs : List Gly) (s : Str) : Prop :=
  nameOk s.name = true ∧ 1 ≤ s.sizes.length ∧ s.sizes.length ≤ 16 ∧ s.parts.length ≤ 8 ∧ (∀ k n, s.sizes[k]? = some n → SizeOk gs s.sizes k n) ∧
  ((s.parts = [] ∧ s.ov = 0) ∨ (s.parts ≠ [] ∧ (∀ p ∈ s.parts, PartOk gs s.ov p) ∧ (s.parts.any fun p => p.ext) = true ∧ 0 ≤ s.ov))
/-- No stretch ahead has its name. -/
def freshS (ss : List Str) (k : Nat) (s : Str) : Prop := ∀ j, j < k → ∀ s', ss[j]? = some s' → (s'.name.toList == s.name.toList) = false
def StrsReq (gs : List Gly) (ss : List Str) : Prop := ∀ k s, ss[k]? = some s → StrReq gs s ∧ freshS ss k s
/-- A font is valid. -/
def ValidF (F : Fnt) : Prop := F.gs.length ≤ 400 ∧ F.ss.length ≤ 40 ∧ prmOk F = true ∧ GlysOk F.gs ∧ StrsReq F.gs F.ss

end Go.Proofs.Ytgpabckipmhobaa
namespace Go.Proofs.Ytgpabckipmhobaa
open Go.RowKit

theorem ref05_find (F : Fnt) (s : ByteArray) (w : World) (h : FntOk w F) (hn : F.gs.length ≤ 500) : Calls Try.prog 54 #[F.val, .string s] w (Gives (.tuple #[.agg #[.string ((findG F.gs s).getD nilG).name, .int .i64 ((findG F.gs s).getD nilG).w, .int .i64 ((findG F.gs s).getD nilG).h, .int .i64 ((findG F.gs s).getD nilG).d, .int .i64 ((findG F.gs s).getD nilG).it, .int .i64 ((findG F.gs s).getD nilG).at_], .bool (findG F.gs s).isSome]) w) := by
  rw [← findVal_any]
  exact ref05_Find_calls _ _ _ _ _ _ _ _ _ _ _ _ _ _ _ _ _ _ _ _ _ _ F.gs s w (by omega) h.glysAt

end Go.Proofs.Ytgpabckipmhobaa
