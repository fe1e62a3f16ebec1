/- A stretch, in the reference: is it as required? -/
import Derived.Test.YtgpabckipmhobaaK07
namespace Go.Proofs.Ytgpabckipmhobaa
open Go.RowKit

attribute [local irreducible] wpQuiet wpG wpP wpList Code.wp

instance ot_bool : OneTy Try.prog 4 := ⟨⟨_, Try.underlying4, rfl⟩, by kernel_rfl⟩

theorem ref05_Height_v {g : Gly} {w : World} (h : -40000 ≤ g.h + g.d ∧ g.h + g.d ≤ 40000) : Calls Try.prog 55 #[.agg #[.string g.name, .int .i64 g.w, .int .i64 g.h, .int .i64 g.d, .int .i64 g.it, .int .i64 g.at_]] w (Gives (.int .i64 (g.h + g.d)) w) := by
  go_enter Try.func55, Try.ntmps55
  have hS := own_start w
  go_wp2_with (first | (refine own_unguard (by rfl) ?_) | (refine w_ld rfl _ rfl (by rfl) (by first | exact rd_1 (by repeat constructor) (by first | rfl | assumption) | exact rd_w (by repeat constructor) (by rfl) | exact rd_o (by assumption) (by rfl) (by first | exact nmn | assumption | simp) | exact rd_h (by assumption) (by rfl) (by first | exact nmn | assumption | simp) | exact rd_1o (by assumption) (by first | exact nmn | assumption | simp) | exact rd_1h (by assumption) (by first | rfl | assumption) (by first | exact nmn | assumption | simp)) hS ?_) | (refine own_box rfl _ _ rfl (by rfl) hS ?_; clear hS; (try clear ww); intro bb ww hS) | (refine w_al rfl rfl hS ?_; clear hS; (try clear ww); intro bb ww hS) | (refine w_st rfl _ _ rfl (by rfl) (by rfl) (by repeat constructor) (by rfl) (by rfl) (by first | rfl | assumption) hS ?_; clear hS; (try clear ww); intro ww hS) | (refine w_s1 rfl _ _ rfl (by rfl) (by repeat constructor) (by first | exact .c | exact .t rfl) (by rfl) (by repeat constructor) hS ?_; clear hS; (try clear ww); intro ww hS))
  go_ret
  exact ⟨ret_int (by simp), hS.below⟩

theorem find_mem {gs : List Gly} {s : ByteArray} {g : Gly} (h : findG gs s = some g) : g ∈ gs := List.mem_of_find?_eq_some h
theorem height_bd {g : Gly} (h : metricsOk g = true) : -40000 ≤ g.h + g.d ∧ g.h + g.d ≤ 40000 := by
  have := metricsOk_bd h
  omega
theorem sizes_next {gs : List Gly} {sz : List ByteArray} {k : Nat} {n : ByteArray} (h : Hid (∀ j, j < k → ∀ n, sz[j]? = some n → SizeOk gs sz j n)) (hn : sz[k]? = some n) (h1 : SizeOk gs sz k n) : ∀ j, j < k + 1 → ∀ n, sz[j]? = some n → SizeOk gs sz j n := by
  intro j hj n' hn'
  by_cases he : j = k
  · subst he
    rw [hn] at hn'
    cases hn'
    exact h1
  · exact h.out j (by omega) n' hn'
theorem parts_next {gs : List Gly} {ps : List Prt} {ov : Int} {k : Nat} {p : Prt} (h : Hid (∀ j, j < k → ∀ p, ps[j]? = some p → PartOk gs ov p)) (hn : ps[k]? = some p) (h1 : PartOk gs ov p) : ∀ j, j < k + 1 → ∀ p, ps[j]? = some p → PartOk gs ov p := by
  intro j hj n' hn'
  by_cases he : j = k
  · subst he
    rw [hn] at hn'
    cases hn'
    exact h1
  · exact h.out j (by omega) n' hn'
theorem any_take {ps : List Prt} {k : Nat} {p : Prt} (h : ps[k]? = some p) : (ps.take (k + 1)).any (fun p => p.ext) = ((ps.take k).any (fun p => p.ext) || p.ext) := by
  rw [List.take_add_one, h]
  simp
/-- The height of the size ahead. -/
def lastIs (gs : List Gly) (sz : List ByteArray) (k : Nat) (lst : Int) : Prop := ∀ m n' g', k = m + 1 → sz[m]? = some n' → findG gs n' = some g' → g'.h + g'.d = lst
theorem lastIs_next {gs : List Gly} {sz : List ByteArray} {k : Nat} {n : ByteArray} {g : Gly} (hn : sz[k]? = some n) (hg : findG gs n = some g) : lastIs gs sz (k + 1) (g.h + g.d) := by
  intro m n' g' hk hn' hg'
  obtain rfl : k = m := by omega
  rw [hn] at hn'; cases hn'
  rw [hg] at hg'; cases hg'
  rfl

section
variable {gs : List Gly} {s : Str} {b : Bool}
theorem StrReq.no_name (hb : Hid (b = true ↔ StrReq gs s)) (h : nameOk s.name = false) : false = b := by
  cases b
  · rfl
  · have := (hb.out.1 rfl).1; rw [h] at this; cases this
theorem StrReq.no_len (hb : Hid (b = true ↔ StrReq gs s)) (h : s.sizes.length < 1 ∨ 16 < s.sizes.length ∨ 8 < s.parts.length) : false = b := by
  cases b
  · rfl
  · have := hb.out.1 rfl; obtain ⟨_, h1, h2, h3, _⟩ := this; omega
theorem StrReq.no_find (hb : Hid (b = true ↔ StrReq gs s)) {k : Nat} {n : ByteArray} (hn : s.sizes[k]? = some n) (h : findG gs n = none) : false = b := by
  cases b
  · rfl
  · obtain ⟨g, hg, _⟩ := (hb.out.1 rfl).2.2.2.2.1 k n hn
    rw [h] at hg; cases hg
theorem StrReq.no_rise (hb : Hid (b = true ↔ StrReq gs s)) {k m : Nat} {n n' : ByteArray} {g g' : Gly} (hn : s.sizes[k]? = some n) (hg : findG gs n = some g) (hk : k = m + 1) (hn' : s.sizes[m]? = some n') (hg' : findG gs n' = some g') (h : g.h + g.d ≤ g'.h + g'.d) : false = b := by
  cases b
  · rfl
  · obtain ⟨g2, hg2, h2⟩ := (hb.out.1 rfl).2.2.2.2.1 k n hn
    rw [hg] at hg2; cases hg2
    have := h2 m n' g' hk hn' hg'
    omega
theorem StrReq.no_part (hb : Hid (b = true ↔ StrReq gs s)) {k : Nat} {p : Prt} (hp : s.parts[k]? = some p) (h : ¬ PartOk gs s.ov p) : false = b := by
  cases b
  · rfl
  · rcases (hb.out.1 rfl).2.2.2.2.2 with ⟨h1, _⟩ | ⟨_, h1, _⟩
    · rw [h1] at hp; simp at hp
    · exact absurd (h1 p (List.mem_of_getElem? hp)) h
theorem StrReq.nil_ (hb : Hid (b = true ↔ StrReq gs s)) (h1 : nameOk s.name = true) (h2 : 1 ≤ s.sizes.length ∧ s.sizes.length ≤ 16 ∧ s.parts.length ≤ 8) (h3 : ∀ k n, s.sizes[k]? = some n → SizeOk gs s.sizes k n) (hp : s.parts = []) : decide (s.ov = 0) = b := by
  by_cases h : s.ov = 0
  · rw [hb.out.2 ⟨h1, h2.1, h2.2.1, h2.2.2, h3, .inl ⟨hp, h⟩⟩]; simp [h]
  · cases b
    · simp [h]
    · rcases (hb.out.1 rfl).2.2.2.2.2 with ⟨_, h4⟩ | ⟨h4, _⟩
      · exact absurd h4 h
      · exact absurd hp h4
theorem StrReq.end_ (hb : Hid (b = true ↔ StrReq gs s)) (h1 : nameOk s.name = true) (h2 : 1 ≤ s.sizes.length ∧ s.sizes.length ≤ 16 ∧ s.parts.length ≤ 8) (h3 : ∀ k n, s.sizes[k]? = some n → SizeOk gs s.sizes k n) (hp : s.parts ≠ []) (h4 : ∀ (k : Nat) (p : Prt), s.parts[k]? = some p → PartOk gs s.ov p) :
    ((s.parts.any fun p => p.ext) && decide (0 ≤ s.ov)) = b := by
  have h4' : ∀ p ∈ s.parts, PartOk gs s.ov p := fun p hp => by
    obtain ⟨k, hk⟩ := List.mem_iff_getElem?.1 hp
    exact h4 k p hk
  by_cases h : (s.parts.any fun p => p.ext) = true ∧ 0 ≤ s.ov
  · rw [hb.out.2 ⟨h1, h2.1, h2.2.1, h2.2.2, h3, .inr ⟨hp, h4', h.1, h.2⟩⟩, h.1]; simp [h.2]
  · cases b
    · by_cases e : (s.parts.any fun p => p.ext) = true
      · have : ¬ 0 ≤ s.ov := fun h' => h ⟨e, h'⟩
        simp [this]
      · have e' : (s.parts.any fun p => p.ext) = false := by simpa using e
        rw [e']; rfl
    · rcases (hb.out.1 rfl).2.2.2.2.2 with ⟨h5, _⟩ | ⟨_, _, h5⟩
      · exact absurd h5 hp
      · exact absurd h5 h
end

set_option maxHeartbeats 8000000 in
set_option maxRecDepth 100000 in
theorem ref05_stretch_calls (F : Fnt) (n : ByteArray) (sx px : Option Addr) (sc pc : Nat) (sz : List ByteArray) (ps : List Prt) (ov : Int) (w : World) (hF : FntOk w F) (hq : F.gs.length ≤ 500) (hM : ∀ g ∈ F.gs, metricsOk g = true) (hs : StrOk w ⟨n, sx, sc, sz, px, pc, ps, ov⟩) (b : Bool) (hb : b = true ↔ StrReq F.gs ⟨n, sx, sc, sz, px, pc, ps, ov⟩) :
    Calls Try.prog 32 #[F.val, .agg #[.string n, .slice sx sz.length sc, .slice px ps.length pc, .int .i64 ov]] w (Gives (.bool b) w) := by
  have HF := Lib.hid hF
  have HQ := Lib.hid hq
  have HM := Lib.hid hM
  have HS := Lib.hid hs
  have HB := Lib.hid hb
  have hsz := Lib.hid hs.nameLen
  have hl1 : sz.length ≤ 9223372036854775807 := by have := hs.sizesLen; simp only [maxLen] at this; omega
  have hl2 : ps.length ≤ 9223372036854775807 := by have := hs.partsLen; simp only [maxLen] at this; omega
  clear hF hq hM hs hb
  cases h1 : nameOk n
  · have H1 := Lib.hid h1
    have E1 := Lib.hid (StrReq.no_name HB h1)
    clear h1
    go_enter Try.func32, Try.ntmps32
    have hS := own_start w
    go_wp2_with (first | (refine own_unguard (by rfl) ?_) | (go_at_call 52; refine own_callsS hS (ref05_Name_v hsz.out H1) ?_) | (refine w_ld rfl _ rfl (by rfl) (by first | exact rd_1 (by repeat constructor) (by first | rfl | assumption) | exact rd_w (by repeat constructor) (by rfl) | exact rd_o (by assumption) (by rfl) (by first | exact nmn | assumption | simp) | exact rd_h (by assumption) (by rfl) (by first | exact nmn | assumption | simp) | exact rd_1o (by assumption) (by first | exact nmn | assumption | simp) | exact rd_1h (by assumption) (by first | rfl | assumption) (by first | exact nmn | assumption | simp)) hS ?_) | (refine own_box rfl _ _ rfl (by rfl) hS ?_; clear hS; (try clear ww); intro bb ww hS) | (refine w_al rfl rfl hS ?_; clear hS; (try clear ww); intro bb ww hS) | (refine w_st rfl _ _ rfl (by rfl) (by rfl) (by repeat constructor) (by rfl) (by rfl) (by first | rfl | assumption) hS ?_; clear hS; (try clear ww); intro ww hS) | (refine w_s1 rfl _ _ rfl (by rfl) (by repeat constructor) (by first | exact .c | exact .t rfl) (by rfl) (by repeat constructor) hS ?_; clear hS; (try clear ww); intro ww hS))
    go_ret
    exact ⟨ret_bool E1.out, hS.below⟩
  have H1 := Lib.hid h1
  clear h1
  by_cases g1 : sz.length < 1 ∨ 16 < sz.length ∨ 8 < ps.length
  · have E1 := Lib.hid (StrReq.no_len HB g1)
    by_cases g2 : sz.length < 1
    · have d2 : sz = [] := List.length_eq_zero_iff.1 (by omega)
      subst d2
      clear g1 g2
      go_enter Try.func32, Try.ntmps32
      have hS := own_start w
      go_wp2_with (first | (refine own_unguard (by rfl) ?_) | (go_at_call 52; refine own_callsS hS (ref05_Name_v hsz.out H1) ?_) | (refine w_ld rfl _ rfl (by rfl) (by first | exact rd_1 (by repeat constructor) (by first | rfl | assumption) | exact rd_w (by repeat constructor) (by rfl) | exact rd_o (by assumption) (by rfl) (by first | exact nmn | assumption | simp) | exact rd_h (by assumption) (by rfl) (by first | exact nmn | assumption | simp) | exact rd_1o (by assumption) (by first | exact nmn | assumption | simp) | exact rd_1h (by assumption) (by first | rfl | assumption) (by first | exact nmn | assumption | simp)) hS ?_) | (refine own_box rfl _ _ rfl (by rfl) hS ?_; clear hS; (try clear ww); intro bb ww hS) | (refine w_al rfl rfl hS ?_; clear hS; (try clear ww); intro bb ww hS) | (refine w_st rfl _ _ rfl (by rfl) (by rfl) (by repeat constructor) (by rfl) (by rfl) (by first | rfl | assumption) hS ?_; clear hS; (try clear ww); intro ww hS) | (refine w_s1 rfl _ _ rfl (by rfl) (by repeat constructor) (by first | exact .c | exact .t rfl) (by rfl) (by repeat constructor) hS ?_; clear hS; (try clear ww); intro ww hS))
      go_ret
      exact ⟨ret_bool E1.out, hS.below⟩
    · by_cases g3 : 16 < sz.length
      · have d1 : decide ((sz.length : Int) < 1) = false := by simp; omega
        have d3 : decide ((16 : Int) < (sz.length : Int)) = true := by simp; omega
        clear g1 g2
        go_enter Try.func32, Try.ntmps32
        have hS := own_start w
        go_wp2_with (first | (refine own_unguard (by rfl) ?_) | (go_at_call 52; refine own_callsS hS (ref05_Name_v hsz.out H1) ?_) | (refine w_ld rfl _ rfl (by rfl) (by first | exact rd_1 (by repeat constructor) (by first | rfl | assumption) | exact rd_w (by repeat constructor) (by rfl) | exact rd_o (by assumption) (by rfl) (by first | exact nmn | assumption | simp) | exact rd_h (by assumption) (by rfl) (by first | exact nmn | assumption | simp) | exact rd_1o (by assumption) (by first | exact nmn | assumption | simp) | exact rd_1h (by assumption) (by first | rfl | assumption) (by first | exact nmn | assumption | simp)) hS ?_) | (refine own_box rfl _ _ rfl (by rfl) hS ?_; clear hS; (try clear ww); intro bb ww hS) | (refine w_al rfl rfl hS ?_; clear hS; (try clear ww); intro bb ww hS) | (refine w_st rfl _ _ rfl (by rfl) (by rfl) (by repeat constructor) (by rfl) (by rfl) (by first | rfl | assumption) hS ?_; clear hS; (try clear ww); intro ww hS) | (refine w_s1 rfl _ _ rfl (by rfl) (by repeat constructor) (by first | exact .c | exact .t rfl) (by rfl) (by repeat constructor) hS ?_; clear hS; (try clear ww); intro ww hS))
        go_ret
        exact ⟨ret_bool E1.out, hS.below⟩
      · have d1 : decide ((sz.length : Int) < 1) = false := by simp; omega
        have d3 : decide ((16 : Int) < (sz.length : Int)) = false := by simp; omega
        have d4 : decide ((8 : Int) < (ps.length : Int)) = true := by simp; omega
        clear g1 g2
        go_enter Try.func32, Try.ntmps32
        have hS := own_start w
        go_wp2_with (first | (refine own_unguard (by rfl) ?_) | (go_at_call 52; refine own_callsS hS (ref05_Name_v hsz.out H1) ?_) | (refine w_ld rfl _ rfl (by rfl) (by first | exact rd_1 (by repeat constructor) (by first | rfl | assumption) | exact rd_w (by repeat constructor) (by rfl) | exact rd_o (by assumption) (by rfl) (by first | exact nmn | assumption | simp) | exact rd_h (by assumption) (by rfl) (by first | exact nmn | assumption | simp) | exact rd_1o (by assumption) (by first | exact nmn | assumption | simp) | exact rd_1h (by assumption) (by first | rfl | assumption) (by first | exact nmn | assumption | simp)) hS ?_) | (refine own_box rfl _ _ rfl (by rfl) hS ?_; clear hS; (try clear ww); intro bb ww hS) | (refine w_al rfl rfl hS ?_; clear hS; (try clear ww); intro bb ww hS) | (refine w_st rfl _ _ rfl (by rfl) (by rfl) (by repeat constructor) (by rfl) (by rfl) (by first | rfl | assumption) hS ?_; clear hS; (try clear ww); intro ww hS) | (refine w_s1 rfl _ _ rfl (by rfl) (by repeat constructor) (by first | exact .c | exact .t rfl) (by rfl) (by repeat constructor) hS ?_; clear hS; (try clear ww); intro ww hS))
        go_ret
        exact ⟨ret_bool E1.out, hS.below⟩
  have HG := Lib.hid (show 1 ≤ sz.length ∧ sz.length ≤ 16 ∧ ps.length ≤ 8 by omega)
  have d1 : decide ((sz.length : Int) < 1) = false := by simp; omega
  have d3 : decide ((16 : Int) < (sz.length : Int)) = false := by simp; omega
  have d4 : decide ((8 : Int) < (ps.length : Int)) = false := by simp; omega
  clear g1
  go_enter Try.func32, Try.ntmps32
  have hS := own_start w
  go_wp2_with (first | (refine own_unguard (by rfl) ?_) | (go_at_call 52; refine own_callsS hS (ref05_Name_v hsz.out H1) ?_) | (refine w_ld rfl _ rfl (by rfl) (by first | exact rd_1 (by repeat constructor) (by first | rfl | assumption) | exact rd_w (by repeat constructor) (by rfl) | exact rd_o (by assumption) (by rfl) (by first | exact nmn | assumption | simp) | exact rd_h (by assumption) (by rfl) (by first | exact nmn | assumption | simp) | exact rd_1o (by assumption) (by first | exact nmn | assumption | simp) | exact rd_1h (by assumption) (by first | rfl | assumption) (by first | exact nmn | assumption | simp)) hS ?_) | (refine own_box rfl _ _ rfl (by rfl) hS ?_; clear hS; (try clear ww); intro bb ww hS) | (refine w_al rfl rfl hS ?_; clear hS; (try clear ww); intro bb ww hS) | (refine w_st rfl _ _ rfl (by rfl) (by rfl) (by repeat constructor) (by rfl) (by rfl) (by first | rfl | assumption) hS ?_; clear hS; (try clear ww); intro ww hS) | (refine w_s1 rfl _ _ rfl (by rfl) (by repeat constructor) (by first | exact .c | exact .t rfl) (by rfl) (by repeat constructor) hS ?_; clear hS; (try clear ww); intro ww hS))
  clear d1 d3 d4
  obtain ⟨L0, HL, hS⟩ := hS.named
  go_loopw [5, 6] (fun l i wr => ∃ (k : Nat) (lst : Int), k ≤ sz.length ∧ i = .int .i64 k ∧ l = .int .i64 lst ∧ (∀ j, j < k → ∀ n, sz[j]? = some n → SizeOk F.gs sz j n) ∧ lastIs F.gs sz k lst ∧ (-40000 ≤ lst ∧ lst ≤ 40000) ∧ Own [] w L0 wr) (fun _ i _ => sz.length - (intOf i).toNat)
  case atStart => exact ⟨0, 0, Nat.zero_le _, rfl, rfl, fun j hj => absurd hj (Nat.not_lt_zero j), fun m _ _ h => absurd h (by omega), by omega, hS⟩
  case round =>
    clear hS
    obtain ⟨k, lst, hk, rfl, rfl, hp, hla, hlb, hS⟩ := hrel
    have HP := Lib.hid hp
    have HLa := Lib.hid hla
    clear hp hla
    by_cases hlt : k < sz.length
    · obtain ⟨z, hz⟩ : ∃ z, sz[k]? = some z := ⟨sz[k], by simp [hlt]⟩
      obtain ⟨b1, o1, hx, r1⟩ := HS.out.sizes.get hz
      obtain rfl : sx = some ⟨b1, o1, none⟩ := hx
      obtain rfl := HL.out
      clear HL
      have HZ := Lib.hid hz
      have c1 : w.cell? ⟨b1, o1 + k, none⟩ = some (.string z) := by have := r1 0 _ rfl; simpa using this
      clear hz r1
      cases hf : findG F.gs z with
      | none =>
        have E1 := Lib.hid (StrReq.no_find HB HZ.out hf)
        have HC := Lib.hid (show ∀ w', FntOk w' F → Calls Try.prog 54 #[F.val, .string z] w' (Gives (.tuple #[.agg #[.string ⟨#[]⟩, .int .i64 0, .int .i64 0, .int .i64 0, .int .i64 0, .int .i64 0], .bool false]) w') from fun w' h => by have := ref05_find F z w' h HQ.out; rw [hf] at this; exact this)
        clear hf
        go_wp2_with (first | (refine own_unguard (by rfl) ?_) | (refine w_ld rfl _ rfl (by rfl) (by first | exact rd_1 (by repeat constructor) (by first | rfl | assumption) | exact rd_w (by repeat constructor) (by rfl) | exact rd_o (by assumption) (by rfl) (by first | exact nmn | assumption | simp) | exact rd_h (by assumption) (by rfl) (by first | exact nmn | assumption | simp) | exact rd_1o (by assumption) (by first | exact nmn | assumption | simp) | exact rd_1h (by assumption) (by first | rfl | assumption) (by first | exact nmn | assumption | simp)) hS ?_) | (refine own_box rfl _ _ rfl (by rfl) hS ?_; clear hS; (try clear ww); intro bb ww hS) | (refine w_al rfl rfl hS ?_; clear hS; (try clear ww); intro bb ww hS) | (refine w_st rfl _ _ rfl (by rfl) (by rfl) (by repeat constructor) (by rfl) (by rfl) (by first | rfl | assumption) hS ?_; clear hS; (try clear ww); intro ww hS) | (refine w_s1 rfl _ _ rfl (by rfl) (by repeat constructor) (by first | exact .c | exact .t rfl) (by rfl) (by repeat constructor) hS ?_; clear hS; (try clear ww); intro ww hS))
        refine own_float hS 7 10 [.string ⟨#[]⟩, .int .i64 0, .int .i64 0, .int .i64 0, .int .i64 0, .int .i64 0] 55 (by kernel_rfl) (by kernel_rfl) rfl (fun _ _ _ _ _ h => h) (fun a w => by go_simp) (fun C hC => ?_)
        (try simp only); (try simp only [List.drop_succ_cons]); (try simp only [List.drop_zero]); (try simp only [List.take_succ_cons]); (try simp only [List.take_zero])
        repeat (first
            | (first | (refine g_plain rfl ?_) | (refine g_yes rfl rfl rfl (by simp only [List.getElem?_toArray, List.getElem?_cons_succ, List.getElem?_cons_zero]; rfl) (by with_reducible constructor) ?_)
               apply Exists.intro; refine ⟨?_, ?_⟩
               focus (intro wq hq0; have hq := hC wq hq0; first | (exact givesAt_rd rfl (by rfl) (by first | exact rd_1 (by repeat constructor) (by first | rfl | assumption) | exact rd_w (by repeat constructor) (by rfl) | exact rd_o (by assumption) (by rfl) (by first | exact nmn | assumption | simp) | exact rd_h (by assumption) (by rfl) (by first | exact nmn | assumption | simp) | exact rd_1o (by assumption) (by first | exact nmn | assumption | simp) | exact rd_1h (by assumption) (by first | rfl | assumption) (by first | exact nmn | assumption | simp)) hq) | (go_simp; first | (go_at_call 54; exact HC.out _ (HF.out.below hq.below)) | (with_reducible rfl)))
               simp only [Act.put, List.setIfInBounds_toArray, List.set_cons_zero, List.set_cons_succ])
            | (refine g_no rfl rfl rfl (by simp only [List.getElem?_toArray, List.getElem?_cons_succ, List.getElem?_cons_zero]; rfl) (by with_reducible constructor) ?_; simp only [Act.put, List.setIfInBounds_toArray, List.set_cons_zero, List.set_cons_succ]))
        refine g_nil ?_
        repeat
          refine p_plain (by with_reducible rfl) ?_
          apply Exists.intro
          refine ⟨?_, ?_⟩
          focus (intro wq; go_simp; with_reducible rfl)
          simp only [Act.put, List.setIfInBounds_toArray, List.set_cons_zero, List.set_cons_succ]
        refine p_nil ?_
        clear hS hC
        intro bb ww hS
        go_wp2_with (first | (refine own_unguard (by rfl) ?_) | (refine w_ld rfl _ rfl (by rfl) (by first | exact rd_1 (by repeat constructor) (by first | rfl | assumption) | exact rd_w (by repeat constructor) (by rfl) | exact rd_o (by assumption) (by rfl) (by first | exact nmn | assumption | simp) | exact rd_h (by assumption) (by rfl) (by first | exact nmn | assumption | simp) | exact rd_1o (by assumption) (by first | exact nmn | assumption | simp) | exact rd_1h (by assumption) (by first | rfl | assumption) (by first | exact nmn | assumption | simp)) hS ?_) | (refine own_box rfl _ _ rfl (by rfl) hS ?_; clear hS; (try clear ww); intro bb ww hS) | (refine w_al rfl rfl hS ?_; clear hS; (try clear ww); intro bb ww hS) | (refine w_st rfl _ _ rfl (by rfl) (by rfl) (by repeat constructor) (by rfl) (by rfl) (by first | rfl | assumption) hS ?_; clear hS; (try clear ww); intro ww hS) | (refine w_s1 rfl _ _ rfl (by rfl) (by repeat constructor) (by first | exact .c | exact .t rfl) (by rfl) (by repeat constructor) hS ?_; clear hS; (try clear ww); intro ww hS))
        go_ret
        exact ⟨ret_bool E1.out, hS.below⟩
      | some g =>
        have HFg := Lib.hid hf
        have HH := Lib.hid (height_bd (HM.out g (find_mem hf)))
        have HC := Lib.hid (show ∀ w', FntOk w' F → Calls Try.prog 54 #[F.val, .string z] w' (Gives (.tuple #[.agg #[.string g.name, .int .i64 g.w, .int .i64 g.h, .int .i64 g.d, .int .i64 g.it, .int .i64 g.at_], .bool true]) w') from fun w' h => by have := ref05_find F z w' h HQ.out; rw [hf] at this; exact this)
        clear hf
        by_cases hk0 : k = 0
        · have e1 : decide (0 < (k : Int)) = false := by simp; omega
          have e2 : decide (0 < k) = false := by simp; omega
          have E2 := Lib.hid (show SizeOk F.gs sz k z from ⟨g, HFg.out, fun m _ _ h => absurd h (by omega)⟩)
          clear hk0
          go_wp2_with (first | (refine own_unguard (by rfl) ?_) | (refine w_ld rfl _ rfl (by rfl) (by first | exact rd_1 (by repeat constructor) (by first | rfl | assumption) | exact rd_w (by repeat constructor) (by rfl) | exact rd_o (by assumption) (by rfl) (by first | exact nmn | assumption | simp) | exact rd_h (by assumption) (by rfl) (by first | exact nmn | assumption | simp) | exact rd_1o (by assumption) (by first | exact nmn | assumption | simp) | exact rd_1h (by assumption) (by first | rfl | assumption) (by first | exact nmn | assumption | simp)) hS ?_) | (refine own_box rfl _ _ rfl (by rfl) hS ?_; clear hS; (try clear ww); intro bb ww hS) | (refine w_al rfl rfl hS ?_; clear hS; (try clear ww); intro bb ww hS) | (refine w_st rfl _ _ rfl (by rfl) (by rfl) (by repeat constructor) (by rfl) (by rfl) (by first | rfl | assumption) hS ?_; clear hS; (try clear ww); intro ww hS) | (refine w_s1 rfl _ _ rfl (by rfl) (by repeat constructor) (by first | exact .c | exact .t rfl) (by rfl) (by repeat constructor) hS ?_; clear hS; (try clear ww); intro ww hS))
          refine own_float hS 7 10 [.string ⟨#[]⟩, .int .i64 0, .int .i64 0, .int .i64 0, .int .i64 0, .int .i64 0] 55 (by kernel_rfl) (by kernel_rfl) rfl (fun _ _ _ _ _ h => h) (fun a w => by go_simp) (fun C hC => ?_)
          (try simp only); (try simp only [List.drop_succ_cons]); (try simp only [List.drop_zero]); (try simp only [List.take_succ_cons]); (try simp only [List.take_zero])
          repeat (first
              | (first | (refine g_plain rfl ?_) | (refine g_yes rfl rfl rfl (by simp only [List.getElem?_toArray, List.getElem?_cons_succ, List.getElem?_cons_zero]; rfl) (by with_reducible constructor) ?_)
                 apply Exists.intro; refine ⟨?_, ?_⟩
                 focus (intro wq hq0; have hq := hC wq hq0; first | (exact givesAt_rd rfl (by rfl) (by first | exact rd_1 (by repeat constructor) (by first | rfl | assumption) | exact rd_w (by repeat constructor) (by rfl) | exact rd_o (by assumption) (by rfl) (by first | exact nmn | assumption | simp) | exact rd_h (by assumption) (by rfl) (by first | exact nmn | assumption | simp) | exact rd_1o (by assumption) (by first | exact nmn | assumption | simp) | exact rd_1h (by assumption) (by first | rfl | assumption) (by first | exact nmn | assumption | simp)) hq) | (go_simp; first | (go_at_call 54; exact HC.out _ (HF.out.below hq.below)) | (with_reducible rfl)))
                 simp only [Act.put, List.setIfInBounds_toArray, List.set_cons_zero, List.set_cons_succ])
              | (refine g_no rfl rfl rfl (by simp only [List.getElem?_toArray, List.getElem?_cons_succ, List.getElem?_cons_zero]; rfl) (by with_reducible constructor) ?_; simp only [Act.put, List.setIfInBounds_toArray, List.set_cons_zero, List.set_cons_succ]))
          refine g_nil ?_
          repeat
            refine p_plain (by with_reducible rfl) ?_
            apply Exists.intro
            refine ⟨?_, ?_⟩
            focus (intro wq; go_simp; with_reducible rfl)
            simp only [Act.put, List.setIfInBounds_toArray, List.set_cons_zero, List.set_cons_succ]
          refine p_nil ?_
          clear hS hC
          intro bb ww hS
          go_wp2_with (first | (refine own_unguard (by rfl) ?_) | (go_at_call 55; refine own_calls hS (ref05_Height_v (g := g) HH.out) ?_; clear hS; (try clear ww); intro ww hS) | (refine w_ld rfl _ rfl (by rfl) (by first | exact rd_1 (by repeat constructor) (by first | rfl | assumption) | exact rd_w (by repeat constructor) (by rfl) | exact rd_o (by assumption) (by rfl) (by first | exact nmn | assumption | simp) | exact rd_h (by assumption) (by rfl) (by first | exact nmn | assumption | simp) | exact rd_1o (by assumption) (by first | exact nmn | assumption | simp) | exact rd_1h (by assumption) (by first | rfl | assumption) (by first | exact nmn | assumption | simp)) hS ?_) | (refine own_box rfl _ _ rfl (by rfl) hS ?_; clear hS; (try clear ww); intro bb ww hS) | (refine w_al rfl rfl hS ?_; clear hS; (try clear ww); intro bb ww hS) | (refine w_st rfl _ _ rfl (by rfl) (by rfl) (by repeat constructor) (by rfl) (by rfl) (by first | rfl | assumption) hS ?_; clear hS; (try clear ww); intro ww hS) | (refine w_s1 rfl _ _ rfl (by rfl) (by repeat constructor) (by first | exact .c | exact .t rfl) (by rfl) (by repeat constructor) hS ?_; clear hS; (try clear ww); intro ww hS))
          go_roundw
          case rel => exact ⟨k + 1, g.h + g.d, hlt, by go_num, rfl, sizes_next HP HZ.out E2.out, lastIs_next HZ.out HFg.out, HH.out, hS.forget (by simp)⟩
          case measure => exact loop_meas hlt
        · have e1 : decide (0 < (k : Int)) = true := by simp; omega
          have e2 : decide (0 < k) = true := by simp; omega
          obtain ⟨m, hkm⟩ : ∃ m, k = m + 1 := ⟨k - 1, by omega⟩
          obtain ⟨z', hz'⟩ : ∃ z', sz[m]? = some z' := ⟨sz[m]'(by omega), by simp⟩
          obtain ⟨g', hg', _⟩ := HP.out m (by omega) z' hz'
          have hlst := HLa.out m z' g' hkm hz' hg'
          by_cases hcmp : g.h + g.d ≤ lst
          · have e3 : decide (g.h + g.d ≤ lst) = true := by simpa using hcmp
            have E1 := Lib.hid (StrReq.no_rise HB HZ.out HFg.out hkm hz' hg' (by omega))
            clear hk0 hkm hz' hg' hlst hcmp
            go_wp2_with (first | (refine own_unguard (by rfl) ?_) | (refine w_ld rfl _ rfl (by rfl) (by first | exact rd_1 (by repeat constructor) (by first | rfl | assumption) | exact rd_w (by repeat constructor) (by rfl) | exact rd_o (by assumption) (by rfl) (by first | exact nmn | assumption | simp) | exact rd_h (by assumption) (by rfl) (by first | exact nmn | assumption | simp) | exact rd_1o (by assumption) (by first | exact nmn | assumption | simp) | exact rd_1h (by assumption) (by first | rfl | assumption) (by first | exact nmn | assumption | simp)) hS ?_) | (refine own_box rfl _ _ rfl (by rfl) hS ?_; clear hS; (try clear ww); intro bb ww hS) | (refine w_al rfl rfl hS ?_; clear hS; (try clear ww); intro bb ww hS) | (refine w_st rfl _ _ rfl (by rfl) (by rfl) (by repeat constructor) (by rfl) (by rfl) (by first | rfl | assumption) hS ?_; clear hS; (try clear ww); intro ww hS) | (refine w_s1 rfl _ _ rfl (by rfl) (by repeat constructor) (by first | exact .c | exact .t rfl) (by rfl) (by repeat constructor) hS ?_; clear hS; (try clear ww); intro ww hS))
            refine own_float hS 7 10 [.string ⟨#[]⟩, .int .i64 0, .int .i64 0, .int .i64 0, .int .i64 0, .int .i64 0] 55 (by kernel_rfl) (by kernel_rfl) rfl (fun _ _ _ _ _ h => h) (fun a w => by go_simp) (fun C hC => ?_)
            (try simp only); (try simp only [List.drop_succ_cons]); (try simp only [List.drop_zero]); (try simp only [List.take_succ_cons]); (try simp only [List.take_zero])
            repeat (first
                | (first | (refine g_plain rfl ?_) | (refine g_yes rfl rfl rfl (by simp only [List.getElem?_toArray, List.getElem?_cons_succ, List.getElem?_cons_zero]; rfl) (by with_reducible constructor) ?_)
                   apply Exists.intro; refine ⟨?_, ?_⟩
                   focus (intro wq hq0; have hq := hC wq hq0; first | (exact givesAt_rd rfl (by rfl) (by first | exact rd_1 (by repeat constructor) (by first | rfl | assumption) | exact rd_w (by repeat constructor) (by rfl) | exact rd_o (by assumption) (by rfl) (by first | exact nmn | assumption | simp) | exact rd_h (by assumption) (by rfl) (by first | exact nmn | assumption | simp) | exact rd_1o (by assumption) (by first | exact nmn | assumption | simp) | exact rd_1h (by assumption) (by first | rfl | assumption) (by first | exact nmn | assumption | simp)) hq) | (go_simp; first | (go_at_call 54; exact HC.out _ (HF.out.below hq.below)) | (with_reducible rfl)))
                   simp only [Act.put, List.setIfInBounds_toArray, List.set_cons_zero, List.set_cons_succ])
                | (refine g_no rfl rfl rfl (by simp only [List.getElem?_toArray, List.getElem?_cons_succ, List.getElem?_cons_zero]; rfl) (by with_reducible constructor) ?_; simp only [Act.put, List.setIfInBounds_toArray, List.set_cons_zero, List.set_cons_succ]))
            refine g_nil ?_
            repeat
              refine p_plain (by with_reducible rfl) ?_
              apply Exists.intro
              refine ⟨?_, ?_⟩
              focus (intro wq; go_simp; with_reducible rfl)
              simp only [Act.put, List.setIfInBounds_toArray, List.set_cons_zero, List.set_cons_succ]
            refine p_nil ?_
            clear hS hC
            intro bb ww hS
            go_wp2_with (first | (refine own_unguard (by rfl) ?_) | (go_at_call 55; refine own_calls hS (ref05_Height_v (g := g) HH.out) ?_; clear hS; (try clear ww); intro ww hS) | (refine w_ld rfl _ rfl (by rfl) (by first | exact rd_1 (by repeat constructor) (by first | rfl | assumption) | exact rd_w (by repeat constructor) (by rfl) | exact rd_o (by assumption) (by rfl) (by first | exact nmn | assumption | simp) | exact rd_h (by assumption) (by rfl) (by first | exact nmn | assumption | simp) | exact rd_1o (by assumption) (by first | exact nmn | assumption | simp) | exact rd_1h (by assumption) (by first | rfl | assumption) (by first | exact nmn | assumption | simp)) hS ?_) | (refine own_box rfl _ _ rfl (by rfl) hS ?_; clear hS; (try clear ww); intro bb ww hS) | (refine w_al rfl rfl hS ?_; clear hS; (try clear ww); intro bb ww hS) | (refine w_st rfl _ _ rfl (by rfl) (by rfl) (by repeat constructor) (by rfl) (by rfl) (by first | rfl | assumption) hS ?_; clear hS; (try clear ww); intro ww hS) | (refine w_s1 rfl _ _ rfl (by rfl) (by repeat constructor) (by first | exact .c | exact .t rfl) (by rfl) (by repeat constructor) hS ?_; clear hS; (try clear ww); intro ww hS))
            go_ret
            exact ⟨ret_bool E1.out, hS.below⟩
          · have e3 : decide (g.h + g.d ≤ lst) = false := by simpa using hcmp
            have E2 := Lib.hid (show SizeOk F.gs sz k z from ⟨g, HFg.out, fun m' n' g2 h1 h2 h3 => by
              obtain rfl : m = m' := by omega
              rw [hz'] at h2; cases h2
              rw [hg'] at h3; cases h3
              omega⟩)
            clear hk0 hkm hz' hg' hlst hcmp
            go_wp2_with (first | (refine own_unguard (by rfl) ?_) | (refine w_ld rfl _ rfl (by rfl) (by first | exact rd_1 (by repeat constructor) (by first | rfl | assumption) | exact rd_w (by repeat constructor) (by rfl) | exact rd_o (by assumption) (by rfl) (by first | exact nmn | assumption | simp) | exact rd_h (by assumption) (by rfl) (by first | exact nmn | assumption | simp) | exact rd_1o (by assumption) (by first | exact nmn | assumption | simp) | exact rd_1h (by assumption) (by first | rfl | assumption) (by first | exact nmn | assumption | simp)) hS ?_) | (refine own_box rfl _ _ rfl (by rfl) hS ?_; clear hS; (try clear ww); intro bb ww hS) | (refine w_al rfl rfl hS ?_; clear hS; (try clear ww); intro bb ww hS) | (refine w_st rfl _ _ rfl (by rfl) (by rfl) (by repeat constructor) (by rfl) (by rfl) (by first | rfl | assumption) hS ?_; clear hS; (try clear ww); intro ww hS) | (refine w_s1 rfl _ _ rfl (by rfl) (by repeat constructor) (by first | exact .c | exact .t rfl) (by rfl) (by repeat constructor) hS ?_; clear hS; (try clear ww); intro ww hS))
            refine own_float hS 7 10 [.string ⟨#[]⟩, .int .i64 0, .int .i64 0, .int .i64 0, .int .i64 0, .int .i64 0] 55 (by kernel_rfl) (by kernel_rfl) rfl (fun _ _ _ _ _ h => h) (fun a w => by go_simp) (fun C hC => ?_)
            (try simp only); (try simp only [List.drop_succ_cons]); (try simp only [List.drop_zero]); (try simp only [List.take_succ_cons]); (try simp only [List.take_zero])
            repeat (first
                | (first | (refine g_plain rfl ?_) | (refine g_yes rfl rfl rfl (by simp only [List.getElem?_toArray, List.getElem?_cons_succ, List.getElem?_cons_zero]; rfl) (by with_reducible constructor) ?_)
                   apply Exists.intro; refine ⟨?_, ?_⟩
                   focus (intro wq hq0; have hq := hC wq hq0; first | (exact givesAt_rd rfl (by rfl) (by first | exact rd_1 (by repeat constructor) (by first | rfl | assumption) | exact rd_w (by repeat constructor) (by rfl) | exact rd_o (by assumption) (by rfl) (by first | exact nmn | assumption | simp) | exact rd_h (by assumption) (by rfl) (by first | exact nmn | assumption | simp) | exact rd_1o (by assumption) (by first | exact nmn | assumption | simp) | exact rd_1h (by assumption) (by first | rfl | assumption) (by first | exact nmn | assumption | simp)) hq) | (go_simp; first | (go_at_call 54; exact HC.out _ (HF.out.below hq.below)) | (with_reducible rfl)))
                   simp only [Act.put, List.setIfInBounds_toArray, List.set_cons_zero, List.set_cons_succ])
                | (refine g_no rfl rfl rfl (by simp only [List.getElem?_toArray, List.getElem?_cons_succ, List.getElem?_cons_zero]; rfl) (by with_reducible constructor) ?_; simp only [Act.put, List.setIfInBounds_toArray, List.set_cons_zero, List.set_cons_succ]))
            refine g_nil ?_
            repeat
              refine p_plain (by with_reducible rfl) ?_
              apply Exists.intro
              refine ⟨?_, ?_⟩
              focus (intro wq; go_simp; with_reducible rfl)
              simp only [Act.put, List.setIfInBounds_toArray, List.set_cons_zero, List.set_cons_succ]
            refine p_nil ?_
            clear hS hC
            intro bb ww hS
            go_wp2_with (first | (refine own_unguard (by rfl) ?_) | (go_at_call 55; refine own_calls hS (ref05_Height_v (g := g) HH.out) ?_; clear hS; (try clear ww); intro ww hS) | (refine w_ld rfl _ rfl (by rfl) (by first | exact rd_1 (by repeat constructor) (by first | rfl | assumption) | exact rd_w (by repeat constructor) (by rfl) | exact rd_o (by assumption) (by rfl) (by first | exact nmn | assumption | simp) | exact rd_h (by assumption) (by rfl) (by first | exact nmn | assumption | simp) | exact rd_1o (by assumption) (by first | exact nmn | assumption | simp) | exact rd_1h (by assumption) (by first | rfl | assumption) (by first | exact nmn | assumption | simp)) hS ?_) | (refine own_box rfl _ _ rfl (by rfl) hS ?_; clear hS; (try clear ww); intro bb ww hS) | (refine w_al rfl rfl hS ?_; clear hS; (try clear ww); intro bb ww hS) | (refine w_st rfl _ _ rfl (by rfl) (by rfl) (by repeat constructor) (by rfl) (by rfl) (by first | rfl | assumption) hS ?_; clear hS; (try clear ww); intro ww hS) | (refine w_s1 rfl _ _ rfl (by rfl) (by repeat constructor) (by first | exact .c | exact .t rfl) (by rfl) (by repeat constructor) hS ?_; clear hS; (try clear ww); intro ww hS))
            go_roundw
            case rel => exact ⟨k + 1, g.h + g.d, hlt, by go_num, rfl, sizes_next HP HZ.out E2.out, lastIs_next HZ.out HFg.out, HH.out, hS.forget (by simp)⟩
            case measure => exact loop_meas hlt
    · have HA := Lib.hid (show ∀ k n, sz[k]? = some n → SizeOk F.gs sz k n from fun j n hj => HP.out j (by have := (List.getElem?_eq_some_iff.1 hj).1; omega) n hj)
      clear HP HLa
      by_cases hp0 : ps = []
      · subst hp0
        have E1 := Lib.hid (StrReq.nil_ HB H1.out HG.out HA.out rfl)
        obtain rfl := HL.out
        clear HL
        go_wp2_with (first | (refine own_unguard (by rfl) ?_) | (refine w_ld rfl _ rfl (by rfl) (by first | exact rd_1 (by repeat constructor) (by first | rfl | assumption) | exact rd_w (by repeat constructor) (by rfl) | exact rd_o (by assumption) (by rfl) (by first | exact nmn | assumption | simp) | exact rd_h (by assumption) (by rfl) (by first | exact nmn | assumption | simp) | exact rd_1o (by assumption) (by first | exact nmn | assumption | simp) | exact rd_1h (by assumption) (by first | rfl | assumption) (by first | exact nmn | assumption | simp)) hS ?_) | (refine own_box rfl _ _ rfl (by rfl) hS ?_; clear hS; (try clear ww); intro bb ww hS) | (refine w_al rfl rfl hS ?_; clear hS; (try clear ww); intro bb ww hS) | (refine w_st rfl _ _ rfl (by rfl) (by rfl) (by repeat constructor) (by rfl) (by rfl) (by first | rfl | assumption) hS ?_; clear hS; (try clear ww); intro ww hS) | (refine w_s1 rfl _ _ rfl (by rfl) (by repeat constructor) (by first | exact .c | exact .t rfl) (by rfl) (by repeat constructor) hS ?_; clear hS; (try clear ww); intro ww hS))
        go_ret
        exact ⟨ret_bool (show (ov == 0) = b from E1.out), hS.below⟩
      · have hpl : 0 < ps.length := List.length_pos_iff.2 hp0
        have e5 : ((ps.length : Int) == 0) = false := by simp; exact hp0
        have e6 : decide ((ps.length : Int) = 0) = false := by simp; exact hp0
        have HP0 := Lib.hid hp0
        clear hp0
        obtain rfl := HL.out
        clear HL
        go_wp2_with (first | (refine own_unguard (by rfl) ?_) | (refine w_ld rfl _ rfl (by rfl) (by first | exact rd_1 (by repeat constructor) (by first | rfl | assumption) | exact rd_w (by repeat constructor) (by rfl) | exact rd_o (by assumption) (by rfl) (by first | exact nmn | assumption | simp) | exact rd_h (by assumption) (by rfl) (by first | exact nmn | assumption | simp) | exact rd_1o (by assumption) (by first | exact nmn | assumption | simp) | exact rd_1h (by assumption) (by first | rfl | assumption) (by first | exact nmn | assumption | simp)) hS ?_) | (refine own_box rfl _ _ rfl (by rfl) hS ?_; clear hS; (try clear ww); intro bb ww hS) | (refine w_al rfl rfl hS ?_; clear hS; (try clear ww); intro bb ww hS) | (refine w_st rfl _ _ rfl (by rfl) (by rfl) (by repeat constructor) (by rfl) (by rfl) (by first | rfl | assumption) hS ?_; clear hS; (try clear ww); intro ww hS) | (refine w_s1 rfl _ _ rfl (by rfl) (by repeat constructor) (by first | exact .c | exact .t rfl) (by rfl) (by repeat constructor) hS ?_; clear hS; (try clear ww); intro ww hS))
        obtain ⟨L1, HL, hS⟩ := hS.named
        go_loopw [9, 10] (fun e i wr => ∃ (m : Nat) (x : Bool), m ≤ ps.length ∧ i = .int .i64 m ∧ e = .bool x ∧ (ps.take m).any (fun p => p.ext) = x ∧ (∀ j, j < m → ∀ p, ps[j]? = some p → PartOk F.gs ov p) ∧ Own [] w L1 wr) (fun _ i _ => ps.length - (intOf i).toNat)
        case atStart => exact ⟨0, false, Nat.zero_le _, rfl, rfl, rfl, fun j hj => absurd hj (Nat.not_lt_zero j), hS⟩
        case round =>
          clear hS
          obtain ⟨m, x, hm, rfl, rfl, hx, hp, hS⟩ := hrel
          have HP := Lib.hid hp
          have HX := Lib.hid hx
          clear hp hx
          obtain rfl := HL.out
          clear HL
          by_cases hlm : m < ps.length
          · obtain ⟨p, hp⟩ : ∃ p, ps[m]? = some p := ⟨ps[m], by simp [hlm]⟩
            obtain ⟨b1, o1, hx, r1⟩ := HS.out.parts.get hp
            obtain rfl : px = some ⟨b1, o1, none⟩ := hx
            have HZ := Lib.hid hp
            have c1 : w.cell? ⟨b1, o1 + m * 2, none⟩ = some (.string p.name) := r1 0 _ rfl
            have c2 : w.cell? ⟨b1, o1 + m * 2 + 1, none⟩ = some (.bool p.ext) := r1 1 _ rfl
            have HN := Lib.hid (any_take hp)
            clear hp r1
            cases hf : findG F.gs p.name with
            | none =>
              have E1 := Lib.hid (StrReq.no_part HB HZ.out (fun ⟨g, hg, _⟩ => by rw [hf] at hg; cases hg))
              have HC := Lib.hid (show ∀ w', FntOk w' F → Calls Try.prog 54 #[F.val, .string p.name] w' (Gives (.tuple #[.agg #[.string ⟨#[]⟩, .int .i64 0, .int .i64 0, .int .i64 0, .int .i64 0, .int .i64 0], .bool false]) w') from fun w' h => by have := ref05_find F p.name w' h HQ.out; rw [hf] at this; exact this)
              clear hf
              go_wp2_with (first | (refine own_unguard (by rfl) ?_) | (refine w_ld rfl _ rfl (by rfl) (by first | exact rd_1 (by repeat constructor) (by first | rfl | assumption) | exact rd_w (by repeat constructor) (by rfl) | exact rd_o (by assumption) (by rfl) (by first | exact nmn | assumption | simp) | exact rd_h (by assumption) (by rfl) (by first | exact nmn | assumption | simp) | exact rd_1o (by assumption) (by first | exact nmn | assumption | simp) | exact rd_1h (by assumption) (by first | rfl | assumption) (by first | exact nmn | assumption | simp)) hS ?_) | (refine own_box rfl _ _ rfl (by rfl) hS ?_; clear hS; (try clear ww); intro bb ww hS) | (refine w_al rfl rfl hS ?_; clear hS; (try clear ww); intro bb ww hS) | (refine w_st rfl _ _ rfl (by rfl) (by rfl) (by repeat constructor) (by rfl) (by rfl) (by first | rfl | assumption) hS ?_; clear hS; (try clear ww); intro ww hS) | (refine w_s1 rfl _ _ rfl (by rfl) (by repeat constructor) (by first | exact .c | exact .t rfl) (by rfl) (by repeat constructor) hS ?_; clear hS; (try clear ww); intro ww hS))
              refine own_float hS 8 11 [.string ⟨#[]⟩, .int .i64 0, .int .i64 0, .int .i64 0, .int .i64 0, .int .i64 0] 55 (by kernel_rfl) (by kernel_rfl) rfl (fun _ _ _ _ _ h => h) (fun a w => by go_simp) (fun C hC => ?_)
              (try simp only); (try simp only [List.drop_succ_cons]); (try simp only [List.drop_zero]); (try simp only [List.take_succ_cons]); (try simp only [List.take_zero])
              repeat (first
                  | (first | (refine g_plain rfl ?_) | (refine g_yes rfl rfl rfl (by simp only [List.getElem?_toArray, List.getElem?_cons_succ, List.getElem?_cons_zero]; rfl) (by with_reducible constructor) ?_)
                     apply Exists.intro; refine ⟨?_, ?_⟩
                     focus (intro wq hq0; have hq := hC wq hq0; first | (exact givesAt_rd rfl (by rfl) (by first | exact rd_1 (by repeat constructor) (by first | rfl | assumption) | exact rd_w (by repeat constructor) (by rfl) | exact rd_o (by assumption) (by rfl) (by first | exact nmn | assumption | simp) | exact rd_h (by assumption) (by rfl) (by first | exact nmn | assumption | simp) | exact rd_1o (by assumption) (by first | exact nmn | assumption | simp) | exact rd_1h (by assumption) (by first | rfl | assumption) (by first | exact nmn | assumption | simp)) hq) | (go_simp; first | (go_at_call 54; exact HC.out _ (HF.out.below hq.below)) | (with_reducible rfl)))
                     simp only [Act.put, List.setIfInBounds_toArray, List.set_cons_zero, List.set_cons_succ])
                  | (refine g_no rfl rfl rfl (by simp only [List.getElem?_toArray, List.getElem?_cons_succ, List.getElem?_cons_zero]; rfl) (by with_reducible constructor) ?_; simp only [Act.put, List.setIfInBounds_toArray, List.set_cons_zero, List.set_cons_succ]))
              refine g_nil ?_
              repeat
                refine p_plain (by with_reducible rfl) ?_
                apply Exists.intro
                refine ⟨?_, ?_⟩
                focus (intro wq; go_simp; with_reducible rfl)
                simp only [Act.put, List.setIfInBounds_toArray, List.set_cons_zero, List.set_cons_succ]
              refine p_nil ?_
              clear hS hC
              intro bb ww hS
              go_wp2_with (first | (refine own_unguard (by rfl) ?_) | (refine w_ld rfl _ rfl (by rfl) (by first | exact rd_1 (by repeat constructor) (by first | rfl | assumption) | exact rd_w (by repeat constructor) (by rfl) | exact rd_o (by assumption) (by rfl) (by first | exact nmn | assumption | simp) | exact rd_h (by assumption) (by rfl) (by first | exact nmn | assumption | simp) | exact rd_1o (by assumption) (by first | exact nmn | assumption | simp) | exact rd_1h (by assumption) (by first | rfl | assumption) (by first | exact nmn | assumption | simp)) hS ?_) | (refine own_box rfl _ _ rfl (by rfl) hS ?_; clear hS; (try clear ww); intro bb ww hS) | (refine w_al rfl rfl hS ?_; clear hS; (try clear ww); intro bb ww hS) | (refine w_st rfl _ _ rfl (by rfl) (by rfl) (by repeat constructor) (by rfl) (by rfl) (by first | rfl | assumption) hS ?_; clear hS; (try clear ww); intro ww hS) | (refine w_s1 rfl _ _ rfl (by rfl) (by repeat constructor) (by first | exact .c | exact .t rfl) (by rfl) (by repeat constructor) hS ?_; clear hS; (try clear ww); intro ww hS))
              refine own_region hS (by kernel_rfl) (by kernel_rfl) ?_
              (try simp only); (try simp only [List.drop_succ_cons]); (try simp only [List.drop_zero]); (try simp only [List.take_succ_cons]); (try simp only [List.take_zero])
              repeat (first
                  | (first | (refine quiet_plain rfl ?_) | (refine quiet_yes rfl rfl rfl (by simp only [List.getElem?_toArray, List.getElem?_cons_succ, List.getElem?_cons_zero]; rfl) (by with_reducible constructor) ?_)
                     apply Exists.intro; refine ⟨?_, ?_⟩
                     focus (intro wq hq0; have hq : Own _ _ _ wq := hq0; first | (exact quietAt_rd rfl (by rfl) (by first | exact rd_1 (by repeat constructor) (by first | rfl | assumption) | exact rd_w (by repeat constructor) (by rfl) | exact rd_o (by assumption) (by rfl) (by first | exact nmn | assumption | simp) | exact rd_h (by assumption) (by rfl) (by first | exact nmn | assumption | simp) | exact rd_1o (by assumption) (by first | exact nmn | assumption | simp) | exact rd_1h (by assumption) (by first | rfl | assumption) (by first | exact nmn | assumption | simp)) hq) | (go_simp; first | (with_reducible rfl)))
                     simp only [Act.put, List.setIfInBounds_toArray, List.set_cons_zero, List.set_cons_succ])
                  | (refine quiet_no rfl rfl rfl (by simp only [List.getElem?_toArray, List.getElem?_cons_succ, List.getElem?_cons_zero]; rfl) (by with_reducible constructor) ?_; simp only [Act.put, List.setIfInBounds_toArray, List.set_cons_zero, List.set_cons_succ]))
              refine wpQuiet_nil ?_
              clear hS
              intro ww hS
              go_wp2_with (first | (refine own_unguard (by rfl) ?_) | (refine w_ld rfl _ rfl (by rfl) (by first | exact rd_1 (by repeat constructor) (by first | rfl | assumption) | exact rd_w (by repeat constructor) (by rfl) | exact rd_o (by assumption) (by rfl) (by first | exact nmn | assumption | simp) | exact rd_h (by assumption) (by rfl) (by first | exact nmn | assumption | simp) | exact rd_1o (by assumption) (by first | exact nmn | assumption | simp) | exact rd_1h (by assumption) (by first | rfl | assumption) (by first | exact nmn | assumption | simp)) hS ?_) | (refine own_box rfl _ _ rfl (by rfl) hS ?_; clear hS; (try clear ww); intro bb ww hS) | (refine w_al rfl rfl hS ?_; clear hS; (try clear ww); intro bb ww hS) | (refine w_st rfl _ _ rfl (by rfl) (by rfl) (by repeat constructor) (by rfl) (by rfl) (by first | rfl | assumption) hS ?_; clear hS; (try clear ww); intro ww hS) | (refine w_s1 rfl _ _ rfl (by rfl) (by repeat constructor) (by first | exact .c | exact .t rfl) (by rfl) (by repeat constructor) hS ?_; clear hS; (try clear ww); intro ww hS))
              go_ret
              exact ⟨ret_bool E1.out, hS.below⟩
            | some g =>
              have HFg := Lib.hid hf
              have HH := Lib.hid (height_bd (HM.out g (find_mem hf)))
              have HC := Lib.hid (show ∀ w', FntOk w' F → Calls Try.prog 54 #[F.val, .string p.name] w' (Gives (.tuple #[.agg #[.string g.name, .int .i64 g.w, .int .i64 g.h, .int .i64 g.d, .int .i64 g.it, .int .i64 g.at_], .bool true]) w') from fun w' h => by have := ref05_find F p.name w' h HQ.out; rw [hf] at this; exact this)
              clear hf
              by_cases hcmp : g.h + g.d ≤ ov
              · have e3 : decide (g.h + g.d ≤ ov) = true := by simpa using hcmp
                have E1 := Lib.hid (StrReq.no_part HB HZ.out (fun ⟨g2, hg2, h2⟩ => by rw [HFg.out] at hg2; cases hg2; simp only at h2; omega))
                clear hcmp
                go_wp2_with (first | (refine own_unguard (by rfl) ?_) | (refine w_ld rfl _ rfl (by rfl) (by first | exact rd_1 (by repeat constructor) (by first | rfl | assumption) | exact rd_w (by repeat constructor) (by rfl) | exact rd_o (by assumption) (by rfl) (by first | exact nmn | assumption | simp) | exact rd_h (by assumption) (by rfl) (by first | exact nmn | assumption | simp) | exact rd_1o (by assumption) (by first | exact nmn | assumption | simp) | exact rd_1h (by assumption) (by first | rfl | assumption) (by first | exact nmn | assumption | simp)) hS ?_) | (refine own_box rfl _ _ rfl (by rfl) hS ?_; clear hS; (try clear ww); intro bb ww hS) | (refine w_al rfl rfl hS ?_; clear hS; (try clear ww); intro bb ww hS) | (refine w_st rfl _ _ rfl (by rfl) (by rfl) (by repeat constructor) (by rfl) (by rfl) (by first | rfl | assumption) hS ?_; clear hS; (try clear ww); intro ww hS) | (refine w_s1 rfl _ _ rfl (by rfl) (by repeat constructor) (by first | exact .c | exact .t rfl) (by rfl) (by repeat constructor) hS ?_; clear hS; (try clear ww); intro ww hS))
                refine own_float hS 8 11 [.string ⟨#[]⟩, .int .i64 0, .int .i64 0, .int .i64 0, .int .i64 0, .int .i64 0] 55 (by kernel_rfl) (by kernel_rfl) rfl (fun _ _ _ _ _ h => h) (fun a w => by go_simp) (fun C hC => ?_)
                (try simp only); (try simp only [List.drop_succ_cons]); (try simp only [List.drop_zero]); (try simp only [List.take_succ_cons]); (try simp only [List.take_zero])
                repeat (first
                    | (first | (refine g_plain rfl ?_) | (refine g_yes rfl rfl rfl (by simp only [List.getElem?_toArray, List.getElem?_cons_succ, List.getElem?_cons_zero]; rfl) (by with_reducible constructor) ?_)
                       apply Exists.intro; refine ⟨?_, ?_⟩
                       focus (intro wq hq0; have hq := hC wq hq0; first | (exact givesAt_rd rfl (by rfl) (by first | exact rd_1 (by repeat constructor) (by first | rfl | assumption) | exact rd_w (by repeat constructor) (by rfl) | exact rd_o (by assumption) (by rfl) (by first | exact nmn | assumption | simp) | exact rd_h (by assumption) (by rfl) (by first | exact nmn | assumption | simp) | exact rd_1o (by assumption) (by first | exact nmn | assumption | simp) | exact rd_1h (by assumption) (by first | rfl | assumption) (by first | exact nmn | assumption | simp)) hq) | (go_simp; first | (go_at_call 54; exact HC.out _ (HF.out.below hq.below)) | (with_reducible rfl)))
                       simp only [Act.put, List.setIfInBounds_toArray, List.set_cons_zero, List.set_cons_succ])
                    | (refine g_no rfl rfl rfl (by simp only [List.getElem?_toArray, List.getElem?_cons_succ, List.getElem?_cons_zero]; rfl) (by with_reducible constructor) ?_; simp only [Act.put, List.setIfInBounds_toArray, List.set_cons_zero, List.set_cons_succ]))
                refine g_nil ?_
                repeat
                  refine p_plain (by with_reducible rfl) ?_
                  apply Exists.intro
                  refine ⟨?_, ?_⟩
                  focus (intro wq; go_simp; with_reducible rfl)
                  simp only [Act.put, List.setIfInBounds_toArray, List.set_cons_zero, List.set_cons_succ]
                refine p_nil ?_
                clear hS hC
                intro bb ww hS
                go_wp2_with (first | (refine own_unguard (by rfl) ?_) | (refine w_ld rfl _ rfl (by rfl) (by first | exact rd_1 (by repeat constructor) (by first | rfl | assumption) | exact rd_w (by repeat constructor) (by rfl) | exact rd_o (by assumption) (by rfl) (by first | exact nmn | assumption | simp) | exact rd_h (by assumption) (by rfl) (by first | exact nmn | assumption | simp) | exact rd_1o (by assumption) (by first | exact nmn | assumption | simp) | exact rd_1h (by assumption) (by first | rfl | assumption) (by first | exact nmn | assumption | simp)) hS ?_) | (refine own_box rfl _ _ rfl (by rfl) hS ?_; clear hS; (try clear ww); intro bb ww hS) | (refine w_al rfl rfl hS ?_; clear hS; (try clear ww); intro bb ww hS) | (refine w_st rfl _ _ rfl (by rfl) (by rfl) (by repeat constructor) (by rfl) (by rfl) (by first | rfl | assumption) hS ?_; clear hS; (try clear ww); intro ww hS) | (refine w_s1 rfl _ _ rfl (by rfl) (by repeat constructor) (by first | exact .c | exact .t rfl) (by rfl) (by repeat constructor) hS ?_; clear hS; (try clear ww); intro ww hS))
                refine own_region hS (by kernel_rfl) (by kernel_rfl) ?_
                (try simp only); (try simp only [List.drop_succ_cons]); (try simp only [List.drop_zero]); (try simp only [List.take_succ_cons]); (try simp only [List.take_zero])
                repeat (first
                    | (first | (refine quiet_plain rfl ?_) | (refine quiet_yes rfl rfl rfl (by simp only [List.getElem?_toArray, List.getElem?_cons_succ, List.getElem?_cons_zero]; rfl) (by with_reducible constructor) ?_)
                       apply Exists.intro; refine ⟨?_, ?_⟩
                       focus (intro wq hq0; have hq : Own _ _ _ wq := hq0; first | (exact quietAt_rd rfl (by rfl) (by first | exact rd_1 (by repeat constructor) (by first | rfl | assumption) | exact rd_w (by repeat constructor) (by rfl) | exact rd_o (by assumption) (by rfl) (by first | exact nmn | assumption | simp) | exact rd_h (by assumption) (by rfl) (by first | exact nmn | assumption | simp) | exact rd_1o (by assumption) (by first | exact nmn | assumption | simp) | exact rd_1h (by assumption) (by first | rfl | assumption) (by first | exact nmn | assumption | simp)) hq) | (go_simp; first | (go_at_call 55; exact quietG hq (ref05_Height_v (g := g) HH.out)) | (with_reducible rfl)))
                       simp only [Act.put, List.setIfInBounds_toArray, List.set_cons_zero, List.set_cons_succ])
                    | (refine quiet_no rfl rfl rfl (by simp only [List.getElem?_toArray, List.getElem?_cons_succ, List.getElem?_cons_zero]; rfl) (by with_reducible constructor) ?_; simp only [Act.put, List.setIfInBounds_toArray, List.set_cons_zero, List.set_cons_succ]))
                refine wpQuiet_nil ?_
                clear hS
                intro ww hS
                go_wp2_with (first | (refine own_unguard (by rfl) ?_) | (refine w_ld rfl _ rfl (by rfl) (by first | exact rd_1 (by repeat constructor) (by first | rfl | assumption) | exact rd_w (by repeat constructor) (by rfl) | exact rd_o (by assumption) (by rfl) (by first | exact nmn | assumption | simp) | exact rd_h (by assumption) (by rfl) (by first | exact nmn | assumption | simp) | exact rd_1o (by assumption) (by first | exact nmn | assumption | simp) | exact rd_1h (by assumption) (by first | rfl | assumption) (by first | exact nmn | assumption | simp)) hS ?_) | (refine own_box rfl _ _ rfl (by rfl) hS ?_; clear hS; (try clear ww); intro bb ww hS) | (refine w_al rfl rfl hS ?_; clear hS; (try clear ww); intro bb ww hS) | (refine w_st rfl _ _ rfl (by rfl) (by rfl) (by repeat constructor) (by rfl) (by rfl) (by first | rfl | assumption) hS ?_; clear hS; (try clear ww); intro ww hS) | (refine w_s1 rfl _ _ rfl (by rfl) (by repeat constructor) (by first | exact .c | exact .t rfl) (by rfl) (by repeat constructor) hS ?_; clear hS; (try clear ww); intro ww hS))
                go_ret
                exact ⟨ret_bool E1.out, hS.below⟩
              · have e3 : decide (g.h + g.d ≤ ov) = false := by simpa using hcmp
                have E2 := Lib.hid (show PartOk F.gs ov p from ⟨g, HFg.out, by omega⟩)
                clear hcmp
                cases x
                all_goals
                  go_wp2_with (first | (refine own_unguard (by rfl) ?_) | (refine w_ld rfl _ rfl (by rfl) (by first | exact rd_1 (by repeat constructor) (by first | rfl | assumption) | exact rd_w (by repeat constructor) (by rfl) | exact rd_o (by assumption) (by rfl) (by first | exact nmn | assumption | simp) | exact rd_h (by assumption) (by rfl) (by first | exact nmn | assumption | simp) | exact rd_1o (by assumption) (by first | exact nmn | assumption | simp) | exact rd_1h (by assumption) (by first | rfl | assumption) (by first | exact nmn | assumption | simp)) hS ?_) | (refine own_box rfl _ _ rfl (by rfl) hS ?_; clear hS; (try clear ww); intro bb ww hS) | (refine w_al rfl rfl hS ?_; clear hS; (try clear ww); intro bb ww hS) | (refine w_st rfl _ _ rfl (by rfl) (by rfl) (by repeat constructor) (by rfl) (by rfl) (by first | rfl | assumption) hS ?_; clear hS; (try clear ww); intro ww hS) | (refine w_s1 rfl _ _ rfl (by rfl) (by repeat constructor) (by first | exact .c | exact .t rfl) (by rfl) (by repeat constructor) hS ?_; clear hS; (try clear ww); intro ww hS))
                  refine own_float hS 8 11 [.string ⟨#[]⟩, .int .i64 0, .int .i64 0, .int .i64 0, .int .i64 0, .int .i64 0] 55 (by kernel_rfl) (by kernel_rfl) rfl (fun _ _ _ _ _ h => h) (fun a w => by go_simp) (fun C hC => ?_)
                  (try simp only); (try simp only [List.drop_succ_cons]); (try simp only [List.drop_zero]); (try simp only [List.take_succ_cons]); (try simp only [List.take_zero])
                  repeat (first
                      | (first | (refine g_plain rfl ?_) | (refine g_yes rfl rfl rfl (by simp only [List.getElem?_toArray, List.getElem?_cons_succ, List.getElem?_cons_zero]; rfl) (by with_reducible constructor) ?_)
                         apply Exists.intro; refine ⟨?_, ?_⟩
                         focus (intro wq hq0; have hq := hC wq hq0; first | (exact givesAt_rd rfl (by rfl) (by first | exact rd_1 (by repeat constructor) (by first | rfl | assumption) | exact rd_w (by repeat constructor) (by rfl) | exact rd_o (by assumption) (by rfl) (by first | exact nmn | assumption | simp) | exact rd_h (by assumption) (by rfl) (by first | exact nmn | assumption | simp) | exact rd_1o (by assumption) (by first | exact nmn | assumption | simp) | exact rd_1h (by assumption) (by first | rfl | assumption) (by first | exact nmn | assumption | simp)) hq) | (go_simp; first | (go_at_call 54; exact HC.out _ (HF.out.below hq.below)) | (with_reducible rfl)))
                         simp only [Act.put, List.setIfInBounds_toArray, List.set_cons_zero, List.set_cons_succ])
                      | (refine g_no rfl rfl rfl (by simp only [List.getElem?_toArray, List.getElem?_cons_succ, List.getElem?_cons_zero]; rfl) (by with_reducible constructor) ?_; simp only [Act.put, List.setIfInBounds_toArray, List.set_cons_zero, List.set_cons_succ]))
                  refine g_nil ?_
                  repeat
                    refine p_plain (by with_reducible rfl) ?_
                    apply Exists.intro
                    refine ⟨?_, ?_⟩
                    focus (intro wq; go_simp; with_reducible rfl)
                    simp only [Act.put, List.setIfInBounds_toArray, List.set_cons_zero, List.set_cons_succ]
                  refine p_nil ?_
                  clear hS hC
                  intro bb ww hS
                  go_wp2_with (first | (refine own_unguard (by rfl) ?_) | (refine w_ld rfl _ rfl (by rfl) (by first | exact rd_1 (by repeat constructor) (by first | rfl | assumption) | exact rd_w (by repeat constructor) (by rfl) | exact rd_o (by assumption) (by rfl) (by first | exact nmn | assumption | simp) | exact rd_h (by assumption) (by rfl) (by first | exact nmn | assumption | simp) | exact rd_1o (by assumption) (by first | exact nmn | assumption | simp) | exact rd_1h (by assumption) (by first | rfl | assumption) (by first | exact nmn | assumption | simp)) hS ?_) | (refine own_box rfl _ _ rfl (by rfl) hS ?_; clear hS; (try clear ww); intro bb ww hS) | (refine w_al rfl rfl hS ?_; clear hS; (try clear ww); intro bb ww hS) | (refine w_st rfl _ _ rfl (by rfl) (by rfl) (by repeat constructor) (by rfl) (by rfl) (by first | rfl | assumption) hS ?_; clear hS; (try clear ww); intro ww hS) | (refine w_s1 rfl _ _ rfl (by rfl) (by repeat constructor) (by first | exact .c | exact .t rfl) (by rfl) (by repeat constructor) hS ?_; clear hS; (try clear ww); intro ww hS))
                  refine own_region hS (by kernel_rfl) (by kernel_rfl) ?_
                  (try simp only); (try simp only [List.drop_succ_cons]); (try simp only [List.drop_zero]); (try simp only [List.take_succ_cons]); (try simp only [List.take_zero])
                  repeat (first
                      | (first | (refine quiet_plain rfl ?_) | (refine quiet_yes rfl rfl rfl (by simp only [List.getElem?_toArray, List.getElem?_cons_succ, List.getElem?_cons_zero]; rfl) (by with_reducible constructor) ?_)
                         apply Exists.intro; refine ⟨?_, ?_⟩
                         focus (intro wq hq0; have hq : Own _ _ _ wq := hq0; first | (exact quietAt_rd rfl (by rfl) (by first | exact rd_1 (by repeat constructor) (by first | rfl | assumption) | exact rd_w (by repeat constructor) (by rfl) | exact rd_o (by assumption) (by rfl) (by first | exact nmn | assumption | simp) | exact rd_h (by assumption) (by rfl) (by first | exact nmn | assumption | simp) | exact rd_1o (by assumption) (by first | exact nmn | assumption | simp) | exact rd_1h (by assumption) (by first | rfl | assumption) (by first | exact nmn | assumption | simp)) hq) | (go_simp; first | (go_at_call 55; exact quietG hq (ref05_Height_v (g := g) HH.out)) | (with_reducible rfl)))
                         simp only [Act.put, List.setIfInBounds_toArray, List.set_cons_zero, List.set_cons_succ])
                      | (refine quiet_no rfl rfl rfl (by simp only [List.getElem?_toArray, List.getElem?_cons_succ, List.getElem?_cons_zero]; rfl) (by with_reducible constructor) ?_; simp only [Act.put, List.setIfInBounds_toArray, List.set_cons_zero, List.set_cons_succ]))
                  refine wpQuiet_nil ?_
                  clear hS
                  intro ww hS
                  go_wp2_with (first | (refine own_unguard (by rfl) ?_) | (refine w_ld rfl _ rfl (by rfl) (by first | exact rd_1 (by repeat constructor) (by first | rfl | assumption) | exact rd_w (by repeat constructor) (by rfl) | exact rd_o (by assumption) (by rfl) (by first | exact nmn | assumption | simp) | exact rd_h (by assumption) (by rfl) (by first | exact nmn | assumption | simp) | exact rd_1o (by assumption) (by first | exact nmn | assumption | simp) | exact rd_1h (by assumption) (by first | rfl | assumption) (by first | exact nmn | assumption | simp)) hS ?_) | (refine own_box rfl _ _ rfl (by rfl) hS ?_; clear hS; (try clear ww); intro bb ww hS) | (refine w_al rfl rfl hS ?_; clear hS; (try clear ww); intro bb ww hS) | (refine w_st rfl _ _ rfl (by rfl) (by rfl) (by repeat constructor) (by rfl) (by rfl) (by first | rfl | assumption) hS ?_; clear hS; (try clear ww); intro ww hS) | (refine w_s1 rfl _ _ rfl (by rfl) (by repeat constructor) (by first | exact .c | exact .t rfl) (by rfl) (by repeat constructor) hS ?_; clear hS; (try clear ww); intro ww hS))
                  go_roundw
                  case rel => exact ⟨m + 1, _, hlm, by go_num, rfl, by rw [HN.out, HX.out]; simp, parts_next HP HZ.out E2.out, hS.forget (by simp)⟩
                  case measure => exact loop_meas hlm
          · have E1 := Lib.hid (StrReq.end_ HB H1.out HG.out HA.out HP0.out (fun j p hj => HP.out j (by have := (List.getElem?_eq_some_iff.1 hj).1; simp only at this; omega) p hj))
            have E2 := Lib.hid (show (x && decide (0 ≤ ov)) = b by rw [← E1.out, ← HX.out, List.take_of_length_le (by omega)])
            clear E1
            cases x
            all_goals
              go_wp2_with (first | (refine own_unguard (by rfl) ?_) | (refine w_ld rfl _ rfl (by rfl) (by first | exact rd_1 (by repeat constructor) (by first | rfl | assumption) | exact rd_w (by repeat constructor) (by rfl) | exact rd_o (by assumption) (by rfl) (by first | exact nmn | assumption | simp) | exact rd_h (by assumption) (by rfl) (by first | exact nmn | assumption | simp) | exact rd_1o (by assumption) (by first | exact nmn | assumption | simp) | exact rd_1h (by assumption) (by first | rfl | assumption) (by first | exact nmn | assumption | simp)) hS ?_) | (refine own_box rfl _ _ rfl (by rfl) hS ?_; clear hS; (try clear ww); intro bb ww hS) | (refine w_al rfl rfl hS ?_; clear hS; (try clear ww); intro bb ww hS) | (refine w_st rfl _ _ rfl (by rfl) (by rfl) (by repeat constructor) (by rfl) (by rfl) (by first | rfl | assumption) hS ?_; clear hS; (try clear ww); intro ww hS) | (refine w_s1 rfl _ _ rfl (by rfl) (by repeat constructor) (by first | exact .c | exact .t rfl) (by rfl) (by repeat constructor) hS ?_; clear hS; (try clear ww); intro ww hS))
              go_ret
              exact ⟨ret_bool (by have := E2.out; simpa using this), hS.below⟩

end Go.Proofs.Ytgpabckipmhobaa
