/- Texts Stp, Mup. -/
import Derived.Test.YtgpabckipmhobaaK09
namespace Go.Proofs.Ytgpabckipmhobaa
open Go.RowKit

attribute [local irreducible] wpQuiet wpG wpP wpList Code.wp

instance ot_map : OneTy Try.prog 92 := ⟨⟨_, Try.underlying92, rfl⟩, by kernel_rfl⟩
instance zt_part : ZeroTy Try.prog 91 [.string ⟨#[]⟩, .bool false] := ⟨.agg #[.string ⟨#[]⟩, .bool false], by kernel_rfl, rfl⟩

theorem own_lookup {P : Program} {rest : List Oper} {ops' : Array Oper} {o : Oper} {a : Act} {Q : Exit → Act → World → Prop} {w : World} (hgd : o.guard = none) (t : TypeId) (x i : Operand) (ho : o.op = .lookup t x i true) {m k r : Value} (hx : a.eval x = m) (hi : a.eval i = k) (hrun : (Instr.lookup t m k true).run P w = .ok r w)
    (h : wpList P ops' Q rest (a.put o.dst r) w) : wpList P ops' Q (o :: rest) a w :=
  wpList_plain hgd fun _ hK => by
    unfold Oper.wp execOp
    simp only [ho, hx, hi, Sem.run_bind, hrun, Result.andThen_ok]
    exact hK _ _ h

set_option maxHeartbeats 1000000 in
set_option maxRecDepth 100000 in
theorem font_Valid1_calls (s : ByteArray) (bv bm : Nat) (gs : List Gly) (w : World) (hv : Has w bv [.map (some bm)]) (hm : MapAt w bm gs) :
    Calls Try.prog 60 #[.string s, .pointer (some ⟨bv, 0, none⟩)] w fun e w' => e = .returned (.tuple #[.int .i64 (htOr gs s), .bool (findG gs s).isSome]) ∧ w = w' := by
  have HM := Lib.hid hm
  clear hm
  go_enter Try.func60, Try.ntmps60
  have hS := own_start w
  go_wp2_with (first | (refine own_unguard (by rfl) ?_) | (refine own_lookup rfl _ _ _ rfl rfl rfl (run_lookup_names Try.underlying92 Try.underlying9 (by kernel_rfl) HM.out _) ?_) | (refine w_ld rfl _ rfl (by rfl) (by first | exact rd_1 (by repeat constructor) (by first | rfl | assumption) | exact rd_w (by repeat constructor) (by rfl) | exact rd_o (by assumption) (by rfl) (by first | exact nmn | assumption | simp) | exact rd_h (by assumption) (by rfl) (by first | exact nmn | assumption | simp) | exact rd_1o (by assumption) (by first | exact nmn | assumption | simp) | exact rd_1h (by assumption) (by first | rfl | assumption) (by first | exact nmn | assumption | simp)) hS ?_) | (refine own_box rfl _ _ rfl (by rfl) hS ?_; clear hS; (try clear ww); intro bb ww hS) | (refine w_al rfl rfl hS ?_; clear hS; (try clear ww); intro bb ww hS) | (refine w_st rfl _ _ rfl (by rfl) (by rfl) (by repeat constructor) (by rfl) (by rfl) (by first | rfl | assumption) hS ?_; clear hS; (try clear ww); intro ww hS) | (refine w_s1 rfl _ _ rfl (by rfl) (by repeat constructor) (by first | exact .c | exact .t rfl) (by rfl) (by repeat constructor) hS ?_; clear hS; (try clear ww); intro ww hS))
  go_ret2
  exact ⟨rfl, rfl⟩

theorem font_named_v {s : ByteArray} {w : World} {v : Bool} (hs : s.size ≤ maxLen) (hv : Hid (nameOk s = v)) : Calls Try.prog 58 #[.string s] w fun e w' => e = .returned (.bool v) ∧ w = w' := by
  have := font_named_calls s w hs
  rwa [hv.out] at this

/-- What is known of the least height of the first m parts. -/
structure LeastIs (gs : List Gly) (ps : List Prt) (m : Nat) (least : Int) : Prop where
  le : ∀ j, j < m → ∀ p, ps[j]? = some p → ∃ g, findG gs p.name = some g ∧ least ≤ g.h + g.d
  at_ : (m = 0 ∧ least = 60000) ∨ ∃ j, j < m ∧ ∃ p g, ps[j]? = some p ∧ findG gs p.name = some g ∧ g.h + g.d = least
theorem LeastIs.next {gs : List Gly} {ps : List Prt} {m : Nat} {least : Int} {p : Prt} {g : Gly} (h : LeastIs gs ps m least) (hp : ps[m]? = some p) (hg : findG gs p.name = some g) (hb : g.h + g.d ≤ 40000) : LeastIs gs ps (m + 1) (min least (g.h + g.d)) := by
  constructor
  · intro j hj p' hp'
    by_cases e : j = m
    · subst e; rw [hp] at hp'; cases hp'; exact ⟨g, hg, by omega⟩
    · obtain ⟨g', h1, h2⟩ := h.le j (by omega) p' hp'
      exact ⟨g', h1, by omega⟩
  · right
    by_cases hc : g.h + g.d ≤ least
    · exact ⟨m, by omega, p, g, hp, hg, by omega⟩
    · rcases h.at_ with ⟨_, h2⟩ | ⟨j, hj, p', g', h1, h2, h3⟩
      · omega
      · exact ⟨j, by omega, p', g', h1, h2, by omega⟩
theorem StrReq.end2 {gs : List Gly} {s : Str} {b : Bool} (hb : Hid (b = true ↔ StrReq gs s)) (h1 : nameOk s.name = true) (h2 : 1 ≤ s.sizes.length ∧ s.sizes.length ≤ 16 ∧ s.parts.length ≤ 8) (h3 : ∀ k n, s.sizes[k]? = some n → SizeOk gs s.sizes k n) (hp : s.parts ≠ []) {least : Int} (hl : LeastIs gs s.parts s.parts.length least) :
    ((s.parts.any fun p => p.ext) && (decide (0 ≤ s.ov) && decide (s.ov ≤ least - 1))) = b := by
  obtain ⟨j, hj, p, g, hjp, hg, hgl⟩ := hl.at_.resolve_left (fun h => hp (List.length_eq_zero_iff.1 h.1))
  by_cases hc : s.ov ≤ least - 1
  · rw [← StrReq.end_ hb h1 h2 h3 hp (fun k p hk => by
      obtain ⟨g', hg', h'⟩ := hl.le k (List.getElem?_eq_some_iff.1 hk).1 p hk
      exact ⟨g', hg', by omega⟩)]
    simp [hc]
  · have hf : false = b := StrReq.no_part hb hjp (fun ⟨g2, hg2, h2⟩ => by rw [hg] at hg2; cases hg2; omega)
    rw [← hf]
    simp [hc]
theorem allIn_one (a b n : Int) : allIn a b [n] = (decide (a ≤ n) && decide (n ≤ b)) := by simp [allIn]

set_option maxHeartbeats 8000000 in
set_option maxRecDepth 100000 in
theorem font_validStretch_calls (gs : List Gly) (bv bm : Nat) (n : ByteArray) (sx px : Option Addr) (sc pc : Nat) (sz : List ByteArray) (ps : List Prt) (ov : Int) (w : World) (hM : ∀ g ∈ gs, metricsOk g = true) (hv : Has w bv [.map (some bm)]) (hm : MapAt w bm gs) (hs : StrOk w ⟨n, sx, sc, sz, px, pc, ps, ov⟩) (b : Bool) (hb : b = true ↔ StrReq gs ⟨n, sx, sc, sz, px, pc, ps, ov⟩) :
    Calls Try.prog 61 #[.agg #[.string n, .slice sx sz.length sc, .slice px ps.length pc, .int .i64 ov], .func (.func 60) #[] #[.pointer (some ⟨bv, 0, none⟩)]] w (Gives (.bool b) w) := by
  have HM := Lib.hid hM
  have HS := Lib.hid hs
  have HB := Lib.hid hb
  have HV := Lib.hid hv
  have HMp := Lib.hid hm
  have hsz := Lib.hid hs.nameLen
  have hl1 : sz.length ≤ 9223372036854775807 := by have := hs.sizesLen; simp only [maxLen] at this; omega
  have hl2 : ps.length ≤ 9223372036854775807 := by have := hs.partsLen; simp only [maxLen] at this; omega
  clear hM hs hb hv hm
  cases h1 : nameOk n
  · have H1 := Lib.hid h1
    have E1 := Lib.hid (StrReq.no_name HB h1)
    clear h1
    go_enter Try.func61, Try.ntmps61
    have hS := own_start w
    go_wp2_with (first | (refine own_unguard (by rfl) ?_) | (go_at_call 58; refine own_callsS hS (font_named_v hsz.out H1) ?_) | (refine w_ld rfl _ rfl (by rfl) (by first | exact rd_1 (by repeat constructor) (by first | rfl | assumption) | exact rd_w (by repeat constructor) (by rfl) | exact rd_o (by assumption) (by rfl) (by first | exact nmn | assumption | simp) | exact rd_h (by assumption) (by rfl) (by first | exact nmn | assumption | simp) | exact rd_1o (by assumption) (by first | exact nmn | assumption | simp) | exact rd_1h (by assumption) (by first | rfl | assumption) (by first | exact nmn | assumption | simp)) hS ?_) | (refine own_box rfl _ _ rfl (by rfl) hS ?_; clear hS; (try clear ww); intro bb ww hS) | (refine w_al rfl rfl hS ?_; clear hS; (try clear ww); intro bb ww hS) | (refine w_st rfl _ _ rfl (by rfl) (by rfl) (by repeat constructor) (by rfl) (by rfl) (by first | rfl | assumption) hS ?_; clear hS; (try clear ww); intro ww hS) | (refine w_s1 rfl _ _ rfl (by rfl) (by repeat constructor) (by first | exact .c | exact .t rfl) (by rfl) (by repeat constructor) hS ?_; clear hS; (try clear ww); intro ww hS))
    go_ret
    exact ⟨ret_bool E1.out, hS.below⟩
  have H1 := Lib.hid h1
  clear h1
  by_cases g1 : sz.length < 1 ∨ 16 < sz.length
  · have E1 := Lib.hid (StrReq.no_len HB (by simp only; omega))
    have HW := Lib.hid (show allIn 1 16 [(sz.length : Int)] = false by rw [allIn_one]; simp; omega)
    clear g1
    go_enter Try.func61, Try.ntmps61
    have hS := own_start w
    go_wp2_with (first | (refine own_unguard (by rfl) ?_) | (go_at_call 58; refine own_callsS hS (font_named_v hsz.out H1) ?_) | (refine own_buildSlice rfl _ _ 1 _ rfl [.int .i64 (sz.length : Int)] hS Try.underlying31 (by kernel_rfl) ?_; clear hS; (try clear ww); intro bb ww hS) | (go_at_call 59; refine own_callsS hS (font_within_has [(sz.length : Int)] (hS.get at0) (by simp) HW.out) ?_) | (refine w_ld rfl _ rfl (by rfl) (by first | exact rd_1 (by repeat constructor) (by first | rfl | assumption) | exact rd_w (by repeat constructor) (by rfl) | exact rd_o (by assumption) (by rfl) (by first | exact nmn | assumption | simp) | exact rd_h (by assumption) (by rfl) (by first | exact nmn | assumption | simp) | exact rd_1o (by assumption) (by first | exact nmn | assumption | simp) | exact rd_1h (by assumption) (by first | rfl | assumption) (by first | exact nmn | assumption | simp)) hS ?_) | (refine own_box rfl _ _ rfl (by rfl) hS ?_; clear hS; (try clear ww); intro bb ww hS) | (refine w_al rfl rfl hS ?_; clear hS; (try clear ww); intro bb ww hS) | (refine w_st rfl _ _ rfl (by rfl) (by rfl) (by repeat constructor) (by rfl) (by rfl) (by first | rfl | assumption) hS ?_; clear hS; (try clear ww); intro ww hS) | (refine w_s1 rfl _ _ rfl (by rfl) (by repeat constructor) (by first | exact .c | exact .t rfl) (by rfl) (by repeat constructor) hS ?_; clear hS; (try clear ww); intro ww hS))
    go_ret
    exact ⟨ret_bool E1.out, hS.below⟩
  have HW := Lib.hid (show allIn 1 16 [(sz.length : Int)] = true by rw [allIn_one]; simp; omega)
  by_cases g2 : 8 < ps.length
  · have E1 := Lib.hid (StrReq.no_len HB (by simp only; omega))
    have d4 : decide ((8 : Int) < (ps.length : Int)) = true := by simp; omega
    clear g1 g2
    go_enter Try.func61, Try.ntmps61
    have hS := own_start w
    go_wp2_with (first | (refine own_unguard (by rfl) ?_) | (go_at_call 58; refine own_callsS hS (font_named_v hsz.out H1) ?_) | (refine own_buildSlice rfl _ _ 1 _ rfl [.int .i64 (sz.length : Int)] hS Try.underlying31 (by kernel_rfl) ?_; clear hS; (try clear ww); intro bb ww hS) | (go_at_call 59; refine own_callsS hS (font_within_has [(sz.length : Int)] (hS.get at0) (by simp) HW.out) ?_) | (refine w_ld rfl _ rfl (by rfl) (by first | exact rd_1 (by repeat constructor) (by first | rfl | assumption) | exact rd_w (by repeat constructor) (by rfl) | exact rd_o (by assumption) (by rfl) (by first | exact nmn | assumption | simp) | exact rd_h (by assumption) (by rfl) (by first | exact nmn | assumption | simp) | exact rd_1o (by assumption) (by first | exact nmn | assumption | simp) | exact rd_1h (by assumption) (by first | rfl | assumption) (by first | exact nmn | assumption | simp)) hS ?_) | (refine own_box rfl _ _ rfl (by rfl) hS ?_; clear hS; (try clear ww); intro bb ww hS) | (refine w_al rfl rfl hS ?_; clear hS; (try clear ww); intro bb ww hS) | (refine w_st rfl _ _ rfl (by rfl) (by rfl) (by repeat constructor) (by rfl) (by rfl) (by first | rfl | assumption) hS ?_; clear hS; (try clear ww); intro ww hS) | (refine w_s1 rfl _ _ rfl (by rfl) (by repeat constructor) (by first | exact .c | exact .t rfl) (by rfl) (by repeat constructor) hS ?_; clear hS; (try clear ww); intro ww hS))
    go_ret
    exact ⟨ret_bool E1.out, hS.below⟩
  have HG := Lib.hid (show 1 ≤ sz.length ∧ sz.length ≤ 16 ∧ ps.length ≤ 8 by omega)
  have d4 : decide ((8 : Int) < (ps.length : Int)) = false := by simp; omega
  clear g1 g2
  go_enter Try.func61, Try.ntmps61
  have hS := own_start w
  go_wp2_with (first | (refine own_unguard (by rfl) ?_) | (go_at_call 58; refine own_callsS hS (font_named_v hsz.out H1) ?_) | (refine own_buildSlice rfl _ _ 1 _ rfl [.int .i64 (sz.length : Int)] hS Try.underlying31 (by kernel_rfl) ?_; clear hS; (try clear ww); intro bb ww hS) | (go_at_call 59; refine own_callsS hS (font_within_has [(sz.length : Int)] (hS.get at0) (by simp) HW.out) ?_) | (refine w_ld rfl _ rfl (by rfl) (by first | exact rd_1 (by repeat constructor) (by first | rfl | assumption) | exact rd_w (by repeat constructor) (by rfl) | exact rd_o (by assumption) (by rfl) (by first | exact nmn | assumption | simp) | exact rd_h (by assumption) (by rfl) (by first | exact nmn | assumption | simp) | exact rd_1o (by assumption) (by first | exact nmn | assumption | simp) | exact rd_1h (by assumption) (by first | rfl | assumption) (by first | exact nmn | assumption | simp)) hS ?_) | (refine own_box rfl _ _ rfl (by rfl) hS ?_; clear hS; (try clear ww); intro bb ww hS) | (refine w_al rfl rfl hS ?_; clear hS; (try clear ww); intro bb ww hS) | (refine w_st rfl _ _ rfl (by rfl) (by rfl) (by repeat constructor) (by rfl) (by rfl) (by first | rfl | assumption) hS ?_; clear hS; (try clear ww); intro ww hS) | (refine w_s1 rfl _ _ rfl (by rfl) (by repeat constructor) (by first | exact .c | exact .t rfl) (by rfl) (by repeat constructor) hS ?_; clear hS; (try clear ww); intro ww hS))
  clear d4
  replace hS := hS.forget (L' := [(_, _)]) (List.Sublist.cons _ (List.Sublist.refl _))
  obtain ⟨L0, HL, hS⟩ := hS.named
  go_loopw [5, 37] (fun l i wr => ∃ (k : Nat) (lst : Int), k ≤ sz.length ∧ i = .int .i64 k ∧ l = .int .i64 lst ∧ (∀ j, j < k → ∀ n, sz[j]? = some n → SizeOk gs sz j n) ∧ lastIs gs sz k lst ∧ ((k = 0 ∧ lst = -60000) ∨ (0 < k ∧ -40000 ≤ lst ∧ lst ≤ 40000)) ∧ Own [] w L0 wr) (fun _ i _ => sz.length - (intOf i).toNat)
  case atStart => exact ⟨0, -60000, Nat.zero_le _, rfl, rfl, fun j hj => absurd hj (Nat.not_lt_zero j), fun m _ _ h => absurd h (by omega), .inl ⟨rfl, rfl⟩, hS⟩
  case round =>
    clear hS
    obtain ⟨k, lst, hk, rfl, rfl, hp, hla, hlb, hS⟩ := hrel
    have HP := Lib.hid hp
    have HLa := Lib.hid hla
    have HLb := Lib.hid hlb
    clear hp hla hlb
    by_cases hlt : k < sz.length
    · obtain ⟨z, hz⟩ : ∃ z, sz[k]? = some z := ⟨sz[k], by simp [hlt]⟩
      obtain ⟨b1, o1, hx, r1⟩ := HS.out.sizes.get hz
      obtain rfl : sx = some ⟨b1, o1, none⟩ := hx
      obtain rfl := HL.out
      clear HL
      have HZ := Lib.hid hz
      have c1 : w.cell? ⟨b1, o1 + k, none⟩ = some (.string z) := by have := r1 0 _ rfl; simpa using this
      clear hz r1
      cases hf : findG gs z with
      | none =>
        have E1 := Lib.hid (StrReq.no_find HB HZ.out hf)
        have HC := Lib.hid (show ∀ w', Has w' bv [.map (some bm)] → MapAt w' bm gs → Calls Try.prog 60 #[.string z, .pointer (some ⟨bv, 0, none⟩)] w' (fun e w'' => e = .returned (.tuple #[.int .i64 0, .bool false]) ∧ w' = w'') from fun w' h1 h2 => by have := font_Valid1_calls z bv bm gs w' h1 h2; unfold htOr at this; rw [hf] at this; exact this)
        clear hf
        go_wp2_with (first | (refine own_unguard (by rfl) ?_) | (go_at_call 60; refine own_callsS hS (HC.out _ (hS.hasOld List.not_mem_nil HV.out) (HMp.out.below hS.below)) ?_) | (refine w_ld rfl _ rfl (by rfl) (by first | exact rd_1 (by repeat constructor) (by first | rfl | assumption) | exact rd_w (by repeat constructor) (by rfl) | exact rd_o (by assumption) (by rfl) (by first | exact nmn | assumption | simp) | exact rd_h (by assumption) (by rfl) (by first | exact nmn | assumption | simp) | exact rd_1o (by assumption) (by first | exact nmn | assumption | simp) | exact rd_1h (by assumption) (by first | rfl | assumption) (by first | exact nmn | assumption | simp)) hS ?_) | (refine own_box rfl _ _ rfl (by rfl) hS ?_; clear hS; (try clear ww); intro bb ww hS) | (refine w_al rfl rfl hS ?_; clear hS; (try clear ww); intro bb ww hS) | (refine w_st rfl _ _ rfl (by rfl) (by rfl) (by repeat constructor) (by rfl) (by rfl) (by first | rfl | assumption) hS ?_; clear hS; (try clear ww); intro ww hS) | (refine w_s1 rfl _ _ rfl (by rfl) (by repeat constructor) (by first | exact .c | exact .t rfl) (by rfl) (by repeat constructor) hS ?_; clear hS; (try clear ww); intro ww hS))
        go_ret
        exact ⟨ret_bool E1.out, hS.below⟩
      | some g =>
        have HFg := Lib.hid hf
        have HH := Lib.hid (height_bd (HM.out g (find_mem hf)))
        have HC := Lib.hid (show ∀ w', Has w' bv [.map (some bm)] → MapAt w' bm gs → Calls Try.prog 60 #[.string z, .pointer (some ⟨bv, 0, none⟩)] w' (fun e w'' => e = .returned (.tuple #[.int .i64 (g.h + g.d), .bool true]) ∧ w' = w'') from fun w' h1 h2 => by have := font_Valid1_calls z bv bm gs w' h1 h2; unfold htOr at this; rw [hf] at this; exact this)
        clear hf
        obtain ⟨hh, HHe⟩ : ∃ hh, Hid (g.h + g.d = hh) := ⟨_, rfl⟩
        rw [HHe.out] at HC
        by_cases hcmp : hh ≤ lst
        · have e3 : decide (hh ≤ lst) = true := by simpa using hcmp
          have E1 : Hid (false = b) := by
            have h40 := HH.out
            have he := HHe.out
            rcases HLb.out with ⟨_, h⟩ | hbd
            · omega
            · by_cases hk0 : k = 0
              · omega
              · obtain ⟨m, hkm⟩ : ∃ m, k = m + 1 := ⟨k - 1, by omega⟩
                obtain ⟨z', hz'⟩ : ∃ z', sz[m]? = some z' := ⟨sz[m]'(by omega), by simp⟩
                obtain ⟨g', hg', _⟩ := HP.out m (by omega) z' hz'
                have hlst := HLa.out m z' g' hkm hz' hg'
                exact StrReq.no_rise HB HZ.out HFg.out hkm hz' hg' (by omega)
          clear hcmp
          go_wp2_with (first | (refine own_unguard (by rfl) ?_) | (go_at_call 60; refine own_callsS hS (HC.out _ (hS.hasOld List.not_mem_nil HV.out) (HMp.out.below hS.below)) ?_) | (refine w_ld rfl _ rfl (by rfl) (by first | exact rd_1 (by repeat constructor) (by first | rfl | assumption) | exact rd_w (by repeat constructor) (by rfl) | exact rd_o (by assumption) (by rfl) (by first | exact nmn | assumption | simp) | exact rd_h (by assumption) (by rfl) (by first | exact nmn | assumption | simp) | exact rd_1o (by assumption) (by first | exact nmn | assumption | simp) | exact rd_1h (by assumption) (by first | rfl | assumption) (by first | exact nmn | assumption | simp)) hS ?_) | (refine own_box rfl _ _ rfl (by rfl) hS ?_; clear hS; (try clear ww); intro bb ww hS) | (refine w_al rfl rfl hS ?_; clear hS; (try clear ww); intro bb ww hS) | (refine w_st rfl _ _ rfl (by rfl) (by rfl) (by repeat constructor) (by rfl) (by rfl) (by first | rfl | assumption) hS ?_; clear hS; (try clear ww); intro ww hS) | (refine w_s1 rfl _ _ rfl (by rfl) (by repeat constructor) (by first | exact .c | exact .t rfl) (by rfl) (by repeat constructor) hS ?_; clear hS; (try clear ww); intro ww hS))
          go_ret
          exact ⟨ret_bool E1.out, hS.below⟩
        · have e3 : decide (hh ≤ lst) = false := by simpa using hcmp
          have E2 := Lib.hid (show SizeOk gs sz k z from ⟨g, HFg.out, fun m' n' g2 h1 h2 h3 => by
            have := HLa.out m' n' g2 h1 h2 h3
            have := HHe.out
            omega⟩)
          clear hcmp
          go_wp2_with (first | (refine own_unguard (by rfl) ?_) | (go_at_call 60; refine own_callsS hS (HC.out _ (hS.hasOld List.not_mem_nil HV.out) (HMp.out.below hS.below)) ?_) | (refine w_ld rfl _ rfl (by rfl) (by first | exact rd_1 (by repeat constructor) (by first | rfl | assumption) | exact rd_w (by repeat constructor) (by rfl) | exact rd_o (by assumption) (by rfl) (by first | exact nmn | assumption | simp) | exact rd_h (by assumption) (by rfl) (by first | exact nmn | assumption | simp) | exact rd_1o (by assumption) (by first | exact nmn | assumption | simp) | exact rd_1h (by assumption) (by first | rfl | assumption) (by first | exact nmn | assumption | simp)) hS ?_) | (refine own_box rfl _ _ rfl (by rfl) hS ?_; clear hS; (try clear ww); intro bb ww hS) | (refine w_al rfl rfl hS ?_; clear hS; (try clear ww); intro bb ww hS) | (refine w_st rfl _ _ rfl (by rfl) (by rfl) (by repeat constructor) (by rfl) (by rfl) (by first | rfl | assumption) hS ?_; clear hS; (try clear ww); intro ww hS) | (refine w_s1 rfl _ _ rfl (by rfl) (by repeat constructor) (by first | exact .c | exact .t rfl) (by rfl) (by repeat constructor) hS ?_; clear hS; (try clear ww); intro ww hS))
          go_roundw
          case rel => exact ⟨k + 1, hh, hlt, by go_num, rfl, sizes_next HP HZ.out E2.out, by rw [← HHe.out]; exact lastIs_next HZ.out HFg.out, .inr (by rw [← HHe.out]; exact ⟨by omega, HH.out⟩), hS⟩
          case measure => exact loop_meas hlt
    · have HA := Lib.hid (show ∀ k n, sz[k]? = some n → SizeOk gs sz k n from fun j n hj => HP.out j (by have := (List.getElem?_eq_some_iff.1 hj).1; omega) n hj)
      clear HP HLa HLb
      by_cases hp0 : ps = []
      · subst hp0
        have E1 := Lib.hid (StrReq.nil_ HB H1.out HG.out HA.out rfl)
        obtain rfl := HL.out
        clear HL
        go_wp2_with (first | (refine own_unguard (by rfl) ?_) | (refine w_ld rfl _ rfl (by rfl) (by first | exact rd_1 (by repeat constructor) (by first | rfl | assumption) | exact rd_w (by repeat constructor) (by rfl) | exact rd_o (by assumption) (by rfl) (by first | exact nmn | assumption | simp) | exact rd_h (by assumption) (by rfl) (by first | exact nmn | assumption | simp) | exact rd_1o (by assumption) (by first | exact nmn | assumption | simp) | exact rd_1h (by assumption) (by first | rfl | assumption) (by first | exact nmn | assumption | simp)) hS ?_) | (refine own_box rfl _ _ rfl (by rfl) hS ?_; clear hS; (try clear ww); intro bb ww hS) | (refine w_al rfl rfl hS ?_; clear hS; (try clear ww); intro bb ww hS) | (refine w_st rfl _ _ rfl (by rfl) (by rfl) (by repeat constructor) (by rfl) (by rfl) (by first | rfl | assumption) hS ?_; clear hS; (try clear ww); intro ww hS) | (refine w_s1 rfl _ _ rfl (by rfl) (by repeat constructor) (by first | exact .c | exact .t rfl) (by rfl) (by repeat constructor) hS ?_; clear hS; (try clear ww); intro ww hS))
        go_ret
        exact ⟨ret_bool (show (ov == 0) = b from E1.out), hS.below⟩
      · have hpl : 0 < ps.length := List.length_pos_iff.2 hp0
        have e5 : ((ps.length : Int) == 0) = false := by simp; exact hp0
        have e6 : decide ((ps.length : Int) = 0) = false := by simp; exact hp0
        have HP0 := Lib.hid hp0
        clear hp0
        obtain rfl := HL.out
        clear HL
        go_wp2_with (first | (refine own_unguard (by rfl) ?_) | (refine w_ld rfl _ rfl (by rfl) (by first | exact rd_1 (by repeat constructor) (by first | rfl | assumption) | exact rd_w (by repeat constructor) (by rfl) | exact rd_o (by assumption) (by rfl) (by first | exact nmn | assumption | simp) | exact rd_h (by assumption) (by rfl) (by first | exact nmn | assumption | simp) | exact rd_1o (by assumption) (by first | exact nmn | assumption | simp) | exact rd_1h (by assumption) (by first | rfl | assumption) (by first | exact nmn | assumption | simp)) hS ?_) | (refine own_box rfl _ _ rfl (by rfl) hS ?_; clear hS; (try clear ww); intro bb ww hS) | (refine w_al rfl rfl hS ?_; clear hS; (try clear ww); intro bb ww hS) | (refine w_st rfl _ _ rfl (by rfl) (by rfl) (by repeat constructor) (by rfl) (by rfl) (by first | rfl | assumption) hS ?_; clear hS; (try clear ww); intro ww hS) | (refine w_s1 rfl _ _ rfl (by rfl) (by repeat constructor) (by first | exact .c | exact .t rfl) (by rfl) (by repeat constructor) hS ?_; clear hS; (try clear ww); intro ww hS))
        obtain ⟨L1, HL, hS⟩ := hS.named
        go_loopw [10, 11, 66] (fun l e i wr => ∃ (m : Nat) (x : Bool) (least : Int), m ≤ ps.length ∧ i = .int .i64 m ∧ e = .bool x ∧ l = .int .i64 least ∧ (ps.take m).any (fun p => p.ext) = x ∧ LeastIs gs ps m least ∧ (-40000 ≤ least ∧ least ≤ 60000) ∧ Own [] w L1 wr) (fun _ _ i _ => ps.length - (intOf i).toNat)
        case atStart => exact ⟨0, false, 60000, Nat.zero_le _, rfl, rfl, rfl, rfl, ⟨fun j hj => absurd hj (Nat.not_lt_zero j), .inl ⟨rfl, rfl⟩⟩, by omega, hS⟩
        case round =>
          clear hS
          obtain ⟨m, x, least, hm, rfl, rfl, rfl, hx, hp, hlb, hS⟩ := hrel
          have HP := Lib.hid hp
          have HX := Lib.hid hx
          clear hp hx
          obtain rfl := HL.out
          clear HL
          by_cases hlm : m < ps.length
          · obtain ⟨p, hp⟩ : ∃ p, ps[m]? = some p := ⟨ps[m], by simp [hlm]⟩
            obtain ⟨b1, o1, hx, r1⟩ := HS.out.parts.get hp
            obtain rfl : px = some ⟨b1, o1, none⟩ := hx
            have HZ := Lib.hid hp
            have s1 : w.rangeAt b1 (o1 + m * 2) [.string p.name, .bool p.ext] := r1
            have HN := Lib.hid (any_take hp)
            clear hp r1
            cases hf : findG gs p.name with
            | none =>
              have E1 := Lib.hid (StrReq.no_part HB HZ.out (fun ⟨g, hg, _⟩ => by rw [hf] at hg; cases hg))
              have HC := Lib.hid (show ∀ w', Has w' bv [.map (some bm)] → MapAt w' bm gs → Calls Try.prog 60 #[.string p.name, .pointer (some ⟨bv, 0, none⟩)] w' (fun e w'' => e = .returned (.tuple #[.int .i64 0, .bool false]) ∧ w' = w'') from fun w' h1 h2 => by have := font_Valid1_calls p.name bv bm gs w' h1 h2; unfold htOr at this; rw [hf] at this; exact this)
              clear hf
              go_wp2_with (first | (refine own_unguard (by rfl) ?_) | (go_at_call 60; refine own_callsS hS (HC.out _ (hS.hasOld List.not_mem_nil HV.out) (HMp.out.below hS.below)) ?_) | (refine w_ld rfl _ rfl (by rfl) (by first | exact rd_1 (by repeat constructor) (by first | rfl | assumption) | exact rd_w (by repeat constructor) (by rfl) | exact rd_o (by assumption) (by rfl) (by first | exact nmn | assumption | simp) | exact rd_h (by assumption) (by rfl) (by first | exact nmn | assumption | simp) | exact rd_1o (by assumption) (by first | exact nmn | assumption | simp) | exact rd_1h (by assumption) (by first | rfl | assumption) (by first | exact nmn | assumption | simp)) hS ?_) | (refine own_box rfl _ _ rfl (by rfl) hS ?_; clear hS; (try clear ww); intro bb ww hS) | (refine w_al rfl rfl hS ?_; clear hS; (try clear ww); intro bb ww hS) | (refine w_st rfl _ _ rfl (by rfl) (by rfl) (by repeat constructor) (by rfl) (by rfl) (by first | rfl | assumption) hS ?_; clear hS; (try clear ww); intro ww hS) | (refine w_s1 rfl _ _ rfl (by rfl) (by repeat constructor) (by first | exact .c | exact .t rfl) (by rfl) (by repeat constructor) hS ?_; clear hS; (try clear ww); intro ww hS))
              go_ret
              exact ⟨ret_bool E1.out, hS.below⟩
            | some g =>
              have HFg := Lib.hid hf
              have HH := Lib.hid (height_bd (HM.out g (find_mem hf)))
              have HC := Lib.hid (show ∀ w', Has w' bv [.map (some bm)] → MapAt w' bm gs → Calls Try.prog 60 #[.string p.name, .pointer (some ⟨bv, 0, none⟩)] w' (fun e w'' => e = .returned (.tuple #[.int .i64 (g.h + g.d), .bool true]) ∧ w' = w'') from fun w' h1 h2 => by have := font_Valid1_calls p.name bv bm gs w' h1 h2; unfold htOr at this; rw [hf] at this; exact this)
              clear hf
              have HLn := Lib.hid (LeastIs.next HP.out HZ.out HFg.out HH.out.2)
              obtain ⟨hh, HHe⟩ : ∃ hh, Hid (g.h + g.d = hh) := ⟨_, rfl⟩
              rw [HHe.out] at HC HLn
              have hbd : -40000 ≤ hh ∧ hh ≤ 40000 := by have := HH.out; rw [HHe.out] at this; exact this
              cases x
              all_goals
                go_wp2_with (first | (refine own_unguard (by rfl) ?_) | (go_at_call 60; refine own_callsS hS (HC.out _ (hS.hasOld List.not_mem_nil HV.out) (HMp.out.below hS.below)) ?_) | (refine w_ld rfl _ rfl (by rfl) (by first | exact rd_1 (by repeat constructor) (by first | rfl | assumption) | exact rd_w (by repeat constructor) (by rfl) | exact rd_o (by assumption) (by rfl) (by first | exact nmn | assumption | simp) | exact rd_h (by assumption) (by rfl) (by first | exact nmn | assumption | simp) | exact rd_1o (by assumption) (by first | exact nmn | assumption | simp) | exact rd_1h (by assumption) (by first | rfl | assumption) (by first | exact nmn | assumption | simp)) hS ?_) | (refine own_box rfl _ _ rfl (by rfl) hS ?_; clear hS; (try clear ww); intro bb ww hS) | (refine w_al rfl rfl hS ?_; clear hS; (try clear ww); intro bb ww hS) | (refine w_st rfl _ _ rfl (by rfl) (by rfl) (by repeat constructor) (by rfl) (by rfl) (by first | rfl | assumption) hS ?_; clear hS; (try clear ww); intro ww hS) | (refine w_s1 rfl _ _ rfl (by rfl) (by repeat constructor) (by first | exact .c | exact .t rfl) (by rfl) (by repeat constructor) hS ?_; clear hS; (try clear ww); intro ww hS))
                go_roundw
                case rel => exact ⟨m + 1, _, _, hlm, by go_num, rfl, rfl, by rw [HN.out, HX.out]; simp, HLn.out, by omega, hS.forget (by simp)⟩
                case measure => exact loop_meas hlm
          · have hme : m = ps.length := by omega
            have E1 := Lib.hid (StrReq.end2 HB H1.out HG.out HA.out HP0.out (least := least) (by rw [hme] at HP; exact HP.out))
            have E2 := Lib.hid (show (x && (decide (0 ≤ ov) && decide (ov ≤ least - 1))) = b by rw [← E1.out, ← HX.out, List.take_of_length_le (by omega)])
            clear E1 hme
            have HW2 := Lib.hid (allIn_one 0 (least - 1) ov)
            cases x
            all_goals
              go_wp2_with (first | (refine own_unguard (by rfl) ?_) | (refine own_buildSlice rfl _ _ 1 _ rfl [.int .i64 ov] hS Try.underlying31 (by kernel_rfl) ?_; clear hS; (try clear ww); intro bb ww hS) | (go_at_call 59; refine own_callsS hS (font_within_has [ov] (hS.get at0) (by simp) HW2.out) ?_) | (refine w_ld rfl _ rfl (by rfl) (by first | exact rd_1 (by repeat constructor) (by first | rfl | assumption) | exact rd_w (by repeat constructor) (by rfl) | exact rd_o (by assumption) (by rfl) (by first | exact nmn | assumption | simp) | exact rd_h (by assumption) (by rfl) (by first | exact nmn | assumption | simp) | exact rd_1o (by assumption) (by first | exact nmn | assumption | simp) | exact rd_1h (by assumption) (by first | rfl | assumption) (by first | exact nmn | assumption | simp)) hS ?_) | (refine own_box rfl _ _ rfl (by rfl) hS ?_; clear hS; (try clear ww); intro bb ww hS) | (refine w_al rfl rfl hS ?_; clear hS; (try clear ww); intro bb ww hS) | (refine w_st rfl _ _ rfl (by rfl) (by rfl) (by repeat constructor) (by rfl) (by rfl) (by first | rfl | assumption) hS ?_; clear hS; (try clear ww); intro ww hS) | (refine w_s1 rfl _ _ rfl (by rfl) (by repeat constructor) (by first | exact .c | exact .t rfl) (by rfl) (by repeat constructor) hS ?_; clear hS; (try clear ww); intro ww hS))
              go_ret
              exact ⟨ret_bool (by have := E2.out; simpa using this), hS.below⟩

end Go.Proofs.Ytgpabckipmhobaa
namespace Go.Proofs.Ytgpabckipmhobaa
open Go.RowKit

attribute [local irreducible] wpQuiet wpG wpP wpList Code.wp

instance zt_map : ZeroTy Try.prog 92 [.map none] := ⟨.map none, by kernel_rfl, rfl⟩

theorem quietAt_lookup {P : Program} {o : Oper} {a : Act} {C : World → Prop} {w : World} {t : TypeId} {x i : Operand} {m k r : Value} (ho : o.op = .lookup t x i true) (hx : a.eval x = m) (hi : a.eval i = k) (hrun : (Instr.lookup t m k true).run P w = .ok r w) : o.quietAt P a C w r := by
  unfold Oper.quietAt execOp
  simp only [ho, hx, hi, Sem.run_bind, hrun, Sem.run_pure, Result.andThen_ok, Oper.quietUpon]
  first | done | exact ⟨rfl, rfl⟩ | exact ⟨trivial, trivial⟩ | trivial

section
variable {P : Program} {rest : List Oper} {ops' : Array Oper} {o : Oper} {a : Act} {Q : Exit → Act → World → Prop} {D : List Nat} {W w : World} {L : List (Nat × List Value)}
theorem own_makeMap (hgd : o.guard = none) (t : TypeId) (x : Operand) (ho : o.op = .makeMap t (some x)) {kd : IntKind} {n : Int} (hx : a.eval x = .int kd n) {k e : TypeId} (ht : P.underlying t = some (.map k e)) (hS : Own D W L w)
    (h : ∀ bm w', w.heap.size ≤ bm → MapAt w' bm [] → Own D W L w' → wpList P ops' Q rest (a.put o.dst (.map (some bm))) w') : wpList P ops' Q (o :: rest) a w :=
  wpList_plain hgd fun _ hK => by
    have hrun : (Instr.makeMap t (some (.int kd n))).run P w = .ok (.map (some w.heap.size)) (w.alloc (.map #[] 0)) := by
      simp [Instr.makeMap, run_underlying ht]; rfl
    unfold Oper.wp execOp
    simp only [ho, hx, Option.map_some, Sem.run_bind, hrun, Result.andThen_ok]
    exact hK _ _ (h _ _ (Nat.le_refl _) (MapAt.made w) (hS.alloc _))
theorem own_mapUpdate (hgd : o.guard = none) (t : TypeId) (m x v : Operand) (ho : o.op = .mapUpdate t m x v) {bm : Nat} {g : Gly} {gs : List Gly} (hm : a.eval m = .map (some bm)) (hx : a.eval x = .string g.name) (hv : a.eval v = .int .i64 (g.h + g.d)) {k e : TypeId} (ht : P.underlying t = some (.map k e)) (hk : P.underlying k = some .string)
    (hS : Own [] W [] w) (hMp : MapAt W bm gs) (hn : findG gs g.name = none)
    (h : ∀ w', MapAt w' bm (gs ++ [g]) → (∀ b cs, Has W b cs → Has w' b cs) → (∀ B W0, Below B W0 W → B ≤ bm → Below B W0 w') → wpList P ops' Q rest (a.put o.dst undef) w') : wpList P ops' Q (o :: rest) a w :=
  wpList_plain hgd fun _ hK => by
    have hM := hMp.below hS.below
    obtain ⟨w', hrun, h1, h2, h3, h4, h5, h6⟩ := run_update_names (P := P) ht hk hM g hn
    unfold Oper.wp execOp
    simp only [ho, hm, hx, hv, Sem.run_bind, hrun, Result.andThen_ok]
    refine hK _ _ (h w' h1 (fun b cs hb => ?_) (fun B W0 hB hle => ?_))
    · have hb' := hb.below hS.below
      have hne := hM.ne hb'
      obtain ⟨t', hb'⟩ := hb'
      exact ⟨t', (h6 b hne).trans hb'⟩
    · have h0 := hS.below
      have hBs : B ≤ w.heap.size := Nat.le_trans hle (Nat.le_of_lt hM.lt)
      have hBW : B ≤ W.heap.size := Nat.le_trans hle (Nat.le_of_lt hMp.lt)
      have hb2 := hB.trans (h0.mono hBW)
      exact hb2.trans ⟨h2, h3, h4, by omega, fun k hk => h6 k (by omega)⟩
end
end Go.Proofs.Ytgpabckipmhobaa
