/- Texts Ts5, Inn, Sim. -/
import Derived.Test.YtdbcdjiclkmknaaK16
import Derived.Test.YtdbcdjiclkmknaaK12
import Derived.Test.YtdbcdjiclkmknaaK09
import Derived.WalkMore
import Derived.Test.YtdbcdjiclkmknaaK14
namespace Go.Proofs.Ytdbcdjiclkmknaa
open Go.RowKit

attribute [local irreducible] wpQuiet wpG wpP wpK wpList Code.wp Calls

theorem caseS_out {w : World} {k : Nat} {F : Fnt} {l : Int} {c : Bool} {c0 c1 c2 c3 c4 c5 c6 c7 c8 c9 c10 v u : Value} (h : w.rangeAt k 0 (caseS F l c [c0, c1, c2, c3, c4, c5, c6, c7, c8, c9, c10] v u)) : w.rangeAt k 0 F.cells ∧ w.rangeAt k 22 [.int .i64 l, .bool c] ∧ w.rangeAt k 24 [c0, c1, c2, c3, c4, c5, c6, c7, c8, c9, c10] ∧ w.cell? ⟨k, 35, none⟩ = some v ∧ w.cell? ⟨k, 36, none⟩ = some u := by
  obtain ⟨h1, h2⟩ := range_app h
  obtain ⟨h3, h4⟩ := range_app h2
  obtain ⟨h5, h6⟩ := range_app h4
  exact ⟨h1, h3, h5, h6 0 _ rfl, h6 1 _ rfl⟩
/-- What tame returns. -/
def fewL (n : Nat) (l : List (Bx n)) : Bool := l.all fun b => decide (bCount n b ≤ 200)
def tameS (F : Fnt) (n : Nat) (base : Bx n) (subs sups : List (Bx n)) : Bool := decide (1 + subs.length + sups.length ≤ 7) && (fewB F && fewL n (base :: (subs ++ sups)))

set_option maxHeartbeats 16000000 in
set_option maxRecDepth 100000 in
theorem tame35_calls (F : Fnt) (l : Int) (c : Bool) (n : Nat) (base : Bx (n + 1)) (subs sups : List (Bx (n + 1))) (cs : List Value) (sx ux : Option Addr) (sc uc : Nat) (w : World) (hF : FntOk w F) (hr : Rep w (n + 1) base cs) (hs : RepL w (n + 1) sx subs) (hu : RepL w (n + 1) ux sups) (b1 : subs.length ≤ 1048576) (b2 : sups.length ≤ 1048576) (v : Bool) (hv : v = tameS F (n + 1) base subs sups) : Calls Try.prog 9 #[.agg (caseS F l c cs (.slice sx subs.length sc) (.slice ux sups.length uc)).toArray] w (Gives (.bool v) w) := by
  have HF := Lib.hid (fun w' (h : Below w.heap.size w w') => ref05_Few_calls F w' (hF.below h))
  have HV := Lib.hid hv
  obtain ⟨ls, ells, hns, hos, hrs⟩ := repL_cells hs
  obtain ⟨lu, ellu, hnu, hou, hru⟩ := repL_cells hu
  have HNs := Lib.hid hns
  have HNu := Lib.hid hnu
  have HOs := Lib.hid hos
  have HOu := Lib.hid hou
  have HRs := Lib.hid hrs
  have HRu := Lib.hid hru
  have HLs := Lib.hid (show (ls.flatMap Subtype.val).length = subs.length * 11 by rw [← ells]; exact flat_len (f := Subtype.val) (size := 11) (fun a => a.2) ls)
  have HLu := Lib.hid (show (lu.flatMap Subtype.val).length = sups.length * 11 by rw [← ellu]; exact flat_len (f := Subtype.val) (size := 11) (fun a => a.2) lu)
  have HEs := Lib.hid ells
  have HEu := Lib.hid ellu
  have HR := Lib.hid hr
  obtain ⟨c0, c1, c2, c3, c4, c5, c6, c7, c8, c9, c10, rfl⟩ := eleven hr.len
  clear hF hr hs hu hv hns hnu hos hou hrs hru ells ellu
  go_enter Try.func9, Try.ntmps9
  have hS := own_start w
  go_upto_region 1 with (first|(refine own_unguard (by rfl) ?_)|(refine own_box rfl _ _ rfl rfl hS ?_;clear hS;intro kb w0 hS0;have hrC := (hS0.get at0).range;have HB0 := Lib.hid hS0.below;obtain ⟨hrF, hrS, hrN, cV, cU⟩ := caseS_out hrC;have hS := own_start w0;clear hS0)|(refine w_ld rfl _ rfl (by rfl) (by first|exact rd_1 (by repeat constructor) (by first|rfl|assumption)|exact rd_w (by repeat constructor) (by rfl)|((first|refine rd_o ‹_› (by rfl) ?_|refine rd_h ‹_› (by rfl) ?_|refine rd_1o ‹_› ?_|refine rd_1h ‹_› (by first|rfl|assumption) ?_);first|exact nmn|assumption|simp)) hS ?_)|((first|refine own_box rfl _ _ rfl (by rfl) hS ?_|refine w_al rfl rfl hS ?_);clear hS;(try clear ww);intro bb ww hS)|((first|refine w_st rfl _ _ rfl (by rfl) (by rfl) (by repeat constructor) (by rfl) (by rfl) (by first|rfl|assumption) hS ?_|refine w_s1 rfl _ _ rfl (by rfl) (by repeat constructor) (by first|exact .c|exact .t rfl) (by rfl) (by repeat constructor) hS ?_);clear hS;(try clear ww);intro ww hS))
  (try simp only [Act.put]);(try simp only [List.setIfInBounds_toArray]);(try simp only [List.set_cons_succ]);(try simp only [List.set_cons_zero])
  refine own_anyM hS [5, 8] [] 10 (by kernel_rfl) (by kernel_rfl) ?_
  clear hS
  intro hcl ww hS _
  refine own_batchN (own_start w0) [0, 1, 3, 4, 6, 7] 4 rfl hS hcl (by kernel_rfl) ?_
  (try simp only);repeat (first|(simp only [List.filterMap_cons])|(simp only [List.filterMap_nil])|(simp only [List.getElem?_toArray])|(simp only [List.getElem?_cons_succ])|(simp only [List.getElem?_cons_zero])|(simp only [List.reverse_cons])|(simp only [List.reverse_nil])|(simp only [List.nil_append])|(simp only [List.cons_append]))
  repeat (first
      | (first|(refine g_plain rfl ?_)|(refine g_yes rfl rfl rfl (by simp only [List.getElem?_toArray, List.getElem?_cons_succ, List.getElem?_cons_zero];rfl) (by with_reducible constructor) ?_)
         apply Exists.intro; refine ⟨?_, ?_⟩
         focus (intro wq hq0;(first|have hq : Own _ _ _ wq := hq0|have hq : Own _ _ _ wq := hq0.1|skip);first|((with_reducible show givesAt _ ({ dst := _, op := Op.load _ _, type := _, pos := _, after := _, guard := _ } : Oper) _ _ _);first|(exact givesAt_rd rfl (by rfl) (by first|exact rd_1 (by repeat constructor) (by first|rfl|assumption)|exact rd_w (by repeat constructor) (by rfl)|((first|refine rd_o ‹_› (by rfl) ?_|refine rd_h ‹_› (by rfl) ?_|refine rd_1o ‹_› ?_|refine rd_1h ‹_› (by first|rfl|assumption) ?_);first|exact nmn|assumption|simp)) hq))|(go_simp;first|(with_reducible rfl)))
         simp only [Act.put, List.setIfInBounds_toArray];(try simp only [List.set_cons_succ]);(try simp only [List.set_cons_zero]))
      | (refine g_no rfl rfl rfl (by simp only [List.getElem?_toArray, List.getElem?_cons_succ, List.getElem?_cons_zero];rfl) (by with_reducible constructor) ?_;simp only [Act.put, List.setIfInBounds_toArray];(try simp only [List.set_cons_succ]);(try simp only [List.set_cons_zero])))
  refine g_nil ?_
  clear hS hcl
  intro hcl ww hS
  (try simp only [Act.put]);(try simp only [List.setIfInBounds_toArray]);(try simp only [List.set_cons_succ]);(try simp only [List.set_cons_zero])
  refine own_soft hS 2 hcl (by simp only [List.getElem?_toArray, List.getElem?_cons_succ, List.getElem?_cons_zero]; rfl) (by kernel_rfl) ?_
  have hO := hS
  clear hS
  intro hS
  refine own_buildSlice rfl _ _ 1 _ rfl [c0, c1, c2, c3, c4, c5, c6, c7, c8, c9, c10] hS Try.underlying30 (by kernel_rfl) ?_
  clear hS
  intro bs w6 hS
  refine wpList_nil ⟨rfl, _, hS, ?_⟩
  clear hS hO hcl
  intro hcl w7 hS
  have hB7 := (bthen HB0.out hS.below)
  (try simp only [Act.put]);(try simp only [List.setIfInBounds_toArray]);(try simp only [List.set_cons_succ]);(try simp only [List.set_cons_zero])
  refine own_mid (K := [(bs, _)]) (L := []) hS (Own.newer (K := [(bs, _)]) (L := []) hS (fun _ h => by cases h)) 5 hcl (by simp only [List.getElem?_toArray, List.getElem?_cons_succ, List.getElem?_cons_zero]; rfl) (by kernel_rfl) ?_
  clear hS
  intro hS
  refine own_app (n := 1) (xs := [c0, c1, c2, c3, c4, c5, c6, c7, c8, c9, c10]) (X := [(bs, [c0, c1, c2, c3, c4, c5, c6, c7, c8, c9, c10])]) (L := []) rfl _ _ _ rfl ⟨rfl, .inr ⟨bs, 1, [], rfl, Nat.le_refl _, by simp [maxLen], rfl, rfl⟩⟩ (by decide) rfl rfl hS (repL_news HNs.out hB7) HLs.out HOs.out el_box (by decide) (by simp only [maxLen]; omega) (by omega) ?_
  clear hS
  intro v1 X1 w8 hS hX1
  refine wpList_nil ⟨rfl, _, hS, ?_⟩
  clear hS hcl hB7
  intro hcl w9 hS
  simp only [List.nil_append] at hS
  have hB9 := (bthen HB0.out hS.below)
  (try simp only [Act.put]);(try simp only [List.setIfInBounds_toArray]);(try simp only [List.set_cons_succ]);(try simp only [List.set_cons_zero])
  refine own_mid (K := X1) (L := []) hS (Own.newer (K := X1) (L := []) hS (fun _ h => by cases h)) 8 hcl (by simp only [List.getElem?_toArray, List.getElem?_cons_succ, List.getElem?_cons_zero]; rfl) (by kernel_rfl) ?_
  clear hS
  intro hS
  refine own_app (n := 1 + subs.length) (L := []) rfl _ _ _ rfl hX1 (by omega) rfl rfl hS (repL_news HNu.out hB9) HLu.out HOu.out el_box (by decide) (by simp only [maxLen]; omega) (by omega) ?_
  clear hS hX1
  intro v2 X2 w10 hS hX2
  obtain ⟨y2, k2, rfl⟩ := hX2.slice
  refine wpList_nil ⟨rfl, _, hS, ?_⟩
  clear hS hcl hB9
  intro hcl wa hS
  simp only [List.nil_append] at hS
  (try simp only [Act.put]);(try simp only [List.setIfInBounds_toArray]);(try simp only [List.set_cons_succ]);(try simp only [List.set_cons_zero])
  refine own_batch hS [9] 0 rfl hcl (by kernel_rfl) ?_
  (try simp only);repeat (first|(simp only [List.filterMap_cons])|(simp only [List.filterMap_nil])|(simp only [List.getElem?_toArray])|(simp only [List.getElem?_cons_succ])|(simp only [List.getElem?_cons_zero])|(simp only [List.reverse_cons])|(simp only [List.reverse_nil])|(simp only [List.nil_append])|(simp only [List.cons_append]))
  repeat (first
      | (first|(refine g_plain rfl ?_)|(refine g_yes rfl rfl rfl (by simp only [List.getElem?_toArray, List.getElem?_cons_succ, List.getElem?_cons_zero];rfl) (by with_reducible constructor) ?_)
         apply Exists.intro; refine ⟨?_, ?_⟩
         focus (intro wq hq0;(first|have hq : Own _ _ _ wq := hq0|have hq : Own _ _ _ wq := hq0.1|skip);first|((with_reducible show givesAt _ ({ dst := _, op := Op.load _ _, type := _, pos := _, after := _, guard := _ } : Oper) _ _ _);first|(exact givesAt_rd rfl (by rfl) (by first|exact rd_1 (by repeat constructor) (by first|rfl|assumption)|exact rd_w (by repeat constructor) (by rfl)|((first|refine rd_o ‹_› (by rfl) ?_|refine rd_h ‹_› (by rfl) ?_|refine rd_1o ‹_› ?_|refine rd_1h ‹_› (by first|rfl|assumption) ?_);first|exact nmn|assumption|simp)) hq))|(go_simp;first|(with_reducible rfl)))
         simp only [Act.put, List.setIfInBounds_toArray];(try simp only [List.set_cons_succ]);(try simp only [List.set_cons_zero]))
      | (refine g_no rfl rfl rfl (by simp only [List.getElem?_toArray, List.getElem?_cons_succ, List.getElem?_cons_zero];rfl) (by with_reducible constructor) ?_;simp only [Act.put, List.setIfInBounds_toArray];(try simp only [List.set_cons_succ]);(try simp only [List.set_cons_zero])))
  refine g_nil ?_
  clear hS hcl
  intro hcl ww hS
  refine own_done (by kernel_rfl) ?_
  rename World => w11
  (try simp only [Act.put]);(try simp only [List.setIfInBounds_toArray]);(try simp only [List.set_cons_succ]);(try simp only [List.set_cons_zero])
  have hAll : RepL w11 (n + 1) y2 (base :: (subs ++ sups)) := repLP_L (all_row hS (fun x hx => List.mem_append_left _ hx) hX2 (bthen HB0.out hS.below) HR.out HEs.out HEu.out rfl HRs.out HRu.out)
  generalize hNe : 1 + subs.length + sups.length = N at *
  have hN := Lib.hid hNe.symm
  clear hNe
  have HA := Lib.hid hAll
  have HB1 := Lib.hid (bthen HB0.out hS.below)
  have hrF1 := hS.range List.not_mem_nil hrF
  have bN : N ≤ 2097153 := by rw [hN.out]; omega
  clear hS hX2 hAll
  have hS := own_start w11
  by_cases h7 : N ≤ 7
  · have d7 : decide ((7 : Int) < (N : Int)) = false := decide_eq_false (by omega)
    by_cases hf : fewB F = true
    · rw [hf] at HF
      go_wp2_with (first|(refine own_unguard (by rfl) ?_)|(go_at_call 17;refine own_calls hS (HF.out _ (bthen HB1.out hS.below)) ?_;clear hS;(try clear ww);intro ww hS)|(refine w_ld rfl _ rfl (by rfl) (by first|exact rd_1 (by repeat constructor) (by first|rfl|assumption)|exact rd_w (by repeat constructor) (by rfl)|((first|refine rd_o ‹_› (by rfl) ?_|refine rd_h ‹_› (by rfl) ?_|refine rd_1o ‹_› ?_|refine rd_1h ‹_› (by first|rfl|assumption) ?_);first|exact nmn|assumption|simp)) hS ?_)|((first|refine own_box rfl _ _ rfl (by rfl) hS ?_|refine w_al rfl rfl hS ?_);clear hS;(try clear ww);intro bb ww hS)|((first|refine w_st rfl _ _ rfl (by rfl) (by rfl) (by repeat constructor) (by rfl) (by rfl) (by first|rfl|assumption) hS ?_|refine w_s1 rfl _ _ rfl (by rfl) (by repeat constructor) (by first|exact .c|exact .t rfl) (by rfl) (by repeat constructor) hS ?_);clear hS;(try clear ww);intro ww hS))
      have HS1 := Lib.hid hS.below
      go_loopw [4] (fun i wr => ∃ k : Nat, k ≤ N ∧ i = .int .i64 k ∧ (∀ (q : Nat) (b : Bx (n + 1)), q < k → (base :: (subs ++ sups))[q]? = some b → bCount (n + 1) b ≤ 200) ∧ Own [] w11 [] wr) (fun i _ => N - (intOf i).toNat)
      case atStart => exact ⟨0, Nat.zero_le _, rfl, fun q b hq => by omega, hS.forget (List.nil_sublist _)⟩
      case round =>
        clear hS HS1
        obtain ⟨k, hk, rfl, hpre, hS⟩ := hrel
        have HP := Lib.hid hpre
        clear hpre
        by_cases hlt : k < N
        · obtain ⟨kid, hkid⟩ : ∃ q, (base :: (subs ++ sups))[k]? = some q := ⟨(base :: (subs ++ sups))[k]'(by simp only [List.length_cons, List.length_append]; rw [hN.out] at hlt; omega), by rw [List.getElem?_eq_getElem]⟩
          obtain ⟨b3, o3, css, rfl, hr3, hp3⟩ := HA.out k kid hkid
          have HK := Lib.hid hkid
          have HP3 := Lib.hid hp3
          obtain ⟨f0, f1, f2, f3, f4, f5, f6, f7, f8, f9, f10, rfl⟩ := eleven hp3.len
          clear hkid hp3
          by_cases hfw : bCount (n + 1) kid ≤ 200
          · have HFw := Lib.hid (fun w' (h : Below w11.heap.size w11 w') => ref28_Few_calls (n + 1) kid _ 200 w' (HP3.out.step h) (by omega) true (by simp [hfw]))
            go_wp2_with (first|(refine own_unguard (by rfl) ?_)|(go_at_call 18;refine own_calls hS (HFw.out _ hS.below) ?_;clear hS;(try clear ww);intro ww hS)|(refine w_ld rfl _ rfl (by rfl) (by first|exact rd_1 (by repeat constructor) (by first|rfl|assumption)|exact rd_w (by repeat constructor) (by rfl)|((first|refine rd_o ‹_› (by rfl) ?_|refine rd_h ‹_› (by rfl) ?_|refine rd_1o ‹_› ?_|refine rd_1h ‹_› (by first|rfl|assumption) ?_);first|exact nmn|assumption|simp)) hS ?_)|((first|refine own_box rfl _ _ rfl (by rfl) hS ?_|refine w_al rfl rfl hS ?_);clear hS;(try clear ww);intro bb ww hS)|((first|refine w_st rfl _ _ rfl (by rfl) (by rfl) (by repeat constructor) (by rfl) (by rfl) (by first|rfl|assumption) hS ?_|refine w_s1 rfl _ _ rfl (by rfl) (by repeat constructor) (by first|exact .c|exact .t rfl) (by rfl) (by repeat constructor) hS ?_);clear hS;(try clear ww);intro ww hS))
            go_roundw
            case rel =>
              refine ⟨k + 1, hlt, by go_num, fun q b hq hb => ?_, hS.forget (List.nil_sublist _)⟩
              by_cases hqk : q < k
              · exact HP.out q b hqk hb
              · obtain rfl : q = k := by omega
                obtain rfl := Option.some.inj (HK.out.symm.trans hb)
                exact hfw
            case measure => exact loop_meas hlt
          · have HFw := Lib.hid (fun w' (h : Below w11.heap.size w11 w') => ref28_Few_calls (n + 1) kid _ 200 w' (HP3.out.step h) (by omega) false (by simp [hfw]))
            have hvf : v = false := by
              rw [HV.out]
              unfold tameS fewL
              have : ((base :: (subs ++ sups)).all fun b => decide (bCount (n + 1) b ≤ 200)) = false := by
                rw [List.all_eq_false]
                exact ⟨kid, List.mem_of_getElem? HK.out, by simp [hfw]⟩
              rw [this]
              simp
            subst hvf
            go_wp2_with (first|(refine own_unguard (by rfl) ?_)|(go_at_call 18;refine own_calls hS (HFw.out _ hS.below) ?_;clear hS;(try clear ww);intro ww hS)|(refine w_ld rfl _ rfl (by rfl) (by first|exact rd_1 (by repeat constructor) (by first|rfl|assumption)|exact rd_w (by repeat constructor) (by rfl)|((first|refine rd_o ‹_› (by rfl) ?_|refine rd_h ‹_› (by rfl) ?_|refine rd_1o ‹_› ?_|refine rd_1h ‹_› (by first|rfl|assumption) ?_);first|exact nmn|assumption|simp)) hS ?_)|((first|refine own_box rfl _ _ rfl (by rfl) hS ?_|refine w_al rfl rfl hS ?_);clear hS;(try clear ww);intro bb ww hS)|((first|refine w_st rfl _ _ rfl (by rfl) (by rfl) (by repeat constructor) (by rfl) (by rfl) (by first|rfl|assumption) hS ?_|refine w_s1 rfl _ _ rfl (by rfl) (by repeat constructor) (by first|exact .c|exact .t rfl) (by rfl) (by repeat constructor) hS ?_);clear hS;(try clear ww);intro ww hS))
            go_ret
            exact ⟨rfl, bthen HB1.out hS.below⟩
        · obtain rfl : k = N := by omega
          have hvt : v = true := by
            rw [HV.out]
            unfold tameS fewL
            have : ((base :: (subs ++ sups)).all fun b => decide (bCount (n + 1) b ≤ 200)) = true := by
              rw [List.all_eq_true]
              intro b hb
              obtain ⟨q, hq⟩ := List.mem_iff_getElem?.1 hb
              have hql := (List.getElem?_eq_some_iff.1 hq).1
              simp only [List.length_cons, List.length_append] at hql
              exact decide_eq_true (HP.out q b (by rw [hN.out]; omega) hq)
            rw [this, hf, ← hN.out]
            simp [h7]
          subst hvt
          go_wp2_with (first|(refine own_unguard (by rfl) ?_)|(refine w_ld rfl _ rfl (by rfl) (by first|exact rd_1 (by repeat constructor) (by first|rfl|assumption)|exact rd_w (by repeat constructor) (by rfl)|((first|refine rd_o ‹_› (by rfl) ?_|refine rd_h ‹_› (by rfl) ?_|refine rd_1o ‹_› ?_|refine rd_1h ‹_› (by first|rfl|assumption) ?_);first|exact nmn|assumption|simp)) hS ?_)|((first|refine own_box rfl _ _ rfl (by rfl) hS ?_|refine w_al rfl rfl hS ?_);clear hS;(try clear ww);intro bb ww hS)|((first|refine w_st rfl _ _ rfl (by rfl) (by rfl) (by repeat constructor) (by rfl) (by rfl) (by first|rfl|assumption) hS ?_|refine w_s1 rfl _ _ rfl (by rfl) (by repeat constructor) (by first|exact .c|exact .t rfl) (by rfl) (by repeat constructor) hS ?_);clear hS;(try clear ww);intro ww hS))
          go_ret
          exact ⟨rfl, bthen HB1.out hS.below⟩
    · have hf2 : fewB F = false := by simpa using hf
      rw [hf2] at HF
      obtain rfl : v = false := by
        rw [HV.out]
        unfold tameS
        rw [hf2]
        simp
      go_wp2_with (first|(refine own_unguard (by rfl) ?_)|(go_at_call 17;refine own_calls hS (HF.out _ (bthen HB1.out hS.below)) ?_;clear hS;(try clear ww);intro ww hS)|(refine w_ld rfl _ rfl (by rfl) (by first|exact rd_1 (by repeat constructor) (by first|rfl|assumption)|exact rd_w (by repeat constructor) (by rfl)|((first|refine rd_o ‹_› (by rfl) ?_|refine rd_h ‹_› (by rfl) ?_|refine rd_1o ‹_› ?_|refine rd_1h ‹_› (by first|rfl|assumption) ?_);first|exact nmn|assumption|simp)) hS ?_)|((first|refine own_box rfl _ _ rfl (by rfl) hS ?_|refine w_al rfl rfl hS ?_);clear hS;(try clear ww);intro bb ww hS)|((first|refine w_st rfl _ _ rfl (by rfl) (by rfl) (by repeat constructor) (by rfl) (by rfl) (by first|rfl|assumption) hS ?_|refine w_s1 rfl _ _ rfl (by rfl) (by repeat constructor) (by first|exact .c|exact .t rfl) (by rfl) (by repeat constructor) hS ?_);clear hS;(try clear ww);intro ww hS))
      go_ret
      exact ⟨rfl, bthen HB1.out hS.below⟩
  · have d7 : decide ((7 : Int) < (N : Int)) = true := decide_eq_true (by omega)
    obtain rfl : v = false := by
      rw [HV.out]
      unfold tameS
      rw [← hN.out]
      simp [h7]
    go_wp2_with (first|(refine own_unguard (by rfl) ?_)|(refine w_ld rfl _ rfl (by rfl) (by first|exact rd_1 (by repeat constructor) (by first|rfl|assumption)|exact rd_w (by repeat constructor) (by rfl)|((first|refine rd_o ‹_› (by rfl) ?_|refine rd_h ‹_› (by rfl) ?_|refine rd_1o ‹_› ?_|refine rd_1h ‹_› (by first|rfl|assumption) ?_);first|exact nmn|assumption|simp)) hS ?_)|((first|refine own_box rfl _ _ rfl (by rfl) hS ?_|refine w_al rfl rfl hS ?_);clear hS;(try clear ww);intro bb ww hS)|((first|refine w_st rfl _ _ rfl (by rfl) (by rfl) (by repeat constructor) (by rfl) (by rfl) (by first|rfl|assumption) hS ?_|refine w_s1 rfl _ _ rfl (by rfl) (by repeat constructor) (by first|exact .c|exact .t rfl) (by rfl) (by repeat constructor) hS ?_);clear hS;(try clear ww);intro ww hS))
    go_ret
    exact ⟨rfl, bthen HB1.out hS.below⟩

end Go.Proofs.Ytdbcdjiclkmknaa
namespace Go.Proofs.Ytdbcdjiclkmknaa
open Go.RowKit

attribute [local irreducible] wpQuiet wpG wpP wpK wpList Code.wp Calls

/-- A box is at 0, 0. -/
def atO : (n : Nat) → Bx n → Bool
  | 0, b => b.elim
  | _ + 1, b => decide (b.1.x = 0) && decide (b.1.y = 0)
/-- The glyph of a simple box. -/
def innerS : (n : Nat) → Bx n → Option (Σ m, Bx (m + 1))
  | 0, b => b.elim
  | n + 1, (a, ks) => if a.kind = 1 then some ⟨n, (a, ks)⟩ else if a.kind = 3 then (match ks with | [k] => if atO n k = true then innerS n k else none | _ => none) else none
theorem inner_glyph {n : Nat} {a : Hd} {ks : List (Bx n)} (h : a.kind = 1) : innerS (n + 1) (a, ks) = some ⟨n, (a, ks)⟩ := by unfold innerS; rw [if_pos h]
theorem inner_kind {n : Nat} {a : Hd} {ks : List (Bx n)} (h1 : a.kind ≠ 1) (h3 : a.kind ≠ 3) : innerS (n + 1) (a, ks) = none := by unfold innerS; rw [if_neg h1, if_neg h3]
theorem inner_len {n : Nat} {a : Hd} {ks : List (Bx n)} (h1 : a.kind ≠ 1) (h : ks.length ≠ 1) : innerS (n + 1) (a, ks) = none := by
  unfold innerS
  rw [if_neg h1]
  split
  · split
    · exact absurd rfl h
    · rfl
  · rfl
theorem inner_off {n : Nat} {a : Hd} {k : Bx n} (h1 : a.kind ≠ 1) (h : atO n k = false) : innerS (n + 1) (a, [k]) = none := by
  unfold innerS
  rw [if_neg h1]
  split
  · simp [h]
  · rfl
theorem inner_down {n : Nat} {a : Hd} {k : Bx n} (h3 : a.kind = 3) (h : atO n k = true) : innerS (n + 1) (a, [k]) = innerS n k := by
  unfold innerS
  rw [if_neg (by omega), if_pos h3]
  simp only [h, if_true]
  cases n <;> rfl
/-- The cells are the box, whose lists lie where P says. -/
@[reducible] def RepIn (P : Nat → Prop) (w : World) (n : Nat) (b : Bx n) (cs : List Value) : Prop := RepG (fun k _ => P k) P w n b cs
theorem repIn_out {P : Nat → Prop} {w : World} {n : Nat} {a : Hd} {kids : List (Bx n)} {cs : List Value} (h : RepIn P w (n + 1) (a, kids) cs) : ∃ kx kc sx sc, cs = a.cells (.slice kx kids.length kc) (.slice sx a.src.length sc) ∧ kids.length ≤ maxLen ∧ ∀ i kid, kids[i]? = some kid → ∃ k o css, kx = some ⟨k, o, none⟩ ∧ P k ∧ w.rangeAt k (o + i * 11) css ∧ RepIn P w n kid css := by
  obtain ⟨kx, kc, sx, sc, h1, _, h3, _, _, h6⟩ := h
  exact ⟨kx, kc, sx, sc, h1, h3, h6⟩
/-- What innermost returns: a pointer to the glyph (which lies in block K, or where P says), or none. -/
def InnerAt (P : Nat → Prop) (K : Nat) (w : World) (r : Option (Σ m, Bx (m + 1))) (v : Value) : Prop :=
  match r with
  | none => v = .pointer none
  | some g => ∃ k o cs, v = .pointer (some ⟨k, o, none⟩) ∧ (k = K ∨ P k) ∧ w.rangeAt k o cs ∧ RepIn P w (g.1 + 1) g.2 cs
/-- Where the loop stands: the pointer is that of a box of so many levels, whose glyph is that of the first. -/
def InnLoop (P : Nat → Prop) (K : Nat) (w : World) (N : Nat) (B : Bx N) (n : Nat) (v : Value) (wr : World) : Prop := ∃ (b : Bx n) (k o : Nat) (cs : List Value), v = .pointer (some ⟨k, o, none⟩) ∧ (k = K ∨ P k) ∧ w.rangeAt k o cs ∧ RepIn P w n b cs ∧ innerS n b = innerS N B ∧ Own [] w [] wr

set_option maxHeartbeats 8000000 in
set_option maxRecDepth 100000 in
theorem innermost_calls (P : Nat → Prop) (N : Nat) (B : Bx N) (cs : List Value) (K o : Nat) (w : World) (hr : w.rangeAt K o cs) (hR : RepIn P w N B cs) :
    Calls Try.prog 43 #[.pointer (some ⟨K, o, none⟩)] w (fun e w' => ∃ v, e = .returned v ∧ InnerAt P K w (innerS N B) v ∧ Below w.heap.size w w') := by
  go_enter Try.func43, Try.ntmps43
  have hS := own_start w
  iterate 2
    go_wp2_with (first|(refine own_unguard (by rfl) ?_)|(refine w_ld rfl _ rfl (by rfl) (by first|exact rd_1 (by repeat constructor) (by first|rfl|assumption)|exact rd_w (by repeat constructor) (by rfl)|((first|refine rd_o ‹_› (by rfl) ?_|refine rd_h ‹_› (by rfl) ?_|refine rd_1o ‹_› ?_|refine rd_1h ‹_› (by first|rfl|assumption) ?_);first|exact nmn|assumption|simp)) hS ?_)|(refine own_box rfl _ _ rfl (by rfl) hS ?_;clear hS;(try clear ww);intro bb ww hS)|((first|refine w_st rfl _ _ rfl (by rfl) (by rfl) (by repeat constructor) (by rfl) (by rfl) (by first|rfl|assumption) hS ?_|refine w_s1 rfl _ _ rfl (by rfl) (by repeat constructor) (by first|exact .c|exact .t rfl) (by rfl) (by repeat constructor) hS ?_);clear hS;(try clear ww);intro ww hS))
    go_step3
  go_wp2_with (first|(refine own_unguard (by rfl) ?_)|(refine w_ld rfl _ rfl (by rfl) (by first|exact rd_1 (by repeat constructor) (by first|rfl|assumption)|exact rd_w (by repeat constructor) (by rfl)|((first|refine rd_o ‹_› (by rfl) ?_|refine rd_h ‹_› (by rfl) ?_|refine rd_1o ‹_› ?_|refine rd_1h ‹_› (by first|rfl|assumption) ?_);first|exact nmn|assumption|simp)) hS ?_)|(refine own_box rfl _ _ rfl (by rfl) hS ?_;clear hS;(try clear ww);intro bb ww hS)|((first|refine w_st rfl _ _ rfl (by rfl) (by rfl) (by repeat constructor) (by rfl) (by rfl) (by first|rfl|assumption) hS ?_|refine w_s1 rfl _ _ rfl (by rfl) (by repeat constructor) (by first|exact .c|exact .t rfl) (by rfl) (by repeat constructor) hS ?_);clear hS;(try clear ww);intro ww hS))
  go_loopw [0] (fun v wr => ∃ n, InnLoop P K w N B n v wr) (fun v wr => least (fun n => InnLoop P K w N B n v wr))
  case atStart => exact ⟨N, B, K, o, cs, rfl, .inl rfl, hr, hR, rfl, hS⟩
  case round =>
    clear hS hr hR
    have hspec := least_spec hrel
    obtain ⟨T, hT⟩ : ∃ T, Hid (T = least (fun n => InnLoop P K w N B n u0 wr)) := ⟨_, rfl⟩
    rw [← hT.out] at hspec
    obtain ⟨b, k, o, cs, rfl, hkP, hrg, hrep, hin, hS⟩ := hspec
    cases T with
    | zero => exact hrep.elim
    | succ n =>
      obtain ⟨⟨kind, name, size, bw, bh, bd, bx, by_, of, src⟩, kids⟩ := b
      have HRp := Lib.hid hrep
      obtain ⟨kx, kc, sx, sc, rfl, hkl, hkids⟩ := repIn_out hrep
      have HRg := Lib.hid hrg
      have HIn := Lib.hid hin
      have c0 : w.cell? ⟨k, o, none⟩ = some (.int .i64 kind) := hrg 0 _ rfl
      have c8 : w.cell? ⟨k, o + 8, none⟩ = some (.slice kx kids.length kc) := hrg 8 _ rfl
      clear hrep hrg hin hrel
      by_cases h1 : kind = 1
      · subst h1
        go_wp2_with (first|(refine own_unguard (by rfl) ?_)|(refine w_ld rfl _ rfl (by rfl) (by first|exact rd_1 (by repeat constructor) (by first|rfl|assumption)|exact rd_w (by repeat constructor) (by rfl)|((first|refine rd_o ‹_› (by rfl) ?_|refine rd_h ‹_› (by rfl) ?_|refine rd_1o ‹_› ?_|refine rd_1h ‹_› (by first|rfl|assumption) ?_);first|exact nmn|assumption|simp)) hS ?_)|(refine own_box rfl _ _ rfl (by rfl) hS ?_;clear hS;(try clear ww);intro bb ww hS)|((first|refine w_st rfl _ _ rfl (by rfl) (by rfl) (by repeat constructor) (by rfl) (by rfl) (by first|rfl|assumption) hS ?_|refine w_s1 rfl _ _ rfl (by rfl) (by repeat constructor) (by first|exact .c|exact .t rfl) (by rfl) (by repeat constructor) hS ?_);clear hS;(try clear ww);intro ww hS))
        go_ret
        exact ⟨_, rfl, by rw [← HIn.out, inner_glyph rfl]; exact ⟨k, o, _, rfl, hkP, HRg.out, HRp.out⟩, hS.below⟩
      · have d1 : decide (kind = 1) = false := decide_eq_false h1
        by_cases h3 : kind = 3
        · subst h3
          by_cases hl : kids.length = 1
          · obtain ⟨kid, rfl⟩ := List.length_eq_one_iff.1 hl
            obtain ⟨k2, o2, css, rfl, hP2, hr2, hp2⟩ := hkids 0 kid rfl
            rw [Nat.zero_mul, Nat.add_zero] at hr2
            cases n with
            | zero => exact kid.elim
            | succ n =>
              obtain ⟨⟨kind2, name2, size2, bw2, bh2, bd2, x2, y2, of2, src2⟩, kids2⟩ := kid
              obtain ⟨_, _, _, _, rfl, _⟩ := repIn_out hp2
              have e6 : w.cell? ⟨k2, o2 + 6, none⟩ = some (.int .i64 x2) := hr2 6 _ rfl
              have e7 : w.cell? ⟨k2, o2 + 7, none⟩ = some (.int .i64 y2) := hr2 7 _ rfl
              have HR2 := Lib.hid hr2
              have HP2 := Lib.hid hp2
              clear hr2 hp2 hkids
              by_cases hx : x2 = 0
              · subst hx
                by_cases hy : y2 = 0
                · subst hy
                  go_wp2_with (first|(refine own_unguard (by rfl) ?_)|(refine w_ld rfl _ rfl (by rfl) (by first|exact rd_1 (by repeat constructor) (by first|rfl|assumption)|exact rd_w (by repeat constructor) (by rfl)|((first|refine rd_o ‹_› (by rfl) ?_|refine rd_h ‹_› (by rfl) ?_|refine rd_1o ‹_› ?_|refine rd_1h ‹_› (by first|rfl|assumption) ?_);first|exact nmn|assumption|simp)) hS ?_)|(refine own_box rfl _ _ rfl (by rfl) hS ?_;clear hS;(try clear ww);intro bb ww hS)|((first|refine w_st rfl _ _ rfl (by rfl) (by rfl) (by repeat constructor) (by rfl) (by rfl) (by first|rfl|assumption) hS ?_|refine w_s1 rfl _ _ rfl (by rfl) (by repeat constructor) (by first|exact .c|exact .t rfl) (by rfl) (by repeat constructor) hS ?_);clear hS;(try clear ww);intro ww hS))
                  go_roundw
                  case rel => exact ⟨_, _, k2, o2, _, rfl, .inr hP2, HR2.out, HP2.out, by rw [← HIn.out, inner_down rfl (by simp [atO])], hS⟩
                  case measure => exact Nat.lt_of_le_of_lt (least_le ⟨_, k2, o2, _, rfl, .inr hP2, HR2.out, HP2.out, by rw [← HIn.out, inner_down rfl (by simp [atO])], hS⟩) (by rw [← hT.out]; exact Nat.lt_succ_self _)
                · have dy : decide (y2 = 0) = false := decide_eq_false hy
                  go_wp2_with (first|(refine own_unguard (by rfl) ?_)|(refine w_ld rfl _ rfl (by rfl) (by first|exact rd_1 (by repeat constructor) (by first|rfl|assumption)|exact rd_w (by repeat constructor) (by rfl)|((first|refine rd_o ‹_› (by rfl) ?_|refine rd_h ‹_› (by rfl) ?_|refine rd_1o ‹_› ?_|refine rd_1h ‹_› (by first|rfl|assumption) ?_);first|exact nmn|assumption|simp)) hS ?_)|(refine own_box rfl _ _ rfl (by rfl) hS ?_;clear hS;(try clear ww);intro bb ww hS)|((first|refine w_st rfl _ _ rfl (by rfl) (by rfl) (by repeat constructor) (by rfl) (by rfl) (by first|rfl|assumption) hS ?_|refine w_s1 rfl _ _ rfl (by rfl) (by repeat constructor) (by first|exact .c|exact .t rfl) (by rfl) (by repeat constructor) hS ?_);clear hS;(try clear ww);intro ww hS))
                  go_ret
                  exact ⟨_, rfl, by rw [← HIn.out, inner_off (show (3 : Int) ≠ 1 by decide) (by simp [atO, hy])]; rfl, hS.below⟩
              · have dx : decide (x2 = 0) = false := decide_eq_false hx
                go_wp2_with (first|(refine own_unguard (by rfl) ?_)|(refine w_ld rfl _ rfl (by rfl) (by first|exact rd_1 (by repeat constructor) (by first|rfl|assumption)|exact rd_w (by repeat constructor) (by rfl)|((first|refine rd_o ‹_› (by rfl) ?_|refine rd_h ‹_› (by rfl) ?_|refine rd_1o ‹_› ?_|refine rd_1h ‹_› (by first|rfl|assumption) ?_);first|exact nmn|assumption|simp)) hS ?_)|(refine own_box rfl _ _ rfl (by rfl) hS ?_;clear hS;(try clear ww);intro bb ww hS)|((first|refine w_st rfl _ _ rfl (by rfl) (by rfl) (by repeat constructor) (by rfl) (by rfl) (by first|rfl|assumption) hS ?_|refine w_s1 rfl _ _ rfl (by rfl) (by repeat constructor) (by first|exact .c|exact .t rfl) (by rfl) (by repeat constructor) hS ?_);clear hS;(try clear ww);intro ww hS))
                go_ret
                exact ⟨_, rfl, by rw [← HIn.out, inner_off (show (3 : Int) ≠ 1 by decide) (by simp [atO, hx])]; rfl, hS.below⟩
          · have dl : decide ((kids.length : Int) = 1) = false := decide_eq_false (by omega)
            have hNn := Lib.hid hl
            clear hkids
            go_wp2_with (first|(refine own_unguard (by rfl) ?_)|(refine w_ld rfl _ rfl (by rfl) (by first|exact rd_1 (by repeat constructor) (by first|rfl|assumption)|exact rd_w (by repeat constructor) (by rfl)|((first|refine rd_o ‹_› (by rfl) ?_|refine rd_h ‹_› (by rfl) ?_|refine rd_1o ‹_› ?_|refine rd_1h ‹_› (by first|rfl|assumption) ?_);first|exact nmn|assumption|simp)) hS ?_)|(refine own_box rfl _ _ rfl (by rfl) hS ?_;clear hS;(try clear ww);intro bb ww hS)|((first|refine w_st rfl _ _ rfl (by rfl) (by rfl) (by repeat constructor) (by rfl) (by rfl) (by first|rfl|assumption) hS ?_|refine w_s1 rfl _ _ rfl (by rfl) (by repeat constructor) (by first|exact .c|exact .t rfl) (by rfl) (by repeat constructor) hS ?_);clear hS;(try clear ww);intro ww hS))
            go_ret
            exact ⟨_, rfl, by rw [← HIn.out, inner_len (show (3 : Int) ≠ 1 by decide) hNn.out]; rfl, hS.below⟩
        · have d3 : decide (kind = 3) = false := decide_eq_false h3
          clear hkids
          go_wp2_with (first|(refine own_unguard (by rfl) ?_)|(refine w_ld rfl _ rfl (by rfl) (by first|exact rd_1 (by repeat constructor) (by first|rfl|assumption)|exact rd_w (by repeat constructor) (by rfl)|((first|refine rd_o ‹_› (by rfl) ?_|refine rd_h ‹_› (by rfl) ?_|refine rd_1o ‹_› ?_|refine rd_1h ‹_› (by first|rfl|assumption) ?_);first|exact nmn|assumption|simp)) hS ?_)|(refine own_box rfl _ _ rfl (by rfl) hS ?_;clear hS;(try clear ww);intro bb ww hS)|((first|refine w_st rfl _ _ rfl (by rfl) (by rfl) (by repeat constructor) (by rfl) (by rfl) (by first|rfl|assumption) hS ?_|refine w_s1 rfl _ _ rfl (by rfl) (by repeat constructor) (by first|exact .c|exact .t rfl) (by rfl) (by repeat constructor) hS ?_);clear hS;(try clear ww);intro ww hS))
          go_ret
          exact ⟨_, rfl, by rw [← HIn.out, inner_kind h1 h3]; rfl, hS.below⟩

end Go.Proofs.Ytdbcdjiclkmknaa
namespace Go.Proofs.Ytdbcdjiclkmknaa
open Go.RowKit

attribute [local irreducible] wpQuiet wpG wpP wpK wpList Code.wp Calls

end Go.Proofs.Ytdbcdjiclkmknaa
