/- The reference of chapter 37: check. -/
import Derived.Test.YtgnkngkogamjaaaJ22
import Derived.Test.YtgnkngkogamjaaaJ17
namespace Go.Proofs.Ytgnkngkogamjaaa
open Go.RowKit
attribute [local irreducible] wpQuiet wpG wpP wpK wpList Code.wp Calls

set_option maxHeartbeats 8000000 in
set_option maxRecDepth 100000 in
theorem ref37_check_font (F : Fnt) (l : Int) (c : Bool) (n : Nat) (C : Int) (kids : List (Bx (n + 1))) (kx : Option Addr) (kc : Nat) (w : World) (hF : FntOk w F) (hq : F.gs.length ≤ 500 ∧ F.ss.length ≤ 50) (_hk : RepL w (n + 1) kx kids) (_hc : ∀ k ∈ kids, bCount (n + 1) k ≤ 1000000) (_hl : kids.length ≤ 400) (hv : ¬ ValidF F) : Calls Try.prog 28 #[F.val, .agg #[.int .i64 l, .bool c], .int .i64 C, .slice kx kids.length kc] w (Gives (.int .i64 1) w) := by
  have HF := Lib.hid hF
  have HV := Lib.hid hv
  have HQ := Lib.hid hq
  clear hF hv hq
  go_enter Try.func28, Try.ntmps28
  have hS := own_start w
  go_wp2_with (first | (refine own_unguard (by rfl) ?_) | (go_at_call 35; refine own_calls hS (ref05_Valid_calls F _ (HF.out.below hS.below) HQ.out _ (iff_f HV.out)) ?_; clear hS; (try clear ww); intro ww hS) | (refine w_ld rfl _ rfl (by rfl) (by first | exact rd_1 (by repeat constructor) (by first | rfl | assumption) | exact rd_w (by repeat constructor) (by rfl) | exact rd_o (by assumption) (by rfl) (by first | exact nmn | assumption | simp) | exact rd_h (by assumption) (by rfl) (by first | exact nmn | assumption | simp) | exact rd_1o (by assumption) (by first | exact nmn | assumption | simp) | exact rd_1h (by assumption) (by first | rfl | assumption) (by first | exact nmn | assumption | simp)) hS ?_) | (refine own_box rfl _ _ rfl (by rfl) hS ?_; clear hS; (try clear ww); intro bb ww hS) | (refine w_al rfl rfl hS ?_; clear hS; (try clear ww); intro bb ww hS) | (refine w_st rfl _ _ rfl (by rfl) (by rfl) (by repeat constructor) (by rfl) (by rfl) (by first | rfl | assumption) hS ?_; clear hS; (try clear ww); intro ww hS) | (refine w_s1 rfl _ _ rfl (by rfl) (by repeat constructor) (by first | exact .c | exact .t rfl) (by rfl) (by repeat constructor) hS ?_; clear hS; (try clear ww); intro ww hS))
  go_ret
  exact own_gives hS

set_option maxHeartbeats 8000000 in
set_option maxRecDepth 100000 in
theorem ref37_check_style (F : Fnt) (l : Int) (c : Bool) (n : Nat) (C : Int) (kids : List (Bx (n + 1))) (kx : Option Addr) (kc : Nat) (w : World) (hF : FntOk w F) (hq : F.gs.length ≤ 500 ∧ F.ss.length ≤ 50) (_hk : RepL w (n + 1) kx kids) (_hc : ∀ k ∈ kids, bCount (n + 1) k ≤ 1000000) (_hl : kids.length ≤ 400) (hv : ValidF F) (hlv : lvlOk l = false) : Calls Try.prog 28 #[F.val, .agg #[.int .i64 l, .bool c], .int .i64 C, .slice kx kids.length kc] w (Gives (.int .i64 1) w) := by
  have HF := Lib.hid hF
  have HV := Lib.hid hv
  have HQ := Lib.hid hq
  have HL := Lib.hid hlv
  clear hF hv hq hlv
  go_enter Try.func28, Try.ntmps28
  have hS := own_start w
  go_wp2_with (first | (refine own_unguard (by rfl) ?_) | (go_at_call 35; refine own_calls hS (ref05_Valid_calls F _ (HF.out.below hS.below) HQ.out _ (iff_t HV.out)) ?_; clear hS; (try clear ww); intro ww hS) | (go_at_call 36; refine own_calls hS (ref25_Valid_v HL) ?_; clear hS; (try clear ww); intro ww hS) | (refine w_ld rfl _ rfl (by rfl) (by first | exact rd_1 (by repeat constructor) (by first | rfl | assumption) | exact rd_w (by repeat constructor) (by rfl) | exact rd_o (by assumption) (by rfl) (by first | exact nmn | assumption | simp) | exact rd_h (by assumption) (by rfl) (by first | exact nmn | assumption | simp) | exact rd_1o (by assumption) (by first | exact nmn | assumption | simp) | exact rd_1h (by assumption) (by first | rfl | assumption) (by first | exact nmn | assumption | simp)) hS ?_) | (refine own_box rfl _ _ rfl (by rfl) hS ?_; clear hS; (try clear ww); intro bb ww hS) | (refine w_al rfl rfl hS ?_; clear hS; (try clear ww); intro bb ww hS) | (refine w_st rfl _ _ rfl (by rfl) (by rfl) (by repeat constructor) (by rfl) (by rfl) (by first | rfl | assumption) hS ?_; clear hS; (try clear ww); intro ww hS) | (refine w_s1 rfl _ _ rfl (by rfl) (by repeat constructor) (by first | exact .c | exact .t rfl) (by rfl) (by repeat constructor) hS ?_; clear hS; (try clear ww); intro ww hS))
  go_ret
  exact own_gives hS

set_option maxHeartbeats 8000000 in
set_option maxRecDepth 100000 in
theorem ref37_check_list (F : Fnt) (l : Int) (c : Bool) (n : Nat) (C : Int) (kids : List (Bx (n + 1))) (kx : Option Addr) (kc : Nat) (w : World) (hF : FntOk w F) (hq : F.gs.length ≤ 500 ∧ F.ss.length ≤ 50) (hk : RepL w (n + 1) kx kids) (hc : ∀ k ∈ kids, bCount (n + 1) k ≤ 1000000) (hl : kids.length ≤ 400) (hv : ValidF F) (hlv : lvlOk l = true) (hb : ¬ ∀ k ∈ kids, validB (n + 1) k) : Calls Try.prog 28 #[F.val, .agg #[.int .i64 l, .bool c], .int .i64 C, .slice kx kids.length kc] w (Gives (.int .i64 1) w) := by
  have HF := Lib.hid hF
  have HV := Lib.hid hv
  have HQ := Lib.hid hq
  have HL := Lib.hid hlv
  have HK := Lib.hid hk
  have HC := Lib.hid hc
  have HB := Lib.hid hb
  clear hF hv hq hlv hk hc hb
  go_enter Try.func28, Try.ntmps28
  have hS := own_start w
  go_wp2_with (first | (refine own_unguard (by rfl) ?_) | (go_at_call 35; refine own_calls hS (ref05_Valid_calls F _ (HF.out.below hS.below) HQ.out _ (iff_t HV.out)) ?_; clear hS; (try clear ww); intro ww hS) | (go_at_call 36; refine own_calls hS (ref25_Valid_v HL) ?_; clear hS; (try clear ww); intro ww hS) | (refine w_ld rfl _ rfl (by rfl) (by first | exact rd_1 (by repeat constructor) (by first | rfl | assumption) | exact rd_w (by repeat constructor) (by rfl) | exact rd_o (by assumption) (by rfl) (by first | exact nmn | assumption | simp) | exact rd_h (by assumption) (by rfl) (by first | exact nmn | assumption | simp) | exact rd_1o (by assumption) (by first | exact nmn | assumption | simp) | exact rd_1h (by assumption) (by first | rfl | assumption) (by first | exact nmn | assumption | simp)) hS ?_) | (refine own_box rfl _ _ rfl (by rfl) hS ?_; clear hS; (try clear ww); intro bb ww hS) | (refine w_al rfl rfl hS ?_; clear hS; (try clear ww); intro bb ww hS) | (refine w_st rfl _ _ rfl (by rfl) (by rfl) (by repeat constructor) (by rfl) (by rfl) (by first | rfl | assumption) hS ?_; clear hS; (try clear ww); intro ww hS) | (refine w_s1 rfl _ _ rfl (by rfl) (by repeat constructor) (by first | exact .c | exact .t rfl) (by rfl) (by repeat constructor) hS ?_; clear hS; (try clear ww); intro ww hS))
  obtain ⟨L0, HL0, hS0⟩ := hS.named
  clear hS
  have hS := hS0
  clear hS0
  go_loopw [9] (fun i wr => ∃ j : Nat, j ≤ kids.length ∧ i = .int .i64 j ∧ (∀ k ∈ kids.take j, validB (n + 1) k) ∧ Own [] w L0 wr) (fun i _ => kids.length - (intOf i).toNat)
  case atStart => exact ⟨0, Nat.zero_le _, rfl, by simp, hS⟩
  case round =>
    clear hS
    obtain ⟨j, hj, rfl, hf, hS⟩ := hrel
    obtain rfl := HL0.out
    clear HL0
    have HFo := Lib.hid hf
    clear hf
    by_cases hlt : j < kids.length
    · obtain ⟨kid, hkid⟩ : ∃ kid, kids[j]? = some kid := ⟨kids[j], by simp [hlt]⟩
      obtain ⟨kb, ko, css, hkx, hrg, hrep⟩ := HK.out j kid hkid
      obtain rfl : kx = some ⟨kb, ko, none⟩ := hkx
      obtain ⟨c0, c1, c2, c3, c4, c5, c6, c7, c8, c9, c10, rfl⟩ := eleven hrep.len
      have hcc := HC.out kid (List.mem_of_getElem? hkid)
      by_cases hvk : validB (n + 1) kid
      · have HR := Lib.hid (fun w' (h : Below w.heap.size w w') => ref28_Valid_calls (n + 1) kid _ w' (hrep.step h) hrep.wide hcc _ (iff_t hvk))
        have HF2 := Lib.hid (show ∀ k ∈ kids.take (j + 1), validB (n + 1) k by
          rw [List.take_add_one, hkid]
          intro k hk
          rcases List.mem_append.1 hk with h | h
          · exact HFo.out k h
          · obtain rfl : k = kid := by simpa using h
            exact hvk)
        clear hrep hcc hvk hkid
        go_wp2_with (first | (refine own_unguard (by rfl) ?_) | (go_at_call 33; refine own_calls hS (HR.out _ hS.below) ?_; clear hS; (try clear ww); intro ww hS) | (refine w_ld rfl _ rfl (by rfl) (by first | exact rd_1 (by repeat constructor) (by first | rfl | assumption) | exact rd_w (by repeat constructor) (by rfl) | exact rd_o (by assumption) (by rfl) (by first | exact nmn | assumption | simp) | exact rd_h (by assumption) (by rfl) (by first | exact nmn | assumption | simp) | exact rd_1o (by assumption) (by first | exact nmn | assumption | simp) | exact rd_1h (by assumption) (by first | rfl | assumption) (by first | exact nmn | assumption | simp)) hS ?_) | (refine own_box rfl _ _ rfl (by rfl) hS ?_; clear hS; (try clear ww); intro bb ww hS) | (refine w_al rfl rfl hS ?_; clear hS; (try clear ww); intro bb ww hS) | (refine w_st rfl _ _ rfl (by rfl) (by rfl) (by repeat constructor) (by rfl) (by rfl) (by first | rfl | assumption) hS ?_; clear hS; (try clear ww); intro ww hS) | (refine w_s1 rfl _ _ rfl (by rfl) (by repeat constructor) (by first | exact .c | exact .t rfl) (by rfl) (by repeat constructor) hS ?_; clear hS; (try clear ww); intro ww hS))
        go_roundw
        case rel => exact ⟨j + 1, hlt, by go_num, HF2.out, hS.forget (by simp)⟩
        case measure => exact loop_meas hlt
      · have HR := Lib.hid (fun w' (h : Below w.heap.size w w') => ref28_Valid_calls (n + 1) kid _ w' (hrep.step h) hrep.wide hcc _ (iff_f hvk))
        clear hrep hcc hvk hkid
        go_wp2_with (first | (refine own_unguard (by rfl) ?_) | (go_at_call 33; refine own_calls hS (HR.out _ hS.below) ?_; clear hS; (try clear ww); intro ww hS) | (refine w_ld rfl _ rfl (by rfl) (by first | exact rd_1 (by repeat constructor) (by first | rfl | assumption) | exact rd_w (by repeat constructor) (by rfl) | exact rd_o (by assumption) (by rfl) (by first | exact nmn | assumption | simp) | exact rd_h (by assumption) (by rfl) (by first | exact nmn | assumption | simp) | exact rd_1o (by assumption) (by first | exact nmn | assumption | simp) | exact rd_1h (by assumption) (by first | rfl | assumption) (by first | exact nmn | assumption | simp)) hS ?_) | (refine own_box rfl _ _ rfl (by rfl) hS ?_; clear hS; (try clear ww); intro bb ww hS) | (refine w_al rfl rfl hS ?_; clear hS; (try clear ww); intro bb ww hS) | (refine w_st rfl _ _ rfl (by rfl) (by rfl) (by repeat constructor) (by rfl) (by rfl) (by first | rfl | assumption) hS ?_; clear hS; (try clear ww); intro ww hS) | (refine w_s1 rfl _ _ rfl (by rfl) (by repeat constructor) (by first | exact .c | exact .t rfl) (by rfl) (by repeat constructor) hS ?_; clear hS; (try clear ww); intro ww hS))
        go_ret
        exact own_gives hS
    · exfalso
      refine HB.out (fun k hk => HFo.out k ?_)
      rw [List.take_of_length_le (by omega)]
      exact hk

set_option maxHeartbeats 8000000 in
set_option maxRecDepth 100000 in
theorem ref37_check_range (F : Fnt) (l : Int) (c : Bool) (n : Nat) (C : Int) (kids : List (Bx (n + 1))) (kx : Option Addr) (kc : Nat) (w : World) (hF : FntOk w F) (hq : F.gs.length ≤ 500 ∧ F.ss.length ≤ 50) (hk : RepL w (n + 1) kx kids) (hc : ∀ k ∈ kids, bCount (n + 1) k ≤ 1000000) (hl : kids.length ≤ 400) (hv : ValidF F) (hlv : lvlOk l = true) (hvs : ∀ k ∈ kids, validB (n + 1) k) (e : Int) (he : (e = 0 ∧ ArrRange n kids C) ∨ (e = 2 ∧ ¬ ArrRange n kids C)) : Calls Try.prog 28 #[F.val, .agg #[.int .i64 l, .bool c], .int .i64 C, .slice kx kids.length kc] w (Gives (.int .i64 e) w) := by
  unfold ArrRange at he
  have HF := Lib.hid hF
  have HV := Lib.hid hv
  have HQ := Lib.hid hq
  have HL := Lib.hid hlv
  have HK := Lib.hid hk
  have HC := Lib.hid hc
  have HVs := Lib.hid hvs
  have HE := Lib.hid he
  clear hF hv hq hlv hk hc hvs he
  go_enter Try.func28, Try.ntmps28
  have hS := own_start w
  go_wp2_with (first | (refine own_unguard (by rfl) ?_) | (go_at_call 35; refine own_calls hS (ref05_Valid_calls F _ (HF.out.below hS.below) HQ.out _ (iff_t HV.out)) ?_; clear hS; (try clear ww); intro ww hS) | (go_at_call 36; refine own_calls hS (ref25_Valid_v HL) ?_; clear hS; (try clear ww); intro ww hS) | (refine w_ld rfl _ rfl (by rfl) (by first | exact rd_1 (by repeat constructor) (by first | rfl | assumption) | exact rd_w (by repeat constructor) (by rfl) | exact rd_o (by assumption) (by rfl) (by first | exact nmn | assumption | simp) | exact rd_h (by assumption) (by rfl) (by first | exact nmn | assumption | simp) | exact rd_1o (by assumption) (by first | exact nmn | assumption | simp) | exact rd_1h (by assumption) (by first | rfl | assumption) (by first | exact nmn | assumption | simp)) hS ?_) | (refine own_box rfl _ _ rfl (by rfl) hS ?_; clear hS; (try clear ww); intro bb ww hS) | (refine w_al rfl rfl hS ?_; clear hS; (try clear ww); intro bb ww hS) | (refine w_st rfl _ _ rfl (by rfl) (by rfl) (by repeat constructor) (by rfl) (by rfl) (by first | rfl | assumption) hS ?_; clear hS; (try clear ww); intro ww hS) | (refine w_s1 rfl _ _ rfl (by rfl) (by repeat constructor) (by first | exact .c | exact .t rfl) (by rfl) (by repeat constructor) hS ?_; clear hS; (try clear ww); intro ww hS))
  obtain ⟨L0, HL0, hS0⟩ := hS.named
  clear hS
  have hS := hS0
  clear hS0
  go_loopw [9] (fun i wr => ∃ j : Nat, j ≤ kids.length ∧ i = .int .i64 j ∧ (∀ k ∈ kids.take j, validB (n + 1) k) ∧ Own [] w L0 wr) (fun i _ => kids.length - (intOf i).toNat)
  case atStart => exact ⟨0, Nat.zero_le _, rfl, by simp, hS⟩
  case round =>
    clear hS
    obtain ⟨j, hj, rfl, hf, hS⟩ := hrel
    obtain rfl := HL0.out
    clear HL0
    have HFo := Lib.hid hf
    clear hf
    by_cases hlt : j < kids.length
    · obtain ⟨kid, hkid⟩ : ∃ kid, kids[j]? = some kid := ⟨kids[j], by simp [hlt]⟩
      obtain ⟨kb, ko, css, hkx, hrg, hrep⟩ := HK.out j kid hkid
      obtain rfl : kx = some ⟨kb, ko, none⟩ := hkx
      obtain ⟨c0, c1, c2, c3, c4, c5, c6, c7, c8, c9, c10, rfl⟩ := eleven hrep.len
      have hcc := HC.out kid (List.mem_of_getElem? hkid)
      by_cases hvk : validB (n + 1) kid
      · have HR := Lib.hid (fun w' (h : Below w.heap.size w w') => ref28_Valid_calls (n + 1) kid _ w' (hrep.step h) hrep.wide hcc _ (iff_t hvk))
        have HF2 := Lib.hid (show ∀ k ∈ kids.take (j + 1), validB (n + 1) k by
          rw [List.take_add_one, hkid]
          intro k hk
          rcases List.mem_append.1 hk with h | h
          · exact HFo.out k h
          · obtain rfl : k = kid := by simpa using h
            exact hvk)
        clear hrep hcc hvk hkid
        go_wp2_with (first | (refine own_unguard (by rfl) ?_) | (go_at_call 33; refine own_calls hS (HR.out _ hS.below) ?_; clear hS; (try clear ww); intro ww hS) | (refine w_ld rfl _ rfl (by rfl) (by first | exact rd_1 (by repeat constructor) (by first | rfl | assumption) | exact rd_w (by repeat constructor) (by rfl) | exact rd_o (by assumption) (by rfl) (by first | exact nmn | assumption | simp) | exact rd_h (by assumption) (by rfl) (by first | exact nmn | assumption | simp) | exact rd_1o (by assumption) (by first | exact nmn | assumption | simp) | exact rd_1h (by assumption) (by first | rfl | assumption) (by first | exact nmn | assumption | simp)) hS ?_) | (refine own_box rfl _ _ rfl (by rfl) hS ?_; clear hS; (try clear ww); intro bb ww hS) | (refine w_al rfl rfl hS ?_; clear hS; (try clear ww); intro bb ww hS) | (refine w_st rfl _ _ rfl (by rfl) (by rfl) (by repeat constructor) (by rfl) (by rfl) (by first | rfl | assumption) hS ?_; clear hS; (try clear ww); intro ww hS) | (refine w_s1 rfl _ _ rfl (by rfl) (by repeat constructor) (by first | exact .c | exact .t rfl) (by rfl) (by repeat constructor) hS ?_; clear hS; (try clear ww); intro ww hS))
        go_roundw
        case rel => exact ⟨j + 1, hlt, by go_num, HF2.out, hS.forget (by simp)⟩
        case measure => exact loop_meas hlt
      · exact absurd (HVs.out kid (List.mem_of_getElem? hkid)) hvk
    · obtain rfl : kids.length = j := by omega
      have hN0 : (0 : Int) ≤ kids.length := by omega
      have hbad : ∀ (P : Prop), ¬ (1 ≤ C ∧ C ≤ 16 ∧ 1 ≤ kids.length ∧ kids.length ≤ 256 ∧ (kids.length : Int) % C = 0) → (e = 2 → P) → P := fun P h h2 => by
        rcases HE.out with h3 | h3
        · exact absurd h3.2 h
        · exact h2 h3.1
      have HBd := Lib.hid hbad
      clear hbad
      by_cases h1 : C < 1
      · have d1 : decide (C < 1) = true := decide_eq_true h1
        obtain rfl : e = 2 := HBd.out _ (by omega) id
        go_wp2_with (first | (refine own_unguard (by rfl) ?_) | (refine w_ld rfl _ rfl (by rfl) (by first | exact rd_1 (by repeat constructor) (by first | rfl | assumption) | exact rd_w (by repeat constructor) (by rfl) | exact rd_o (by assumption) (by rfl) (by first | exact nmn | assumption | simp) | exact rd_h (by assumption) (by rfl) (by first | exact nmn | assumption | simp) | exact rd_1o (by assumption) (by first | exact nmn | assumption | simp) | exact rd_1h (by assumption) (by first | rfl | assumption) (by first | exact nmn | assumption | simp)) hS ?_) | (refine own_box rfl _ _ rfl (by rfl) hS ?_; clear hS; (try clear ww); intro bb ww hS) | (refine w_al rfl rfl hS ?_; clear hS; (try clear ww); intro bb ww hS) | (refine w_st rfl _ _ rfl (by rfl) (by rfl) (by repeat constructor) (by rfl) (by rfl) (by first | rfl | assumption) hS ?_; clear hS; (try clear ww); intro ww hS) | (refine w_s1 rfl _ _ rfl (by rfl) (by repeat constructor) (by first | exact .c | exact .t rfl) (by rfl) (by repeat constructor) hS ?_; clear hS; (try clear ww); intro ww hS))
        go_ret
        exact own_gives hS
      · have d1 : decide (C < 1) = false := decide_eq_false h1
        by_cases h2 : 16 < C
        · have d2 : decide (16 < C) = true := decide_eq_true h2
          obtain rfl : e = 2 := HBd.out _ (by omega) id
          go_wp2_with (first | (refine own_unguard (by rfl) ?_) | (refine w_ld rfl _ rfl (by rfl) (by first | exact rd_1 (by repeat constructor) (by first | rfl | assumption) | exact rd_w (by repeat constructor) (by rfl) | exact rd_o (by assumption) (by rfl) (by first | exact nmn | assumption | simp) | exact rd_h (by assumption) (by rfl) (by first | exact nmn | assumption | simp) | exact rd_1o (by assumption) (by first | exact nmn | assumption | simp) | exact rd_1h (by assumption) (by first | rfl | assumption) (by first | exact nmn | assumption | simp)) hS ?_) | (refine own_box rfl _ _ rfl (by rfl) hS ?_; clear hS; (try clear ww); intro bb ww hS) | (refine w_al rfl rfl hS ?_; clear hS; (try clear ww); intro bb ww hS) | (refine w_st rfl _ _ rfl (by rfl) (by rfl) (by repeat constructor) (by rfl) (by rfl) (by first | rfl | assumption) hS ?_; clear hS; (try clear ww); intro ww hS) | (refine w_s1 rfl _ _ rfl (by rfl) (by repeat constructor) (by first | exact .c | exact .t rfl) (by rfl) (by repeat constructor) hS ?_; clear hS; (try clear ww); intro ww hS))
          go_ret
          exact own_gives hS
        · have d2 : decide (16 < C) = false := decide_eq_false h2
          by_cases h3 : kids.length = 0
          · obtain rfl := List.eq_nil_of_length_eq_zero h3
            obtain rfl : e = 2 := HBd.out _ (by simp) id
            go_wp2_with (first | (refine own_unguard (by rfl) ?_) | (refine w_ld rfl _ rfl (by rfl) (by first | exact rd_1 (by repeat constructor) (by first | rfl | assumption) | exact rd_w (by repeat constructor) (by rfl) | exact rd_o (by assumption) (by rfl) (by first | exact nmn | assumption | simp) | exact rd_h (by assumption) (by rfl) (by first | exact nmn | assumption | simp) | exact rd_1o (by assumption) (by first | exact nmn | assumption | simp) | exact rd_1h (by assumption) (by first | rfl | assumption) (by first | exact nmn | assumption | simp)) hS ?_) | (refine own_box rfl _ _ rfl (by rfl) hS ?_; clear hS; (try clear ww); intro bb ww hS) | (refine w_al rfl rfl hS ?_; clear hS; (try clear ww); intro bb ww hS) | (refine w_st rfl _ _ rfl (by rfl) (by rfl) (by repeat constructor) (by rfl) (by rfl) (by first | rfl | assumption) hS ?_; clear hS; (try clear ww); intro ww hS) | (refine w_s1 rfl _ _ rfl (by rfl) (by repeat constructor) (by first | exact .c | exact .t rfl) (by rfl) (by repeat constructor) hS ?_; clear hS; (try clear ww); intro ww hS))
            go_ret
            exact own_gives hS
          · have d3 : ((kids.length : Int) == 0) = false := by simp; exact fun h => h3 (by rw [h]; rfl)
            have e3 : kids ≠ [] := fun h => h3 (by rw [h]; rfl)
            by_cases h4 : 256 < kids.length
            · have d4 : decide (256 < (kids.length : Int)) = true := decide_eq_true (by omega)
              obtain rfl : e = 2 := HBd.out _ (by omega) id
              go_wp2_with (first | (refine own_unguard (by rfl) ?_) | (refine w_ld rfl _ rfl (by rfl) (by first | exact rd_1 (by repeat constructor) (by first | rfl | assumption) | exact rd_w (by repeat constructor) (by rfl) | exact rd_o (by assumption) (by rfl) (by first | exact nmn | assumption | simp) | exact rd_h (by assumption) (by rfl) (by first | exact nmn | assumption | simp) | exact rd_1o (by assumption) (by first | exact nmn | assumption | simp) | exact rd_1h (by assumption) (by first | rfl | assumption) (by first | exact nmn | assumption | simp)) hS ?_) | (refine own_box rfl _ _ rfl (by rfl) hS ?_; clear hS; (try clear ww); intro bb ww hS) | (refine w_al rfl rfl hS ?_; clear hS; (try clear ww); intro bb ww hS) | (refine w_st rfl _ _ rfl (by rfl) (by rfl) (by repeat constructor) (by rfl) (by rfl) (by first | rfl | assumption) hS ?_; clear hS; (try clear ww); intro ww hS) | (refine w_s1 rfl _ _ rfl (by rfl) (by repeat constructor) (by first | exact .c | exact .t rfl) (by rfl) (by repeat constructor) hS ?_; clear hS; (try clear ww); intro ww hS))
              go_ret
              exact own_gives hS
            · have d4 : decide (256 < (kids.length : Int)) = false := decide_eq_false (by omega)
              have d6 : C ≠ 0 := by omega
              by_cases h5 : (kids.length : Int) % C = 0
              · have d5 : ((kids.length : Int).tmod C == 0) = true := by
                  rw [Int.tmod_eq_emod_of_nonneg hN0]
                  simpa using h5
                have d7 : (kids.length : Int).tmod C = 0 := by rw [Int.tmod_eq_emod_of_nonneg hN0]; exact h5
                obtain rfl : e = 0 := by
                  rcases HE.out with h | h
                  · exact h.1
                  · exact absurd ⟨by omega, by omega, by omega, by omega, h5⟩ h.2
                clear h5
                go_wp2_with (first | (refine own_unguard (by rfl) ?_) | (refine w_ld rfl _ rfl (by rfl) (by first | exact rd_1 (by repeat constructor) (by first | rfl | assumption) | exact rd_w (by repeat constructor) (by rfl) | exact rd_o (by assumption) (by rfl) (by first | exact nmn | assumption | simp) | exact rd_h (by assumption) (by rfl) (by first | exact nmn | assumption | simp) | exact rd_1o (by assumption) (by first | exact nmn | assumption | simp) | exact rd_1h (by assumption) (by first | rfl | assumption) (by first | exact nmn | assumption | simp)) hS ?_) | (refine own_box rfl _ _ rfl (by rfl) hS ?_; clear hS; (try clear ww); intro bb ww hS) | (refine w_al rfl rfl hS ?_; clear hS; (try clear ww); intro bb ww hS) | (refine w_st rfl _ _ rfl (by rfl) (by rfl) (by repeat constructor) (by rfl) (by rfl) (by first | rfl | assumption) hS ?_; clear hS; (try clear ww); intro ww hS) | (refine w_s1 rfl _ _ rfl (by rfl) (by repeat constructor) (by first | exact .c | exact .t rfl) (by rfl) (by repeat constructor) hS ?_; clear hS; (try clear ww); intro ww hS))
                go_ret
                exact own_gives hS
              · have d5 : ((kids.length : Int).tmod C == 0) = false := by
                  rw [Int.tmod_eq_emod_of_nonneg hN0]
                  simpa using h5
                have d9 : ((kids.length : Int) % C != 0) = true := by simpa using h5
                have d8 : ¬ (kids.length : Int).tmod C = 0 := by rw [Int.tmod_eq_emod_of_nonneg hN0]; exact h5
                obtain rfl : e = 2 := HBd.out _ (fun h => h5 h.2.2.2.2) id
                clear h5
                go_wp2_with (first | (refine own_unguard (by rfl) ?_) | (refine w_ld rfl _ rfl (by rfl) (by first | exact rd_1 (by repeat constructor) (by first | rfl | assumption) | exact rd_w (by repeat constructor) (by rfl) | exact rd_o (by assumption) (by rfl) (by first | exact nmn | assumption | simp) | exact rd_h (by assumption) (by rfl) (by first | exact nmn | assumption | simp) | exact rd_1o (by assumption) (by first | exact nmn | assumption | simp) | exact rd_1h (by assumption) (by first | rfl | assumption) (by first | exact nmn | assumption | simp)) hS ?_) | (refine own_box rfl _ _ rfl (by rfl) hS ?_; clear hS; (try clear ww); intro bb ww hS) | (refine w_al rfl rfl hS ?_; clear hS; (try clear ww); intro bb ww hS) | (refine w_st rfl _ _ rfl (by rfl) (by rfl) (by repeat constructor) (by rfl) (by rfl) (by first | rfl | assumption) hS ?_; clear hS; (try clear ww); intro ww hS) | (refine w_s1 rfl _ _ rfl (by rfl) (by repeat constructor) (by first | exact .c | exact .t rfl) (by rfl) (by repeat constructor) hS ?_; clear hS; (try clear ww); intro ww hS))
                go_ret
                exact own_gives hS

end Go.Proofs.Ytgnkngkogamjaaa
