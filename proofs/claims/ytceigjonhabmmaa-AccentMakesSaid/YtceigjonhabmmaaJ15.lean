/- Texts Par, Chk, Sim. -/
import Derived.Test.YtceigjonhabmmaaJ13
import Derived.Test.YtceigjonhabmmaaJ14
import Derived.Test.YtceigjonhabmmaaJ07
namespace Go.Proofs.Ytceigjonhabmmaa
open Go.RowKit

attribute [local irreducible] wpQuiet wpG wpP wpK wpList Code.wp Calls

theorem prm_sz {F : Fnt} (h : ValidF F) : (1 ≤ F.script ∧ F.script ≤ 100) ∧ (1 ≤ F.sscript ∧ F.sscript ≤ 100) := by
  have := h.2.2.1
  simp [prmOk, allIn] at this
  omega
theorem size_in {F : Fnt} {l : Int} (h : ValidF F) : 1 ≤ sizeOf' F l ∧ sizeOf' F l ≤ 100 := by
  have := prm_sz h
  unfold sizeOf'
  repeat' split
  all_goals omega
/-- A parameter at the size of a style. -/
def par (F : Fnt) (l n : Int) : Int := scl n (sizeOf' F l)
/-- A scaled parameter lies between 0 and itself. -/
theorem par_in {F : Fnt} {l n : Int} (h : ValidF F) (h0 : 0 ≤ n) (h1 : n ≤ 20000) : 0 ≤ par F l n ∧ par F l n ≤ n := by
  have hs := size_in (l := l) h
  unfold par
  rw [scl_ok (by omega) (by omega) (by omega)]
  have h2 : 0 ≤ n * sizeOf' F l := Int.mul_nonneg h0 (by omega)
  have h3 : n * sizeOf' F l ≤ n * 100 := Int.mul_le_mul_of_nonneg_left hs.2 h0
  unfold rdiv
  rw [if_pos h2]
  omega

set_option maxHeartbeats 1000000 in
theorem ref32_Half_calls (n : Int) (w : World) : Calls Try.prog 50 #[.int .i64 n] w (Gives (.int .i64 (hlf n)) w) := by
  go_enter Try.func50, Try.ntmps50
  have hS := own_start w
  go_wp2_with (first | (refine own_unguard (by rfl) ?_) | (go_at_call 73; refine own_calls hS (ref01_Half_gives _ _) ?_; clear hS; (try clear ww); intro ww hS) | (refine w_ld rfl _ rfl (by rfl) (by first | exact rd_1 (by repeat constructor) (by first | rfl | assumption) | exact rd_w (by repeat constructor) (by rfl) | exact rd_o (by assumption) (by rfl) (by first | exact nmn | assumption | simp) | exact rd_h (by assumption) (by rfl) (by first | exact nmn | assumption | simp) | exact rd_1o (by assumption) (by first | exact nmn | assumption | simp) | exact rd_1h (by assumption) (by first | rfl | assumption) (by first | exact nmn | assumption | simp)) hS ?_) | (refine own_box rfl _ _ rfl (by rfl) hS ?_; clear hS; (try clear ww); intro bb ww hS) | (refine w_al rfl rfl hS ?_; clear hS; (try clear ww); intro bb ww hS) | (refine w_st rfl _ _ rfl (by rfl) (by rfl) (by repeat constructor) (by rfl) (by rfl) (by first | rfl | assumption) hS ?_; clear hS; (try clear ww); intro ww hS) | (refine w_s1 rfl _ _ rfl (by rfl) (by repeat constructor) (by first | exact .c | exact .t rfl) (by rfl) (by repeat constructor) hS ?_; clear hS; (try clear ww); intro ww hS))
  go_ret
  exact own_gives hS

set_option maxHeartbeats 4000000 in
set_option maxRecDepth 100000 in
theorem ref32_Par_calls (F : Fnt) (l n : Int) (c : Bool) (w : World) (hl : lvlOk l = true) (hv : ValidF F) (hn : -1073741824 ≤ n ∧ n ≤ 1073741824) : Calls Try.prog 22 #[F.val, .agg #[.int .i64 l, .bool c], .int .i64 n] w (Gives (.int .i64 (par F l n)) w) := by
  have HL := Lib.hid hl
  have HN := Lib.hid hn
  have HZ := Lib.hid (size_in (l := l) hv)
  have HC := Lib.hid (fun w' => ref01_Scale_gives n (sizeOf' F l) w' HN.out (by have := HZ.out; omega) (by have := HZ.out; omega))
  have HP := Lib.hid (show par F l n = scl n (sizeOf' F l) from rfl)
  have HS := Lib.hid (fun w' => ref25_Size_in F l c w' HL.out)
  generalize sizeOf' F l = Z at *
  clear hl hv hn
  go_enter Try.func22, Try.ntmps22
  have hS := own_start w
  go_wp2_with (first | (refine own_unguard (by rfl) ?_) | (go_at_call 35; refine own_calls hS (HS.out _) ?_; clear hS; (try clear ww); intro ww hS) | (go_at_call 55; refine own_calls hS (HC.out _) ?_; clear hS; (try clear ww); intro ww hS) | (refine w_ld rfl _ rfl (by rfl) (by first | exact rd_1 (by repeat constructor) (by first | rfl | assumption) | exact rd_w (by repeat constructor) (by rfl) | exact rd_o (by assumption) (by rfl) (by first | exact nmn | assumption | simp) | exact rd_h (by assumption) (by rfl) (by first | exact nmn | assumption | simp) | exact rd_1o (by assumption) (by first | exact nmn | assumption | simp) | exact rd_1h (by assumption) (by first | rfl | assumption) (by first | exact nmn | assumption | simp)) hS ?_) | (refine own_box rfl _ _ rfl (by rfl) hS ?_; clear hS; (try clear ww); intro bb ww hS) | (refine w_al rfl rfl hS ?_; clear hS; (try clear ww); intro bb ww hS) | (refine w_st rfl _ _ rfl (by rfl) (by rfl) (by repeat constructor) (by rfl) (by rfl) (by first | rfl | assumption) hS ?_; clear hS; (try clear ww); intro ww hS) | (refine w_s1 rfl _ _ rfl (by rfl) (by repeat constructor) (by first | exact .c | exact .t rfl) (by rfl) (by repeat constructor) hS ?_; clear hS; (try clear ww); intro ww hS))
  go_ret
  exact ⟨ret_int HP.out.symm, hS.below⟩

/-- All lengths are modest. -/
def modL (l : List Int) : Bool := l.all fun n => decide (-100000000 ≤ n) && decide (n ≤ 100000000)
theorem modL_drop {l : List Int} {k : Nat} {n : Int} (h : l[k]? = some n) : modL (l.drop k) = ((decide (-100000000 ≤ n) && decide (n ≤ 100000000)) && modL (l.drop (k + 1))) := by
  obtain ⟨hlt, rfl⟩ := List.getElem?_eq_some_iff.1 h
  unfold modL
  rw [List.drop_eq_getElem_cons hlt, List.all_cons]
def modB (n : Nat) (b : Bx (n + 1)) : Bool := modL b.1.lens && decide (bCount (n + 1) b ≤ 200)

set_option maxHeartbeats 8000000 in
set_option maxRecDepth 100000 in
theorem ref32_Modest_calls (n : Nat) (b : Bx (n + 1)) (cs : List Value) (w : World) (hr : Rep w (n + 1) b cs) (v : Bool) (hv : v = modB n b) : Calls Try.prog 54 #[.agg cs.toArray] w (Gives (.bool v) w) := by
  obtain ⟨a, kids⟩ := b
  have HFw := Lib.hid (fun w' (h : Below w.heap.size w w') => ref28_Few_calls (n + 1) (a, kids) cs 200 w' (hr.step h) (by omega) _ rfl)
  obtain ⟨kx, kc, sx, sc, rfl, ha, hkl, hrow0, hkids⟩ := rep_out hr
  have hv2 : v = (modL a.lens && decide (bCount (n + 1) (a, kids) ≤ 200)) := hv
  have HV := Lib.hid hv2
  obtain ⟨lens, HLe⟩ : ∃ l, Hid (l = a.lens) := ⟨_, rfl⟩
  have hlen : lens.length ≤ 5 ∧ 5 ≤ lens.length := by rw [HLe.out]; exact ⟨Nat.le_refl _, Nat.le_refl _⟩
  generalize bCount (n + 1) (a, kids) = C at *
  clear hr ha hkl hrow0 hkids hv hv2
  go_enter Try.func54, Try.ntmps54
  have hS := own_start w
  go_wp2_with (first | (refine own_unguard (by rfl) ?_) | (refine own_buildSlice rfl _ _ 5 _ rfl (a.lens.map (Value.int .i64)) hS Try.underlying31 (by kernel_rfl) ?_; rw [← HLe.out]; clear hS; (try clear ww); intro bb ww hS) | (refine w_ld rfl _ rfl (by rfl) (by first | exact rd_1 (by repeat constructor) (by first | rfl | assumption) | exact rd_w (by repeat constructor) (by rfl) | exact rd_o (by assumption) (by rfl) (by first | exact nmn | assumption | simp) | exact rd_h (by assumption) (by rfl) (by first | exact nmn | assumption | simp) | exact rd_1o (by assumption) (by first | exact nmn | assumption | simp) | exact rd_1h (by assumption) (by first | rfl | assumption) (by first | exact nmn | assumption | simp)) hS ?_) | (refine own_box rfl _ _ rfl (by rfl) hS ?_; clear hS; (try clear ww); intro bb ww hS) | (refine w_st rfl _ _ rfl (by rfl) (by rfl) (by repeat constructor) (by rfl) (by rfl) (by first | rfl | assumption) hS ?_; clear hS; (try clear ww); intro ww hS) | (refine w_s1 rfl _ _ rfl (by rfl) (by repeat constructor) (by first | exact .c | exact .t rfl) (by rfl) (by repeat constructor) hS ?_; clear hS; (try clear ww); intro ww hS))
  obtain ⟨L0, HL, hS0⟩ := hS.named
  clear hS
  have hS := hS0
  clear hS0
  go_loopw [4] (fun i wr => ∃ j : Nat, j ≤ 5 ∧ i = .int .i64 j ∧ modL lens = modL (lens.drop j) ∧ Own [] w L0 wr) (fun i _ => 5 - (intOf i).toNat)
  case atStart => exact ⟨0, Nat.zero_le _, rfl, rfl, hS⟩
  case round =>
    clear hS
    obtain ⟨j, hj, rfl, hf, hS⟩ := hrel
    obtain rfl := HL.out
    clear HL
    by_cases hlt : j < 5
    · obtain ⟨z, hz⟩ : ∃ z, lens[j]? = some z := ⟨lens[j], by simp⟩
      rw [modL_drop hz] at hf
      have HF := Lib.hid hf
      have hcell : (lens.map (Value.int .i64))[j]? = some (.int .i64 z) := by rw [List.getElem?_map, hz]; rfl
      clear hf hz
      by_cases h1 : z < -100000000
      · have E1 := Lib.hid (show v = false by rw [HV.out, ← HLe.out, HF.out]; simp; omega)
        clear HF
        go_wp2_with (first | (refine own_unguard (by rfl) ?_) | (refine w_ld rfl _ rfl (by rfl) (by first | exact rd_1 (by repeat constructor) (by first | rfl | assumption) | exact rd_w (by repeat constructor) (by rfl) | exact rd_o (by assumption) (by rfl) (by first | exact nmn | assumption | simp) | exact rd_h (by assumption) (by rfl) (by first | exact nmn | assumption | simp) | exact rd_1o (by assumption) (by first | exact nmn | assumption | simp) | exact rd_1h (by assumption) (by first | rfl | assumption) (by first | exact nmn | assumption | simp)) hS ?_) | (refine own_box rfl _ _ rfl (by rfl) hS ?_; clear hS; (try clear ww); intro bb ww hS) | (refine w_st rfl _ _ rfl (by rfl) (by rfl) (by repeat constructor) (by rfl) (by rfl) (by first | rfl | assumption) hS ?_; clear hS; (try clear ww); intro ww hS) | (refine w_s1 rfl _ _ rfl (by rfl) (by repeat constructor) (by first | exact .c | exact .t rfl) (by rfl) (by repeat constructor) hS ?_; clear hS; (try clear ww); intro ww hS))
        go_ret
        exact ⟨ret_bool E1.out.symm, hS.below⟩
      · by_cases h2 : 100000000 < z
        · have E1 := Lib.hid (show v = false by rw [HV.out, ← HLe.out, HF.out]; simp; omega)
          clear HF
          go_wp2_with (first | (refine own_unguard (by rfl) ?_) | (refine w_ld rfl _ rfl (by rfl) (by first | exact rd_1 (by repeat constructor) (by first | rfl | assumption) | exact rd_w (by repeat constructor) (by rfl) | exact rd_o (by assumption) (by rfl) (by first | exact nmn | assumption | simp) | exact rd_h (by assumption) (by rfl) (by first | exact nmn | assumption | simp) | exact rd_1o (by assumption) (by first | exact nmn | assumption | simp) | exact rd_1h (by assumption) (by first | rfl | assumption) (by first | exact nmn | assumption | simp)) hS ?_) | (refine own_box rfl _ _ rfl (by rfl) hS ?_; clear hS; (try clear ww); intro bb ww hS) | (refine w_st rfl _ _ rfl (by rfl) (by rfl) (by repeat constructor) (by rfl) (by rfl) (by first | rfl | assumption) hS ?_; clear hS; (try clear ww); intro ww hS) | (refine w_s1 rfl _ _ rfl (by rfl) (by repeat constructor) (by first | exact .c | exact .t rfl) (by rfl) (by repeat constructor) hS ?_; clear hS; (try clear ww); intro ww hS))
          go_ret
          exact ⟨ret_bool E1.out.symm, hS.below⟩
        · have E1 := Lib.hid (show modL lens = modL (lens.drop (j + 1)) by rw [HF.out]; simp; omega)
          clear HF
          go_wp2_with (first | (refine own_unguard (by rfl) ?_) | (refine w_ld rfl _ rfl (by rfl) (by first | exact rd_1 (by repeat constructor) (by first | rfl | assumption) | exact rd_w (by repeat constructor) (by rfl) | exact rd_o (by assumption) (by rfl) (by first | exact nmn | assumption | simp) | exact rd_h (by assumption) (by rfl) (by first | exact nmn | assumption | simp) | exact rd_1o (by assumption) (by first | exact nmn | assumption | simp) | exact rd_1h (by assumption) (by first | rfl | assumption) (by first | exact nmn | assumption | simp)) hS ?_) | (refine own_box rfl _ _ rfl (by rfl) hS ?_; clear hS; (try clear ww); intro bb ww hS) | (refine w_st rfl _ _ rfl (by rfl) (by rfl) (by repeat constructor) (by rfl) (by rfl) (by first | rfl | assumption) hS ?_; clear hS; (try clear ww); intro ww hS) | (refine w_s1 rfl _ _ rfl (by rfl) (by repeat constructor) (by first | exact .c | exact .t rfl) (by rfl) (by repeat constructor) hS ?_; clear hS; (try clear ww); intro ww hS))
          go_roundw
          case rel => exact ⟨j + 1, hlt, by go_num, E1.out, hS⟩
          case measure => exact loop_meas hlt
    · have E0 := Lib.hid (show v = decide (C ≤ 200) by rw [HV.out, ← HLe.out, hf, List.drop_of_length_le (by omega)]; rfl)
      clear hf
      go_wp2_with (first | (refine own_unguard (by rfl) ?_) | (go_at_call 14; refine own_calls hS (HFw.out _ hS.below) ?_; clear hS; (try clear ww); intro ww hS) | (refine w_ld rfl _ rfl (by rfl) (by first | exact rd_1 (by repeat constructor) (by first | rfl | assumption) | exact rd_w (by repeat constructor) (by rfl) | exact rd_o (by assumption) (by rfl) (by first | exact nmn | assumption | simp) | exact rd_h (by assumption) (by rfl) (by first | exact nmn | assumption | simp) | exact rd_1o (by assumption) (by first | exact nmn | assumption | simp) | exact rd_1h (by assumption) (by first | rfl | assumption) (by first | exact nmn | assumption | simp)) hS ?_) | (refine own_box rfl _ _ rfl (by rfl) hS ?_; clear hS; (try clear ww); intro bb ww hS) | (refine w_st rfl _ _ rfl (by rfl) (by rfl) (by repeat constructor) (by rfl) (by rfl) (by first | rfl | assumption) hS ?_; clear hS; (try clear ww); intro ww hS) | (refine w_s1 rfl _ _ rfl (by rfl) (by repeat constructor) (by first | exact .c | exact .t rfl) (by rfl) (by repeat constructor) hS ?_; clear hS; (try clear ww); intro ww hS))
      go_ret
      exact ⟨ret_bool E0.out.symm, hS.below⟩

end Go.Proofs.Ytceigjonhabmmaa
namespace Go.Proofs.Ytceigjonhabmmaa
open Go.RowKit

attribute [local irreducible] wpQuiet wpG wpP wpK wpList Code.wp Calls

/-- What Check asks. -/
def ChkOk (F : Fnt) (l : Int) (n : Nat) (kids : List (Bx n)) : Prop := ValidF F ∧ lvlOk l = true ∧ ∀ k ∈ kids, validB n k

set_option maxHeartbeats 4000000 in
set_option maxRecDepth 100000 in
theorem ref32_Check_font (F : Fnt) (l : Int) (c : Bool) (kx : Option Addr) (nk kc : Nat) (w : World) (hF : FntOk w F) (hq : F.gs.length ≤ 500 ∧ F.ss.length ≤ 50) (hv : ¬ ValidF F) : Calls Try.prog 32 #[F.val, .agg #[.int .i64 l, .bool c], .slice kx nk kc] w (Gives (.int .i64 1) w) := by
  have HF := Lib.hid hF
  have HV := Lib.hid hv
  have HQ := Lib.hid hq
  clear hF hv hq
  go_enter Try.func32, Try.ntmps32
  have hS := own_start w
  go_wp2_with (first | (refine own_unguard (by rfl) ?_) | (go_at_call 15; refine own_calls hS (ref05_Valid_calls F _ (HF.out.below hS.below) HQ.out _ (iff_f HV.out)) ?_; clear hS; (try clear ww); intro ww hS) | (refine w_ld rfl _ rfl (by rfl) (by first | exact rd_1 (by repeat constructor) (by first | rfl | assumption) | exact rd_w (by repeat constructor) (by rfl) | exact rd_o (by assumption) (by rfl) (by first | exact nmn | assumption | simp) | exact rd_h (by assumption) (by rfl) (by first | exact nmn | assumption | simp) | exact rd_1o (by assumption) (by first | exact nmn | assumption | simp) | exact rd_1h (by assumption) (by first | rfl | assumption) (by first | exact nmn | assumption | simp)) hS ?_) | (refine own_box rfl _ _ rfl (by rfl) hS ?_; clear hS; (try clear ww); intro bb ww hS) | (refine w_al rfl rfl hS ?_; clear hS; (try clear ww); intro bb ww hS) | (refine w_st rfl _ _ rfl (by rfl) (by rfl) (by repeat constructor) (by rfl) (by rfl) (by first | rfl | assumption) hS ?_; clear hS; (try clear ww); intro ww hS) | (refine w_s1 rfl _ _ rfl (by rfl) (by repeat constructor) (by first | exact .c | exact .t rfl) (by rfl) (by repeat constructor) hS ?_; clear hS; (try clear ww); intro ww hS))
  go_ret
  exact own_gives hS

set_option maxHeartbeats 4000000 in
set_option maxRecDepth 100000 in
theorem ref32_Check_style (F : Fnt) (l : Int) (c : Bool) (kx : Option Addr) (nk kc : Nat) (w : World) (hF : FntOk w F) (hq : F.gs.length ≤ 500 ∧ F.ss.length ≤ 50) (hv : ValidF F) (hl : lvlOk l = false) : Calls Try.prog 32 #[F.val, .agg #[.int .i64 l, .bool c], .slice kx nk kc] w (Gives (.int .i64 1) w) := by
  have HF := Lib.hid hF
  have HV := Lib.hid hv
  have HQ := Lib.hid hq
  have HL := Lib.hid hl
  clear hF hv hq hl
  go_enter Try.func32, Try.ntmps32
  have hS := own_start w
  go_wp2_with (first | (refine own_unguard (by rfl) ?_) | (go_at_call 15; refine own_calls hS (ref05_Valid_calls F _ (HF.out.below hS.below) HQ.out _ (iff_t HV.out)) ?_; clear hS; (try clear ww); intro ww hS) | (go_at_call 65; refine own_calls hS (ref25_Valid_v HL) ?_; clear hS; (try clear ww); intro ww hS) | (refine w_ld rfl _ rfl (by rfl) (by first | exact rd_1 (by repeat constructor) (by first | rfl | assumption) | exact rd_w (by repeat constructor) (by rfl) | exact rd_o (by assumption) (by rfl) (by first | exact nmn | assumption | simp) | exact rd_h (by assumption) (by rfl) (by first | exact nmn | assumption | simp) | exact rd_1o (by assumption) (by first | exact nmn | assumption | simp) | exact rd_1h (by assumption) (by first | rfl | assumption) (by first | exact nmn | assumption | simp)) hS ?_) | (refine own_box rfl _ _ rfl (by rfl) hS ?_; clear hS; (try clear ww); intro bb ww hS) | (refine w_al rfl rfl hS ?_; clear hS; (try clear ww); intro bb ww hS) | (refine w_st rfl _ _ rfl (by rfl) (by rfl) (by repeat constructor) (by rfl) (by rfl) (by first | rfl | assumption) hS ?_; clear hS; (try clear ww); intro ww hS) | (refine w_s1 rfl _ _ rfl (by rfl) (by repeat constructor) (by first | exact .c | exact .t rfl) (by rfl) (by repeat constructor) hS ?_; clear hS; (try clear ww); intro ww hS))
  go_ret
  exact own_gives hS

set_option maxHeartbeats 8000000 in
set_option maxRecDepth 100000 in
theorem ref32_Check_list (F : Fnt) (l : Int) (c : Bool) (n : Nat) (kids : List (Bx n)) (kx : Option Addr) (kc : Nat) (w : World) (hF : FntOk w F) (hq : F.gs.length ≤ 500 ∧ F.ss.length ≤ 50) (hv : ValidF F) (hl : lvlOk l = true)
    (hk : RepL w n kx kids) (hc : ∀ k ∈ kids, bCount n k ≤ 1000000) (hkl2 : kids.length ≤ 1000000) (e : Int) (he : (e = 0 ∧ ∀ k ∈ kids, validB n k) ∨ (e = 1 ∧ ¬ ∀ k ∈ kids, validB n k)) : Calls Try.prog 32 #[F.val, .agg #[.int .i64 l, .bool c], .slice kx kids.length kc] w (Gives (.int .i64 e) w) := by
  have HF := Lib.hid hF
  have HV := Lib.hid hv
  have HQ := Lib.hid hq
  have HL := Lib.hid hl
  have HK := Lib.hid hk
  have HC := Lib.hid hc
  have HE := Lib.hid he
  clear hF hv hq hl hk hc he
  go_enter Try.func32, Try.ntmps32
  have hS := own_start w
  go_wp2_with (first | (refine own_unguard (by rfl) ?_) | (go_at_call 15; refine own_calls hS (ref05_Valid_calls F _ (HF.out.below hS.below) HQ.out _ (iff_t HV.out)) ?_; clear hS; (try clear ww); intro ww hS) | (go_at_call 65; refine own_calls hS (ref25_Valid_v HL) ?_; clear hS; (try clear ww); intro ww hS) | (refine w_ld rfl _ rfl (by rfl) (by first | exact rd_1 (by repeat constructor) (by first | rfl | assumption) | exact rd_w (by repeat constructor) (by rfl) | exact rd_o (by assumption) (by rfl) (by first | exact nmn | assumption | simp) | exact rd_h (by assumption) (by rfl) (by first | exact nmn | assumption | simp) | exact rd_1o (by assumption) (by first | exact nmn | assumption | simp) | exact rd_1h (by assumption) (by first | rfl | assumption) (by first | exact nmn | assumption | simp)) hS ?_) | (refine own_box rfl _ _ rfl (by rfl) hS ?_; clear hS; (try clear ww); intro bb ww hS) | (refine w_al rfl rfl hS ?_; clear hS; (try clear ww); intro bb ww hS) | (refine w_st rfl _ _ rfl (by rfl) (by rfl) (by repeat constructor) (by rfl) (by rfl) (by first | rfl | assumption) hS ?_; clear hS; (try clear ww); intro ww hS) | (refine w_s1 rfl _ _ rfl (by rfl) (by repeat constructor) (by first | exact .c | exact .t rfl) (by rfl) (by repeat constructor) hS ?_; clear hS; (try clear ww); intro ww hS))
  obtain ⟨L0, HL0, hS0⟩ := hS.named
  clear hS
  have hS := hS0
  clear hS0
  go_loopw [7] (fun i wr => ∃ j : Nat, j ≤ kids.length ∧ i = .int .i64 j ∧ (∀ k ∈ kids.take j, validB n k) ∧ Own [] w L0 wr) (fun i _ => kids.length - (intOf i).toNat)
  case atStart => exact ⟨0, Nat.zero_le _, rfl, by simp, hS⟩
  case round =>
    clear hS
    obtain ⟨j, hj, rfl, hf, hS⟩ := hrel
    obtain rfl := HL0.out
    clear HL0
    have HFo := Lib.hid hf
    clear hf
    by_cases hlt : j < kids.length
    · obtain ⟨kid, hkid⟩ : ∃ kid, kids[j]? = some kid := ⟨kids[j], by simp [hlt]⟩
      obtain ⟨kb, ko, css, hkx, hrg, hrep⟩ := HK.out j kid hkid
      obtain rfl : kx = some ⟨kb, ko, none⟩ := hkx
      obtain ⟨c0, c1, c2, c3, c4, c5, c6, c7, c8, c9, c10, rfl⟩ := eleven hrep.len
      have HKid := Lib.hid hkid
      have hcc := HC.out kid (List.mem_of_getElem? hkid)
      by_cases hvk : validB n kid
      · have HR := Lib.hid (fun w' (h : Below w.heap.size w w') => ref28_Valid_calls n kid _ w' (hrep.step h) hrep.wide hcc _ (iff_t hvk))
        have HF2 := Lib.hid (show ∀ k ∈ kids.take (j + 1), validB n k by
          intro k hk
          rw [List.take_add_one, HKid.out] at hk
          rcases List.mem_append.1 hk with hk | hk
          · exact HFo.out k hk
          · obtain rfl : k = kid := by simpa using hk
            exact hvk)
        clear hrep hkid hcc hvk
        go_wp2_with (first | (refine own_unguard (by rfl) ?_) | (refine own_load_old rfl _ _ rfl rfl hS hrg List.not_mem_nil rt_box ?_) | (go_at_call 16; refine own_calls hS (HR.out _ hS.below) ?_; clear hS; (try clear ww); intro ww hS) | (refine w_ld rfl _ rfl (by rfl) (by first | exact rd_1 (by repeat constructor) (by first | rfl | assumption) | exact rd_w (by repeat constructor) (by rfl) | exact rd_o (by assumption) (by rfl) (by first | exact nmn | assumption | simp) | exact rd_h (by assumption) (by rfl) (by first | exact nmn | assumption | simp) | exact rd_1o (by assumption) (by first | exact nmn | assumption | simp) | exact rd_1h (by assumption) (by first | rfl | assumption) (by first | exact nmn | assumption | simp)) hS ?_) | (refine own_box rfl _ _ rfl (by rfl) hS ?_; clear hS; (try clear ww); intro bb ww hS) | (refine w_st rfl _ _ rfl (by rfl) (by rfl) (by repeat constructor) (by rfl) (by rfl) (by first | rfl | assumption) hS ?_; clear hS; (try clear ww); intro ww hS) | (refine w_s1 rfl _ _ rfl (by rfl) (by repeat constructor) (by first | exact .c | exact .t rfl) (by rfl) (by repeat constructor) hS ?_; clear hS; (try clear ww); intro ww hS))
        go_roundw
        case rel => exact ⟨j + 1, hlt, by go_num, HF2.out, hS⟩
        case measure => exact loop_meas hlt
      · have HR := Lib.hid (fun w' (h : Below w.heap.size w w') => ref28_Valid_calls n kid _ w' (hrep.step h) hrep.wide hcc _ (iff_f hvk))
        have HE1 := Lib.hid (show e = 1 by
          rcases HE.out with ⟨_, h⟩ | ⟨h, _⟩
          · exact absurd (h kid (List.mem_of_getElem? hkid)) hvk
          · exact h)
        clear hrep hkid hcc hvk
        go_wp2_with (first | (refine own_unguard (by rfl) ?_) | (refine own_load_old rfl _ _ rfl rfl hS hrg List.not_mem_nil rt_box ?_) | (go_at_call 16; refine own_calls hS (HR.out _ hS.below) ?_; clear hS; (try clear ww); intro ww hS) | (refine w_ld rfl _ rfl (by rfl) (by first | exact rd_1 (by repeat constructor) (by first | rfl | assumption) | exact rd_w (by repeat constructor) (by rfl) | exact rd_o (by assumption) (by rfl) (by first | exact nmn | assumption | simp) | exact rd_h (by assumption) (by rfl) (by first | exact nmn | assumption | simp) | exact rd_1o (by assumption) (by first | exact nmn | assumption | simp) | exact rd_1h (by assumption) (by first | rfl | assumption) (by first | exact nmn | assumption | simp)) hS ?_) | (refine own_box rfl _ _ rfl (by rfl) hS ?_; clear hS; (try clear ww); intro bb ww hS) | (refine w_st rfl _ _ rfl (by rfl) (by rfl) (by repeat constructor) (by rfl) (by rfl) (by first | rfl | assumption) hS ?_; clear hS; (try clear ww); intro ww hS) | (refine w_s1 rfl _ _ rfl (by rfl) (by repeat constructor) (by first | exact .c | exact .t rfl) (by rfl) (by repeat constructor) hS ?_; clear hS; (try clear ww); intro ww hS))
        go_ret
        exact ⟨ret_int HE1.out.symm, hS.below⟩
    · have HE0 := Lib.hid (show e = 0 by
        rcases HE.out with ⟨h, _⟩ | ⟨_, h⟩
        · exact h
        · exact absurd (by rw [List.take_of_length_le (by omega)] at HFo; exact HFo.out) h)
      go_wp2_with (first | (refine own_unguard (by rfl) ?_) | (refine w_ld rfl _ rfl (by rfl) (by first | exact rd_1 (by repeat constructor) (by first | rfl | assumption) | exact rd_w (by repeat constructor) (by rfl) | exact rd_o (by assumption) (by rfl) (by first | exact nmn | assumption | simp) | exact rd_h (by assumption) (by rfl) (by first | exact nmn | assumption | simp) | exact rd_1o (by assumption) (by first | exact nmn | assumption | simp) | exact rd_1h (by assumption) (by first | rfl | assumption) (by first | exact nmn | assumption | simp)) hS ?_) | (refine own_box rfl _ _ rfl (by rfl) hS ?_; clear hS; (try clear ww); intro bb ww hS) | (refine w_st rfl _ _ rfl (by rfl) (by rfl) (by repeat constructor) (by rfl) (by rfl) (by first | rfl | assumption) hS ?_; clear hS; (try clear ww); intro ww hS) | (refine w_s1 rfl _ _ rfl (by rfl) (by repeat constructor) (by first | exact .c | exact .t rfl) (by rfl) (by repeat constructor) hS ?_; clear hS; (try clear ww); intro ww hS))
      go_ret
      exact ⟨ret_int HE0.out.symm, hS.below⟩

/-- What Check returns. -/
theorem ref32_Check_calls (F : Fnt) (l : Int) (c : Bool) (n : Nat) (kids : List (Bx n)) (kx : Option Addr) (kc : Nat) (w : World) (hF : FntOk w F) (hq : F.gs.length ≤ 500 ∧ F.ss.length ≤ 50)
    (hk : RepL w n kx kids) (hc : ∀ k ∈ kids, bCount n k ≤ 1000000) (hkl2 : kids.length ≤ 1000000) (e : Int) (he : (e = 0 ∧ ChkOk F l n kids) ∨ (e = 1 ∧ ¬ ChkOk F l n kids)) : Calls Try.prog 32 #[F.val, .agg #[.int .i64 l, .bool c], .slice kx kids.length kc] w (Gives (.int .i64 e) w) := by
  by_cases hv : ValidF F
  · cases hl : lvlOk l
    · obtain rfl : e = 1 := by
        rcases he with ⟨_, h⟩ | ⟨h, _⟩
        · exact absurd h.2.1 (by rw [hl]; simp)
        · exact h
      exact ref32_Check_style F l c kx _ kc w hF hq hv hl
    · refine ref32_Check_list F l c n kids kx kc w hF hq hv hl hk hc hkl2 e ?_
      rcases he with ⟨h, h2⟩ | ⟨h, h2⟩
      · exact .inl ⟨h, h2.2.2⟩
      · exact .inr ⟨h, fun h3 => h2 ⟨hv, hl, h3⟩⟩
  · obtain rfl : e = 1 := by
      rcases he with ⟨_, h⟩ | ⟨h, _⟩
      · exact absurd h.1 hv
      · exact h
    exact ref32_Check_font F l c kx _ kc w hF hq hv

/-- The call gives a box and an error. -/
def GivesBE (n : Nat) (b : Bx n) (err : Int) (w : World) (e : Ending) (w' : World) : Prop := ∃ cs, e = .returned (.tuple #[.agg cs.toArray, .int .i64 err]) ∧ Rep w' n b cs ∧ Below w.heap.size w w'
theorem own_be {P : Program} {D : List Nat} {W w : World} {L : List (Nat × List Value)} {f : FuncId} {args : Array Value} {n : Nat} {b : Bx n} {err : Int} {R : Ending → World → Prop} (hS : Own D W L w) (hc : Calls P f args w (GivesBE n b err w))
    (h : ∀ cs w', Rep w' n b cs → Own D W L w' → Below w.heap.size w w' → R (.returned (.tuple #[.agg cs.toArray, .int .i64 err])) w') : Calls P f args w R :=
  hc.mono fun _ _ ⟨cs, he, hr, hb⟩ => by rw [he]; exact h cs _ hr (hS.step hb) hb
/-- The empty box. -/
def zeroB (n : Nat) : Bx (n + 1) := (⟨0, ⟨#[]⟩, 0, 0, 0, 0, 0, 0, 0, []⟩, [])
theorem rep_zero (n : Nat) (w : World) : Rep w (n + 1) (zeroB n) [.int .i64 0, .string ⟨#[]⟩, .int .i64 0, .int .i64 0, .int .i64 0, .int .i64 0, .int .i64 0, .int .i64 0, .slice none 0 0, .int .i64 0, .slice none 0 0] :=
  rep_mk (kx := none) (sx := none) (kc := 0) (sc := 0) (hdOk_new i64_0 i64_0 i64_0 i64_0) (by simp) (.inl rfl) (fun i kid hi => by simp at hi)

set_option maxHeartbeats 4000000 in
set_option maxRecDepth 100000 in
theorem ref32_Done_ok (n : Nat) (b : Bx n) (cs : List Value) (w : World) (hr : Rep w n b cs) (hc : bCount n b ≤ 1000000) (hv : validB n b) : Calls Try.prog 37 #[.agg cs.toArray] w (Gives (.tuple #[.agg cs.toArray, .int .i64 0]) w) := by
  have h11 := hr.len
  obtain ⟨c0, c1, c2, c3, c4, c5, c6, c7, c8, c9, c10, rfl⟩ := eleven h11
  have HR := Lib.hid (fun w' (h : Below w.heap.size w w') => ref28_Valid_calls n b _ w' (hr.step h) hr.wide hc _ (iff_t hv))
  have hall := rep_all hr
  clear hr hc hv h11
  go_enter Try.func37, Try.ntmps37
  have hS := own_start w
  go_wp2_with (first | (refine own_unguard (by rfl) ?_) | (go_at_call 16; refine own_calls hS (HR.out _ hS.below) ?_; clear hS; (try clear ww); intro ww hS) | (refine own_store rfl _ _ _ rfl rfl rfl hS at0 rt_box (by rfl) hall ?_; clear hS; intro ww hS; simp only [List.set_cons_zero] at hS) | (refine w_ld rfl _ rfl (by rfl) (by first | exact rd_1 (by repeat constructor) (by first | rfl | assumption) | exact rd_w (by repeat constructor) (by rfl) | exact rd_o (by assumption) (by rfl) (by first | exact nmn | assumption | simp) | exact rd_h (by assumption) (by rfl) (by first | exact nmn | assumption | simp) | exact rd_1o (by assumption) (by first | exact nmn | assumption | simp) | exact rd_1h (by assumption) (by first | rfl | assumption) (by first | exact nmn | assumption | simp)) hS ?_) | (refine own_box rfl _ _ rfl (by rfl) hS ?_; clear hS; (try clear ww); intro bb ww hS) | (refine w_al rfl rfl hS ?_; clear hS; (try clear ww); intro bb ww hS) | (refine w_st rfl _ _ rfl (by rfl) (by rfl) (by repeat constructor) (by rfl) (by rfl) (by first | rfl | assumption) hS ?_; clear hS; (try clear ww); intro ww hS) | (refine w_s1 rfl _ _ rfl (by rfl) (by repeat constructor) (by first | exact .c | exact .t rfl) (by rfl) (by repeat constructor) hS ?_; clear hS; (try clear ww); intro ww hS))
  have hc := (hS.get at0).cell
  refine bodyPost_ret (v := .tuple #[.agg #[c0, c1, c2, c3, c4, c5, c6, c7, c8, c9, c10], .int .i64 0]) (by simp [results, Try.results37, go_sem, hc]) rfl ⟨rfl, hS.below⟩

set_option maxHeartbeats 4000000 in
set_option maxRecDepth 100000 in
theorem ref32_Done_bad (n : Nat) (b : Bx n) (cs : List Value) (w : World) (hr : Rep w n b cs) (hc : bCount n b ≤ 1000000) (hv : ¬ validB n b) : Calls Try.prog 37 #[.agg cs.toArray] w (Gives (.tuple #[.agg #[.int .i64 0, .string ⟨#[]⟩, .int .i64 0, .int .i64 0, .int .i64 0, .int .i64 0, .int .i64 0, .int .i64 0, .slice none 0 0, .int .i64 0, .slice none 0 0], .int .i64 6]) w) := by
  have h11 := hr.len
  obtain ⟨c0, c1, c2, c3, c4, c5, c6, c7, c8, c9, c10, rfl⟩ := eleven h11
  have HR := Lib.hid (fun w' (h : Below w.heap.size w w') => ref28_Valid_calls n b _ w' (hr.step h) hr.wide hc _ (iff_f hv))
  clear hr hc hv h11
  go_enter Try.func37, Try.ntmps37
  have hS := own_start w
  go_wp2_with (first | (refine own_unguard (by rfl) ?_) | (go_at_call 16; refine own_calls hS (HR.out _ hS.below) ?_; clear hS; (try clear ww); intro ww hS) | (refine w_ld rfl _ rfl (by rfl) (by first | exact rd_1 (by repeat constructor) (by first | rfl | assumption) | exact rd_w (by repeat constructor) (by rfl) | exact rd_o (by assumption) (by rfl) (by first | exact nmn | assumption | simp) | exact rd_h (by assumption) (by rfl) (by first | exact nmn | assumption | simp) | exact rd_1o (by assumption) (by first | exact nmn | assumption | simp) | exact rd_1h (by assumption) (by first | rfl | assumption) (by first | exact nmn | assumption | simp)) hS ?_) | (refine own_box rfl _ _ rfl (by rfl) hS ?_; clear hS; (try clear ww); intro bb ww hS) | (refine w_al rfl rfl hS ?_; clear hS; (try clear ww); intro bb ww hS) | (refine w_st rfl _ _ rfl (by rfl) (by rfl) (by repeat constructor) (by rfl) (by rfl) (by first | rfl | assumption) hS ?_; clear hS; (try clear ww); intro ww hS) | (refine w_s1 rfl _ _ rfl (by rfl) (by repeat constructor) (by first | exact .c | exact .t rfl) (by rfl) (by repeat constructor) hS ?_; clear hS; (try clear ww); intro ww hS))
  have hc := (hS.get at0).cell
  refine bodyPost_ret (v := .tuple #[.agg #[.int .i64 0, .string ⟨#[]⟩, .int .i64 0, .int .i64 0, .int .i64 0, .int .i64 0, .int .i64 0, .int .i64 0, .slice none 0 0, .int .i64 0, .slice none 0 0], .int .i64 6]) (by simp [results, Try.results37, go_sem, hc]) rfl ⟨rfl, hS.below⟩

end Go.Proofs.Ytceigjonhabmmaa
namespace Go.Proofs.Ytceigjonhabmmaa
open Go.RowKit

attribute [local irreducible] wpQuiet wpG wpP wpK wpList Code.wp Calls

set_option maxHeartbeats 8000000 in
set_option maxRecDepth 100000 in
theorem script_Simple_none (n : Nat) (b : Bx n) (cs : List Value) (w : World) (hr : Rep w n b cs) (hi : innerS n b = none) : Calls Try.prog 52 #[.agg cs.toArray] w (Gives (.tuple #[.agg #[.int .i64 0, .string ⟨#[]⟩, .int .i64 0, .int .i64 0, .int .i64 0, .int .i64 0, .int .i64 0, .int .i64 0, .slice none 0 0, .int .i64 0, .slice none 0 0], .bool false]) w) := by
  have HI := Lib.hid (fun w' k (h : Below w.heap.size w w') (hk : w'.rangeAt k 0 cs) => innermost_calls (fun k => k < w.heap.size) n b cs k 0 w' hk (RepG.step h n b cs (rep_old n b cs hr)))
  rw [hi] at HI
  obtain ⟨c0, c1, c2, c3, c4, c5, c6, c7, c8, c9, c10, rfl⟩ := eleven hr.len
  clear hr hi
  go_enter Try.func52, Try.ntmps52
  have hS := own_start w
  go_wp2_with (first | (refine own_unguard (by rfl) ?_) | (go_at_call 79; refine Calls.mono (HI.out _ _ hS.below (hS.get at1).range) ?_; rintro e w1 ⟨v, rfl, hv, hb1⟩; obtain rfl : v = _ := hv; have hS1 := hS.step hb1; clear hS hb1; (try clear ww); have hS := hS1; clear hS1) | (refine w_ld rfl _ rfl (by rfl) (by first | exact rd_1 (by repeat constructor) (by first | rfl | assumption) | exact rd_w (by repeat constructor) (by rfl) | exact rd_o (by assumption) (by rfl) (by first | exact nmn | assumption | simp) | exact rd_h (by assumption) (by rfl) (by first | exact nmn | assumption | simp) | exact rd_1o (by assumption) (by first | exact nmn | assumption | simp) | exact rd_1h (by assumption) (by first | rfl | assumption) (by first | exact nmn | assumption | simp)) hS ?_) | (refine own_box rfl _ _ rfl (by rfl) hS ?_; clear hS; (try clear ww); intro bb ww hS) | (refine w_al rfl rfl hS ?_; clear hS; (try clear ww); intro bb ww hS) | (refine w_st rfl _ _ rfl (by rfl) (by rfl) (by repeat constructor) (by rfl) (by rfl) (by first | rfl | assumption) hS ?_; clear hS; (try clear ww); intro ww hS) | (refine w_s1 rfl _ _ rfl (by rfl) (by repeat constructor) (by first | exact .c | exact .t rfl) (by rfl) (by repeat constructor) hS ?_; clear hS; (try clear ww); intro ww hS))
  have hc := (hS.get at0).cell
  refine bodyPost_ret (v := .tuple #[.agg #[.int .i64 0, .string ⟨#[]⟩, .int .i64 0, .int .i64 0, .int .i64 0, .int .i64 0, .int .i64 0, .int .i64 0, .slice none 0 0, .int .i64 0, .slice none 0 0], .bool false]) (by simp [results, Try.results52, go_sem, hc]) rfl ⟨rfl, hS.below⟩

theorem repIn_turn {P : Nat → Prop} {D : List Nat} {w w' : World} {n : Nat} {b : Bx n} {cs : List Value} {L : List (Nat × List Value)} (h : RepIn P w n b cs) (hS : Own D w L w') (hD : ∀ k, P k → k ∉ D) : RepIn P w' n b cs :=
  (rep_keep2 (Q := P) (fun k hk hlt => hS.block k hlt (hD k hk)) n b cs h).mono (fun _ _ hk => hk.1) (fun _ hk => hk.1)
theorem Own.rebaseI {D : List Nat} {W w : World} {L : List (Nat × List Value)} (hS : Own D W L w) : ∃ DD, Hid (DD = L.map (·.1)) ∧ Own DD w L w := ⟨_, rfl, hS.rebase⟩
theorem ne01I {D : List Nat} {W w : World} {x y : Nat × List Value} {L : List (Nat × List Value)} (hS : Own D W (x :: y :: L) w) : x.1 ≠ y.1 := fun h => by
  have := hS.apart
  simp [h] at this

set_option maxHeartbeats 8000000 in
set_option maxRecDepth 100000 in
theorem script_Simple_some (n : Nat) (b : Bx n) (cs : List Value) (w : World) (hr : Rep w n b cs) (m : Nat) (g : Bx (m + 1)) (hi : innerS n b = some ⟨m, g⟩) (hs : Small (m + 1) g) (hc : bCount (m + 1) g ≤ 1000000) :
    Calls Try.prog 52 #[.agg cs.toArray] w (fun e w' => ∃ cs', e = .returned (.tuple #[.agg cs'.toArray, .bool true]) ∧ Rep w' (m + 1) g cs' ∧ Below w.heap.size w w') := by
  have HI := Lib.hid (fun w' k (h : Below w.heap.size w w') (hk : w'.rangeAt k 0 cs) => innermost_calls (fun k => k < w.heap.size) n b cs k 0 w' hk (RepG.step h n b cs (rep_old n b cs hr)))
  rw [hi] at HI
  have HD := Lib.hid (fun w' (h : Below w.heap.size w w') gcs (hg : RepIn (fun k => k < w.heap.size) w' (m + 1) g gcs) => deep_Box_calls (fun k => k < w.heap.size) (m + 1) g gcs w' (fun k hk => Nat.lt_of_lt_of_le hk h.size) hg hs hc)
  obtain ⟨c0, c1, c2, c3, c4, c5, c6, c7, c8, c9, c10, rfl⟩ := eleven hr.len
  clear hr hi hs hc
  go_enter Try.func52, Try.ntmps52
  have hS := own_start w
  go_wp2_with (first | (refine own_unguard (by rfl) ?_) | (refine w_ld rfl _ rfl (by rfl) (by first | exact rd_1 (by repeat constructor) (by first | rfl | assumption) | exact rd_w (by repeat constructor) (by rfl) | exact rd_o (by assumption) (by rfl) (by first | exact nmn | assumption | simp) | exact rd_h (by assumption) (by rfl) (by first | exact nmn | assumption | simp) | exact rd_1o (by assumption) (by first | exact nmn | assumption | simp) | exact rd_1h (by assumption) (by first | rfl | assumption) (by first | exact nmn | assumption | simp)) hS ?_) | (refine own_box rfl _ _ rfl (by rfl) hS ?_; clear hS; (try clear ww); intro bb ww hS) | (refine w_al rfl rfl hS ?_; clear hS; (try clear ww); intro bb ww hS) | (refine w_st rfl _ _ rfl (by rfl) (by rfl) (by repeat constructor) (by rfl) (by rfl) (by first | rfl | assumption) hS ?_; clear hS; (try clear ww); intro ww hS) | (refine w_s1 rfl _ _ rfl (by rfl) (by repeat constructor) (by first | exact .c | exact .t rfl) (by rfl) (by repeat constructor) hS ?_; clear hS; (try clear ww); intro ww hS))
  go_at_call 79
  refine Calls.mono (HI.out _ _ hS.below (hS.get at1).range) ?_
  rintro e w1 ⟨v, rfl, ⟨k, o, gcs, rfl, hkP, hk, hg⟩, hb1⟩
  have hne := ne01I hS
  have hlo := hS.geAt at0
  have hlt := (hS.get at0).lt
  have hk1 := rangeAt_below hk hb1
  have hg1 : RepIn (fun k => k < w.heap.size) w1 (m + 1) g gcs := RepG.step hb1 _ _ _ hg
  have HS1 := Lib.hid ((hS.step hb1).forget (List.Sublist.cons_cons _ (List.nil_sublist _)))
  have hlt1 := Nat.lt_of_lt_of_le hlt hb1.size
  obtain ⟨DD, HDD, hS2⟩ := HS1.out.rebaseI
  have hkn : k ∉ DD := fun hm => by
    rw [HDD.out] at hm
    simp only [List.map_cons, List.map_nil, List.mem_singleton] at hm
    rcases hkP with h | h
    · exact hne (hm.symm.trans h)
    · rcases hlo with h2 | h2
      · cases h2
      · omega
  have HG := Lib.hid hg1
  have hall := rep_all (hg1.mono (fun _ _ _ => trivial) (fun _ _ => trivial) : Rep w1 (m + 1) g gcs)
  obtain ⟨e0, e1, e2, e3, e4, e5, e6, e7, e8, e9, e10, rfl⟩ := eleven hg1.len
  clear hg hg1 hk hb1 hS hne hlt
  (try clear ww)
  have hS := hS2
  clear hS2
  go_wp2_with (first | (refine own_unguard (by rfl) ?_) | (refine w_ld rfl _ rfl (by rfl) (by first | exact rd_1 (by repeat constructor) (by first | rfl | assumption) | exact rd_w (by repeat constructor) (by rfl) | exact rd_o (by assumption) (by rfl) (by first | exact nmn | assumption | simp) | exact rd_h (by assumption) (by rfl) (by first | exact nmn | assumption | simp) | exact rd_1o (by assumption) (by first | exact nmn | assumption | simp) | exact rd_1h (by assumption) (by first | rfl | assumption) (by first | exact nmn | assumption | simp)) hS ?_) | (refine own_box rfl _ _ rfl (by rfl) hS ?_; clear hS; (try clear ww); intro bb ww hS) | (refine w_al rfl rfl hS ?_; clear hS; (try clear ww); intro bb ww hS) | (refine w_st rfl _ _ rfl (by rfl) (by rfl) (by repeat constructor) (by rfl) (by rfl) (by first | rfl | assumption) hS ?_; clear hS; (try clear ww); intro ww hS) | (refine w_s1 rfl _ _ rfl (by rfl) (by repeat constructor) (by first | exact .c | exact .t rfl) (by rfl) (by repeat constructor) hS ?_; clear hS; (try clear ww); intro ww hS))
  go_at_call 64
  refine Calls.mono (HD.out _ HS1.out.below _ HG.out) ?_
  rintro e w2 ⟨cs2, rfl, hr2, hb2⟩
  have HS2 := Lib.hid (HS1.out.step hb2)
  obtain ⟨DE, HDE, hS3⟩ := HS2.out.rebaseI
  have HR2 := Lib.hid (show RepIn (fun k => k < w.heap.size ∨ w1.heap.size ≤ k) w2 (m + 1) g cs2 from hr2)
  have hall2 := rep_all (hr2.mono (fun _ _ _ => trivial) (fun _ _ => trivial) : Rep w2 (m + 1) g cs2)
  obtain ⟨f0, f1, f2, f3, f4, f5, f6, f7, f8, f9, f10, rfl⟩ := eleven hr2.len
  have hoff : ∀ k, (k < w.heap.size ∨ w1.heap.size ≤ k) → k ∉ DE := fun k hk hm => by
    rw [HDE.out] at hm
    simp only [List.map_cons, List.map_nil, List.mem_singleton] at hm
    subst hm
    rcases hlo with h2 | h2
    · cases h2
    · omega
  have HOf := Lib.hid hoff
  clear hS hr2 hb2 hall hoff hlo hlt1 hk1 hkn
  have hS := hS3
  clear hS3
  go_wp2_with (first | (refine own_unguard (by rfl) ?_) | (refine w_ld rfl _ rfl (by rfl) (by first | exact rd_1 (by repeat constructor) (by first | rfl | assumption) | exact rd_w (by repeat constructor) (by rfl) | exact rd_o (by assumption) (by rfl) (by first | exact nmn | assumption | simp) | exact rd_h (by assumption) (by rfl) (by first | exact nmn | assumption | simp) | exact rd_1o (by assumption) (by first | exact nmn | assumption | simp) | exact rd_1h (by assumption) (by first | rfl | assumption) (by first | exact nmn | assumption | simp)) hS ?_) | (refine own_box rfl _ _ rfl (by rfl) hS ?_; clear hS; (try clear ww); intro bb ww hS) | (refine w_al rfl rfl hS ?_; clear hS; (try clear ww); intro bb ww hS) | (refine w_st rfl _ _ rfl (by rfl) (by rfl) (by repeat constructor) (by rfl) (by rfl) (by first | rfl | assumption) hS ?_; clear hS; (try clear ww); intro ww hS) | (refine w_s1 rfl _ _ rfl (by rfl) (by repeat constructor) (by first | exact .c | exact .t rfl) (by rfl) (by repeat constructor) hS ?_; clear hS; (try clear ww); intro ww hS))
  have hc := (hS.get at0).cell
  have hB := HS2.out.below
  have hS4 := hS
  rw [HDE.out] at hS4
  refine bodyPost_ret (v := .tuple #[.agg #[f0, f1, f2, f3, f4, f5, f6, f7, f8, f9, f10], .bool true]) (by simp [results, Try.results52, go_sem, hc]) rfl ⟨_, rfl, (repIn_turn HR2.out hS HOf.out).mono (fun _ _ _ => trivial) (fun _ _ => trivial), (HS2.out.chain hS4).below⟩

end Go.Proofs.Ytceigjonhabmmaa
