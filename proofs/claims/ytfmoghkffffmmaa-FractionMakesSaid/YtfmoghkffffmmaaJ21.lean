/- Fractions: the lengths. -/
import Derived.Test.YtfmoghkffffmmaaJ20
namespace Go.Proofs.Ytfmoghkffffmmaa
open Go.RowKit

attribute [local irreducible] wpQuiet wpG wpP wpK wpList Code.wp Calls

theorem rt_nums : RowTy Try.prog 56 5 := ⟨⟨_, Try.underlying56, rfl⟩, by kernel_rfl⟩
theorem zt_nums : ZeroTy Try.prog 56 [.int .i64 0, .int .i64 0, .int .i64 0, .int .i64 0, .int .i64 0] := ⟨.agg #[.int .i64 0, .int .i64 0, .int .i64 0, .int .i64 0, .int .i64 0], by kernel_rfl, rfl⟩

set_option maxHeartbeats 400000 in
theorem measure1_calls (n p : Int) (a : Addr) (w : World) (h : w.cell? a = some (.int .i64 p)) :
    Calls Try.prog 41 #[.int .i64 n, .pointer (some a)] w (Gives (.int .i64 (scl n p)) w) := by
  go_enter Try.func41, Try.ntmps41
  go_wp2_with fail
  refine (length_Scale_calls n p _).mono ?_
  rintro e w' ⟨rfl, m, rfl⟩
  go_wp2_with fail
  go_ret
  exact Draws.gives ⟨rfl, m, rfl⟩

/-- The least gap, and how far the numerator and the denominator are moved. -/
def fracGap (l r : Int) : Int := if l = 0 then 3 * r else r
def fracUp (F : Fnt) (l : Int) : Int := par F l (if l = 0 then F.num1 else F.num2)
def fracDown (F : Fnt) (l : Int) : Int := par F l (if l = 0 then F.den1 else F.den2)
/-- The bottom of the rule. -/
def fracY (F : Fnt) (l : Int) : Int := par F l F.axis - hlf (par F l F.rule)
theorem prm_len {F : Fnt} (h : ValidF F) : (0 ≤ F.rule ∧ F.rule ≤ 20000) ∧ (0 ≤ F.axis ∧ F.axis ≤ 20000) ∧ (0 ≤ F.num1 ∧ F.num1 ≤ 20000) ∧ (0 ≤ F.num2 ∧ F.num2 ≤ 20000) ∧ (0 ≤ F.den1 ∧ F.den1 ≤ 20000) ∧ (0 ≤ F.den2 ∧ F.den2 ≤ 20000) := by
  have := h.2.2.1
  simp [prmOk, allIn] at this
  omega
theorem hlf_in {n : Int} (h0 : 0 ≤ n) (h1 : n ≤ 1000000000) : 0 ≤ hlf n ∧ n ≤ 2 * hlf n ∧ 2 * hlf n ≤ n + 1 := by
  rw [hlf_ok (by omega)]
  unfold rdiv
  rw [if_pos h0]
  omega

set_option maxHeartbeats 8000000 in
set_option maxRecDepth 100000 in
theorem measure_in (F : Fnt) (l p : Int) (c : Bool) (w : World) (hl : l ≠ 0)
    (r x u d h : Int) (er : r = scl F.rule p) (ex : x = scl F.axis p) (eu : u = scl F.num2 p) (ed : d = scl F.den2 p) (eh : h = hlf r) (br : 0 ≤ r ∧ r ≤ 20000) (bx : 0 ≤ x ∧ x ≤ 20000) (bh : 0 ≤ h ∧ h ≤ 20000) :
    Calls Try.prog 22 #[F.val, .agg #[.int .i64 l, .bool c], .int .i64 p] w (Gives (.agg #[.int .i64 r, .int .i64 (x - h), .int .i64 (r), .int .i64 u, .int .i64 d]) w) := by
  have Hr := Lib.hid (fun (w' : World) (b : Nat) (hc : w'.cell? ⟨b, 0, none⟩ = some (.int .i64 p)) => show Calls Try.prog 41 #[.int .i64 F.rule, .pointer (some ⟨b, 0, none⟩)] w' (Gives (.int .i64 r) w') by rw [er]; exact measure1_calls _ _ _ _ hc)
  have Hx := Lib.hid (fun (w' : World) (b : Nat) (hc : w'.cell? ⟨b, 0, none⟩ = some (.int .i64 p)) => show Calls Try.prog 41 #[.int .i64 F.axis, .pointer (some ⟨b, 0, none⟩)] w' (Gives (.int .i64 x) w') by rw [ex]; exact measure1_calls _ _ _ _ hc)
  have Hu := Lib.hid (fun (w' : World) (b : Nat) (hc : w'.cell? ⟨b, 0, none⟩ = some (.int .i64 p)) => show Calls Try.prog 41 #[.int .i64 F.num2, .pointer (some ⟨b, 0, none⟩)] w' (Gives (.int .i64 u) w') by rw [eu]; exact measure1_calls _ _ _ _ hc)
  have Hd := Lib.hid (fun (w' : World) (b : Nat) (hc : w'.cell? ⟨b, 0, none⟩ = some (.int .i64 p)) => show Calls Try.prog 41 #[.int .i64 F.den2, .pointer (some ⟨b, 0, none⟩)] w' (Gives (.int .i64 d) w') by rw [ed]; exact measure1_calls _ _ _ _ hc)
  have Hh := Lib.hid (fun (w' : World) => show Calls Try.prog 25 #[.int .i64 r] w' (Gives (.int .i64 h) w') by rw [eh]; exact length_Half_gives _ _)
  clear er ex eu ed eh
  have dl : decide (l = 0) = false := decide_eq_false hl
  have ws : IntKind.i64.wrap (x - h) = x - h := IntWalk.i64_in _ (by omega)
  have wm : IntKind.i64.wrap (3 * r) = 3 * r := IntWalk.i64_in _ (by omega)
  go_enter Try.func22, Try.ntmps22
  have hS := own_start w
  go_wp2_with (first | (refine own_unguard (by rfl) ?_) | (refine own_box1 (v := .int .i64 p) rfl _ _ rfl rfl rfl hS ?_; clear hS; (try clear ww); intro bb ww hS) | (refine own_load1 rfl _ _ rfl rfl hS (atl (by repeat constructor)) (by first | exact ot_int | exact ot_bool) (by first | rfl | assumption) ?_) | (refine own_load rfl _ _ rfl rfl hS (atl (by repeat constructor)) (by first | exact rt_font | exact rt_style | exact rt_nums) ?_) | (refine own_load_old rfl _ _ rfl rfl hS (by assumption) (by first | exact List.not_mem_nil | assumption) (by first | exact rt_font | exact rt_style | exact rt_nums) ?_) | (refine own_load_has rfl _ _ rfl rfl hS (by assumption) (by first | exact List.not_mem_nil | assumption) (by first | exact rt_font | exact rt_style | exact rt_nums) ?_) | (refine own_load1_old rfl _ _ rfl rfl hS (by assumption) (by first | exact List.not_mem_nil | assumption) (by first | exact ot_int | exact ot_bool) ?_) | (refine own_load1_has rfl _ _ rfl rfl hS (by assumption) (by first | exact List.not_mem_nil | assumption) (by first | exact ot_int | exact ot_bool) (by first | rfl | assumption) ?_) | (refine own_box rfl _ _ rfl rfl hS ?_; clear hS; (try clear ww); intro bb ww hS) | (refine own_alloc rfl _ rfl hS (by first | exact zt_style | exact zt_nums) ?_; clear hS; (try clear ww); intro bb ww hS) | (refine own_store rfl _ _ _ rfl rfl rfl hS (atl (by repeat constructor)) (by first | exact rt_font | exact rt_style | exact rt_nums) (by rfl) (by rfl) ?_; clear hS; (try clear ww); intro ww hS; (try simp only at hS); (try simp only [List.set_cons_succ] at hS); (try simp only [List.set_cons_zero] at hS)) | (refine own_store1 rfl _ _ _ rfl rfl rfl rfl hS (atl (by repeat constructor)) (by first | exact ot_int | exact ot_bool) (by simp) ?_; clear hS; (try clear ww); intro ww hS; (try simp only at hS); (try simp only [List.set_cons_succ] at hS); (try simp only [List.set_cons_zero] at hS); (try simp only [Act.eval] at hS); (try simp only [Array.getD_eq_getD_getElem?] at hS); (try simp only [List.getElem?_toArray] at hS); (try simp only [List.getElem?_cons_succ] at hS); (try simp only [List.getElem?_cons_zero] at hS); (try simp only [Option.getD_some] at hS)))
  (try simp only [Act.put]); (try simp only [List.setIfInBounds_toArray]); (try simp only [List.set_cons_succ]); (try simp only [List.set_cons_zero])
  refine own_any hS [17] 18 (by kernel_rfl) (by kernel_rfl) ?_
  clear hS
  intro hcl ww hS
  refine own_batch hS [0, 1, 2, 3, 4, 5, 6, 7, 8, 9, 10, 11, 12, 13, 14, 15] 2 rfl hcl (by kernel_rfl) ?_
  (try simp only); repeat (first | (simp only [List.filterMap_cons]) | (simp only [List.filterMap_nil]) | (simp only [List.getElem?_toArray]) | (simp only [List.getElem?_cons_succ]) | (simp only [List.getElem?_cons_zero]) | (simp only [List.reverse_cons]) | (simp only [List.reverse_nil]) | (simp only [List.nil_append]) | (simp only [List.cons_append]))
  repeat (first
      | (refine g_plain (by with_reducible rfl) ?_
         apply Exists.intro
         refine ⟨?_, ?_⟩
         focus (intro wq hq0; (first | have hq : Own _ _ _ wq := hq0 | have hq : Own _ _ _ wq := hq0.1 | skip); first | ((with_reducible show givesAt _ ({ dst := _, op := Op.load _ _, type := _, pos := _, after := _, guard := _ } : Oper) _ _ _); first | (exact givesAt_one rfl rfl (Own.get hq at3) (by rfl) (by first | exact ot_int)) | (exact givesAt_row rfl rfl (Own.get hq at3) (by first | exact rt_font)) | (exact givesAt_one rfl rfl (Own.get hq at1) (by rfl) (by first | exact ot_int)) | (exact givesAt_row rfl rfl (Own.get hq at1) (by first | exact rt_font))) | (go_simp; first | (go_at_call 41; exact (by first | exact Hr.out _ _ ((Own.get hq at1).cell 0) | exact Hu.out _ _ ((Own.get hq at1).cell 0) | exact Hd.out _ _ ((Own.get hq at1).cell 0))) | (with_reducible rfl)))
         simp only [Act.put, List.setIfInBounds_toArray]; (try simp only [List.set_cons_succ]); (try simp only [List.set_cons_zero]))
      | (refine g_at (by with_reducible rfl) (by rfl) (by rfl) (by simp only [List.getElem?_toArray, List.getElem?_cons_succ, List.getElem?_cons_zero]; rfl) ?_
         first | (with_reducible refine QG_tt ?_) | (with_reducible refine QG_ff ?_)
         apply Exists.intro
         refine ⟨?_, ?_⟩
         focus (intro wq hq0; (first | have hq : Own _ _ _ wq := hq0 | have hq : Own _ _ _ wq := hq0.1 | skip); first | ((with_reducible show givesAt _ ({ dst := _, op := Op.load _ _, type := _, pos := _, after := _, guard := _ } : Oper) _ _ _); first | (exact givesAt_one rfl rfl (Own.get hq at3) (by rfl) (by first | exact ot_int)) | (exact givesAt_row rfl rfl (Own.get hq at3) (by first | exact rt_font)) | (exact givesAt_one rfl rfl (Own.get hq at1) (by rfl) (by first | exact ot_int)) | (exact givesAt_row rfl rfl (Own.get hq at1) (by first | exact rt_font))) | (go_simp; first | (go_at_call 41; exact (by first | exact Hr.out _ _ ((Own.get hq at1).cell 0) | exact Hu.out _ _ ((Own.get hq at1).cell 0) | exact Hd.out _ _ ((Own.get hq at1).cell 0))) | (with_reducible rfl)))
         simp only [Act.put, List.setIfInBounds_toArray]; (try simp only [List.set_cons_succ]); (try simp only [List.set_cons_zero]))
      | (refine g_at (by with_reducible rfl) (by rfl) (by rfl) (by simp only [List.getElem?_toArray, List.getElem?_cons_succ, List.getElem?_cons_zero]; rfl) ?_
         first | (with_reducible refine QG_tf ?_) | (with_reducible refine QG_ft ?_) | (with_reducible refine QG_u ?_)
         simp only [Act.put, List.setIfInBounds_toArray]; (try simp only [List.set_cons_succ]); (try simp only [List.set_cons_zero])))
  refine g_nil ?_
  clear hS hcl
  intro hcl ww hS
  refine own_soft hS 16 hcl (by simp only [List.getElem?_toArray, List.getElem?_cons_succ, List.getElem?_cons_zero]; rfl) (by kernel_rfl) ?_
  have hO := hS
  clear hS
  intro hS
  refine own_alloc rfl _ rfl hS zt_nums ?_
  clear hS
  intro b1 w4 hS
  refine wpList_nil ⟨rfl, _, hS, ?_⟩
  clear hS hO hcl
  intro hcl w5 hS
  (try simp only [Act.put]); (try simp only [List.setIfInBounds_toArray]); (try simp only [List.set_cons_succ]); (try simp only [List.set_cons_zero])
  refine own_hard (D := []) (W := w) 17 hcl (by simp only [List.getElem?_toArray, List.getElem?_cons_succ, List.getElem?_cons_zero]; rfl) (by kernel_rfl) (by kernel_rfl) ?_
  refine own_store rfl _ _ _ rfl rfl rfl hS at0 rt_nums (by rfl) (by rfl) ?_
  clear hS
  intro w6 hS
  (try simp only [List.cons_append] at hS); (try simp only [List.nil_append] at hS); (try simp only [List.set_cons_zero] at hS)
  refine wpList_nil ⟨rfl, _, hS, ?_⟩
  clear hS hcl
  intro hcl w7 hS
  refine own_done (by kernel_rfl) ?_
  (try simp only [Act.put]); (try simp only [List.setIfInBounds_toArray]); (try simp only [List.set_cons_succ]); (try simp only [List.set_cons_zero])
  go_wp2_with (first | (refine own_unguard (by rfl) ?_) | (refine own_load1 rfl _ _ rfl rfl hS (atl (by repeat constructor)) (by first | exact ot_int | exact ot_bool) (by first | rfl | assumption) ?_) | (refine own_load rfl _ _ rfl rfl hS (atl (by repeat constructor)) (by first | exact rt_font | exact rt_style | exact rt_nums) ?_) | (refine own_load_old rfl _ _ rfl rfl hS (by assumption) (by first | exact List.not_mem_nil | assumption) (by first | exact rt_font | exact rt_style | exact rt_nums) ?_) | (refine own_load_has rfl _ _ rfl rfl hS (by assumption) (by first | exact List.not_mem_nil | assumption) (by first | exact rt_font | exact rt_style | exact rt_nums) ?_) | (refine own_load1_old rfl _ _ rfl rfl hS (by assumption) (by first | exact List.not_mem_nil | assumption) (by first | exact ot_int | exact ot_bool) ?_) | (refine own_load1_has rfl _ _ rfl rfl hS (by assumption) (by first | exact List.not_mem_nil | assumption) (by first | exact ot_int | exact ot_bool) (by first | rfl | assumption) ?_) | (refine own_box rfl _ _ rfl rfl hS ?_; clear hS; (try clear ww); intro bb ww hS) | (refine own_alloc rfl _ rfl hS (by first | exact zt_style | exact zt_nums) ?_; clear hS; (try clear ww); intro bb ww hS) | (refine own_store rfl _ _ _ rfl rfl rfl hS (atl (by repeat constructor)) (by first | exact rt_font | exact rt_style | exact rt_nums) (by rfl) (by rfl) ?_; clear hS; (try clear ww); intro ww hS; (try simp only at hS); (try simp only [List.set_cons_succ] at hS); (try simp only [List.set_cons_zero] at hS)) | (refine own_store1 rfl _ _ _ rfl rfl rfl rfl hS (atl (by repeat constructor)) (by first | exact ot_int | exact ot_bool) (by simp) ?_; clear hS; (try clear ww); intro ww hS; (try simp only at hS); (try simp only [List.set_cons_succ] at hS); (try simp only [List.set_cons_zero] at hS); (try simp only [Act.eval] at hS); (try simp only [Array.getD_eq_getD_getElem?] at hS); (try simp only [List.getElem?_toArray] at hS); (try simp only [List.getElem?_cons_succ] at hS); (try simp only [List.getElem?_cons_zero] at hS); (try simp only [Option.getD_some] at hS)))
  (try simp only [Act.put]); (try simp only [List.setIfInBounds_toArray]); (try simp only [List.set_cons_succ]); (try simp only [List.set_cons_zero])
  refine own_any hS [10] 11 (by kernel_rfl) (by kernel_rfl) ?_
  clear hS
  intro hcl ww hS
  refine own_batch hS [0, 1, 2, 3, 4, 5, 6, 7, 8, 9] 1 rfl hcl (by kernel_rfl) ?_
  (try simp only); repeat (first | (simp only [List.filterMap_cons]) | (simp only [List.filterMap_nil]) | (simp only [List.getElem?_toArray]) | (simp only [List.getElem?_cons_succ]) | (simp only [List.getElem?_cons_zero]) | (simp only [List.reverse_cons]) | (simp only [List.reverse_nil]) | (simp only [List.nil_append]) | (simp only [List.cons_append]))
  repeat (first
      | (refine g_plain (by with_reducible rfl) ?_
         apply Exists.intro
         refine ⟨?_, ?_⟩
         focus (intro wq hq0; (first | have hq : Own _ _ _ wq := hq0 | have hq : Own _ _ _ wq := hq0.1 | skip); first | ((with_reducible show givesAt _ ({ dst := _, op := Op.load _ _, type := _, pos := _, after := _, guard := _ } : Oper) _ _ _); first | (exact givesAt_one rfl rfl (Own.get hq at0) (by rfl) (by first | exact ot_int)) | (exact givesAt_row rfl rfl (Own.get hq at0) (by first | exact rt_font)) | (exact givesAt_one rfl rfl (Own.get hq at2) (by rfl) (by first | exact ot_int)) | (exact givesAt_row rfl rfl (Own.get hq at2) (by first | exact rt_font)) | (exact givesAt_one rfl rfl (Own.get hq at4) (by rfl) (by first | exact ot_int)) | (exact givesAt_row rfl rfl (Own.get hq at4) (by first | exact rt_font))) | (go_simp; first | (go_at_call 41; exact Hx.out _ _ ((Own.get hq at2).cell 0)) | (go_at_call 25; exact Hh.out _) | (with_reducible rfl)))
         simp only [Act.put, List.setIfInBounds_toArray]; (try simp only [List.set_cons_succ]); (try simp only [List.set_cons_zero]))
      | (refine g_at (by with_reducible rfl) (by rfl) (by rfl) (by simp only [List.getElem?_toArray, List.getElem?_cons_succ, List.getElem?_cons_zero]; rfl) ?_
         first | (with_reducible refine QG_tt ?_) | (with_reducible refine QG_ff ?_)
         apply Exists.intro
         refine ⟨?_, ?_⟩
         focus (intro wq hq0; (first | have hq : Own _ _ _ wq := hq0 | have hq : Own _ _ _ wq := hq0.1 | skip); first | ((with_reducible show givesAt _ ({ dst := _, op := Op.load _ _, type := _, pos := _, after := _, guard := _ } : Oper) _ _ _); first | (exact givesAt_one rfl rfl (Own.get hq at0) (by rfl) (by first | exact ot_int)) | (exact givesAt_row rfl rfl (Own.get hq at0) (by first | exact rt_font)) | (exact givesAt_one rfl rfl (Own.get hq at2) (by rfl) (by first | exact ot_int)) | (exact givesAt_row rfl rfl (Own.get hq at2) (by first | exact rt_font)) | (exact givesAt_one rfl rfl (Own.get hq at4) (by rfl) (by first | exact ot_int)) | (exact givesAt_row rfl rfl (Own.get hq at4) (by first | exact rt_font))) | (go_simp; first | (go_at_call 41; exact Hx.out _ _ ((Own.get hq at2).cell 0)) | (go_at_call 25; exact Hh.out _) | (with_reducible rfl)))
         simp only [Act.put, List.setIfInBounds_toArray]; (try simp only [List.set_cons_succ]); (try simp only [List.set_cons_zero]))
      | (refine g_at (by with_reducible rfl) (by rfl) (by rfl) (by simp only [List.getElem?_toArray, List.getElem?_cons_succ, List.getElem?_cons_zero]; rfl) ?_
         first | (with_reducible refine QG_tf ?_) | (with_reducible refine QG_ft ?_) | (with_reducible refine QG_u ?_)
         simp only [Act.put, List.setIfInBounds_toArray]; (try simp only [List.set_cons_succ]); (try simp only [List.set_cons_zero])))
  refine g_nil ?_
  clear hS hcl
  intro hcl ww hS
  try simp only [ws]
  refine own_hard (D := []) (W := w) 10 hcl (by simp only [List.getElem?_toArray, List.getElem?_cons_succ, List.getElem?_cons_zero]; rfl) (by kernel_rfl) (by kernel_rfl) ?_
  refine own_store1 (v := .int .i64 (x - h)) rfl _ _ _ rfl rfl rfl rfl hS at0 ot_int (by simp) ?_
  clear hS
  intro w8 hS
  (try simp only [List.set_cons_zero] at hS); (try simp only [List.set_cons_succ] at hS)
  refine wpList_nil ⟨rfl, _, hS, ?_⟩
  clear hS hcl
  intro hcl w9 hS
  refine own_done (by kernel_rfl) ?_
  (try simp only [Act.put]); (try simp only [List.setIfInBounds_toArray]); (try simp only [List.set_cons_succ]); (try simp only [List.set_cons_zero])
  go_wp2_with (first | (refine own_unguard (by rfl) ?_) | (refine own_load1 rfl _ _ rfl rfl hS (atl (by repeat constructor)) (by first | exact ot_int | exact ot_bool) (by first | rfl | assumption) ?_) | (refine own_load rfl _ _ rfl rfl hS (atl (by repeat constructor)) (by first | exact rt_font | exact rt_style | exact rt_nums) ?_) | (refine own_load_old rfl _ _ rfl rfl hS (by assumption) (by first | exact List.not_mem_nil | assumption) (by first | exact rt_font | exact rt_style | exact rt_nums) ?_) | (refine own_load_has rfl _ _ rfl rfl hS (by assumption) (by first | exact List.not_mem_nil | assumption) (by first | exact rt_font | exact rt_style | exact rt_nums) ?_) | (refine own_load1_old rfl _ _ rfl rfl hS (by assumption) (by first | exact List.not_mem_nil | assumption) (by first | exact ot_int | exact ot_bool) ?_) | (refine own_load1_has rfl _ _ rfl rfl hS (by assumption) (by first | exact List.not_mem_nil | assumption) (by first | exact ot_int | exact ot_bool) (by first | rfl | assumption) ?_) | (refine own_box rfl _ _ rfl rfl hS ?_; clear hS; (try clear ww); intro bb ww hS) | (refine own_alloc rfl _ rfl hS (by first | exact zt_style | exact zt_nums) ?_; clear hS; (try clear ww); intro bb ww hS) | (refine own_store rfl _ _ _ rfl rfl rfl hS (atl (by repeat constructor)) (by first | exact rt_font | exact rt_style | exact rt_nums) (by rfl) (by rfl) ?_; clear hS; (try clear ww); intro ww hS; (try simp only at hS); (try simp only [List.set_cons_succ] at hS); (try simp only [List.set_cons_zero] at hS)) | (refine own_store1 rfl _ _ _ rfl rfl rfl rfl hS (atl (by repeat constructor)) (by first | exact ot_int | exact ot_bool) (by simp) ?_; clear hS; (try clear ww); intro ww hS; (try simp only at hS); (try simp only [List.set_cons_succ] at hS); (try simp only [List.set_cons_zero] at hS); (try simp only [Act.eval] at hS); (try simp only [Array.getD_eq_getD_getElem?] at hS); (try simp only [List.getElem?_toArray] at hS); (try simp only [List.getElem?_cons_succ] at hS); (try simp only [List.getElem?_cons_zero] at hS); (try simp only [Option.getD_some] at hS)))
  have hc := (hS.get at1).cell
  refine bodyPost_ret (v := .agg #[.int .i64 r, .int .i64 (x - h), .int .i64 (r), .int .i64 u, .int .i64 d]) (by simp [results, Try.results22, go_sem, hc]) rfl ⟨rfl, hS.below⟩

set_option maxHeartbeats 8000000 in
set_option maxRecDepth 100000 in
theorem measure_0 (F : Fnt) (l p : Int) (c : Bool) (w : World) (hl : l = 0)
    (r x u d h u2 d2 : Int) (er : r = scl F.rule p) (ex : x = scl F.axis p) (eu : u = scl F.num1 p) (ed : d = scl F.den1 p) (eu2 : u2 = scl F.num2 p) (ed2 : d2 = scl F.den2 p) (eh : h = hlf r) (br : 0 ≤ r ∧ r ≤ 20000) (bx : 0 ≤ x ∧ x ≤ 20000) (bh : 0 ≤ h ∧ h ≤ 20000) :
    Calls Try.prog 22 #[F.val, .agg #[.int .i64 l, .bool c], .int .i64 p] w (Gives (.agg #[.int .i64 r, .int .i64 (x - h), .int .i64 (3 * r), .int .i64 u, .int .i64 d]) w) := by
  have Hr := Lib.hid (fun (w' : World) (b : Nat) (hc : w'.cell? ⟨b, 0, none⟩ = some (.int .i64 p)) => show Calls Try.prog 41 #[.int .i64 F.rule, .pointer (some ⟨b, 0, none⟩)] w' (Gives (.int .i64 r) w') by rw [er]; exact measure1_calls _ _ _ _ hc)
  have Hx := Lib.hid (fun (w' : World) (b : Nat) (hc : w'.cell? ⟨b, 0, none⟩ = some (.int .i64 p)) => show Calls Try.prog 41 #[.int .i64 F.axis, .pointer (some ⟨b, 0, none⟩)] w' (Gives (.int .i64 x) w') by rw [ex]; exact measure1_calls _ _ _ _ hc)
  have Hu := Lib.hid (fun (w' : World) (b : Nat) (hc : w'.cell? ⟨b, 0, none⟩ = some (.int .i64 p)) => show Calls Try.prog 41 #[.int .i64 F.num1, .pointer (some ⟨b, 0, none⟩)] w' (Gives (.int .i64 u) w') by rw [eu]; exact measure1_calls _ _ _ _ hc)
  have Hd := Lib.hid (fun (w' : World) (b : Nat) (hc : w'.cell? ⟨b, 0, none⟩ = some (.int .i64 p)) => show Calls Try.prog 41 #[.int .i64 F.den1, .pointer (some ⟨b, 0, none⟩)] w' (Gives (.int .i64 d) w') by rw [ed]; exact measure1_calls _ _ _ _ hc)
  have Hu2 := Lib.hid (fun (w' : World) (b : Nat) (hc : w'.cell? ⟨b, 0, none⟩ = some (.int .i64 p)) => show Calls Try.prog 41 #[.int .i64 F.num2, .pointer (some ⟨b, 0, none⟩)] w' (Gives (.int .i64 u2) w') by rw [eu2]; exact measure1_calls _ _ _ _ hc)
  have Hd2 := Lib.hid (fun (w' : World) (b : Nat) (hc : w'.cell? ⟨b, 0, none⟩ = some (.int .i64 p)) => show Calls Try.prog 41 #[.int .i64 F.den2, .pointer (some ⟨b, 0, none⟩)] w' (Gives (.int .i64 d2) w') by rw [ed2]; exact measure1_calls _ _ _ _ hc)
  have Hh := Lib.hid (fun (w' : World) => show Calls Try.prog 25 #[.int .i64 r] w' (Gives (.int .i64 h) w') by rw [eh]; exact length_Half_gives _ _)
  clear er ex eu ed eu2 ed2 eh
  subst hl
  have ws : IntKind.i64.wrap (x - h) = x - h := IntWalk.i64_in _ (by omega)
  have wm : IntKind.i64.wrap (3 * r) = 3 * r := IntWalk.i64_in _ (by omega)
  go_enter Try.func22, Try.ntmps22
  have hS := own_start w
  go_wp2_with (first | (refine own_unguard (by rfl) ?_) | (refine own_box1 (v := .int .i64 p) rfl _ _ rfl rfl rfl hS ?_; clear hS; (try clear ww); intro bb ww hS) | (refine own_load1 rfl _ _ rfl rfl hS (atl (by repeat constructor)) (by first | exact ot_int | exact ot_bool) (by first | rfl | assumption) ?_) | (refine own_load rfl _ _ rfl rfl hS (atl (by repeat constructor)) (by first | exact rt_font | exact rt_style | exact rt_nums) ?_) | (refine own_load_old rfl _ _ rfl rfl hS (by assumption) (by first | exact List.not_mem_nil | assumption) (by first | exact rt_font | exact rt_style | exact rt_nums) ?_) | (refine own_load_has rfl _ _ rfl rfl hS (by assumption) (by first | exact List.not_mem_nil | assumption) (by first | exact rt_font | exact rt_style | exact rt_nums) ?_) | (refine own_load1_old rfl _ _ rfl rfl hS (by assumption) (by first | exact List.not_mem_nil | assumption) (by first | exact ot_int | exact ot_bool) ?_) | (refine own_load1_has rfl _ _ rfl rfl hS (by assumption) (by first | exact List.not_mem_nil | assumption) (by first | exact ot_int | exact ot_bool) (by first | rfl | assumption) ?_) | (refine own_box rfl _ _ rfl rfl hS ?_; clear hS; (try clear ww); intro bb ww hS) | (refine own_alloc rfl _ rfl hS (by first | exact zt_style | exact zt_nums) ?_; clear hS; (try clear ww); intro bb ww hS) | (refine own_store rfl _ _ _ rfl rfl rfl hS (atl (by repeat constructor)) (by first | exact rt_font | exact rt_style | exact rt_nums) (by rfl) (by rfl) ?_; clear hS; (try clear ww); intro ww hS; (try simp only at hS); (try simp only [List.set_cons_succ] at hS); (try simp only [List.set_cons_zero] at hS)) | (refine own_store1 rfl _ _ _ rfl rfl rfl rfl hS (atl (by repeat constructor)) (by first | exact ot_int | exact ot_bool) (by simp) ?_; clear hS; (try clear ww); intro ww hS; (try simp only at hS); (try simp only [List.set_cons_succ] at hS); (try simp only [List.set_cons_zero] at hS); (try simp only [Act.eval] at hS); (try simp only [Array.getD_eq_getD_getElem?] at hS); (try simp only [List.getElem?_toArray] at hS); (try simp only [List.getElem?_cons_succ] at hS); (try simp only [List.getElem?_cons_zero] at hS); (try simp only [Option.getD_some] at hS)))
  (try simp only [Act.put]); (try simp only [List.setIfInBounds_toArray]); (try simp only [List.set_cons_succ]); (try simp only [List.set_cons_zero])
  refine own_any hS [17] 18 (by kernel_rfl) (by kernel_rfl) ?_
  clear hS
  intro hcl ww hS
  refine own_batch hS [0, 1, 2, 3, 4, 5, 6, 7, 8, 9, 10, 11, 12, 13, 14, 15] 2 rfl hcl (by kernel_rfl) ?_
  (try simp only); repeat (first | (simp only [List.filterMap_cons]) | (simp only [List.filterMap_nil]) | (simp only [List.getElem?_toArray]) | (simp only [List.getElem?_cons_succ]) | (simp only [List.getElem?_cons_zero]) | (simp only [List.reverse_cons]) | (simp only [List.reverse_nil]) | (simp only [List.nil_append]) | (simp only [List.cons_append]))
  repeat (first
      | (refine g_plain (by with_reducible rfl) ?_
         apply Exists.intro
         refine ⟨?_, ?_⟩
         focus (intro wq hq0; (first | have hq : Own _ _ _ wq := hq0 | have hq : Own _ _ _ wq := hq0.1 | skip); first | ((with_reducible show givesAt _ ({ dst := _, op := Op.load _ _, type := _, pos := _, after := _, guard := _ } : Oper) _ _ _); first | (exact givesAt_one rfl rfl (Own.get hq at3) (by rfl) (by first | exact ot_int)) | (exact givesAt_row rfl rfl (Own.get hq at3) (by first | exact rt_font)) | (exact givesAt_one rfl rfl (Own.get hq at1) (by rfl) (by first | exact ot_int)) | (exact givesAt_row rfl rfl (Own.get hq at1) (by first | exact rt_font))) | (go_simp; first | (go_at_call 41; exact (by first | exact Hr.out _ _ ((Own.get hq at1).cell 0) | exact Hu2.out _ _ ((Own.get hq at1).cell 0) | exact Hd2.out _ _ ((Own.get hq at1).cell 0))) | (with_reducible rfl)))
         simp only [Act.put, List.setIfInBounds_toArray]; (try simp only [List.set_cons_succ]); (try simp only [List.set_cons_zero]))
      | (refine g_at (by with_reducible rfl) (by rfl) (by rfl) (by simp only [List.getElem?_toArray, List.getElem?_cons_succ, List.getElem?_cons_zero]; rfl) ?_
         first | (with_reducible refine QG_tt ?_) | (with_reducible refine QG_ff ?_)
         apply Exists.intro
         refine ⟨?_, ?_⟩
         focus (intro wq hq0; (first | have hq : Own _ _ _ wq := hq0 | have hq : Own _ _ _ wq := hq0.1 | skip); first | ((with_reducible show givesAt _ ({ dst := _, op := Op.load _ _, type := _, pos := _, after := _, guard := _ } : Oper) _ _ _); first | (exact givesAt_one rfl rfl (Own.get hq at3) (by rfl) (by first | exact ot_int)) | (exact givesAt_row rfl rfl (Own.get hq at3) (by first | exact rt_font)) | (exact givesAt_one rfl rfl (Own.get hq at1) (by rfl) (by first | exact ot_int)) | (exact givesAt_row rfl rfl (Own.get hq at1) (by first | exact rt_font))) | (go_simp; first | (go_at_call 41; exact (by first | exact Hr.out _ _ ((Own.get hq at1).cell 0) | exact Hu2.out _ _ ((Own.get hq at1).cell 0) | exact Hd2.out _ _ ((Own.get hq at1).cell 0))) | (with_reducible rfl)))
         simp only [Act.put, List.setIfInBounds_toArray]; (try simp only [List.set_cons_succ]); (try simp only [List.set_cons_zero]))
      | (refine g_at (by with_reducible rfl) (by rfl) (by rfl) (by simp only [List.getElem?_toArray, List.getElem?_cons_succ, List.getElem?_cons_zero]; rfl) ?_
         first | (with_reducible refine QG_tf ?_) | (with_reducible refine QG_ft ?_) | (with_reducible refine QG_u ?_)
         simp only [Act.put, List.setIfInBounds_toArray]; (try simp only [List.set_cons_succ]); (try simp only [List.set_cons_zero])))
  refine g_nil ?_
  clear hS hcl
  intro hcl ww hS
  refine own_soft hS 16 hcl (by simp only [List.getElem?_toArray, List.getElem?_cons_succ, List.getElem?_cons_zero]; rfl) (by kernel_rfl) ?_
  have hO := hS
  clear hS
  intro hS
  refine own_alloc rfl _ rfl hS zt_nums ?_
  clear hS
  intro b1 w4 hS
  refine wpList_nil ⟨rfl, _, hS, ?_⟩
  clear hS hO hcl
  intro hcl w5 hS
  (try simp only [Act.put]); (try simp only [List.setIfInBounds_toArray]); (try simp only [List.set_cons_succ]); (try simp only [List.set_cons_zero])
  refine own_hard (D := []) (W := w) 17 hcl (by simp only [List.getElem?_toArray, List.getElem?_cons_succ, List.getElem?_cons_zero]; rfl) (by kernel_rfl) (by kernel_rfl) ?_
  refine own_store rfl _ _ _ rfl rfl rfl hS at0 rt_nums (by rfl) (by rfl) ?_
  clear hS
  intro w6 hS
  (try simp only [List.cons_append] at hS); (try simp only [List.nil_append] at hS); (try simp only [List.set_cons_zero] at hS)
  refine wpList_nil ⟨rfl, _, hS, ?_⟩
  clear hS hcl
  intro hcl w7 hS
  refine own_done (by kernel_rfl) ?_
  (try simp only [Act.put]); (try simp only [List.setIfInBounds_toArray]); (try simp only [List.set_cons_succ]); (try simp only [List.set_cons_zero])
  go_wp2_with (first | (refine own_unguard (by rfl) ?_) | (refine own_load1 rfl _ _ rfl rfl hS (atl (by repeat constructor)) (by first | exact ot_int | exact ot_bool) (by first | rfl | assumption) ?_) | (refine own_load rfl _ _ rfl rfl hS (atl (by repeat constructor)) (by first | exact rt_font | exact rt_style | exact rt_nums) ?_) | (refine own_load_old rfl _ _ rfl rfl hS (by assumption) (by first | exact List.not_mem_nil | assumption) (by first | exact rt_font | exact rt_style | exact rt_nums) ?_) | (refine own_load_has rfl _ _ rfl rfl hS (by assumption) (by first | exact List.not_mem_nil | assumption) (by first | exact rt_font | exact rt_style | exact rt_nums) ?_) | (refine own_load1_old rfl _ _ rfl rfl hS (by assumption) (by first | exact List.not_mem_nil | assumption) (by first | exact ot_int | exact ot_bool) ?_) | (refine own_load1_has rfl _ _ rfl rfl hS (by assumption) (by first | exact List.not_mem_nil | assumption) (by first | exact ot_int | exact ot_bool) (by first | rfl | assumption) ?_) | (refine own_box rfl _ _ rfl rfl hS ?_; clear hS; (try clear ww); intro bb ww hS) | (refine own_alloc rfl _ rfl hS (by first | exact zt_style | exact zt_nums) ?_; clear hS; (try clear ww); intro bb ww hS) | (refine own_store rfl _ _ _ rfl rfl rfl hS (atl (by repeat constructor)) (by first | exact rt_font | exact rt_style | exact rt_nums) (by rfl) (by rfl) ?_; clear hS; (try clear ww); intro ww hS; (try simp only at hS); (try simp only [List.set_cons_succ] at hS); (try simp only [List.set_cons_zero] at hS)) | (refine own_store1 rfl _ _ _ rfl rfl rfl rfl hS (atl (by repeat constructor)) (by first | exact ot_int | exact ot_bool) (by simp) ?_; clear hS; (try clear ww); intro ww hS; (try simp only at hS); (try simp only [List.set_cons_succ] at hS); (try simp only [List.set_cons_zero] at hS); (try simp only [Act.eval] at hS); (try simp only [Array.getD_eq_getD_getElem?] at hS); (try simp only [List.getElem?_toArray] at hS); (try simp only [List.getElem?_cons_succ] at hS); (try simp only [List.getElem?_cons_zero] at hS); (try simp only [Option.getD_some] at hS)))
  (try simp only [Act.put]); (try simp only [List.setIfInBounds_toArray]); (try simp only [List.set_cons_succ]); (try simp only [List.set_cons_zero])
  refine own_any hS [10] 11 (by kernel_rfl) (by kernel_rfl) ?_
  clear hS
  intro hcl ww hS
  refine own_batch hS [0, 1, 2, 3, 4, 5, 6, 7, 8, 9] 1 rfl hcl (by kernel_rfl) ?_
  (try simp only); repeat (first | (simp only [List.filterMap_cons]) | (simp only [List.filterMap_nil]) | (simp only [List.getElem?_toArray]) | (simp only [List.getElem?_cons_succ]) | (simp only [List.getElem?_cons_zero]) | (simp only [List.reverse_cons]) | (simp only [List.reverse_nil]) | (simp only [List.nil_append]) | (simp only [List.cons_append]))
  repeat (first
      | (refine g_plain (by with_reducible rfl) ?_
         apply Exists.intro
         refine ⟨?_, ?_⟩
         focus (intro wq hq0; (first | have hq : Own _ _ _ wq := hq0 | have hq : Own _ _ _ wq := hq0.1 | skip); first | ((with_reducible show givesAt _ ({ dst := _, op := Op.load _ _, type := _, pos := _, after := _, guard := _ } : Oper) _ _ _); first | (exact givesAt_one rfl rfl (Own.get hq at0) (by rfl) (by first | exact ot_int)) | (exact givesAt_row rfl rfl (Own.get hq at0) (by first | exact rt_font)) | (exact givesAt_one rfl rfl (Own.get hq at2) (by rfl) (by first | exact ot_int)) | (exact givesAt_row rfl rfl (Own.get hq at2) (by first | exact rt_font)) | (exact givesAt_one rfl rfl (Own.get hq at4) (by rfl) (by first | exact ot_int)) | (exact givesAt_row rfl rfl (Own.get hq at4) (by first | exact rt_font))) | (go_simp; first | (go_at_call 41; exact Hx.out _ _ ((Own.get hq at2).cell 0)) | (go_at_call 25; exact Hh.out _) | (with_reducible rfl)))
         simp only [Act.put, List.setIfInBounds_toArray]; (try simp only [List.set_cons_succ]); (try simp only [List.set_cons_zero]))
      | (refine g_at (by with_reducible rfl) (by rfl) (by rfl) (by simp only [List.getElem?_toArray, List.getElem?_cons_succ, List.getElem?_cons_zero]; rfl) ?_
         first | (with_reducible refine QG_tt ?_) | (with_reducible refine QG_ff ?_)
         apply Exists.intro
         refine ⟨?_, ?_⟩
         focus (intro wq hq0; (first | have hq : Own _ _ _ wq := hq0 | have hq : Own _ _ _ wq := hq0.1 | skip); first | ((with_reducible show givesAt _ ({ dst := _, op := Op.load _ _, type := _, pos := _, after := _, guard := _ } : Oper) _ _ _); first | (exact givesAt_one rfl rfl (Own.get hq at0) (by rfl) (by first | exact ot_int)) | (exact givesAt_row rfl rfl (Own.get hq at0) (by first | exact rt_font)) | (exact givesAt_one rfl rfl (Own.get hq at2) (by rfl) (by first | exact ot_int)) | (exact givesAt_row rfl rfl (Own.get hq at2) (by first | exact rt_font)) | (exact givesAt_one rfl rfl (Own.get hq at4) (by rfl) (by first | exact ot_int)) | (exact givesAt_row rfl rfl (Own.get hq at4) (by first | exact rt_font))) | (go_simp; first | (go_at_call 41; exact Hx.out _ _ ((Own.get hq at2).cell 0)) | (go_at_call 25; exact Hh.out _) | (with_reducible rfl)))
         simp only [Act.put, List.setIfInBounds_toArray]; (try simp only [List.set_cons_succ]); (try simp only [List.set_cons_zero]))
      | (refine g_at (by with_reducible rfl) (by rfl) (by rfl) (by simp only [List.getElem?_toArray, List.getElem?_cons_succ, List.getElem?_cons_zero]; rfl) ?_
         first | (with_reducible refine QG_tf ?_) | (with_reducible refine QG_ft ?_) | (with_reducible refine QG_u ?_)
         simp only [Act.put, List.setIfInBounds_toArray]; (try simp only [List.set_cons_succ]); (try simp only [List.set_cons_zero])))
  refine g_nil ?_
  clear hS hcl
  intro hcl ww hS
  try simp only [ws]
  refine own_hard (D := []) (W := w) 10 hcl (by simp only [List.getElem?_toArray, List.getElem?_cons_succ, List.getElem?_cons_zero]; rfl) (by kernel_rfl) (by kernel_rfl) ?_
  refine own_store1 (v := .int .i64 (x - h)) rfl _ _ _ rfl rfl rfl rfl hS at0 ot_int (by simp) ?_
  clear hS
  intro w8 hS
  (try simp only [List.set_cons_zero] at hS); (try simp only [List.set_cons_succ] at hS)
  refine wpList_nil ⟨rfl, _, hS, ?_⟩
  clear hS hcl
  intro hcl w9 hS
  refine own_done (by kernel_rfl) ?_
  (try simp only [Act.put]); (try simp only [List.setIfInBounds_toArray]); (try simp only [List.set_cons_succ]); (try simp only [List.set_cons_zero])
  go_wp2_with (first | (refine own_unguard (by rfl) ?_) | (refine own_load1 rfl _ _ rfl rfl hS (atl (by repeat constructor)) (by first | exact ot_int | exact ot_bool) (by first | rfl | assumption) ?_) | (refine own_load rfl _ _ rfl rfl hS (atl (by repeat constructor)) (by first | exact rt_font | exact rt_style | exact rt_nums) ?_) | (refine own_load_old rfl _ _ rfl rfl hS (by assumption) (by first | exact List.not_mem_nil | assumption) (by first | exact rt_font | exact rt_style | exact rt_nums) ?_) | (refine own_load_has rfl _ _ rfl rfl hS (by assumption) (by first | exact List.not_mem_nil | assumption) (by first | exact rt_font | exact rt_style | exact rt_nums) ?_) | (refine own_load1_old rfl _ _ rfl rfl hS (by assumption) (by first | exact List.not_mem_nil | assumption) (by first | exact ot_int | exact ot_bool) ?_) | (refine own_load1_has rfl _ _ rfl rfl hS (by assumption) (by first | exact List.not_mem_nil | assumption) (by first | exact ot_int | exact ot_bool) (by first | rfl | assumption) ?_) | (refine own_box rfl _ _ rfl rfl hS ?_; clear hS; (try clear ww); intro bb ww hS) | (refine own_alloc rfl _ rfl hS (by first | exact zt_style | exact zt_nums) ?_; clear hS; (try clear ww); intro bb ww hS) | (refine own_store rfl _ _ _ rfl rfl rfl hS (atl (by repeat constructor)) (by first | exact rt_font | exact rt_style | exact rt_nums) (by rfl) (by rfl) ?_; clear hS; (try clear ww); intro ww hS; (try simp only at hS); (try simp only [List.set_cons_succ] at hS); (try simp only [List.set_cons_zero] at hS)) | (refine own_store1 rfl _ _ _ rfl rfl rfl rfl hS (atl (by repeat constructor)) (by first | exact ot_int | exact ot_bool) (by simp) ?_; clear hS; (try clear ww); intro ww hS; (try simp only at hS); (try simp only [List.set_cons_succ] at hS); (try simp only [List.set_cons_zero] at hS); (try simp only [Act.eval] at hS); (try simp only [Array.getD_eq_getD_getElem?] at hS); (try simp only [List.getElem?_toArray] at hS); (try simp only [List.getElem?_cons_succ] at hS); (try simp only [List.getElem?_cons_zero] at hS); (try simp only [Option.getD_some] at hS)))
  (try simp only [Act.put]); (try simp only [List.setIfInBounds_toArray]); (try simp only [List.set_cons_succ]); (try simp only [List.set_cons_zero])
  refine own_any hS [14, 16, 18] 19 (by kernel_rfl) (by kernel_rfl) ?_
  clear hS
  intro hcl ww hS
  refine own_batch hS [0, 1, 2, 3, 4, 5, 6, 7, 8, 9, 10, 11, 12, 13] 5 rfl hcl (by kernel_rfl) ?_
  (try simp only); repeat (first | (simp only [List.filterMap_cons]) | (simp only [List.filterMap_nil]) | (simp only [List.getElem?_toArray]) | (simp only [List.getElem?_cons_succ]) | (simp only [List.getElem?_cons_zero]) | (simp only [List.reverse_cons]) | (simp only [List.reverse_nil]) | (simp only [List.nil_append]) | (simp only [List.cons_append]))
  repeat (first
      | (refine g_plain (by with_reducible rfl) ?_
         apply Exists.intro
         refine ⟨?_, ?_⟩
         focus (intro wq hq0; (first | have hq : Own _ _ _ wq := hq0 | have hq : Own _ _ _ wq := hq0.1 | skip); first | ((with_reducible show givesAt _ ({ dst := _, op := Op.load _ _, type := _, pos := _, after := _, guard := _ } : Oper) _ _ _); first | (exact givesAt_one rfl rfl (Own.get hq at0) (by rfl) (by first | exact ot_int)) | (exact givesAt_row rfl rfl (Own.get hq at0) (by first | exact rt_font)) | (exact givesAt_one rfl rfl (Own.get hq at2) (by rfl) (by first | exact ot_int)) | (exact givesAt_row rfl rfl (Own.get hq at2) (by first | exact rt_font)) | (exact givesAt_one rfl rfl (Own.get hq at4) (by rfl) (by first | exact ot_int)) | (exact givesAt_row rfl rfl (Own.get hq at4) (by first | exact rt_font))) | (go_simp; first | (go_at_call 41; exact (by first | exact Hu.out _ _ ((Own.get hq at2).cell 0) | exact Hd.out _ _ ((Own.get hq at2).cell 0))) | (with_reducible rfl)))
         simp only [Act.put, List.setIfInBounds_toArray]; (try simp only [List.set_cons_succ]); (try simp only [List.set_cons_zero]))
      | (refine g_at (by with_reducible rfl) (by rfl) (by rfl) (by simp only [List.getElem?_toArray, List.getElem?_cons_succ, List.getElem?_cons_zero]; rfl) ?_
         first | (with_reducible refine QG_tt ?_) | (with_reducible refine QG_ff ?_)
         apply Exists.intro
         refine ⟨?_, ?_⟩
         focus (intro wq hq0; (first | have hq : Own _ _ _ wq := hq0 | have hq : Own _ _ _ wq := hq0.1 | skip); first | ((with_reducible show givesAt _ ({ dst := _, op := Op.load _ _, type := _, pos := _, after := _, guard := _ } : Oper) _ _ _); first | (exact givesAt_one rfl rfl (Own.get hq at0) (by rfl) (by first | exact ot_int)) | (exact givesAt_row rfl rfl (Own.get hq at0) (by first | exact rt_font)) | (exact givesAt_one rfl rfl (Own.get hq at2) (by rfl) (by first | exact ot_int)) | (exact givesAt_row rfl rfl (Own.get hq at2) (by first | exact rt_font)) | (exact givesAt_one rfl rfl (Own.get hq at4) (by rfl) (by first | exact ot_int)) | (exact givesAt_row rfl rfl (Own.get hq at4) (by first | exact rt_font))) | (go_simp; first | (go_at_call 41; exact (by first | exact Hu.out _ _ ((Own.get hq at2).cell 0) | exact Hd.out _ _ ((Own.get hq at2).cell 0))) | (with_reducible rfl)))
         simp only [Act.put, List.setIfInBounds_toArray]; (try simp only [List.set_cons_succ]); (try simp only [List.set_cons_zero]))
      | (refine g_at (by with_reducible rfl) (by rfl) (by rfl) (by simp only [List.getElem?_toArray, List.getElem?_cons_succ, List.getElem?_cons_zero]; rfl) ?_
         first | (with_reducible refine QG_tf ?_) | (with_reducible refine QG_ft ?_) | (with_reducible refine QG_u ?_)
         simp only [Act.put, List.setIfInBounds_toArray]; (try simp only [List.set_cons_succ]); (try simp only [List.set_cons_zero])))
  refine g_nil ?_
  clear hS hcl
  intro hcl ww hS
  try simp only [wm]
  refine own_hard (D := []) (W := w) 14 hcl (by simp only [List.getElem?_toArray, List.getElem?_cons_succ, List.getElem?_cons_zero]; rfl) (by kernel_rfl) (by kernel_rfl) ?_
  refine own_store1 (v := .int .i64 (3 * r)) rfl _ _ _ rfl rfl rfl rfl hS at0 ot_int (by simp) ?_
  clear hS
  intro w10 hS
  (try simp only [List.set_cons_zero] at hS); (try simp only [List.set_cons_succ] at hS)
  refine wpList_nil ⟨rfl, _, hS, ?_⟩
  clear hS hcl
  intro hcl w11 hS
  (try simp only [Act.put]); (try simp only [List.setIfInBounds_toArray]); (try simp only [List.set_cons_succ]); (try simp only [List.set_cons_zero])
  refine own_batch hS [15] 3 rfl hcl (by kernel_rfl) ?_
  (try simp only); repeat (first | (simp only [List.filterMap_cons]) | (simp only [List.filterMap_nil]) | (simp only [List.getElem?_toArray]) | (simp only [List.getElem?_cons_succ]) | (simp only [List.getElem?_cons_zero]) | (simp only [List.reverse_cons]) | (simp only [List.reverse_nil]) | (simp only [List.nil_append]) | (simp only [List.cons_append]))
  repeat (first
      | (refine g_plain (by with_reducible rfl) ?_
         apply Exists.intro
         refine ⟨?_, ?_⟩
         focus (intro wq hq0; (first | have hq : Own _ _ _ wq := hq0 | have hq : Own _ _ _ wq := hq0.1 | skip); first | (go_simp; first | (with_reducible rfl)))
         simp only [Act.put, List.setIfInBounds_toArray]; (try simp only [List.set_cons_succ]); (try simp only [List.set_cons_zero]))
      | (refine g_at (by with_reducible rfl) (by rfl) (by rfl) (by simp only [List.getElem?_toArray, List.getElem?_cons_succ, List.getElem?_cons_zero]; rfl) ?_
         first | (with_reducible refine QG_tt ?_) | (with_reducible refine QG_ff ?_)
         apply Exists.intro
         refine ⟨?_, ?_⟩
         focus (intro wq hq0; (first | have hq : Own _ _ _ wq := hq0 | have hq : Own _ _ _ wq := hq0.1 | skip); first | (go_simp; first | (with_reducible rfl)))
         simp only [Act.put, List.setIfInBounds_toArray]; (try simp only [List.set_cons_succ]); (try simp only [List.set_cons_zero]))
      | (refine g_at (by with_reducible rfl) (by rfl) (by rfl) (by simp only [List.getElem?_toArray, List.getElem?_cons_succ, List.getElem?_cons_zero]; rfl) ?_
         first | (with_reducible refine QG_tf ?_) | (with_reducible refine QG_ft ?_) | (with_reducible refine QG_u ?_)
         simp only [Act.put, List.setIfInBounds_toArray]; (try simp only [List.set_cons_succ]); (try simp only [List.set_cons_zero])))
  refine g_nil ?_
  clear hS hcl
  intro hcl ww hS
  refine own_hard (D := []) (W := w) 16 hcl (by simp only [List.getElem?_toArray, List.getElem?_cons_succ, List.getElem?_cons_zero]; rfl) (by kernel_rfl) (by kernel_rfl) ?_
  refine own_store1 (v := .int .i64 (u)) rfl _ _ _ rfl rfl rfl rfl hS at0 ot_int (by simp) ?_
  clear hS
  intro w10 hS
  (try simp only [List.set_cons_zero] at hS); (try simp only [List.set_cons_succ] at hS)
  refine wpList_nil ⟨rfl, _, hS, ?_⟩
  clear hS hcl
  intro hcl w11 hS
  (try simp only [Act.put]); (try simp only [List.setIfInBounds_toArray]); (try simp only [List.set_cons_succ]); (try simp only [List.set_cons_zero])
  refine own_batch hS [17] 1 rfl hcl (by kernel_rfl) ?_
  (try simp only); repeat (first | (simp only [List.filterMap_cons]) | (simp only [List.filterMap_nil]) | (simp only [List.getElem?_toArray]) | (simp only [List.getElem?_cons_succ]) | (simp only [List.getElem?_cons_zero]) | (simp only [List.reverse_cons]) | (simp only [List.reverse_nil]) | (simp only [List.nil_append]) | (simp only [List.cons_append]))
  repeat (first
      | (refine g_plain (by with_reducible rfl) ?_
         apply Exists.intro
         refine ⟨?_, ?_⟩
         focus (intro wq hq0; (first | have hq : Own _ _ _ wq := hq0 | have hq : Own _ _ _ wq := hq0.1 | skip); first | (go_simp; first | (with_reducible rfl)))
         simp only [Act.put, List.setIfInBounds_toArray]; (try simp only [List.set_cons_succ]); (try simp only [List.set_cons_zero]))
      | (refine g_at (by with_reducible rfl) (by rfl) (by rfl) (by simp only [List.getElem?_toArray, List.getElem?_cons_succ, List.getElem?_cons_zero]; rfl) ?_
         first | (with_reducible refine QG_tt ?_) | (with_reducible refine QG_ff ?_)
         apply Exists.intro
         refine ⟨?_, ?_⟩
         focus (intro wq hq0; (first | have hq : Own _ _ _ wq := hq0 | have hq : Own _ _ _ wq := hq0.1 | skip); first | (go_simp; first | (with_reducible rfl)))
         simp only [Act.put, List.setIfInBounds_toArray]; (try simp only [List.set_cons_succ]); (try simp only [List.set_cons_zero]))
      | (refine g_at (by with_reducible rfl) (by rfl) (by rfl) (by simp only [List.getElem?_toArray, List.getElem?_cons_succ, List.getElem?_cons_zero]; rfl) ?_
         first | (with_reducible refine QG_tf ?_) | (with_reducible refine QG_ft ?_) | (with_reducible refine QG_u ?_)
         simp only [Act.put, List.setIfInBounds_toArray]; (try simp only [List.set_cons_succ]); (try simp only [List.set_cons_zero])))
  refine g_nil ?_
  clear hS hcl
  intro hcl ww hS
  refine own_hard (D := []) (W := w) 18 hcl (by simp only [List.getElem?_toArray, List.getElem?_cons_succ, List.getElem?_cons_zero]; rfl) (by kernel_rfl) (by kernel_rfl) ?_
  refine own_store1 (v := .int .i64 (d)) rfl _ _ _ rfl rfl rfl rfl hS at0 ot_int (by simp) ?_
  clear hS
  intro w10 hS
  (try simp only [List.set_cons_zero] at hS); (try simp only [List.set_cons_succ] at hS)
  refine wpList_nil ⟨rfl, _, hS, ?_⟩
  clear hS hcl
  intro hcl w11 hS
  (try simp only [Act.put]); (try simp only [List.setIfInBounds_toArray]); (try simp only [List.set_cons_succ]); (try simp only [List.set_cons_zero])
  refine own_done (by kernel_rfl) ?_
  (try simp only [Act.put]); (try simp only [List.setIfInBounds_toArray]); (try simp only [List.set_cons_succ]); (try simp only [List.set_cons_zero])
  go_wp2_with (first | (refine own_unguard (by rfl) ?_) | (refine own_load1 rfl _ _ rfl rfl hS (atl (by repeat constructor)) (by first | exact ot_int | exact ot_bool) (by first | rfl | assumption) ?_) | (refine own_load rfl _ _ rfl rfl hS (atl (by repeat constructor)) (by first | exact rt_font | exact rt_style | exact rt_nums) ?_) | (refine own_load_old rfl _ _ rfl rfl hS (by assumption) (by first | exact List.not_mem_nil | assumption) (by first | exact rt_font | exact rt_style | exact rt_nums) ?_) | (refine own_load_has rfl _ _ rfl rfl hS (by assumption) (by first | exact List.not_mem_nil | assumption) (by first | exact rt_font | exact rt_style | exact rt_nums) ?_) | (refine own_load1_old rfl _ _ rfl rfl hS (by assumption) (by first | exact List.not_mem_nil | assumption) (by first | exact ot_int | exact ot_bool) ?_) | (refine own_load1_has rfl _ _ rfl rfl hS (by assumption) (by first | exact List.not_mem_nil | assumption) (by first | exact ot_int | exact ot_bool) (by first | rfl | assumption) ?_) | (refine own_box rfl _ _ rfl rfl hS ?_; clear hS; (try clear ww); intro bb ww hS) | (refine own_alloc rfl _ rfl hS (by first | exact zt_style | exact zt_nums) ?_; clear hS; (try clear ww); intro bb ww hS) | (refine own_store rfl _ _ _ rfl rfl rfl hS (atl (by repeat constructor)) (by first | exact rt_font | exact rt_style | exact rt_nums) (by rfl) (by rfl) ?_; clear hS; (try clear ww); intro ww hS; (try simp only at hS); (try simp only [List.set_cons_succ] at hS); (try simp only [List.set_cons_zero] at hS)) | (refine own_store1 rfl _ _ _ rfl rfl rfl rfl hS (atl (by repeat constructor)) (by first | exact ot_int | exact ot_bool) (by simp) ?_; clear hS; (try clear ww); intro ww hS; (try simp only at hS); (try simp only [List.set_cons_succ] at hS); (try simp only [List.set_cons_zero] at hS); (try simp only [Act.eval] at hS); (try simp only [Array.getD_eq_getD_getElem?] at hS); (try simp only [List.getElem?_toArray] at hS); (try simp only [List.getElem?_cons_succ] at hS); (try simp only [List.getElem?_cons_zero] at hS); (try simp only [Option.getD_some] at hS)))
  have hc := (hS.get at1).cell
  refine bodyPost_ret (v := .agg #[.int .i64 r, .int .i64 (x - h), .int .i64 (3 * r), .int .i64 u, .int .i64 d]) (by simp [results, Try.results22, go_sem, hc]) rfl ⟨rfl, hS.below⟩

/-- The lengths of a fraction. -/
theorem measure_calls (F : Fnt) (l : Int) (c : Bool) (w : World) (hv : ValidF F) :
    Calls Try.prog 22 #[F.val, .agg #[.int .i64 l, .bool c], .int .i64 (sizeOf' F l)] w (Gives (.agg #[.int .i64 (par F l F.rule), .int .i64 (fracY F l), .int .i64 (fracGap l (par F l F.rule)), .int .i64 (fracUp F l), .int .i64 (fracDown F l)]) w) := by
  have h := prm_len hv
  have hr := par_in (l := l) hv h.1.1 h.1.2
  have hx := par_in (l := l) hv h.2.1.1 h.2.1.2
  have hh := hlf_in hr.1 (by omega)
  by_cases hl : l = 0
  · have := measure_0 F l (sizeOf' F l) c w hl (par F l F.rule) (par F l F.axis) (par F l F.num1) (par F l F.den1) (hlf (par F l F.rule)) _ _ rfl rfl rfl rfl rfl rfl rfl ⟨hr.1, by omega⟩ ⟨hx.1, by omega⟩ (by omega)
    simp only [fracGap, fracUp, fracDown, fracY, hl, if_true] at this ⊢
    exact this
  · have := measure_in F l (sizeOf' F l) c w hl (par F l F.rule) (par F l F.axis) (par F l F.num2) (par F l F.den2) (hlf (par F l F.rule)) rfl rfl rfl rfl rfl ⟨hr.1, by omega⟩ ⟨hx.1, by omega⟩ (by omega)
    simp only [fracGap, fracUp, fracDown, fracY, hl, if_false]
    exact this

end Go.Proofs.Ytfmoghkffffmmaa
