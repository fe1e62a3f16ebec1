/- The reference's limits: Make, 1 below, 0 above. -/
import Derived.Test.YtdbcdjiclkmknaaLr0
namespace Go.Proofs.Ytdbcdjiclkmknaa
open Go.RowKit

attribute [local irreducible] wpQuiet wpG wpP wpK wpList Code.wp Calls

set_option maxHeartbeats 16000000 in
set_option maxRecDepth 100000 in
theorem refLim_m10 (F : Fnt) (l IT h p0 X0 L E W Q10 bw bh bd : Int) (c : Bool) (n m : Nat) (bk bz bx by_ bo : Int) (bn : ByteArray) (bs : List Int) (bks : List (Bx n)) (c8 c10 : Value) (w : World) (sc uc : Nat) (sk so : Nat) (sk' sz sx' sy sf sw sh sd : Int) (sn : ByteArray) (ssr : List Int) (sks : List (Bx n)) (s8 s10 : Value) (Q17 p1 q1 X1 t17 dn DD : Int) (ux : Option Addr) (A0 A1 : Int) (L0 L1 : Int) (C0 C1 : Int) (hF : FntOk w F) (hq : F.gs.length ≤ 500 ∧ F.ss.length ≤ 50) (hr : Rep w (n + 1) (((⟨bk, bn, bz, bw, bh, bd, bx, by_, bo, bs⟩, bks) : Bx (n + 1))) [.int .i64 bk, .string bn, .int .i64 bz, .int .i64 bw, .int .i64 bh, .int .i64 bd, .int .i64 bx, .int .i64 by_, c8, .int .i64 bo, c10]) (hs : RepL w (n + 1) (some ⟨sk, so, none⟩) [(((⟨sk', sn, sz, sw, sh, sd, sx', sy, sf, ssr⟩, sks) : Bx (n + 1)))]) (hs1 : w.rangeAt sk so [.int .i64 sk', .string sn, .int .i64 sz, .int .i64 sw, .int .i64 sh, .int .i64 sd, .int .i64 sx', .int .i64 sy, s8, .int .i64 sf, s10]) (hs2 : Rep w (n + 1) (((⟨sk', sn, sz, sw, sh, sd, sx', sy, sf, ssr⟩, sks) : Bx (n + 1))) [.int .i64 sk', .string sn, .int .i64 sz, .int .i64 sw, .int .i64 sh, .int .i64 sd, .int .i64 sx', .int .i64 sy, s8, .int .i64 sf, s10]) (hu : RepL w (n + 1) ux ([] : List (Bx (n + 1)))) (hk : ChkOk F l (n + 1) [(((⟨bk, bn, bz, bw, bh, bd, bx, by_, bo, bs⟩, bks) : Bx (n + 1))), (((⟨sk', sn, sz, sw, sh, sd, sx', sy, sf, ssr⟩, sks) : Bx (n + 1)))]) (hc : ∀ k ∈ ([(((⟨bk, bn, bz, bw, bh, bd, bx, by_, bo, bs⟩, bks) : Bx (n + 1))), (((⟨sk', sn, sz, sw, sh, sd, sx', sy, sf, ssr⟩, sks) : Bx (n + 1)))] : List (Bx (n + 1))), bCount (n + 1) k ≤ 1000000) (eIT : IT = italB F (n + 1) (((⟨bk, bn, bz, bw, bh, bd, bx, by_, bo, bs⟩, bks) : Bx (n + 1)))) (eh : h = hlf IT) (iw : -1073741824 ≤ bw ∧ bw ≤ 1073741824) (ib : (-1073741824 ≤ bh ∧ bh ≤ 1073741824) ∧ (-1073741824 ≤ bd ∧ bd ≤ 1073741824)) (eA0 : A0 = max 0 bw) (eA1 : A1 = max A0 sw) (eW : W = A1) (e10 : Q10 = lmQ F l 10) (ep0 : p0 = hlf (W - bw)) (is_ : -1073741824 ≤ sw ∧ sw ≤ 1073741824) (it : (-1073741824 ≤ sh ∧ sh ≤ 1073741824) ∧ (-1073741824 ≤ sd ∧ sd ≤ 1073741824)) (e17 : Q17 = lmQ F l 17) (ep1 : p1 = hlf (W - sw)) (eq1 : q1 = p1 - h) (et : t17 = bd + Q17) (en : dn = t17 + sh) (eD : DD = max bd (dn + sd + Q10)) (eL0 : L0 = min 0 p0) (eL1 : L1 = min L0 q1) (eL : L = L1) (eX0 : X0 = p0 - L) (eX1 : X1 = q1 - L) (eC0 : C0 = max W (X0 + bw)) (eC1 : C1 = max C0 (X1 + sw)) (eE : E = C1) (hcR : bCount (n + 2) (listB (n + 1) E bh DD [atXY (n + 1) (((⟨bk, bn, bz, bw, bh, bd, bx, by_, bo, bs⟩, bks) : Bx (n + 1))) X0 0, atXY (n + 1) (((⟨sk', sn, sz, sw, sh, sd, sx', sy, sf, ssr⟩, sks) : Bx (n + 1))) X1 (-dn)]) ≤ 1000000) :
    Calls Try.prog 11 #[F.val, .agg #[.int .i64 l, .bool c], .agg #[.int .i64 bk, .string bn, .int .i64 bz, .int .i64 bw, .int .i64 bh, .int .i64 bd, .int .i64 bx, .int .i64 by_, c8, .int .i64 bo, c10], .slice (some ⟨sk, so, none⟩) 1 sc, .slice ux 0 uc] w (fun e w' => (validB (n + 2) (listB (n + 1) E bh DD [atXY (n + 1) (((⟨bk, bn, bz, bw, bh, bd, bx, by_, bo, bs⟩, bks) : Bx (n + 1))) X0 0, atXY (n + 1) (((⟨sk', sn, sz, sw, sh, sd, sx', sy, sf, ssr⟩, sks) : Bx (n + 1))) X1 (-dn)]) → GivesBE (n + 2) (listB (n + 1) E bh DD [atXY (n + 1) (((⟨bk, bn, bz, bw, bh, bd, bx, by_, bo, bs⟩, bks) : Bx (n + 1))) X0 0, atXY (n + 1) (((⟨sk', sn, sz, sw, sh, sd, sx', sy, sf, ssr⟩, sks) : Bx (n + 1))) X1 (-dn)]) 0 w e w') ∧ (¬ validB (n + 2) (listB (n + 1) E bh DD [atXY (n + 1) (((⟨bk, bn, bz, bw, bh, bd, bx, by_, bo, bs⟩, bks) : Bx (n + 1))) X0 0, atXY (n + 1) (((⟨sk', sn, sz, sw, sh, sd, sx', sy, sf, ssr⟩, sks) : Bx (n + 1))) X1 (-dn)]) → GivesBE (m + 1) (zeroB m) 6 w e w')) := by
  have hv := hk.1
  have hl := hk.2.1
  have hbV := hk.2.2 (((⟨bk, bn, bz, bw, bh, bd, bx, by_, bo, bs⟩, bks) : Bx (n + 1))) (by simp)
  have i10 := lmQ_in (l := l) (p := 10) hv (by omega)
  rw [← e10] at i10
  have ih : -536870912 ≤ h ∧ h ≤ 536870912 := by rw [eh]; exact hlf_bd _
  have ip0 : -536870912 ≤ p0 ∧ p0 ≤ 536870912 := by rw [ep0]; exact hlf_bd _
  have i17 := lmQ_in (l := l) (p := 17) hv (by omega)
  rw [← e17] at i17
  have ip1 : -536870912 ≤ p1 ∧ p1 ≤ 536870912 := by rw [ep1]; exact hlf_bd _
  have HCk := Lib.hid (fun w' y k2 (h : Below w.heap.size w w') (hA : RepL w' (n + 1) y [(((⟨bk, bn, bz, bw, bh, bd, bx, by_, bo, bs⟩, bks) : Bx (n + 1))), (((⟨sk', sn, sz, sw, sh, sd, sx', sy, sf, ssr⟩, sks) : Bx (n + 1)))]) => ref32_Check_calls F l c (n + 1) [(((⟨bk, bn, bz, bw, bh, bd, bx, by_, bo, bs⟩, bks) : Bx (n + 1))), (((⟨sk', sn, sz, sw, sh, sd, sx', sy, sf, ssr⟩, sks) : Bx (n + 1)))] y k2 w' (hF.below h) hq hA hc (by simp) 0 (.inl ⟨rfl, hk⟩))
  have HIt := Lib.hid (fun w' (hb : Below w.heap.size w w') => show Calls Try.prog 15 #[F.val, .agg #[.int .i64 bk, .string bn, .int .i64 bz, .int .i64 bw, .int .i64 bh, .int .i64 bd, .int .i64 bx, .int .i64 by_, c8, .int .i64 bo, c10]] w' (Gives (.int .i64 IT) w') by rw [eIT]; exact ref34_Italic_ok35 F (n + 1) _ _ w' (hF.below hb) (hr.step hb) hv hbV)
  have HHf := Lib.hid (fun w' => show Calls Try.prog 28 #[.int .i64 IT] w' (Gives (.int .i64 h) w') by rw [eh]; exact ref32_Half_calls _ _)
  have HH0 := Lib.hid (fun w' => show Calls Try.prog 28 #[.int .i64 (W - bw)] w' (Gives (.int .i64 p0) w') by rw [ep0]; exact ref32_Half_calls _ _)
  have HQ10 := Lib.hid (fun w' => show Calls Try.prog 14 #[F.val, .agg #[.int .i64 l, .bool c], .int .i64 10] w' (Gives (.int .i64 Q10) w') by rw [e10]; exact ref35_Quad_calls F l 10 c w' hl hv (by omega))
  have HH1 := Lib.hid (fun w' => show Calls Try.prog 28 #[.int .i64 (W - sw)] w' (Gives (.int .i64 p1) w') by rw [ep1]; exact ref32_Half_calls _ _)
  have HQ17 := Lib.hid (fun w' => show Calls Try.prog 14 #[F.val, .agg #[.int .i64 l, .bool c], .int .i64 17] w' (Gives (.int .i64 Q17) w') by rw [e17]; exact ref35_Quad_calls F l 17 c w' hl hv (by omega))
  have mA0 := fun (w : World) (ts : Array TypeId) (t : TypeId) => eA0 ▸ lm_max2 (P := Try.prog) 0 (bw) w ts t
  have mA1 := fun (w : World) (ts : Array TypeId) (t : TypeId) => eA1 ▸ lm_max2 (P := Try.prog) A0 (sw) w ts t
  have mC0 := fun (w : World) (ts : Array TypeId) (t : TypeId) => eC0 ▸ lm_max2 (P := Try.prog) W (X0 + bw) w ts t
  have mC1 := fun (w : World) (ts : Array TypeId) (t : TypeId) => eC1 ▸ lm_max2 (P := Try.prog) C0 (X1 + sw) w ts t
  have mL0 := fun (w : World) (ts : Array TypeId) (t : TypeId) => eL0 ▸ lm_min2 (P := Try.prog) 0 p0 w ts t
  have mL1 := fun (w : World) (ts : Array TypeId) (t : TypeId) => eL1 ▸ lm_min2 (P := Try.prog) L0 q1 w ts t
  have bA0 : 0 ≤ A0 ∧ A0 ≤ 1073741824 := by clear eA1 eL0 eL1 eC0 eC1 eE eD; omega
  have bA1 : 0 ≤ A1 ∧ A1 ≤ 1073741824 := by clear eA0 eL0 eL1 eC0 eC1 eE eD; omega
  have bL0 : -1073741824 ≤ L0 ∧ L0 ≤ 0 := by clear eA0 eA1 eL1 eC0 eC1 eE eD; omega
  have bL1 : -1073741824 ≤ L1 ∧ L1 ≤ 0 := by clear eA0 eA1 eL0 eC0 eC1 eE eD; omega
  have k0 : IntKind.i64.wrap (W - bw) = W - bw := by rw [IntWalk.i64_in (W - bw) (by clear eA0 eA1 eL0 eL1 eC0 eC1 eE eD; omega)]
  have k1 : IntKind.i64.wrap (p0 - L) = X0 := by rw [IntWalk.i64_in (p0 - L) (by clear eA0 eA1 eL0 eL1 eC0 eC1 eE eD; omega)]; clear eA0 eA1 eL0 eL1 eC0 eC1 eE eD; omega
  have k2 : IntKind.i64.wrap (X0 + bw) = X0 + bw := by rw [IntWalk.i64_in (X0 + bw) (by clear eA0 eA1 eL0 eL1 eC0 eC1 eE eD; omega)]
  have k3 : IntKind.i64.wrap (W - sw) = W - sw := by rw [IntWalk.i64_in (W - sw) (by clear eA0 eA1 eL0 eL1 eC0 eC1 eE eD; omega)]
  have k4 : IntKind.i64.wrap (p1 - h) = q1 := by rw [IntWalk.i64_in (p1 - h) (by clear eA0 eA1 eL0 eL1 eC0 eC1 eE eD; omega)]; clear eA0 eA1 eL0 eL1 eC0 eC1 eE eD; omega
  have k5 : IntKind.i64.wrap (q1 - L) = X1 := by rw [IntWalk.i64_in (q1 - L) (by clear eA0 eA1 eL0 eL1 eC0 eC1 eE eD; omega)]; clear eA0 eA1 eL0 eL1 eC0 eC1 eE eD; omega
  have k6 : IntKind.i64.wrap (X1 + sw) = X1 + sw := by rw [IntWalk.i64_in (X1 + sw) (by clear eA0 eA1 eL0 eL1 eC0 eC1 eE eD; omega)]
  have k7 : IntKind.i64.wrap (bd + Q17) = t17 := by rw [IntWalk.i64_in (bd + Q17) (by clear eA0 eA1 eL0 eL1 eC0 eC1 eE eD; omega)]; clear eA0 eA1 eL0 eL1 eC0 eC1 eE eD; omega
  have k8 : IntKind.i64.wrap (t17 + sh) = dn := by rw [IntWalk.i64_in (t17 + sh) (by clear eA0 eA1 eL0 eL1 eC0 eC1 eE eD; omega)]; clear eA0 eA1 eL0 eL1 eC0 eC1 eE eD; omega
  have k9 : IntKind.i64.wrap (-dn) = -dn := by rw [IntWalk.i64_in (-dn) (by clear eA0 eA1 eL0 eL1 eC0 eC1 eE eD; omega)]
  have ka : IntKind.i64.wrap (sd + dn) = dn + sd := by rw [IntWalk.i64_in (sd + dn) (by clear eA0 eA1 eL0 eL1 eC0 eC1 eE eD; omega)]; clear eA0 eA1 eL0 eL1 eC0 eC1 eE eD; omega
  have kb : IntKind.i64.wrap (dn + sd + Q10) = dn + sd + Q10 := by rw [IntWalk.i64_in (dn + sd + Q10) (by clear eA0 eA1 eL0 eL1 eC0 eC1 eE eD; omega)]
  have mD := fun (w : World) (ts : Array TypeId) (t : TypeId) => eD ▸ lm_max2 (P := Try.prog) bd (dn + sd + Q10) w ts t
  have jX0 : I64 X0 := by clear eA0 eA1 eL0 eL1 eC0 eC1 eE eD; unfold I64; omega
  have jp0 : I64 p0 := by clear eA0 eA1 eL0 eL1 eC0 eC1 eE eD; unfold I64; omega
  have jE : I64 E := by clear eA0 eA1 eL0 eL1 eD; unfold I64; omega
  have jH : I64 bh := by clear eA0 eA1 eL0 eL1 eC0 eC1 eE eD; unfold I64; omega
  have jD : I64 DD := by clear eA0 eA1 eL0 eL1 eC0 eC1 eE; unfold I64; omega
  have jX1 : I64 X1 := by clear eA0 eA1 eL0 eL1 eC0 eC1 eE eD; unfold I64; omega
  have jq1 : I64 q1 := by clear eA0 eA1 eL0 eL1 eC0 eC1 eE eD; unfold I64; omega
  have jY : I64 (-dn) := by clear eA0 eA1 eL0 eL1 eC0 eC1 eE eD; unfold I64; omega
  have lsk := range_lt hs1
  have halls := rep_all hs2
  have Hs1 := Lib.hid hs1
  have Hs2 := Lib.hid hs2
  have HrP := Lib.hid (repP_old hr)
  obtain ⟨ls, ells, hns, hos, hrs⟩ := repL_cells hs
  obtain ⟨lu, ellu, hnu, hou, hru⟩ := repL_cells hu
  have HNs := Lib.hid hns
  have HNu := Lib.hid hnu
  have HOs := Lib.hid hos
  have HOu := Lib.hid hou
  have HRs := Lib.hid hrs
  have HRu := Lib.hid hru
  have HLs := Lib.hid (show (ls.flatMap Subtype.val).length = 1 * 11 by rw [flat_len (f := Subtype.val) (size := 11) (fun a => a.2) ls, ells] <;> rfl)
  have HLu := Lib.hid (show (lu.flatMap Subtype.val).length = 0 * 11 by rw [flat_len (f := Subtype.val) (size := 11) (fun a => a.2) lu, ellu] <;> rfl)
  have HEs := Lib.hid ells
  have HEu := Lib.hid ellu
  have HR := Lib.hid hr
  have HcR := Lib.hid hcR
  subst eW
  subst eL
  subst eE
  clear hF hq hr hs hu hk hc hv hl hbV iw ib i10 ih ip0 hcR hns hnu hos hou hrs hru ells ellu bA0 bA1 bL0 bL1 eIT eh e10 ep0 eX0 eA0 eA1 eL0 eL1 eC0 eC1 is_ it e17 ep1 eq1 et en eD eX1 i17 ip1 hs1 hs2
  go_enter Try.func11, Try.ntmps11
  have hS := own_start w
  go_upto_region 2 with (first|(refine own_unguard (by rfl) ?_)|(refine own_buildSlice rfl _ _ 1 _ rfl [.int .i64 bk, .string bn, .int .i64 bz, .int .i64 bw, .int .i64 bh, .int .i64 bd, .int .i64 bx, .int .i64 by_, c8, .int .i64 bo, c10] hS Try.underlying30 (by kernel_rfl) ?_;clear hS;(try clear ww);intro bzz ww hS;have hS0 := hS.perm (lr_perm _ _);clear hS;have hS := hS0;clear hS0;have hB7 := hS.below)|(refine own_app (n := 1) (xs := [.int .i64 bk, .string bn, .int .i64 bz, .int .i64 bw, .int .i64 bh, .int .i64 bd, .int .i64 bx, .int .i64 by_, c8, .int .i64 bo, c10]) (X := [(bzz, [.int .i64 bk, .string bn, .int .i64 bz, .int .i64 bw, .int .i64 bh, .int .i64 bd, .int .i64 bx, .int .i64 by_, c8, .int .i64 bo, c10])]) (L := [_, _, _, _]) rfl _ _ _ rfl ⟨rfl, .inr ⟨bzz, 1, [], rfl, Nat.le_refl _, by simp [maxLen], rfl, rfl⟩⟩ (by decide) rfl rfl hS (repL_news HNs.out hB7) HLs.out HOs.out el_box (by decide) (by simp only [maxLen];omega) (by omega) ?_;clear hS hB7;(try clear ww);intro v1 XK1 ww hS hX1;have hB9 := hS.below)|(refine own_app (n := 1 + 1) (L := [_, _, _, _]) rfl _ _ _ rfl hX1 (by omega) rfl rfl hS (repL_news HNu.out hB9) HLu.out HOu.out el_box (by decide) (by simp only [maxLen];omega) (by omega) ?_;clear hS hX1 hB9;(try clear ww);intro v2 XK2 ww hS hX2;obtain ⟨y2, k2, rfl⟩ := hX2.slice)|(refine w_ld rfl _ rfl (by rfl) (by first|exact rd_1 (by repeat constructor) (by first|rfl|assumption)|exact rd_w (by repeat constructor) (by rfl)|((first|refine rd_o ‹_› (by rfl) ?_|refine rd_h ‹_› (by rfl) ?_|refine rd_1o ‹_› ?_|refine rd_1h ‹_› (by first|rfl|assumption) ?_);first|exact nmn|assumption|simp)) hS ?_)|((first|refine own_box rfl _ _ rfl (by rfl) hS ?_|refine w_al rfl rfl hS ?_);clear hS;(try clear ww);intro bb ww hS)|((first|refine w_st rfl _ _ rfl (by rfl) (by rfl) (by repeat constructor) (by rfl) (by rfl) (by first|rfl|assumption) hS ?_|refine w_s1 rfl _ _ rfl (by rfl) (by repeat constructor) (by first|exact .c|exact .t rfl) (by rfl) (by repeat constructor) hS ?_);clear hS;(try clear ww);intro ww hS))
  rename World => w2
  have hAll : RepLP (fun k => k < w.heap.size) w2 (n + 1) y2 [(((⟨bk, bn, bz, bw, bh, bd, bx, by_, bo, bs⟩, bks) : Bx (n + 1))), (((⟨sk', sn, sz, sw, sh, sd, sx', sy, sf, ssr⟩, sks) : Bx (n + 1)))] := all_row (base := (((⟨bk, bn, bz, bw, bh, bd, bx, by_, bo, bs⟩, bks) : Bx (n + 1)))) (subs := [(((⟨sk', sn, sz, sw, sh, sd, sx', sy, sf, ssr⟩, sks) : Bx (n + 1)))]) (sups := []) hS (fun x hx => List.mem_append_right _ hx) hX2 hS.below HR.out HEs.out HEu.out rfl HRs.out HRu.out
  have hrow : ∀ k o, y2 = some ⟨k, o, none⟩ → ∃ z, (k, z) ∈ XK2 := fun k o hy => sl_where hX2 (by omega) hy
  have hS9 := hS.forget (List.sublist_append_left [_, _, _, _] XK2)
  have hapart := hS.apart
  have HC0 := Lib.hid hS9
  obtain ⟨D0, hD0, hs0, hS1⟩ := safe_start (R := fun k => k < w.heap.size) hS9 (fun _ h => h)
  have HRw := Lib.hid (show ∀ k o, y2 = some ⟨k, o, none⟩ → k ∉ D0 from fun k o hy hm => by
    obtain ⟨z, hz⟩ := hrow k o hy
    rw [hD0.out] at hm
    rw [List.map_append, List.nodup_append] at hapart
    exact hapart.2.2 _ hm _ (List.mem_map_of_mem (f := (·.1)) hz) rfl)
  have HS0 := Lib.hid hs0
  have HAl := Lib.hid hAll
  obtain ⟨yk, yo, css0, rfl, hy0, hz0⟩ := hAll 0 _ rfl
  have nyk := HRw.out yk yo rfl
  obtain ⟨_, _, rfl⟩ := kidP_out hz0
  have y03 := hy0 3 _ rfl
  simp only [Nat.zero_mul, Nat.add_zero] at y03
  obtain ⟨yk1, yo1, css1, ey1, hy1, hz1⟩ := hAll 1 _ rfl
  obtain ⟨rfl, rfl⟩ : yk = yk1 ∧ yo = yo1 := by simpa using ey1
  obtain ⟨_, _, rfl⟩ := kidP_out hz1
  have y13 := hy1 3 _ rfl
  rw [Nat.one_mul] at y13
  have gs0 := rangeAt_below Hs1.out hS.below
  have ns0 := hs0.old _ lsk
  clear hS hs0 hAll hrow hS9 hapart hX2 hy0 hz0 hy1 hz1
  have hS := hS1
  clear hS1
  go_wp2_with (first|(refine own_unguard (by rfl) ?_)|(go_at_call 27;refine own_calls hS (HCk.out _ _ _ (chainH HC0.out hD0 hS).below (repLP_L (HAl.out.turn hS (fun k hk => HS0.out.old k hk) HRw.out))) ?_;clear hS;(try clear ww);intro ww hS)|(go_at_call 15;refine own_calls hS (HIt.out _ (chainH HC0.out hD0 hS).below) ?_;clear hS;(try clear ww);intro ww hS)|(go_at_call 28;refine own_calls hS (HHf.out _) ?_;clear hS;(try clear ww);intro ww hS)|(refine w_ld rfl _ rfl (by rfl) (by first|exact rd_1 (by repeat constructor) (by first|rfl|assumption)|exact rd_w (by repeat constructor) (by rfl)|((first|refine rd_o ‹_› (by rfl) ?_|refine rd_h ‹_› (by rfl) ?_|refine rd_1o ‹_› ?_|refine rd_1h ‹_› (by first|rfl|assumption) ?_);first|exact nmn|assumption|simp)) hS ?_)|((first|refine own_box rfl _ _ rfl (by rfl) hS ?_|refine w_al rfl rfl hS ?_);clear hS;(try clear ww);intro bb ww hS)|((first|refine w_st rfl _ _ rfl (by rfl) (by rfl) (by repeat constructor) (by rfl) (by rfl) (by first|rfl|assumption) hS ?_|refine w_s1 rfl _ _ rfl (by rfl) (by repeat constructor) (by first|exact .c|exact .t rfl) (by rfl) (by repeat constructor) hS ?_);clear hS;(try clear ww);intro ww hS))
  refine wp_loop_rounds 4 ?_
  iterate 2
    rw [rounds_succ]
    go_wp2_with (first|(refine own_unguard (by rfl) ?_)|(refine w_ld rfl _ rfl (by rfl) (by first|exact rd_1 (by repeat constructor) (by first|rfl|assumption)|exact rd_w (by repeat constructor) (by rfl)|((first|refine rd_o ‹_› (by rfl) ?_|refine rd_h ‹_› (by rfl) ?_|refine rd_1o ‹_› ?_|refine rd_1h ‹_› (by first|rfl|assumption) ?_);first|exact nmn|assumption|simp)) hS ?_)|((first|refine own_box rfl _ _ rfl (by rfl) hS ?_|refine w_al rfl rfl hS ?_);clear hS;(try clear ww);intro bb ww hS)|((first|refine w_st rfl _ _ rfl (by rfl) (by rfl) (by repeat constructor) (by rfl) (by rfl) (by first|rfl|assumption) hS ?_|refine w_s1 rfl _ _ rfl (by rfl) (by repeat constructor) (by first|exact .c|exact .t rfl) (by rfl) (by repeat constructor) hS ?_);clear hS;(try clear ww);intro ww hS))
  rw [rounds_succ]
  go_upto_region 10 with (first|(refine own_unguard (by rfl) ?_)|(refine w_ld rfl _ rfl (by rfl) (by first|exact rd_1 (by repeat constructor) (by first|rfl|assumption)|exact rd_w (by repeat constructor) (by rfl)|((first|refine rd_o ‹_› (by rfl) ?_|refine rd_h ‹_› (by rfl) ?_|refine rd_1o ‹_› ?_|refine rd_1h ‹_› (by first|rfl|assumption) ?_);first|exact nmn|assumption|simp)) hS ?_)|((first|refine own_box rfl _ _ rfl (by rfl) hS ?_|refine w_al rfl rfl hS ?_);clear hS;(try clear ww);intro bb ww hS)|((first|refine w_st rfl _ _ rfl (by rfl) (by rfl) (by repeat constructor) (by rfl) (by rfl) (by first|rfl|assumption) hS ?_|refine w_s1 rfl _ _ rfl (by rfl) (by repeat constructor) (by first|exact .c|exact .t rfl) (by rfl) (by repeat constructor) hS ?_);clear hS;(try clear ww);intro ww hS))
  (try simp only [Act.put]);(try simp only [List.setIfInBounds_toArray]);(try simp only [List.set_cons_succ]);(try simp only [List.set_cons_zero])
  refine own_any hS [] 9 (by kernel_rfl) (by kernel_rfl) ?_
  clear hS
  intro hcl ww hS
  refine own_batch hS [0, 1, 2, 3, 4, 5] 3 rfl hcl (by kernel_rfl) ?_
  (try simp only);repeat (first|(simp only [List.filterMap_cons])|(simp only [List.filterMap_nil])|(simp only [List.getElem?_toArray])|(simp only [List.getElem?_cons_succ])|(simp only [List.getElem?_cons_zero])|(simp only [List.reverse_cons])|(simp only [List.reverse_nil])|(simp only [List.nil_append])|(simp only [List.cons_append]))
  repeat (first
      | (first|(refine g_plain rfl ?_)|(refine g_yes rfl rfl rfl (by simp only [List.getElem?_toArray, List.getElem?_cons_succ, List.getElem?_cons_zero];rfl) (by with_reducible constructor) ?_)
         apply Exists.intro; refine ⟨?_, ?_⟩
         focus (intro wq hq0;(first|have hq : Own _ _ _ wq := hq0|have hq : Own _ _ _ wq := hq0.1|skip);first|((with_reducible show givesAt _ ({ dst := _, op := Op.load _ _, type := _, pos := _, after := _, guard := _ } : Oper) _ _ _);first|(exact givesAt_rd rfl (by rfl) (by first|exact rd_1 (by repeat constructor) (by first|rfl|assumption)|exact rd_w (by repeat constructor) (by rfl)|((first|refine rd_o ‹_› (by rfl) ?_|refine rd_h ‹_› (by rfl) ?_|refine rd_1o ‹_› ?_|refine rd_1h ‹_› (by first|rfl|assumption) ?_);first|exact nmn|assumption|simp)) hq))|(go_simp;first|(go_at_call 28;exact HH0.out _)|(with_reducible rfl)))
         simp only [Act.put, List.setIfInBounds_toArray];(try simp only [List.set_cons_succ]);(try simp only [List.set_cons_zero]))
      | (refine g_no rfl rfl rfl (by simp only [List.getElem?_toArray, List.getElem?_cons_succ, List.getElem?_cons_zero];rfl) (by with_reducible constructor) ?_;simp only [Act.put, List.setIfInBounds_toArray];(try simp only [List.set_cons_succ]);(try simp only [List.set_cons_zero])))
  refine g_nil ?_
  clear hS hcl
  intro hcl ww hS
  (try simp only [Act.put]);(try simp only [List.setIfInBounds_toArray]);(try simp only [List.set_cons_succ]);(try simp only [List.set_cons_zero])
  refine own_softB hS 6 hcl (by simp only [List.getElem?_toArray, List.getElem?_cons_succ, List.getElem?_cons_zero]; rfl) (by kernel_rfl) ?_
  have hO := hS
  clear hS
  intro hS
  go_wp2_with (first|(go_at_call 16;refine Calls.mono (ref28_At_I (fun k => k < w.heap.size) n (((⟨bk, bn, bz, bw, bh, bd, bx, by_, bo, bs⟩, bks) : Bx (n + 1))) _ (p0) (0) _ (repP_step HrP.out (chainH HC0.out hD0 hO).below) jp0 i64_0) ?_;rintro e w4 ⟨cs4, rfl, hr4, hb4⟩))
  refine ⟨[], hS.step hb4, ?_⟩
  clear hS
  intro hcl w10 hS hb5
  obtain ⟨P1, D1, hD1, hPP1, hs2, q2_, hS2, hC2⟩ := own_give HS0.out hO hr4 hb4 hb5
  have HC1 := Lib.hid (chainH HC0.out hD0 hC2)
  have HS1 := Lib.hid hs2
  have hall1 := rep_all q2_
  obtain ⟨e8, e10, rfl⟩ := kidP_out q2_
  have Q1 := Lib.hid q2_
  clear hS hs2 hr4 hb4 hb5 hC2 q2_ hO
  have hS := hS2
  clear hS2
  (try simp only);(try simp only [List.setIfInBounds_toArray]);(try simp only [List.set_cons_succ]);(try simp only [List.set_cons_zero])
  refine own_soft hS 7 hcl (by simp only [List.getElem?_toArray, List.getElem?_cons_succ, List.getElem?_cons_zero]; rfl) (by kernel_rfl) ?_
  have hO := hS
  clear hS
  intro hS
  refine own_buildSlice rfl _ _ 1 _ rfl [.int .i64 bk, .string bn, .int .i64 bz, .int .i64 bw, .int .i64 bh, .int .i64 bd, .int .i64 p0, .int .i64 0, e8, .int .i64 bo, e10] hS Try.underlying30 (by kernel_rfl) ?_
  clear hS
  intro bsl w6 hS
  refine wpList_nil ⟨rfl, _, hS, ?_⟩
  clear hS hO hcl
  intro hcl w7 hS
  simp only [List.cons_append, List.nil_append] at hS
  (try simp only [Act.put]);(try simp only [List.setIfInBounds_toArray]);(try simp only [List.set_cons_succ]);(try simp only [List.set_cons_zero])
  refine own_batch hS [8] 0 rfl hcl (by kernel_rfl) ?_
  (try simp only);repeat (first|(simp only [List.filterMap_cons])|(simp only [List.filterMap_nil])|(simp only [List.getElem?_toArray])|(simp only [List.getElem?_cons_succ])|(simp only [List.getElem?_cons_zero])|(simp only [List.reverse_cons])|(simp only [List.reverse_nil])|(simp only [List.nil_append])|(simp only [List.cons_append]))
  repeat (first
      | (first|(refine g_plain rfl ?_)|(refine g_yes rfl rfl rfl (by simp only [List.getElem?_toArray, List.getElem?_cons_succ, List.getElem?_cons_zero];rfl) (by with_reducible constructor) ?_)
         apply Exists.intro; refine ⟨?_, ?_⟩
         focus (intro wq hq0;(first|have hq : Own _ _ _ wq := hq0|have hq : Own _ _ _ wq := hq0.1|skip);first|((with_reducible show givesAt _ ({ dst := _, op := Op.load _ _, type := _, pos := _, after := _, guard := _ } : Oper) _ _ _);first|(exact givesAt_rd rfl (by rfl) (by first|exact rd_1 (by repeat constructor) (by first|rfl|assumption)|exact rd_w (by repeat constructor) (by rfl)|((first|refine rd_o ‹_› (by rfl) ?_|refine rd_h ‹_› (by rfl) ?_|refine rd_1o ‹_› ?_|refine rd_1h ‹_› (by first|rfl|assumption) ?_);first|exact nmn|assumption|simp)) hq))|(go_simp;first|(with_reducible rfl)))
         simp only [Act.put, List.setIfInBounds_toArray];(try simp only [List.set_cons_succ]);(try simp only [List.set_cons_zero]))
      | (refine g_no rfl rfl rfl (by simp only [List.getElem?_toArray, List.getElem?_cons_succ, List.getElem?_cons_zero];rfl) (by with_reducible constructor) ?_;simp only [Act.put, List.setIfInBounds_toArray];(try simp only [List.set_cons_succ]);(try simp only [List.set_cons_zero])))
  refine g_nil ?_
  clear hS hcl
  intro hcl ww hS
  refine own_done (by kernel_rfl) ?_
  (try simp only [Act.put]);(try simp only [List.setIfInBounds_toArray]);(try simp only [List.set_cons_succ]);(try simp only [List.set_cons_zero])
  go_upto_region 11 with (first|(refine own_unguard (by rfl) ?_)|(refine w_ld rfl _ rfl (by rfl) (by first|exact rd_1 (by repeat constructor) (by first|rfl|assumption)|exact rd_w (by repeat constructor) (by rfl)|((first|refine rd_o ‹_› (by rfl) ?_|refine rd_h ‹_› (by rfl) ?_|refine rd_1o ‹_› ?_|refine rd_1h ‹_› (by first|rfl|assumption) ?_);first|exact nmn|assumption|simp)) hS ?_)|((first|refine own_box rfl _ _ rfl (by rfl) hS ?_|refine w_al rfl rfl hS ?_);clear hS;(try clear ww);intro bb ww hS)|((first|refine w_st rfl _ _ rfl (by rfl) (by rfl) (by repeat constructor) (by rfl) (by rfl) (by first|rfl|assumption) hS ?_|refine w_s1 rfl _ _ rfl (by rfl) (by repeat constructor) (by first|exact .c|exact .t rfl) (by rfl) (by repeat constructor) hS ?_);clear hS;(try clear ww);intro ww hS))
  (try simp only [Act.put]);(try simp only [List.setIfInBounds_toArray]);(try simp only [List.set_cons_succ]);(try simp only [List.set_cons_zero])
  refine own_region hS (by kernel_rfl) (by kernel_rfl) ?_
  (try simp only [List.append])
  (try simp only);(try simp only [List.drop_succ_cons]);(try simp only [List.drop_zero]);(try simp only [List.take_succ_cons]);(try simp only [List.take_zero])
  repeat (first
      | (first|(refine quiet_plain rfl ?_)|(refine quiet_yes rfl rfl rfl (by simp only [List.getElem?_toArray, List.getElem?_cons_succ, List.getElem?_cons_zero];rfl) (by with_reducible constructor) ?_)
         apply Exists.intro; refine ⟨?_, ?_⟩
         focus (intro wq hq0;have hq : Own _ _ _ wq := hq0;first|(exact quietAt_rd rfl (by rfl) (by first|exact rd_1 (by repeat constructor) (by first|rfl|assumption)|exact rd_w (by repeat constructor) (by rfl)|((first|refine rd_o ‹_› (by rfl) ?_|refine rd_h ‹_› (by rfl) ?_|refine rd_1o ‹_› ?_|refine rd_1h ‹_› (by first|rfl|assumption) ?_);first|exact nmn|assumption|simp)) hq)|(go_simp;first|(with_reducible rfl)))
         simp only [Act.put, List.setIfInBounds_toArray, List.set_cons_zero, List.set_cons_succ])
      | (refine quiet_no rfl rfl rfl (by simp only [List.getElem?_toArray, List.getElem?_cons_succ, List.getElem?_cons_zero];rfl) (by with_reducible constructor) ?_;simp only [Act.put, List.setIfInBounds_toArray, List.set_cons_zero, List.set_cons_succ]))
  refine wpQuiet_nil ?_
  clear hS
  intro ww hS
  have g2x := rangeAt_below Hs1.out HC1.out.below
  have n2x := HS1.out.old _ lsk
  go_upto_region 14 with (first|(refine own_unguard (by rfl) ?_)|(refine w_ld rfl _ rfl (by rfl) (by first|exact rd_1 (by repeat constructor) (by first|rfl|assumption)|exact rd_w (by repeat constructor) (by rfl)|((first|refine rd_o ‹_› (by rfl) ?_|refine rd_h ‹_› (by rfl) ?_|refine rd_1o ‹_› ?_|refine rd_1h ‹_› (by first|rfl|assumption) ?_);first|exact nmn|assumption|simp)) hS ?_)|((first|refine own_box rfl _ _ rfl (by rfl) hS ?_|refine w_al rfl rfl hS ?_);clear hS;(try clear ww);intro bb ww hS)|((first|refine w_st rfl _ _ rfl (by rfl) (by rfl) (by repeat constructor) (by rfl) (by rfl) (by first|rfl|assumption) hS ?_|refine w_s1 rfl _ _ rfl (by rfl) (by repeat constructor) (by first|exact .c|exact .t rfl) (by rfl) (by repeat constructor) hS ?_);clear hS;(try clear ww);intro ww hS))
  (try simp only [Act.put]);(try simp only [List.setIfInBounds_toArray]);(try simp only [List.set_cons_succ]);(try simp only [List.set_cons_zero])
  refine own_region hS (by kernel_rfl) (by kernel_rfl) ?_
  (try simp only [List.append])
  (try simp only);(try simp only [List.drop_succ_cons]);(try simp only [List.drop_zero]);(try simp only [List.take_succ_cons]);(try simp only [List.take_zero])
  repeat (first
      | (first|(refine quiet_plain rfl ?_)|(refine quiet_yes rfl rfl rfl (by simp only [List.getElem?_toArray, List.getElem?_cons_succ, List.getElem?_cons_zero];rfl) (by with_reducible constructor) ?_)
         apply Exists.intro; refine ⟨?_, ?_⟩
         focus (intro wq hq0;have hq : Own _ _ _ wq := hq0;first|(exact quietAt_rd rfl (by rfl) (by first|exact rd_1 (by repeat constructor) (by first|rfl|assumption)|exact rd_w (by repeat constructor) (by rfl)|((first|refine rd_o ‹_› (by rfl) ?_|refine rd_h ‹_› (by rfl) ?_|refine rd_1o ‹_› ?_|refine rd_1h ‹_› (by first|rfl|assumption) ?_);first|exact nmn|assumption|simp)) hq)|(go_simp;first|(go_at_call 14;exact quietG hq (HQ17.out _))|(with_reducible rfl)))
         simp only [Act.put, List.setIfInBounds_toArray, List.set_cons_zero, List.set_cons_succ])
      | (refine quiet_no rfl rfl rfl (by simp only [List.getElem?_toArray, List.getElem?_cons_succ, List.getElem?_cons_zero];rfl) (by with_reducible constructor) ?_;simp only [Act.put, List.setIfInBounds_toArray, List.set_cons_zero, List.set_cons_succ]))
  refine wpQuiet_nil ?_
  clear hS
  intro ww hS
  go_upto_region 15 with (first|(refine own_unguard (by rfl) ?_)|(refine w_ld rfl _ rfl (by rfl) (by first|exact rd_1 (by repeat constructor) (by first|rfl|assumption)|exact rd_w (by repeat constructor) (by rfl)|((first|refine rd_o ‹_› (by rfl) ?_|refine rd_h ‹_› (by rfl) ?_|refine rd_1o ‹_› ?_|refine rd_1h ‹_› (by first|rfl|assumption) ?_);first|exact nmn|assumption|simp)) hS ?_)|((first|refine own_box rfl _ _ rfl (by rfl) hS ?_|refine w_al rfl rfl hS ?_);clear hS;(try clear ww);intro bb ww hS)|((first|refine w_st rfl _ _ rfl (by rfl) (by rfl) (by repeat constructor) (by rfl) (by rfl) (by first|rfl|assumption) hS ?_|refine w_s1 rfl _ _ rfl (by rfl) (by repeat constructor) (by first|exact .c|exact .t rfl) (by rfl) (by repeat constructor) hS ?_);clear hS;(try clear ww);intro ww hS))
  (try simp only [Act.put]);(try simp only [List.setIfInBounds_toArray]);(try simp only [List.set_cons_succ]);(try simp only [List.set_cons_zero])
  refine own_any hS [12] 14 (by kernel_rfl) (by kernel_rfl) ?_
  clear hS
  intro hcl ww hS
  refine own_batch hS [0, 1, 2, 3, 4, 5, 6, 7, 8, 9] 4 rfl hcl (by kernel_rfl) ?_
  (try simp only);repeat (first|(simp only [List.filterMap_cons])|(simp only [List.filterMap_nil])|(simp only [List.getElem?_toArray])|(simp only [List.getElem?_cons_succ])|(simp only [List.getElem?_cons_zero])|(simp only [List.reverse_cons])|(simp only [List.reverse_nil])|(simp only [List.nil_append])|(simp only [List.cons_append]))
  repeat (first
      | (first|(refine g_plain rfl ?_)|(refine g_yes rfl rfl rfl (by simp only [List.getElem?_toArray, List.getElem?_cons_succ, List.getElem?_cons_zero];rfl) (by with_reducible constructor) ?_)
         apply Exists.intro; refine ⟨?_, ?_⟩
         focus (intro wq hq0;(first|have hq : Own _ _ _ wq := hq0|have hq : Own _ _ _ wq := hq0.1|skip);first|((with_reducible show givesAt _ ({ dst := _, op := Op.load _ _, type := _, pos := _, after := _, guard := _ } : Oper) _ _ _);first|(exact givesAt_rd rfl (by rfl) (by first|exact rd_1 (by repeat constructor) (by first|rfl|assumption)|exact rd_w (by repeat constructor) (by rfl)|((first|refine rd_o ‹_› (by rfl) ?_|refine rd_h ‹_› (by rfl) ?_|refine rd_1o ‹_› ?_|refine rd_1h ‹_› (by first|rfl|assumption) ?_);first|exact nmn|assumption|simp)) hq))|(go_simp;first|(go_at_call 28;exact HH1.out _)|(with_reducible rfl)))
         simp only [Act.put, List.setIfInBounds_toArray];(try simp only [List.set_cons_succ]);(try simp only [List.set_cons_zero]))
      | (refine g_no rfl rfl rfl (by simp only [List.getElem?_toArray, List.getElem?_cons_succ, List.getElem?_cons_zero];rfl) (by with_reducible constructor) ?_;simp only [Act.put, List.setIfInBounds_toArray];(try simp only [List.set_cons_succ]);(try simp only [List.set_cons_zero])))
  refine g_nil ?_
  clear hS hcl
  intro hcl ww hS
  (try simp only [Act.put]);(try simp only [List.setIfInBounds_toArray]);(try simp only [List.set_cons_succ]);(try simp only [List.set_cons_zero])
  refine own_softB hS 10 hcl (by simp only [List.getElem?_toArray, List.getElem?_cons_succ, List.getElem?_cons_zero]; rfl) (by kernel_rfl) ?_
  have hO := hS
  clear hS
  intro hS
  go_wp2_with (first|(go_at_call 16;refine Calls.mono (ref28_At_I P1 n (((⟨sk', sn, sz, sw, sh, sd, sx', sy, sf, ssr⟩, sks) : Bx (n + 1))) _ (q1) (-dn) _ (repP_mono (repP_step (repP_old Hs2.out) (chainH HC1.out hD1 hO).below) hPP1) jq1 jY) ?_;rintro e w4 ⟨cs4, rfl, hr4, hb4⟩))
  refine ⟨[], hS.step hb4, ?_⟩
  clear hS
  intro hcl w20 hS hb5
  obtain ⟨P2, D2, hD2, hPP2, hs2, q2_, hS2, hC2⟩ := own_give HS1.out hO hr4 hb4 hb5
  have HC2 := Lib.hid (chainH HC1.out hD1 hC2)
  have HS2 := Lib.hid hs2
  have Q1n := Lib.hid (repP_mono (HS1.out.turn Q1.out hC2) hPP2)
  clear Q1
  have Q1 := Q1n
  clear Q1n
  have hall2 := rep_all q2_
  obtain ⟨f8, f10, rfl⟩ := kidP_out q2_
  have Q2 := Lib.hid q2_
  clear hS hs2 hr4 hb4 hb5 hC2 q2_ hO
  have hS := hS2
  clear hS2
  (try simp only);(try simp only [List.setIfInBounds_toArray]);(try simp only [List.set_cons_succ]);(try simp only [List.set_cons_zero])
  refine own_soft hS 11 hcl (by simp only [List.getElem?_toArray, List.getElem?_cons_succ, List.getElem?_cons_zero]; rfl) (by kernel_rfl) ?_
  have hO := hS
  clear hS
  intro hS
  refine own_buildSlice rfl _ _ 1 _ rfl [.int .i64 sk', .string sn, .int .i64 sz, .int .i64 sw, .int .i64 sh, .int .i64 sd, .int .i64 q1, .int .i64 (-dn), f8, .int .i64 sf, f10] hS Try.underlying30 (by kernel_rfl) ?_
  clear hS
  intro bnn w6 hS
  refine wpList_nil ⟨rfl, _, hS, ?_⟩
  clear hS hO hcl
  intro hcl w7 hS
  simp only [List.cons_append, List.nil_append] at hS
  (try simp only [Act.put]);(try simp only [List.setIfInBounds_toArray]);(try simp only [List.set_cons_succ]);(try simp only [List.set_cons_zero])
  refine own_hard (D := D2) (W := w20) 12 hcl (by simp only [List.getElem?_toArray, List.getElem?_cons_succ, List.getElem?_cons_zero]; rfl) (by kernel_rfl) (by kernel_rfl) ?_
  refine own_append_new (n := 1) (xs := [.int .i64 bk, .string bn, .int .i64 bz, .int .i64 bw, .int .i64 bh, .int .i64 bd, .int .i64 p0, .int .i64 0, e8, .int .i64 bo, e10]) (X := [(bsl, [.int .i64 bk, .string bn, .int .i64 bz, .int .i64 bw, .int .i64 bh, .int .i64 bd, .int .i64 p0, .int .i64 0, e8, .int .i64 bo, e10])]) (L := [_, _, _, _, _]) rfl _ _ _ rfl ⟨rfl, .inr ⟨bsl, 1, [], rfl, Nat.le_refl _, by simp [maxLen], rfl, rfl⟩⟩ rfl rfl (hS.perm (lm_perm _ _ _ _)) rfl hall2 el_box (by decide) (by simp only [maxLen]; omega) (by omega) ?_
  clear hS
  intro v1 XL1 w8 hS hX1
  obtain ⟨y1, k1, rfl⟩ := hX1.slice
  refine wpList_nil ⟨rfl, _, hS, ?_⟩
  clear hS hcl
  intro hcl w9 hS
  simp only [List.cons_append, List.nil_append] at hS
  (try simp only [Act.put]);(try simp only [List.setIfInBounds_toArray]);(try simp only [List.set_cons_succ]);(try simp only [List.set_cons_zero])
  refine own_batch hS [13] 0 rfl hcl (by kernel_rfl) ?_
  (try simp only);repeat (first|(simp only [List.filterMap_cons])|(simp only [List.filterMap_nil])|(simp only [List.getElem?_toArray])|(simp only [List.getElem?_cons_succ])|(simp only [List.getElem?_cons_zero])|(simp only [List.reverse_cons])|(simp only [List.reverse_nil])|(simp only [List.nil_append])|(simp only [List.cons_append]))
  repeat (first
      | (first|(refine g_plain rfl ?_)|(refine g_yes rfl rfl rfl (by simp only [List.getElem?_toArray, List.getElem?_cons_succ, List.getElem?_cons_zero];rfl) (by with_reducible constructor) ?_)
         apply Exists.intro; refine ⟨?_, ?_⟩
         focus (intro wq hq0;(first|have hq : Own _ _ _ wq := hq0|have hq : Own _ _ _ wq := hq0.1|skip);first|((with_reducible show givesAt _ ({ dst := _, op := Op.load _ _, type := _, pos := _, after := _, guard := _ } : Oper) _ _ _);first|(exact givesAt_rd rfl (by rfl) (by first|exact rd_1 (by repeat constructor) (by first|rfl|assumption)|exact rd_w (by repeat constructor) (by rfl)|((first|refine rd_o ‹_› (by rfl) ?_|refine rd_h ‹_› (by rfl) ?_|refine rd_1o ‹_› ?_|refine rd_1h ‹_› (by first|rfl|assumption) ?_);first|exact nmn|assumption|simp)) hq))|(go_simp;first|(with_reducible rfl)))
         simp only [Act.put, List.setIfInBounds_toArray];(try simp only [List.set_cons_succ]);(try simp only [List.set_cons_zero]))
      | (refine g_no rfl rfl rfl (by simp only [List.getElem?_toArray, List.getElem?_cons_succ, List.getElem?_cons_zero];rfl) (by with_reducible constructor) ?_;simp only [Act.put, List.setIfInBounds_toArray];(try simp only [List.set_cons_succ]);(try simp only [List.set_cons_zero])))
  refine g_nil ?_
  clear hS hcl
  intro hcl ww hS
  refine own_done (by kernel_rfl) ?_
  (try simp only [Act.put]);(try simp only [List.setIfInBounds_toArray]);(try simp only [List.set_cons_succ]);(try simp only [List.set_cons_zero])
  go_upto_region 16 with (first|(refine own_unguard (by rfl) ?_)|(refine w_ld rfl _ rfl (by rfl) (by first|exact rd_1 (by repeat constructor) (by first|rfl|assumption)|exact rd_w (by repeat constructor) (by rfl)|((first|refine rd_o ‹_› (by rfl) ?_|refine rd_h ‹_› (by rfl) ?_|refine rd_1o ‹_› ?_|refine rd_1h ‹_› (by first|rfl|assumption) ?_);first|exact nmn|assumption|simp)) hS ?_)|((first|refine own_box rfl _ _ rfl (by rfl) hS ?_|refine w_al rfl rfl hS ?_);clear hS;(try clear ww);intro bb ww hS)|((first|refine w_st rfl _ _ rfl (by rfl) (by rfl) (by repeat constructor) (by rfl) (by rfl) (by first|rfl|assumption) hS ?_|refine w_s1 rfl _ _ rfl (by rfl) (by repeat constructor) (by first|exact .c|exact .t rfl) (by rfl) (by repeat constructor) hS ?_);clear hS;(try clear ww);intro ww hS))
  (try simp only [Act.put]);(try simp only [List.setIfInBounds_toArray]);(try simp only [List.set_cons_succ]);(try simp only [List.set_cons_zero])
  refine own_region hS (by kernel_rfl) (by kernel_rfl) ?_
  (try simp only [List.append])
  (try simp only);(try simp only [List.drop_succ_cons]);(try simp only [List.drop_zero]);(try simp only [List.take_succ_cons]);(try simp only [List.take_zero])
  repeat (first
      | (first|(refine quiet_plain rfl ?_)|(refine quiet_yes rfl rfl rfl (by simp only [List.getElem?_toArray, List.getElem?_cons_succ, List.getElem?_cons_zero];rfl) (by with_reducible constructor) ?_)
         apply Exists.intro; refine ⟨?_, ?_⟩
         focus (intro wq hq0;have hq : Own _ _ _ wq := hq0;first|(exact quietAt_rd rfl (by rfl) (by first|exact rd_1 (by repeat constructor) (by first|rfl|assumption)|exact rd_w (by repeat constructor) (by rfl)|((first|refine rd_o ‹_› (by rfl) ?_|refine rd_h ‹_› (by rfl) ?_|refine rd_1o ‹_› ?_|refine rd_1h ‹_› (by first|rfl|assumption) ?_);first|exact nmn|assumption|simp)) hq)|(go_simp;first|(go_at_call 14;exact quietG hq (HQ10.out _))|(with_reducible rfl)))
         simp only [Act.put, List.setIfInBounds_toArray, List.set_cons_zero, List.set_cons_succ])
      | (refine quiet_no rfl rfl rfl (by simp only [List.getElem?_toArray, List.getElem?_cons_succ, List.getElem?_cons_zero];rfl) (by with_reducible constructor) ?_;simp only [Act.put, List.setIfInBounds_toArray, List.set_cons_zero, List.set_cons_succ]))
  refine wpQuiet_nil ?_
  clear hS
  intro ww hS
  obtain ⟨_, hX_⟩ := hX1
  rcases hX_ with ⟨_, _, _, h0, _⟩ | ⟨bq, cq, junk, he, _, _, _, rfl⟩
  · exact absurd h0 (by decide)
  simp only [Value.slice.injEq] at he
  obtain ⟨rfl, _, rfl⟩ := he
  simp only [List.cons_append, List.nil_append] at hS
  go_wp2_with (first|(refine own_unguard (by rfl) ?_)|(refine w_ld rfl _ rfl (by rfl) (by first|exact rd_1 (by repeat constructor) (by first|rfl|assumption)|exact rd_w (by repeat constructor) (by rfl)|((first|refine rd_o ‹_› (by rfl) ?_|refine rd_h ‹_› (by rfl) ?_|refine rd_1o ‹_› ?_|refine rd_1h ‹_› (by first|rfl|assumption) ?_);first|exact nmn|assumption|simp)) hS ?_)|((first|refine own_box rfl _ _ rfl (by rfl) hS ?_|refine w_al rfl rfl hS ?_);clear hS;(try clear ww);intro bb ww hS)|((first|refine w_st rfl _ _ rfl (by rfl) (by rfl) (by repeat constructor) (by rfl) (by rfl) (by first|rfl|assumption) hS ?_|refine w_s1 rfl _ _ rfl (by rfl) (by repeat constructor) (by first|exact .c|exact .t rfl) (by rfl) (by repeat constructor) hS ?_);clear hS;(try clear ww);intro ww hS))
  refine wp_loop_rounds 4 ?_
  iterate 3
    rw [rounds_succ]
    go_wp2_with (first|(refine own_unguard (by rfl) ?_)|(refine w_ld rfl _ rfl (by rfl) (by first|exact rd_1 (by repeat constructor) (by first|rfl|assumption)|exact rd_w (by repeat constructor) (by rfl)|((first|refine rd_o ‹_› (by rfl) ?_|refine rd_h ‹_› (by rfl) ?_|refine rd_1o ‹_› ?_|refine rd_1h ‹_› (by first|rfl|assumption) ?_);first|exact nmn|assumption|simp)) hS ?_)|((first|refine own_box rfl _ _ rfl (by rfl) hS ?_|refine w_al rfl rfl hS ?_);clear hS;(try clear ww);intro bb ww hS)|((first|refine w_st rfl _ _ rfl (by rfl) (by rfl) (by repeat constructor) (by rfl) (by rfl) (by first|rfl|assumption) hS ?_|refine w_s1 rfl _ _ rfl (by rfl) (by repeat constructor) (by first|exact .c|exact .t rfl) (by rfl) (by repeat constructor) hS ?_);clear hS;(try clear ww);intro ww hS))
  refine wp_loop_rounds 4 ?_
  iterate 2
    rw [rounds_succ]
    go_upto_region 31 with (first|(refine own_unguard (by rfl) ?_)|(refine w_ld rfl _ rfl (by rfl) (by first|exact rd_1 (by repeat constructor) (by first|rfl|assumption)|exact rd_w (by repeat constructor) (by rfl)|((first|refine rd_o ‹_› (by rfl) ?_|refine rd_h ‹_› (by rfl) ?_|refine rd_1o ‹_› ?_|refine rd_1h ‹_› (by first|rfl|assumption) ?_);first|exact nmn|assumption|simp)) hS ?_)|((first|refine own_box rfl _ _ rfl (by rfl) hS ?_|refine w_al rfl rfl hS ?_);clear hS;(try clear ww);intro bb ww hS)|((first|refine w_st rfl _ _ rfl (by rfl) (by rfl) (by repeat constructor) (by rfl) (by rfl) (by first|rfl|assumption) hS ?_|refine w_s1 rfl _ _ rfl (by rfl) (by repeat constructor) (by first|exact .c|exact .t rfl) (by rfl) (by repeat constructor) hS ?_);clear hS;(try clear ww);intro ww hS))
    (try simp only [Act.put]);(try simp only [List.setIfInBounds_toArray]);(try simp only [List.set_cons_succ]);(try simp only [List.set_cons_zero])
    refine own_region hS (by kernel_rfl) (by kernel_rfl) ?_
    (try simp only [List.append])
    (try simp only);(try simp only [List.drop_succ_cons]);(try simp only [List.drop_zero]);(try simp only [List.take_succ_cons]);(try simp only [List.take_zero])
    repeat (first
        | (first|(refine quiet_plain rfl ?_)|(refine quiet_yes rfl rfl rfl (by simp only [List.getElem?_toArray, List.getElem?_cons_succ, List.getElem?_cons_zero];rfl) (by with_reducible constructor) ?_)
           apply Exists.intro; refine ⟨?_, ?_⟩
           focus (intro wq hq0;have hq : Own _ _ _ wq := hq0;first|(exact quietAt_rd rfl (by rfl) (by first|exact rd_1 (by repeat constructor) (by first|rfl|assumption)|exact rd_w (by repeat constructor) (by rfl)|((first|refine rd_o ‹_› (by rfl) ?_|refine rd_h ‹_› (by rfl) ?_|refine rd_1o ‹_› ?_|refine rd_1h ‹_› (by first|rfl|assumption) ?_);first|exact nmn|assumption|simp)) hq)|(go_simp;first|(with_reducible rfl)))
           simp only [Act.put, List.setIfInBounds_toArray, List.set_cons_zero, List.set_cons_succ])
        | (refine quiet_no rfl rfl rfl (by simp only [List.getElem?_toArray, List.getElem?_cons_succ, List.getElem?_cons_zero];rfl) (by with_reducible constructor) ?_;simp only [Act.put, List.setIfInBounds_toArray, List.set_cons_zero, List.set_cons_succ]))
    refine wpQuiet_nil ?_
    clear hS
    intro ww hS
    go_wp2_with (first|(refine own_unguard (by rfl) ?_)|(refine w_ld rfl _ rfl (by rfl) (by first|exact rd_1 (by repeat constructor) (by first|rfl|assumption)|exact rd_w (by repeat constructor) (by rfl)|((first|refine rd_o ‹_› (by rfl) ?_|refine rd_h ‹_› (by rfl) ?_|refine rd_1o ‹_› ?_|refine rd_1h ‹_› (by first|rfl|assumption) ?_);first|exact nmn|assumption|simp)) hS ?_)|((first|refine own_box rfl _ _ rfl (by rfl) hS ?_|refine w_al rfl rfl hS ?_);clear hS;(try clear ww);intro bb ww hS)|((first|refine w_st rfl _ _ rfl (by rfl) (by rfl) (by repeat constructor) (by rfl) (by rfl) (by first|rfl|assumption) hS ?_|refine w_s1 rfl _ _ rfl (by rfl) (by repeat constructor) (by first|exact .c|exact .t rfl) (by rfl) (by repeat constructor) hS ?_);clear hS;(try clear ww);intro ww hS))
  rw [rounds_succ]
  go_wp2_with (first|(refine own_unguard (by rfl) ?_)|(refine w_ld rfl _ rfl (by rfl) (by first|exact rd_1 (by repeat constructor) (by first|rfl|assumption)|exact rd_w (by repeat constructor) (by rfl)|((first|refine rd_o ‹_› (by rfl) ?_|refine rd_h ‹_› (by rfl) ?_|refine rd_1o ‹_› ?_|refine rd_1h ‹_› (by first|rfl|assumption) ?_);first|exact nmn|assumption|simp)) hS ?_)|((first|refine own_box rfl _ _ rfl (by rfl) hS ?_|refine w_al rfl rfl hS ?_);clear hS;(try clear ww);intro bb ww hS)|((first|refine w_st rfl _ _ rfl (by rfl) (by rfl) (by repeat constructor) (by rfl) (by rfl) (by first|rfl|assumption) hS ?_|refine w_s1 rfl _ _ rfl (by rfl) (by repeat constructor) (by first|exact .c|exact .t rfl) (by rfl) (by repeat constructor) hS ?_);clear hS;(try clear ww);intro ww hS))
  have hrow : RepLP P2 _ (n + 1) (some ⟨bq, 0, none⟩) [atXY (n + 1) (((⟨bk, bn, bz, bw, bh, bd, bx, by_, bo, bs⟩, bks) : Bx (n + 1))) X0 0, atXY (n + 1) (((⟨sk', sn, sz, sw, sh, sd, sx', sy, sf, ssr⟩, sks) : Bx (n + 1))) X1 (-dn)] := has_kidsJ (xs := [.int .i64 bk, .string bn, .int .i64 bz, .int .i64 bw, .int .i64 bh, .int .i64 bd, .int .i64 X0, .int .i64 0, e8, .int .i64 bo, e10, .int .i64 sk', .string sn, .int .i64 sz, .int .i64 sw, .int .i64 sh, .int .i64 sd, .int .i64 X1, .int .i64 (-dn), f8, .int .i64 sf, f10]) (hS.get (atl (by exact (.next (.next (.next (.next (.next .here)))))))) ⟨_, _, rfl, (repP_x (x' := X0) (HS2.out.turn Q1.out hS) jX0), ⟨_, [], by simp, (repP_x (x' := X1) (HS2.out.turn Q2.out hS) jX1), rfl⟩⟩
  go_at_call 30
  refine Calls.mono (ref28_List_I P2 (n + 1) [atXY (n + 1) (((⟨bk, bn, bz, bw, bh, bd, bx, by_, bo, bs⟩, bks) : Bx (n + 1))) X0 0, atXY (n + 1) (((⟨sk', sn, sz, sw, sh, sd, sx', sy, sf, ssr⟩, sks) : Bx (n + 1))) X1 (-dn)] _ _ E bh DD _ hrow (by simp) (by simp) jE jH jD) ?_
  rintro e wA ⟨csA, rfl, hrA, hbA⟩
  obtain ⟨PA, DA, hDA, hPPA, hsA, qA, hS2, hC2⟩ := own_give HS2.out hS hrA hbA (bself _)
  have HCA := Lib.hid (chainH HC2.out hD2 hC2)
  have HSA := Lib.hid hsA
  have QA := Lib.hid qA
  have hallA := rep_all qA
  obtain ⟨g0, g1, g2, g3, g4, g5, g6, g7, g8, g9, g10, rfl⟩ := eleven qA.len
  clear hS hrA hbA hsA qA hC2 hrow
  (try clear ww)
  have hS := hS2
  clear hS2
  by_cases hvR : validB (n + 2) (listB (n + 1) E bh DD [atXY (n + 1) (((⟨bk, bn, bz, bw, bh, bd, bx, by_, bo, bs⟩, bks) : Bx (n + 1))) X0 0, atXY (n + 1) (((⟨sk', sn, sz, sw, sh, sd, sx', sy, sf, ssr⟩, sks) : Bx (n + 1))) X1 (-dn)])
  · have HvR := Lib.hid hvR
    have HDn := Lib.hid (fun (ww : World) (L' : List (Nat × List Value)) (h : Own DA wA L' ww) => ref32_Done_ok (n + 2) _ _ ww (HSA.out.turn QA.out h).rep HcR.out HvR.out)
    clear hvR
    go_wp2_with (first|(refine own_unguard (by rfl) ?_)|(go_at_call 29;refine own_calls hS (HDn.out _ _ hS) ?_;clear hS;(try clear ww);intro ww hS)|(refine w_ld rfl _ rfl (by rfl) (by first|exact rd_1 (by repeat constructor) (by first|rfl|assumption)|exact rd_w (by repeat constructor) (by rfl)|((first|refine rd_o ‹_› (by rfl) ?_|refine rd_h ‹_› (by rfl) ?_|refine rd_1o ‹_› ?_|refine rd_1h ‹_› (by first|rfl|assumption) ?_);first|exact nmn|assumption|simp)) hS ?_)|((first|refine own_box rfl _ _ rfl (by rfl) hS ?_|refine w_al rfl rfl hS ?_);clear hS;(try clear ww);intro bb ww hS)|((first|refine w_st rfl _ _ rfl (by rfl) (by rfl) (by repeat constructor) (by rfl) (by rfl) (by first|rfl|assumption) hS ?_|refine w_s1 rfl _ _ rfl (by rfl) (by repeat constructor) (by first|exact .c|exact .t rfl) (by rfl) (by repeat constructor) hS ?_);clear hS;(try clear ww);intro ww hS))
    have hc := (hS.get (atl (by exact (.next .here)))).cell
    refine bodyPost_ret (v := .tuple #[.agg #[g0, g1, g2, g3, g4, g5, g6, g7, g8, g9, g10], .int .i64 0]) (by simp [results, Try.results11, go_sem, hc]) rfl ⟨fun _ => ⟨_, rfl, (HSA.out.turn QA.out hS).rep, (chainH HCA.out hDA hS).below⟩, fun h => absurd HvR.out h⟩
  · have HvR := Lib.hid hvR
    have HDn := Lib.hid (fun (ww : World) (L' : List (Nat × List Value)) (h : Own DA wA L' ww) => ref32_Done_bad (n + 2) _ _ ww (HSA.out.turn QA.out h).rep HcR.out HvR.out)
    clear hvR
    go_wp2_with (first|(refine own_unguard (by rfl) ?_)|(go_at_call 29;refine own_calls hS (HDn.out _ _ hS) ?_;clear hS;(try clear ww);intro ww hS)|(refine w_ld rfl _ rfl (by rfl) (by first|exact rd_1 (by repeat constructor) (by first|rfl|assumption)|exact rd_w (by repeat constructor) (by rfl)|((first|refine rd_o ‹_› (by rfl) ?_|refine rd_h ‹_› (by rfl) ?_|refine rd_1o ‹_› ?_|refine rd_1h ‹_› (by first|rfl|assumption) ?_);first|exact nmn|assumption|simp)) hS ?_)|((first|refine own_box rfl _ _ rfl (by rfl) hS ?_|refine w_al rfl rfl hS ?_);clear hS;(try clear ww);intro bb ww hS)|((first|refine w_st rfl _ _ rfl (by rfl) (by rfl) (by repeat constructor) (by rfl) (by rfl) (by first|rfl|assumption) hS ?_|refine w_s1 rfl _ _ rfl (by rfl) (by repeat constructor) (by first|exact .c|exact .t rfl) (by rfl) (by repeat constructor) hS ?_);clear hS;(try clear ww);intro ww hS))
    have hc := (hS.get (atl (by exact (.next .here)))).cell
    refine bodyPost_ret (v := .tuple #[.agg #[.int .i64 0, .string ⟨#[]⟩, .int .i64 0, .int .i64 0, .int .i64 0, .int .i64 0, .int .i64 0, .int .i64 0, .slice none 0 0, .int .i64 0, .slice none 0 0], .int .i64 6]) (by simp [results, Try.results11, go_sem, hc]) rfl ⟨fun h => absurd h HvR.out, fun _ => ⟨_, rfl, rep_zero m _, (chainH HCA.out hDA hS).below⟩⟩

end Go.Proofs.Ytdbcdjiclkmknaa
