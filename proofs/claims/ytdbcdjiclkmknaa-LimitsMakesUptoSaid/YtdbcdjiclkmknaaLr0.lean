/- The reference's limits: Quad, what is not valid. -/
import Derived.Test.YtdbcdjiclkmknaaK19
import Derived.Test.YtdbcdjiclkmknaaK16
import Derived.Test.YtdbcdjiclkmknaaK14
namespace Go.Proofs.Ytdbcdjiclkmknaa
open Go.RowKit

attribute [local irreducible] wpQuiet wpG wpP wpK wpList Code.wp Calls

set_option maxHeartbeats 8000000 in
set_option maxRecDepth 100000 in
theorem ref35_Quad_calls (F : Fnt) (l p : Int) (c : Bool) (w : World) (hl : lvlOk l = true) (hv : ValidF F) (hp : 1 ≤ p ∧ p ≤ 1000) : Calls Try.prog 14 #[F.val, .agg #[.int .i64 l, .bool c], .int .i64 p] w (Gives (.int .i64 (lmQ F l p)) w) := by
  have hx := quad_in hv
  have bx := par_in (l := l) hv hx.1 hx.2
  have HP := Lib.hid (fun w' => ref32_Par_calls F l F.quad c w' hl hv (by omega))
  have HS := Lib.hid (fun w' => show Calls Try.prog 33 #[.int .i64 (par F l F.quad), .int .i64 p] w' (Gives (.int .i64 (lmQ F l p)) w') from ref05_Scale_gives (par F l F.quad) p w' (by omega) hp)
  clear hl hv hp hx bx
  go_enter Try.func14, Try.ntmps14
  have hS := own_start w
  go_wp2_with (first|(refine own_unguard (by rfl) ?_)|(go_at_call 34;refine own_calls hS (HP.out _) ?_;clear hS;(try clear ww);intro ww hS)|(go_at_call 33;refine own_calls hS (HS.out _) ?_;clear hS;(try clear ww);intro ww hS)|(refine w_ld rfl _ rfl (by rfl) (by first|exact rd_1 (by repeat constructor) (by first|rfl|assumption)|exact rd_w (by repeat constructor) (by rfl)|((first|refine rd_o ‹_› (by rfl) ?_|refine rd_h ‹_› (by rfl) ?_|refine rd_1o ‹_› ?_|refine rd_1h ‹_› (by first|rfl|assumption) ?_);first|exact nmn|assumption|simp)) hS ?_)|(refine own_box rfl _ _ rfl (by rfl) hS ?_;clear hS;(try clear ww);intro bb ww hS)|((first|refine w_st rfl _ _ rfl (by rfl) (by rfl) (by repeat constructor) (by rfl) (by rfl) (by first|rfl|assumption) hS ?_|refine w_s1 rfl _ _ rfl (by rfl) (by repeat constructor) (by first|exact .c|exact .t rfl) (by rfl) (by repeat constructor) hS ?_);clear hS;(try clear ww);intro ww hS))
  go_ret
  exact own_gives hS

theorem lr_perm {α : Type} (r : α) (L : List α) : (r :: L).Perm (L ++ [r]) := List.perm_append_comm (l₁ := [r]) (l₂ := L)
theorem RepLP.turn {P : Nat → Prop} {D : List Nat} {w w' : World} {n : Nat} {y : Option Addr} {kids : List (Bx n)} {L : List (Nat × List Value)} (h : RepLP P w n y kids) (hS : Own D w L w') (hP : ∀ k, P k → k ∉ D) (hy : ∀ k o, y = some ⟨k, o, none⟩ → k ∉ D) : RepLP P w' n y kids := fun i kid hi => by
  obtain ⟨k, o, css, e, hr, hp⟩ := h i kid hi
  exact ⟨k, o, css, e, hS.range (hy k o e) hr, repP_turn hp hS hP⟩
theorem has_kidsJ {P : Nat → Prop} {w : World} {k n : Nat} {kids : List (Bx n)} {xs junk : List Value} (h : Has w k (xs ++ junk)) (ha : AllP P w n kids xs) : RepLP P w n (some ⟨k, 0, none⟩) kids := by
  obtain ⟨l, rfl, e2, e3⟩ := allP_row kids xs ha
  have hrow : RowAt w (some ⟨k, 0, none⟩) 11 Subtype.val l := RowAt.of_has (junk := junk) (fun a _ => a.2) h
  intro i kid hi
  have hlt : i < l.length := by rw [e2]; exact (List.getElem?_eq_some_iff.1 hi).1
  obtain ⟨k, o, hx, hrg⟩ := hrow.get (List.getElem?_eq_getElem hlt)
  exact ⟨k, o, _, hx, hrg, e3 i _ kid (List.getElem?_eq_getElem hlt) hi⟩
/-- A box a little aside. -/
theorem repP_x {P : Nat → Prop} {w : World} {n : Nat} {k sz bw bh bd x y o x' : Int} {nm : ByteArray} {src : List Int} {kids : List (Bx n)} {c8 c10 : Value} (h : RepP P w (n + 1) (⟨k, nm, sz, bw, bh, bd, x, y, o, src⟩, kids) [.int .i64 k, .string nm, .int .i64 sz, .int .i64 bw, .int .i64 bh, .int .i64 bd, .int .i64 x, .int .i64 y, c8, .int .i64 o, c10]) (hx : I64 x') : RepP P w (n + 1) (⟨k, nm, sz, bw, bh, bd, x', y, o, src⟩, kids) [.int .i64 k, .string nm, .int .i64 sz, .int .i64 bw, .int .i64 bh, .int .i64 bd, .int .i64 x', .int .i64 y, c8, .int .i64 o, c10] := by
  obtain ⟨kx, kc, sx, sc, e, ha, hl, hs, hso, hk⟩ := h
  simp only [Hd.cells, List.cons.injEq, and_true, true_and] at e
  obtain ⟨rfl, rfl⟩ := e
  exact ⟨kx, kc, sx, sc, rfl, ⟨ha.kind, ha.size, ha.w, ha.h, ha.d, hx, ha.y, ha.of, ha.src, ha.srcLen, ha.nameLen⟩, hl, hs, hso, hk⟩
theorem ref34_Italic_ok35 (F : Fnt) (n : Nat) (b : Bx n) (cs : List Value) (w : World) (hF : FntOk w F) (hr : Rep w n b cs) (hf : ValidF F) (hb : validB n b) : Calls Try.prog 15 #[F.val, .agg cs.toArray] w (Gives (.int .i64 (italB F n b)) w) := by
  cases hi : innerS n b with
  | none =>
    have e : italB F n b = 0 := by unfold italB; rw [hi]
    rw [e]
    exact ref34_Italic_none F n b cs w hr hi
  | some g => exact ref34_Italic_some F n b cs w hF hr hf hb g.1 g.2 hi
theorem kidP_out {P : Nat → Prop} {w : World} {n : Nat} {k sz bw bh bd x y o : Int} {nm : ByteArray} {src : List Int} {kids : List (Bx n)} {cs : List Value} (h : RepP P w (n + 1) (⟨k, nm, sz, bw, bh, bd, x, y, o, src⟩, kids) cs) : ∃ c8 c10, cs = [.int .i64 k, .string nm, .int .i64 sz, .int .i64 bw, .int .i64 bh, .int .i64 bd, .int .i64 x, .int .i64 y, c8, .int .i64 o, c10] := by
  obtain ⟨kx, kc, sx, sc, e, _⟩ := h
  exact ⟨_, _, e⟩

set_option maxHeartbeats 8000000 in
set_option maxRecDepth 100000 in
theorem refLim_bad0 (F : Fnt) (l : Int) (c : Bool) (n m : Nat) (base : Bx (n + 1)) (subs sups : List (Bx (n + 1))) (cs : List Value) (sx ux : Option Addr) (sc uc : Nat) (w : World) (hF : FntOk w F) (hq : F.gs.length ≤ 500 ∧ F.ss.length ≤ 50) (hr : Rep w (n + 1) base cs) (hs : RepL w (n + 1) sx subs) (hu : RepL w (n + 1) ux sups) (b1 : subs.length ≤ 400000) (b2 : sups.length ≤ 400000) (hc : ∀ k ∈ base :: (subs ++ sups), bCount (n + 1) k ≤ 1000000) (hk : ¬ ChkOk F l (n + 1) (base :: (subs ++ sups))) : Calls Try.prog 11 #[F.val, .agg #[.int .i64 l, .bool c], .agg cs.toArray, .slice sx subs.length sc, .slice ux sups.length uc] w (GivesBE (m + 1) (zeroB m) 1 w) := by
  have HCk := Lib.hid (fun w' y k2 (h : Below w.heap.size w w') (hA : RepL w' (n + 1) y (base :: (subs ++ sups))) => ref32_Check_calls F l c (n + 1) (base :: (subs ++ sups)) y k2 w' (hF.below h) hq hA hc (by simp only [List.length_cons, List.length_append]; omega) 1 (.inr ⟨rfl, hk⟩))
  obtain ⟨ls, ells, hns, hos, hrs⟩ := repL_cells hs
  obtain ⟨lu, ellu, hnu, hou, hru⟩ := repL_cells hu
  have HNs := Lib.hid hns
  have HNu := Lib.hid hnu
  have HOs := Lib.hid hos
  have HOu := Lib.hid hou
  have HRs := Lib.hid hrs
  have HRu := Lib.hid hru
  have HLs := Lib.hid (show (ls.flatMap Subtype.val).length = subs.length * 11 by rw [flat_len (f := Subtype.val) (size := 11) (fun a => a.2) ls, ells] <;> rfl)
  have HLu := Lib.hid (show (lu.flatMap Subtype.val).length = sups.length * 11 by rw [flat_len (f := Subtype.val) (size := 11) (fun a => a.2) lu, ellu] <;> rfl)
  have HEs := Lib.hid ells
  have HEu := Lib.hid ellu
  have HR := Lib.hid hr
  obtain ⟨c0, c1, c2, c3, c4, c5, c6, c7, c8, c9, c10, rfl⟩ := eleven hr.len
  have hN : (base :: (subs ++ sups)).length = 1 + subs.length + sups.length := by simp only [List.length_cons, List.length_append]; omega
  clear hF hr hs hu hns hnu hos hou hrs hru ells ellu hk hc hq
  go_enter Try.func11, Try.ntmps11
  have hS := own_start w
  go_upto_region 2 with (first|(refine own_unguard (by rfl) ?_)|(refine own_buildSlice rfl _ _ 1 _ rfl [c0, c1, c2, c3, c4, c5, c6, c7, c8, c9, c10] hS Try.underlying30 (by kernel_rfl) ?_;clear hS;(try clear ww);intro bzz ww hS;have hS0 := hS.perm (lr_perm _ _);clear hS;have hS := hS0;clear hS0;have hB7 := hS.below)|(refine own_app (n := 1) (xs := [c0, c1, c2, c3, c4, c5, c6, c7, c8, c9, c10]) (X := [(bzz, [c0, c1, c2, c3, c4, c5, c6, c7, c8, c9, c10])]) (L := [_, _, _, _]) rfl _ _ _ rfl ⟨rfl, .inr ⟨bzz, 1, [], rfl, Nat.le_refl _, by simp [maxLen], rfl, rfl⟩⟩ (by decide) rfl rfl hS (repL_news HNs.out hB7) HLs.out HOs.out el_box (by decide) (by simp only [maxLen];omega) (by omega) ?_;clear hS hB7;(try clear ww);intro v1 XK1 ww hS hX1;have hB9 := hS.below)|(refine own_app (n := 1 + subs.length) (L := [_, _, _, _]) rfl _ _ _ rfl hX1 (by omega) rfl rfl hS (repL_news HNu.out hB9) HLu.out HOu.out el_box (by decide) (by simp only [maxLen];omega) (by omega) ?_;clear hS hX1 hB9;(try clear ww);intro v2 XK2 ww hS hX2;obtain ⟨y2, k2, rfl⟩ := hX2.slice)|(refine w_ld rfl _ rfl (by rfl) (by first|exact rd_1 (by repeat constructor) (by first|rfl|assumption)|exact rd_w (by repeat constructor) (by rfl)|((first|refine rd_o ‹_› (by rfl) ?_|refine rd_h ‹_› (by rfl) ?_|refine rd_1o ‹_› ?_|refine rd_1h ‹_› (by first|rfl|assumption) ?_);first|exact nmn|assumption|simp)) hS ?_)|((first|refine own_box rfl _ _ rfl (by rfl) hS ?_|refine w_al rfl rfl hS ?_);clear hS;(try clear ww);intro bb ww hS)|((first|refine w_st rfl _ _ rfl (by rfl) (by rfl) (by repeat constructor) (by rfl) (by rfl) (by first|rfl|assumption) hS ?_|refine w_s1 rfl _ _ rfl (by rfl) (by repeat constructor) (by first|exact .c|exact .t rfl) (by rfl) (by repeat constructor) hS ?_);clear hS;(try clear ww);intro ww hS))
  have HAr := Lib.hid (show ∀ (w' : World) (L' : List (Nat × List Value)), Own [] w (L' ++ XK2) w' → RepL w' (n + 1) y2 (base :: (subs ++ sups)) from fun w' L' h => repLP_L (all_row (h.perm List.perm_append_comm) (fun x hx => List.mem_append_left _ hx) hX2 h.below HR.out HEs.out HEu.out rfl HRs.out HRu.out))
  rw [hN] at HCk
  clear hX2
  go_wp2_with (first|(refine own_unguard (by rfl) ?_)|(go_at_call 27;refine own_calls hS (HCk.out _ _ _ hS.below (HAr.out _ _ hS)) ?_;clear hS;(try clear ww);intro ww hS)|(refine w_ld rfl _ rfl (by rfl) (by first|exact rd_1 (by repeat constructor) (by first|rfl|assumption)|exact rd_w (by repeat constructor) (by rfl)|((first|refine rd_o ‹_› (by rfl) ?_|refine rd_h ‹_› (by rfl) ?_|refine rd_1o ‹_› ?_|refine rd_1h ‹_› (by first|rfl|assumption) ?_);first|exact nmn|assumption|simp)) hS ?_)|((first|refine own_box rfl _ _ rfl (by rfl) hS ?_|refine w_al rfl rfl hS ?_);clear hS;(try clear ww);intro bb ww hS)|((first|refine w_st rfl _ _ rfl (by rfl) (by rfl) (by repeat constructor) (by rfl) (by rfl) (by first|rfl|assumption) hS ?_|refine w_s1 rfl _ _ rfl (by rfl) (by repeat constructor) (by first|exact .c|exact .t rfl) (by rfl) (by repeat constructor) hS ?_);clear hS;(try clear ww);intro ww hS))
  have hc := (hS.get at0).cell
  refine bodyPost_ret (v := .tuple #[.agg #[.int .i64 0, .string ⟨#[]⟩, .int .i64 0, .int .i64 0, .int .i64 0, .int .i64 0, .int .i64 0, .int .i64 0, .slice none 0 0, .int .i64 0, .slice none 0 0], .int .i64 1]) (by simp [results, Try.results11, go_sem, hc]) rfl ⟨_, rfl, rep_zero m _, hS.below⟩

set_option maxHeartbeats 8000000 in
set_option maxRecDepth 100000 in
theorem refLim_bad1 (F : Fnt) (l : Int) (c : Bool) (n m : Nat) (base : Bx (n + 1)) (subs sups : List (Bx (n + 1))) (cs : List Value) (sx ux : Option Addr) (sc uc : Nat) (w : World) (hF : FntOk w F) (hq : F.gs.length ≤ 500 ∧ F.ss.length ≤ 50) (hr : Rep w (n + 1) base cs) (hs : RepL w (n + 1) sx subs) (hu : RepL w (n + 1) ux sups) (b1 : subs.length ≤ 400000) (b2 : sups.length ≤ 400000) (hc : ∀ k ∈ base :: (subs ++ sups), bCount (n + 1) k ≤ 1000000) (hk : ChkOk F l (n + 1) (base :: (subs ++ sups))) (h1 : 1 < subs.length) : Calls Try.prog 11 #[F.val, .agg #[.int .i64 l, .bool c], .agg cs.toArray, .slice sx subs.length sc, .slice ux sups.length uc] w (GivesBE (m + 1) (zeroB m) 1 w) := by
  have HCk := Lib.hid (fun w' y k2 (h : Below w.heap.size w w') (hA : RepL w' (n + 1) y (base :: (subs ++ sups))) => ref32_Check_calls F l c (n + 1) (base :: (subs ++ sups)) y k2 w' (hF.below h) hq hA hc (by simp only [List.length_cons, List.length_append]; omega) 0 (.inl ⟨rfl, hk⟩))
  obtain ⟨ls, ells, hns, hos, hrs⟩ := repL_cells hs
  obtain ⟨lu, ellu, hnu, hou, hru⟩ := repL_cells hu
  have HNs := Lib.hid hns
  have HNu := Lib.hid hnu
  have HOs := Lib.hid hos
  have HOu := Lib.hid hou
  have HRs := Lib.hid hrs
  have HRu := Lib.hid hru
  have HLs := Lib.hid (show (ls.flatMap Subtype.val).length = subs.length * 11 by rw [flat_len (f := Subtype.val) (size := 11) (fun a => a.2) ls, ells] <;> rfl)
  have HLu := Lib.hid (show (lu.flatMap Subtype.val).length = sups.length * 11 by rw [flat_len (f := Subtype.val) (size := 11) (fun a => a.2) lu, ellu] <;> rfl)
  have HEs := Lib.hid ells
  have HEu := Lib.hid ellu
  have HR := Lib.hid hr
  have d1 : decide ((1 : Int) < (subs.length : Int)) = true := decide_eq_true (by omega)
  obtain ⟨c0, c1, c2, c3, c4, c5, c6, c7, c8, c9, c10, rfl⟩ := eleven hr.len
  have hN : (base :: (subs ++ sups)).length = 1 + subs.length + sups.length := by simp only [List.length_cons, List.length_append]; omega
  clear hF hr hs hu hns hnu hos hou hrs hru ells ellu hk hc hq h1
  go_enter Try.func11, Try.ntmps11
  have hS := own_start w
  go_upto_region 2 with (first|(refine own_unguard (by rfl) ?_)|(refine own_buildSlice rfl _ _ 1 _ rfl [c0, c1, c2, c3, c4, c5, c6, c7, c8, c9, c10] hS Try.underlying30 (by kernel_rfl) ?_;clear hS;(try clear ww);intro bzz ww hS;have hS0 := hS.perm (lr_perm _ _);clear hS;have hS := hS0;clear hS0;have hB7 := hS.below)|(refine own_app (n := 1) (xs := [c0, c1, c2, c3, c4, c5, c6, c7, c8, c9, c10]) (X := [(bzz, [c0, c1, c2, c3, c4, c5, c6, c7, c8, c9, c10])]) (L := [_, _, _, _]) rfl _ _ _ rfl ⟨rfl, .inr ⟨bzz, 1, [], rfl, Nat.le_refl _, by simp [maxLen], rfl, rfl⟩⟩ (by decide) rfl rfl hS (repL_news HNs.out hB7) HLs.out HOs.out el_box (by decide) (by simp only [maxLen];omega) (by omega) ?_;clear hS hB7;(try clear ww);intro v1 XK1 ww hS hX1;have hB9 := hS.below)|(refine own_app (n := 1 + subs.length) (L := [_, _, _, _]) rfl _ _ _ rfl hX1 (by omega) rfl rfl hS (repL_news HNu.out hB9) HLu.out HOu.out el_box (by decide) (by simp only [maxLen];omega) (by omega) ?_;clear hS hX1 hB9;(try clear ww);intro v2 XK2 ww hS hX2;obtain ⟨y2, k2, rfl⟩ := hX2.slice)|(refine w_ld rfl _ rfl (by rfl) (by first|exact rd_1 (by repeat constructor) (by first|rfl|assumption)|exact rd_w (by repeat constructor) (by rfl)|((first|refine rd_o ‹_› (by rfl) ?_|refine rd_h ‹_› (by rfl) ?_|refine rd_1o ‹_› ?_|refine rd_1h ‹_› (by first|rfl|assumption) ?_);first|exact nmn|assumption|simp)) hS ?_)|((first|refine own_box rfl _ _ rfl (by rfl) hS ?_|refine w_al rfl rfl hS ?_);clear hS;(try clear ww);intro bb ww hS)|((first|refine w_st rfl _ _ rfl (by rfl) (by rfl) (by repeat constructor) (by rfl) (by rfl) (by first|rfl|assumption) hS ?_|refine w_s1 rfl _ _ rfl (by rfl) (by repeat constructor) (by first|exact .c|exact .t rfl) (by rfl) (by repeat constructor) hS ?_);clear hS;(try clear ww);intro ww hS))
  have HAr := Lib.hid (show ∀ (w' : World) (L' : List (Nat × List Value)), Own [] w (L' ++ XK2) w' → RepL w' (n + 1) y2 (base :: (subs ++ sups)) from fun w' L' h => repLP_L (all_row (h.perm List.perm_append_comm) (fun x hx => List.mem_append_left _ hx) hX2 h.below HR.out HEs.out HEu.out rfl HRs.out HRu.out))
  rw [hN] at HCk
  clear hX2
  go_wp2_with (first|(refine own_unguard (by rfl) ?_)|(go_at_call 27;refine own_calls hS (HCk.out _ _ _ hS.below (HAr.out _ _ hS)) ?_;clear hS;(try clear ww);intro ww hS)|(refine w_ld rfl _ rfl (by rfl) (by first|exact rd_1 (by repeat constructor) (by first|rfl|assumption)|exact rd_w (by repeat constructor) (by rfl)|((first|refine rd_o ‹_› (by rfl) ?_|refine rd_h ‹_› (by rfl) ?_|refine rd_1o ‹_› ?_|refine rd_1h ‹_› (by first|rfl|assumption) ?_);first|exact nmn|assumption|simp)) hS ?_)|((first|refine own_box rfl _ _ rfl (by rfl) hS ?_|refine w_al rfl rfl hS ?_);clear hS;(try clear ww);intro bb ww hS)|((first|refine w_st rfl _ _ rfl (by rfl) (by rfl) (by repeat constructor) (by rfl) (by rfl) (by first|rfl|assumption) hS ?_|refine w_s1 rfl _ _ rfl (by rfl) (by repeat constructor) (by first|exact .c|exact .t rfl) (by rfl) (by repeat constructor) hS ?_);clear hS;(try clear ww);intro ww hS))
  have hc := (hS.get at0).cell
  refine bodyPost_ret (v := .tuple #[.agg #[.int .i64 0, .string ⟨#[]⟩, .int .i64 0, .int .i64 0, .int .i64 0, .int .i64 0, .int .i64 0, .int .i64 0, .slice none 0 0, .int .i64 0, .slice none 0 0], .int .i64 1]) (by simp [results, Try.results11, go_sem, hc]) rfl ⟨_, rfl, rep_zero m _, hS.below⟩

set_option maxHeartbeats 8000000 in
set_option maxRecDepth 100000 in
theorem refLim_bad2 (F : Fnt) (l : Int) (c : Bool) (n m : Nat) (base : Bx (n + 1)) (subs sups : List (Bx (n + 1))) (cs : List Value) (sx ux : Option Addr) (sc uc : Nat) (w : World) (hF : FntOk w F) (hq : F.gs.length ≤ 500 ∧ F.ss.length ≤ 50) (hr : Rep w (n + 1) base cs) (hs : RepL w (n + 1) sx subs) (hu : RepL w (n + 1) ux sups) (b1 : subs.length ≤ 400000) (b2 : sups.length ≤ 400000) (hc : ∀ k ∈ base :: (subs ++ sups), bCount (n + 1) k ≤ 1000000) (hk : ChkOk F l (n + 1) (base :: (subs ++ sups))) (h1 : subs.length ≤ 1) (h2 : 1 < sups.length) : Calls Try.prog 11 #[F.val, .agg #[.int .i64 l, .bool c], .agg cs.toArray, .slice sx subs.length sc, .slice ux sups.length uc] w (GivesBE (m + 1) (zeroB m) 1 w) := by
  have HCk := Lib.hid (fun w' y k2 (h : Below w.heap.size w w') (hA : RepL w' (n + 1) y (base :: (subs ++ sups))) => ref32_Check_calls F l c (n + 1) (base :: (subs ++ sups)) y k2 w' (hF.below h) hq hA hc (by simp only [List.length_cons, List.length_append]; omega) 0 (.inl ⟨rfl, hk⟩))
  obtain ⟨ls, ells, hns, hos, hrs⟩ := repL_cells hs
  obtain ⟨lu, ellu, hnu, hou, hru⟩ := repL_cells hu
  have HNs := Lib.hid hns
  have HNu := Lib.hid hnu
  have HOs := Lib.hid hos
  have HOu := Lib.hid hou
  have HRs := Lib.hid hrs
  have HRu := Lib.hid hru
  have HLs := Lib.hid (show (ls.flatMap Subtype.val).length = subs.length * 11 by rw [flat_len (f := Subtype.val) (size := 11) (fun a => a.2) ls, ells] <;> rfl)
  have HLu := Lib.hid (show (lu.flatMap Subtype.val).length = sups.length * 11 by rw [flat_len (f := Subtype.val) (size := 11) (fun a => a.2) lu, ellu] <;> rfl)
  have HEs := Lib.hid ells
  have HEu := Lib.hid ellu
  have HR := Lib.hid hr
  have d1 : decide ((1 : Int) < (subs.length : Int)) = false := decide_eq_false (by omega)
  have d2 : decide ((1 : Int) < (sups.length : Int)) = true := decide_eq_true (by omega)
  obtain ⟨c0, c1, c2, c3, c4, c5, c6, c7, c8, c9, c10, rfl⟩ := eleven hr.len
  have hN : (base :: (subs ++ sups)).length = 1 + subs.length + sups.length := by simp only [List.length_cons, List.length_append]; omega
  clear hF hr hs hu hns hnu hos hou hrs hru ells ellu hk hc hq h1 h2
  go_enter Try.func11, Try.ntmps11
  have hS := own_start w
  go_upto_region 2 with (first|(refine own_unguard (by rfl) ?_)|(refine own_buildSlice rfl _ _ 1 _ rfl [c0, c1, c2, c3, c4, c5, c6, c7, c8, c9, c10] hS Try.underlying30 (by kernel_rfl) ?_;clear hS;(try clear ww);intro bzz ww hS;have hS0 := hS.perm (lr_perm _ _);clear hS;have hS := hS0;clear hS0;have hB7 := hS.below)|(refine own_app (n := 1) (xs := [c0, c1, c2, c3, c4, c5, c6, c7, c8, c9, c10]) (X := [(bzz, [c0, c1, c2, c3, c4, c5, c6, c7, c8, c9, c10])]) (L := [_, _, _, _]) rfl _ _ _ rfl ⟨rfl, .inr ⟨bzz, 1, [], rfl, Nat.le_refl _, by simp [maxLen], rfl, rfl⟩⟩ (by decide) rfl rfl hS (repL_news HNs.out hB7) HLs.out HOs.out el_box (by decide) (by simp only [maxLen];omega) (by omega) ?_;clear hS hB7;(try clear ww);intro v1 XK1 ww hS hX1;have hB9 := hS.below)|(refine own_app (n := 1 + subs.length) (L := [_, _, _, _]) rfl _ _ _ rfl hX1 (by omega) rfl rfl hS (repL_news HNu.out hB9) HLu.out HOu.out el_box (by decide) (by simp only [maxLen];omega) (by omega) ?_;clear hS hX1 hB9;(try clear ww);intro v2 XK2 ww hS hX2;obtain ⟨y2, k2, rfl⟩ := hX2.slice)|(refine w_ld rfl _ rfl (by rfl) (by first|exact rd_1 (by repeat constructor) (by first|rfl|assumption)|exact rd_w (by repeat constructor) (by rfl)|((first|refine rd_o ‹_› (by rfl) ?_|refine rd_h ‹_› (by rfl) ?_|refine rd_1o ‹_› ?_|refine rd_1h ‹_› (by first|rfl|assumption) ?_);first|exact nmn|assumption|simp)) hS ?_)|((first|refine own_box rfl _ _ rfl (by rfl) hS ?_|refine w_al rfl rfl hS ?_);clear hS;(try clear ww);intro bb ww hS)|((first|refine w_st rfl _ _ rfl (by rfl) (by rfl) (by repeat constructor) (by rfl) (by rfl) (by first|rfl|assumption) hS ?_|refine w_s1 rfl _ _ rfl (by rfl) (by repeat constructor) (by first|exact .c|exact .t rfl) (by rfl) (by repeat constructor) hS ?_);clear hS;(try clear ww);intro ww hS))
  have HAr := Lib.hid (show ∀ (w' : World) (L' : List (Nat × List Value)), Own [] w (L' ++ XK2) w' → RepL w' (n + 1) y2 (base :: (subs ++ sups)) from fun w' L' h => repLP_L (all_row (h.perm List.perm_append_comm) (fun x hx => List.mem_append_left _ hx) hX2 h.below HR.out HEs.out HEu.out rfl HRs.out HRu.out))
  rw [hN] at HCk
  clear hX2
  go_wp2_with (first|(refine own_unguard (by rfl) ?_)|(go_at_call 27;refine own_calls hS (HCk.out _ _ _ hS.below (HAr.out _ _ hS)) ?_;clear hS;(try clear ww);intro ww hS)|(refine w_ld rfl _ rfl (by rfl) (by first|exact rd_1 (by repeat constructor) (by first|rfl|assumption)|exact rd_w (by repeat constructor) (by rfl)|((first|refine rd_o ‹_› (by rfl) ?_|refine rd_h ‹_› (by rfl) ?_|refine rd_1o ‹_› ?_|refine rd_1h ‹_› (by first|rfl|assumption) ?_);first|exact nmn|assumption|simp)) hS ?_)|((first|refine own_box rfl _ _ rfl (by rfl) hS ?_|refine w_al rfl rfl hS ?_);clear hS;(try clear ww);intro bb ww hS)|((first|refine w_st rfl _ _ rfl (by rfl) (by rfl) (by repeat constructor) (by rfl) (by rfl) (by first|rfl|assumption) hS ?_|refine w_s1 rfl _ _ rfl (by rfl) (by repeat constructor) (by first|exact .c|exact .t rfl) (by rfl) (by repeat constructor) hS ?_);clear hS;(try clear ww);intro ww hS))
  have hc := (hS.get at0).cell
  refine bodyPost_ret (v := .tuple #[.agg #[.int .i64 0, .string ⟨#[]⟩, .int .i64 0, .int .i64 0, .int .i64 0, .int .i64 0, .int .i64 0, .int .i64 0, .slice none 0 0, .int .i64 0, .slice none 0 0], .int .i64 1]) (by simp [results, Try.results11, go_sem, hc]) rfl ⟨_, rfl, rep_zero m _, hS.below⟩

theorem refLim_bad (F : Fnt) (l : Int) (c : Bool) (n m : Nat) (base : Bx (n + 1)) (subs sups : List (Bx (n + 1))) (cs : List Value) (sx ux : Option Addr) (sc uc : Nat) (w : World) (hF : FntOk w F) (hq : F.gs.length ≤ 500 ∧ F.ss.length ≤ 50) (hr : Rep w (n + 1) base cs) (hs : RepL w (n + 1) sx subs) (hu : RepL w (n + 1) ux sups) (b1 : subs.length ≤ 400000) (b2 : sups.length ≤ 400000) (hc : ∀ k ∈ base :: (subs ++ sups), bCount (n + 1) k ≤ 1000000) (hb : ¬ ScrOk F l n base subs sups) : Calls Try.prog 11 #[F.val, .agg #[.int .i64 l, .bool c], .agg cs.toArray, .slice sx subs.length sc, .slice ux sups.length uc] w (GivesBE (m + 1) (zeroB m) 1 w) := by
  by_cases hk : ChkOk F l (n + 1) (base :: (subs ++ sups))
  · by_cases h1 : subs.length ≤ 1
    · by_cases h2 : sups.length ≤ 1
      · exact absurd ⟨hk.1, hk.2.1, hk.2.2 base (by simp), ⟨h1, fun b hb => hk.2.2 b (by simp [hb])⟩, ⟨h2, fun b hb => hk.2.2 b (by simp [hb])⟩⟩ hb
      · exact refLim_bad2 F l c n m base subs sups cs sx ux sc uc w hF hq hr hs hu b1 b2 hc hk h1 (by omega)
    · exact refLim_bad1 F l c n m base subs sups cs sx ux sc uc w hF hq hr hs hu b1 b2 hc hk (by omega)
  · exact refLim_bad0 F l c n m base subs sups cs sx ux sc uc w hF hq hr hs hu b1 b2 hc hk

end Go.Proofs.Ytdbcdjiclkmknaa
