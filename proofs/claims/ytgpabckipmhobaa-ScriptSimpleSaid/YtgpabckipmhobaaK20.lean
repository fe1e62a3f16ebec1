/- Texts Sft, Mky00, Mky01. -/
import Derived.Test.YtgpabckipmhobaaK18
import Derived.Test.YtgpabckipmhobaaK19
import Derived.Test.YtgpabckipmhobaaK17
import Derived.LoopN
namespace Go.Proofs.Ytgpabckipmhobaa
open Go.RowKit

attribute [local irreducible] wpQuiet wpG wpP wpK wpList Code.wp Calls

theorem lvl_of {l : Int} (h : lvlOk l = true) : 0 ≤ l ∧ l ≤ 3 := by simpa [lvlOk] using h
/-- A list of one box, or of none. -/
theorem RepL.one {w : World} {n : Nat} {x : Option Addr} {b : Bx n} (h : RepL w n x [b]) : ∃ k o css, x = some ⟨k, o, none⟩ ∧ w.rangeAt k o css ∧ Rep w n b css := by
  obtain ⟨k, o, css, rfl, hr, hp⟩ := h 0 b rfl
  rw [Nat.zero_mul, Nat.add_zero] at hr
  exact ⟨k, o, css, rfl, hr, hp⟩

theorem shifts_s (F : Fnt) (l : Int) (c : Bool) (n : Nat) (base : Bx (n + 1)) (subs sups : List (Bx (n + 1))) (cs : List Value) (sx ux : Option Addr) (sc uc : Nat) (w : World) (_hF : FntOk w F) (hr : Rep w (n + 1) base cs) (hs : RepL w (n + 1) sx subs) (hu : RepL w (n + 1) ux sups) (h : ScrOk F l n base subs sups) (m : Nat) (g : Bx (m + 1)) (hi : innerS (n + 1) base = some ⟨m, g⟩) : Calls Try.prog 46 #[F.val, .agg #[.int .i64 l, .bool c], .int .i64 (sizeOf' F l), .agg cs.toArray, .slice sx subs.length sc, .slice ux sups.length uc] w (Gives (.tuple #[.int .i64 (shiftP F l c true base.1 (subs.map (·.1)) (sups.map (·.1))).1, .int .i64 (shiftP F l c true base.1 (subs.map (·.1)) (sups.map (·.1))).2]) w) := by
  have hl := lvl_of h.2.1
  have hp := prm_scr h.1
  have x0 := par_in (l := l) h.1 hp.1.1 hp.1.2
  have x1 := shX_in (l := l) (p := 25) h.1 (by omega)
  have x2 := shX_in (l := l) (p := 80) h.1 (by omega)
  have r0 := par_in (l := l) h.1 hp.2.1.1 hp.2.1.2
  have r1 := par_in (l := l) h.1 hp.2.2.1.1 hp.2.2.1.2
  have r2 := par_in (l := l) h.1 hp.2.2.2.1.1 hp.2.2.2.1.2
  have r3 := par_in (l := l) h.1 hp.2.2.2.2.1.1 hp.2.2.2.2.1.2
  have s1 := par_in (l := l) h.1 hp.2.2.2.2.2.1.1 hp.2.2.2.2.2.1.2
  have s2 := par_in (l := l) h.1 hp.2.2.2.2.2.2.1.1 hp.2.2.2.2.2.2.1.2
  have q1 := shQ_in (l := l) h.1 hp.2.2.2.2.2.2.2.1.1 hp.2.2.2.2.2.2.2.1.2
  have q2 := shQ_in (l := l) h.1 hp.2.2.2.2.2.2.2.2.1 hp.2.2.2.2.2.2.2.2.2
  have rr : 0 ≤ par F l (raiseP F l c) ∧ par F l (raiseP F l c) ≤ 20000 := by
    unfold raiseP
    repeat' split
    all_goals omega
  have y0 : 0 ≤ par F l F.xheight ∧ par F l F.xheight ≤ 20000 := by omega
  have y1 : 0 ≤ par F l F.sub1 ∧ par F l F.sub1 ≤ 20000 := by omega
  have y2 : 0 ≤ par F l F.sub2 ∧ par F l F.sub2 ≤ 20000 := by omega
  have y3 : 0 ≤ par F l F.rule ∧ par F l F.rule ≤ 20000 := by omega
  obtain ⟨⟨bk, bn, bz, bw, bh, bd, bx, by_, bo, bs⟩, bks⟩ := base
  obtain ⟨kx, kc, tx, tc, rfl, _⟩ := rep_out hr
  have bb := valid_lens h.2.2.1
  match subs, sups with
  | [], [] =>
    exact shifts_s000 F l (sizeOf' F l) c n bh bd _ _ _ _ _ _ _ _ _ _ w sc uc sx ux _ _ hr bb.2.1 bb.2.2 m g hi hl rfl rfl y0 x2
  | [], [sp] =>
    have bu2 := (vlens (h.2.2.2.2.2 sp (by simp))).2.2
    obtain ⟨uk, uo, us, rfl, hu1, hu2⟩ := hu.one
    obtain ⟨⟨uk', un, uz, uw, uh, ud, ux', uy, uf, usr⟩, uks⟩ := sp
    obtain ⟨_, _, _, _, rfl, _⟩ := rep_out hu2
    have ha := rep_all hu2
    exact shifts_s010 F l (sizeOf' F l) c n bh bd _ _ _ _ _ _ _ _ _ _ w uk uo _ _ _ _ _ _ _ _ _ _ ud sc uc sx _ _ _ _ _ hr bb.2.1 bb.2.2 m g hi hl hu1 ha bu2 rfl rfl rfl rfl rfl y0 x2 rr x1
  | [sb], [] =>
    have bs2 := (vlens (h.2.2.2.1.2 sb (by simp))).2.1
    obtain ⟨sk, so, ss, rfl, hs1, hs2⟩ := hs.one
    obtain ⟨⟨sk', sn, sz, sw, sh, sd, sx', sy, sf, ssr⟩, sks⟩ := sb
    obtain ⟨_, _, _, _, rfl, _⟩ := rep_out hs2
    exact shifts_s100 F l (sizeOf' F l) c n bh bd _ _ _ _ _ _ _ _ _ _ w sk so _ _ _ _ _ _ _ _ _ _ sh sc uc ux _ _ _ _ hr bb.2.1 bb.2.2 m g hi hl hs1 bs2 rfl rfl rfl rfl y0 x2 y1
  | [sb], [sp] =>
    have bs2 := (vlens (h.2.2.2.1.2 sb (by simp))).2.1
    obtain ⟨sk, so, ss, rfl, hs1, hs2⟩ := hs.one
    obtain ⟨⟨sk', sn, sz, sw, sh, sd, sx', sy, sf, ssr⟩, sks⟩ := sb
    obtain ⟨_, _, _, _, rfl, _⟩ := rep_out hs2
    have bu2 := (vlens (h.2.2.2.2.2 sp (by simp))).2.2
    obtain ⟨uk, uo, us, rfl, hu1, hu2⟩ := hu.one
    obtain ⟨⟨uk', un, uz, uw, uh, ud, ux', uy, uf, usr⟩, uks⟩ := sp
    obtain ⟨_, _, _, _, rfl, _⟩ := rep_out hu2
    have ha := rep_all hu2
    have e : shiftP F l c true ⟨bk, bn, bz, bw, bh, bd, bx, by_, bo, bs⟩ (List.map (·.1) [(⟨sk', sn, sz, sw, sh, sd, sx', sy, sf, ssr⟩, sks)]) (List.map (·.1) [(⟨uk', un, uz, uw, uh, ud, ux', uy, uf, usr⟩, uks)]) = shGap (max (max 0 (par F l (raiseP F l c))) (ud + shX F l 25)) (max 0 (par F l F.sub2)) ud sh (shX F l 80) (4 * par F l F.rule) := rfl
    rw [e]
    by_cases hg : ((max (max 0 (par F l (raiseP F l c))) (ud + shX F l 25)) - ud) - (sh - (max 0 (par F l F.sub2))) < 4 * par F l F.rule
    · by_cases hm : 0 < shX F l 80 - ((max (max 0 (par F l (raiseP F l c))) (ud + shX F l 25)) - ud)
      · have e2 : ∀ (u v : Int), shGap (max (max 0 (par F l (raiseP F l c))) (ud + shX F l 25)) (max 0 (par F l F.sub2)) ud sh (shX F l 80) (4 * par F l F.rule) = ((max (max 0 (par F l (raiseP F l c))) (ud + shX F l 25)) + (shX F l 80 - ((max (max 0 (par F l (raiseP F l c))) (ud + shX F l 25)) - ud)), (max 0 (par F l F.sub2)) + (4 * par F l F.rule - (((max (max 0 (par F l (raiseP F l c))) (ud + shX F l 25)) - ud) - (sh - (max 0 (par F l F.sub2))))) - (shX F l 80 - ((max (max 0 (par F l (raiseP F l c))) (ud + shX F l 25)) - ud))) := fun _ _ => by unfold shGap; rw [if_pos hg, if_pos hm]
        rw [e2 0 0]
        exact shifts_s112 F l (sizeOf' F l) c n bh bd _ _ _ _ _ _ _ _ _ _ w sk so _ _ _ _ _ _ _ _ _ _ sh uk uo _ _ _ _ _ _ _ _ _ _ ud sc uc _ _ _ _ _ _ _ _ hr bb.2.1 bb.2.2 m g hi hl hs1 bs2 hu1 ha bu2 rfl rfl rfl rfl rfl rfl rfl rfl hg hm y0 x2 rr x1 y2 y3
      · have e2 : shGap (max (max 0 (par F l (raiseP F l c))) (ud + shX F l 25)) (max 0 (par F l F.sub2)) ud sh (shX F l 80) (4 * par F l F.rule) = ((max (max 0 (par F l (raiseP F l c))) (ud + shX F l 25)), (max 0 (par F l F.sub2)) + (4 * par F l F.rule - (((max (max 0 (par F l (raiseP F l c))) (ud + shX F l 25)) - ud) - (sh - (max 0 (par F l F.sub2)))))) := by unfold shGap; rw [if_pos hg, if_neg hm]
        rw [e2]
        exact shifts_s111 F l (sizeOf' F l) c n bh bd _ _ _ _ _ _ _ _ _ _ w sk so _ _ _ _ _ _ _ _ _ _ sh uk uo _ _ _ _ _ _ _ _ _ _ ud sc uc _ _ _ _ _ _ _ _ hr bb.2.1 bb.2.2 m g hi hl hs1 bs2 hu1 ha bu2 rfl rfl rfl rfl rfl rfl rfl rfl hg hm y0 x2 rr x1 y2 y3
    · have e2 : shGap (max (max 0 (par F l (raiseP F l c))) (ud + shX F l 25)) (max 0 (par F l F.sub2)) ud sh (shX F l 80) (4 * par F l F.rule) = ((max (max 0 (par F l (raiseP F l c))) (ud + shX F l 25)), (max 0 (par F l F.sub2))) := by unfold shGap; rw [if_neg hg]
      rw [e2]
      exact shifts_s110 F l (sizeOf' F l) c n bh bd _ _ _ _ _ _ _ _ _ _ w sk so _ _ _ _ _ _ _ _ _ _ sh uk uo _ _ _ _ _ _ _ _ _ _ ud sc uc _ _ _ _ _ _ _ _ hr bb.2.1 bb.2.2 m g hi hl hs1 bs2 hu1 ha bu2 rfl rfl rfl rfl rfl rfl rfl rfl hg y0 x2 rr x1 y2 y3
  | _ :: _ :: _, _ => have := h.2.2.2.1.1; simp at this
  | _, _ :: _ :: _ => have := h.2.2.2.2.1; simp at this

theorem shifts_c (F : Fnt) (l : Int) (c : Bool) (n : Nat) (base : Bx (n + 1)) (subs sups : List (Bx (n + 1))) (cs : List Value) (sx ux : Option Addr) (sc uc : Nat) (w : World) (hF : FntOk w F) (hr : Rep w (n + 1) base cs) (hs : RepL w (n + 1) sx subs) (hu : RepL w (n + 1) ux sups) (h : ScrOk F l n base subs sups) (hi : innerS (n + 1) base = none) : Calls Try.prog 46 #[F.val, .agg #[.int .i64 l, .bool c], .int .i64 (sizeOf' F l), .agg cs.toArray, .slice sx subs.length sc, .slice ux sups.length uc] w (Gives (.tuple #[.int .i64 (shiftP F l c false base.1 (subs.map (·.1)) (sups.map (·.1))).1, .int .i64 (shiftP F l c false base.1 (subs.map (·.1)) (sups.map (·.1))).2]) w) := by
  have hl := lvl_of h.2.1
  have hp := prm_scr h.1
  have x0 := par_in (l := l) h.1 hp.1.1 hp.1.2
  have x1 := shX_in (l := l) (p := 25) h.1 (by omega)
  have x2 := shX_in (l := l) (p := 80) h.1 (by omega)
  have r0 := par_in (l := l) h.1 hp.2.1.1 hp.2.1.2
  have r1 := par_in (l := l) h.1 hp.2.2.1.1 hp.2.2.1.2
  have r2 := par_in (l := l) h.1 hp.2.2.2.1.1 hp.2.2.2.1.2
  have r3 := par_in (l := l) h.1 hp.2.2.2.2.1.1 hp.2.2.2.2.1.2
  have s1 := par_in (l := l) h.1 hp.2.2.2.2.2.1.1 hp.2.2.2.2.2.1.2
  have s2 := par_in (l := l) h.1 hp.2.2.2.2.2.2.1.1 hp.2.2.2.2.2.2.1.2
  have q1 := shQ_in (l := l) h.1 hp.2.2.2.2.2.2.2.1.1 hp.2.2.2.2.2.2.2.1.2
  have q2 := shQ_in (l := l) h.1 hp.2.2.2.2.2.2.2.2.1 hp.2.2.2.2.2.2.2.2.2
  have rr : 0 ≤ par F l (raiseP F l c) ∧ par F l (raiseP F l c) ≤ 20000 := by
    unfold raiseP
    repeat' split
    all_goals omega
  have y0 : 0 ≤ par F l F.xheight ∧ par F l F.xheight ≤ 20000 := by omega
  have y1 : 0 ≤ par F l F.sub1 ∧ par F l F.sub1 ≤ 20000 := by omega
  have y2 : 0 ≤ par F l F.sub2 ∧ par F l F.sub2 ≤ 20000 := by omega
  have y3 : 0 ≤ par F l F.rule ∧ par F l F.rule ≤ 20000 := by omega
  obtain ⟨⟨bk, bn, bz, bw, bh, bd, bx, by_, bo, bs⟩, bks⟩ := base
  obtain ⟨kx, kc, tx, tc, rfl, _⟩ := rep_out hr
  have bb := valid_lens h.2.2.1
  match subs, sups with
  | [], [] =>
    exact shifts_c000 F l (sizeOf' F l) c n bh bd _ _ _ _ _ _ _ _ _ _ w sc uc sx ux _ _ _ _ _ hr bb.2.1 bb.2.2 hF h.1 hi hl rfl rfl rfl rfl rfl y0 x2 q1 q2
  | [], [sp] =>
    have bu2 := (vlens (h.2.2.2.2.2 sp (by simp))).2.2
    obtain ⟨uk, uo, us, rfl, hu1, hu2⟩ := hu.one
    obtain ⟨⟨uk', un, uz, uw, uh, ud, ux', uy, uf, usr⟩, uks⟩ := sp
    obtain ⟨_, _, _, _, rfl, _⟩ := rep_out hu2
    have ha := rep_all hu2
    exact shifts_c010 F l (sizeOf' F l) c n bh bd _ _ _ _ _ _ _ _ _ _ w uk uo _ _ _ _ _ _ _ _ _ _ ud sc uc sx _ _ _ _ _ _ _ _ hr bb.2.1 bb.2.2 hF h.1 hi hl hu1 ha bu2 rfl rfl rfl rfl rfl rfl rfl rfl y0 x2 rr x1 q1 q2
  | [sb], [] =>
    have bs2 := (vlens (h.2.2.2.1.2 sb (by simp))).2.1
    obtain ⟨sk, so, ss, rfl, hs1, hs2⟩ := hs.one
    obtain ⟨⟨sk', sn, sz, sw, sh, sd, sx', sy, sf, ssr⟩, sks⟩ := sb
    obtain ⟨_, _, _, _, rfl, _⟩ := rep_out hs2
    exact shifts_c100 F l (sizeOf' F l) c n bh bd _ _ _ _ _ _ _ _ _ _ w sk so _ _ _ _ _ _ _ _ _ _ sh sc uc ux _ _ _ _ _ _ _ hr bb.2.1 bb.2.2 hF h.1 hi hl hs1 bs2 rfl rfl rfl rfl rfl rfl rfl y0 x2 y1 q1 q2
  | [sb], [sp] =>
    have bs2 := (vlens (h.2.2.2.1.2 sb (by simp))).2.1
    obtain ⟨sk, so, ss, rfl, hs1, hs2⟩ := hs.one
    obtain ⟨⟨sk', sn, sz, sw, sh, sd, sx', sy, sf, ssr⟩, sks⟩ := sb
    obtain ⟨_, _, _, _, rfl, _⟩ := rep_out hs2
    have bu2 := (vlens (h.2.2.2.2.2 sp (by simp))).2.2
    obtain ⟨uk, uo, us, rfl, hu1, hu2⟩ := hu.one
    obtain ⟨⟨uk', un, uz, uw, uh, ud, ux', uy, uf, usr⟩, uks⟩ := sp
    obtain ⟨_, _, _, _, rfl, _⟩ := rep_out hu2
    have ha := rep_all hu2
    have e : shiftP F l c false ⟨bk, bn, bz, bw, bh, bd, bx, by_, bo, bs⟩ (List.map (·.1) [(⟨sk', sn, sz, sw, sh, sd, sx', sy, sf, ssr⟩, sks)]) (List.map (·.1) [(⟨uk', un, uz, uw, uh, ud, ux', uy, uf, usr⟩, uks)]) = shGap (max (max (bh - shQ F l F.supdrop) (par F l (raiseP F l c))) (ud + shX F l 25)) (max (bd + shQ F l F.subdrop) (par F l F.sub2)) ud sh (shX F l 80) (4 * par F l F.rule) := rfl
    rw [e]
    by_cases hg : ((max (max (bh - shQ F l F.supdrop) (par F l (raiseP F l c))) (ud + shX F l 25)) - ud) - (sh - (max (bd + shQ F l F.subdrop) (par F l F.sub2))) < 4 * par F l F.rule
    · by_cases hm : 0 < shX F l 80 - ((max (max (bh - shQ F l F.supdrop) (par F l (raiseP F l c))) (ud + shX F l 25)) - ud)
      · have e2 : ∀ (u v : Int), shGap (max (max (bh - shQ F l F.supdrop) (par F l (raiseP F l c))) (ud + shX F l 25)) (max (bd + shQ F l F.subdrop) (par F l F.sub2)) ud sh (shX F l 80) (4 * par F l F.rule) = ((max (max (bh - shQ F l F.supdrop) (par F l (raiseP F l c))) (ud + shX F l 25)) + (shX F l 80 - ((max (max (bh - shQ F l F.supdrop) (par F l (raiseP F l c))) (ud + shX F l 25)) - ud)), (max (bd + shQ F l F.subdrop) (par F l F.sub2)) + (4 * par F l F.rule - (((max (max (bh - shQ F l F.supdrop) (par F l (raiseP F l c))) (ud + shX F l 25)) - ud) - (sh - (max (bd + shQ F l F.subdrop) (par F l F.sub2))))) - (shX F l 80 - ((max (max (bh - shQ F l F.supdrop) (par F l (raiseP F l c))) (ud + shX F l 25)) - ud))) := fun _ _ => by unfold shGap; rw [if_pos hg, if_pos hm]
        rw [e2 0 0]
        exact shifts_c112 F l (sizeOf' F l) c n bh bd _ _ _ _ _ _ _ _ _ _ w sk so _ _ _ _ _ _ _ _ _ _ sh uk uo _ _ _ _ _ _ _ _ _ _ ud sc uc _ _ _ _ _ _ _ _ _ _ _ hr bb.2.1 bb.2.2 hF h.1 hi hl hs1 bs2 hu1 ha bu2 rfl rfl rfl rfl rfl rfl rfl rfl rfl rfl rfl hg hm y0 x2 rr x1 y2 y3 q1 q2
      · have e2 : shGap (max (max (bh - shQ F l F.supdrop) (par F l (raiseP F l c))) (ud + shX F l 25)) (max (bd + shQ F l F.subdrop) (par F l F.sub2)) ud sh (shX F l 80) (4 * par F l F.rule) = ((max (max (bh - shQ F l F.supdrop) (par F l (raiseP F l c))) (ud + shX F l 25)), (max (bd + shQ F l F.subdrop) (par F l F.sub2)) + (4 * par F l F.rule - (((max (max (bh - shQ F l F.supdrop) (par F l (raiseP F l c))) (ud + shX F l 25)) - ud) - (sh - (max (bd + shQ F l F.subdrop) (par F l F.sub2)))))) := by unfold shGap; rw [if_pos hg, if_neg hm]
        rw [e2]
        exact shifts_c111 F l (sizeOf' F l) c n bh bd _ _ _ _ _ _ _ _ _ _ w sk so _ _ _ _ _ _ _ _ _ _ sh uk uo _ _ _ _ _ _ _ _ _ _ ud sc uc _ _ _ _ _ _ _ _ _ _ _ hr bb.2.1 bb.2.2 hF h.1 hi hl hs1 bs2 hu1 ha bu2 rfl rfl rfl rfl rfl rfl rfl rfl rfl rfl rfl hg hm y0 x2 rr x1 y2 y3 q1 q2
    · have e2 : shGap (max (max (bh - shQ F l F.supdrop) (par F l (raiseP F l c))) (ud + shX F l 25)) (max (bd + shQ F l F.subdrop) (par F l F.sub2)) ud sh (shX F l 80) (4 * par F l F.rule) = ((max (max (bh - shQ F l F.supdrop) (par F l (raiseP F l c))) (ud + shX F l 25)), (max (bd + shQ F l F.subdrop) (par F l F.sub2))) := by unfold shGap; rw [if_neg hg]
      rw [e2]
      exact shifts_c110 F l (sizeOf' F l) c n bh bd _ _ _ _ _ _ _ _ _ _ w sk so _ _ _ _ _ _ _ _ _ _ sh uk uo _ _ _ _ _ _ _ _ _ _ ud sc uc _ _ _ _ _ _ _ _ _ _ _ hr bb.2.1 bb.2.2 hF h.1 hi hl hs1 bs2 hu1 ha bu2 rfl rfl rfl rfl rfl rfl rfl rfl rfl rfl rfl hg y0 x2 rr x1 y2 y3 q1 q2
  | _ :: _ :: _, _ => have := h.2.2.2.1.1; simp at this
  | _, _ :: _ :: _ => have := h.2.2.2.2.1; simp at this

theorem shifts_calls (F : Fnt) (l : Int) (c : Bool) (n : Nat) (base : Bx (n + 1)) (subs sups : List (Bx (n + 1))) (cs : List Value) (sx ux : Option Addr) (sc uc : Nat) (w : World) (hF : FntOk w F) (hr : Rep w (n + 1) base cs) (hs : RepL w (n + 1) sx subs) (hu : RepL w (n + 1) ux sups) (h : ScrOk F l n base subs sups) : Calls Try.prog 46 #[F.val, .agg #[.int .i64 l, .bool c], .int .i64 (sizeOf' F l), .agg cs.toArray, .slice sx subs.length sc, .slice ux sups.length uc] w (Gives (.tuple #[.int .i64 (scrUV F l c n base subs sups).1, .int .i64 (scrUV F l c n base subs sups).2]) w) := by
  unfold scrUV
  cases hi : innerS (n + 1) base with
  | none => exact shifts_c F l c n base subs sups cs sx ux sc uc w hF hr hs hu h hi
  | some g => exact shifts_s F l c n base subs sups cs sx ux sc uc w hF hr hs hu h g.1 g.2 hi

end Go.Proofs.Ytgpabckipmhobaa
namespace Go.Proofs.Ytgpabckipmhobaa
open Go.RowKit

attribute [local irreducible] wpQuiet wpG wpP wpK wpList Code.wp Calls

set_option maxHeartbeats 16000000 in
set_option maxRecDepth 100000 in
theorem scrMake_y00 (P : Nat → Prop) (F : Fnt) (l U V _IT bw : Int) (c : Bool) (n _m : Nat) (base : Bx (n + 1)) (c0 c1 c2 c4 c5 c6 c7 c8 c9 c10 : Value) (E : E4) (w : World) (sc uc : Nat) (sx : Option Addr) (ux : Option Addr) (hF : FntOk w F) (hl : lvlOk l = true) (hv : ValidF F) (hP : ∀ k, P k → k < w.heap.size) (hrP : RepP P w (n + 1) base [c0, c1, c2, .int .i64 bw, c4, c5, c6, c7, c8, c9, c10]) (hb : validB (n + 1) base) (hSh : ∀ w', Below w.heap.size w w' → Calls Try.prog 46 #[F.val, .agg #[.int .i64 l, .bool c], .int .i64 (sizeOf' F l), .agg #[c0, c1, c2, .int .i64 bw, c4, c5, c6, c7, c8, c9, c10], .slice sx 0 sc, .slice ux 0 uc] w' (Gives (.tuple #[.int .i64 U, .int .i64 V]) w')) (hE : E = extL (([atXY (n + 1) base 0 0] : List (Bx (n + 1))).map (·.1))) (hM : ∀ k ∈ ([atXY (n + 1) base 0 0] : List (Bx (n + 1))), Mild k.1) (iE : I64 E.r ∧ I64 E.h ∧ I64 E.d) (hvR : validB (n + 2) (listB (n + 1) E.r E.h E.d [atXY (n + 1) base 0 0])) (_bW : -1073741824 ≤ bw ∧ bw ≤ 1073741824) :
    Calls Try.prog 23 #[F.val, .agg #[.int .i64 l, .bool c], .agg #[c0, c1, c2, .int .i64 bw, c4, c5, c6, c7, c8, c9, c10], .slice sx 0 sc, .slice ux 0 uc] w (GivesBEP P (n + 2) (listB (n + 1) E.r E.h E.d [atXY (n + 1) base 0 0]) 0 w) := by
  have HPc := Lib.hid (fun w' (h : Below w.heap.size w w') => style_Percent_calls F l (sizeOf' F l) 0 c w' (hF.below h) ⟨fun _ => ⟨rfl, rfl⟩, fun h => by
    rcases h with h | h
    · rw [hl] at h; cases h
    · exact absurd hv h⟩)
  have HVb := Lib.hid (fun w' (h : Below w.heap.size w w') => box_Valid_calls (n + 1) base _ w' (hrP.rep.step h) hrP.rep.wide _ (iff_t hb))
  have HSh := Lib.hid hSh
  have HrP := Lib.hid hrP
  have HE := Lib.hid hE
  have HM := Lib.hid hM
  have HvR := Lib.hid hvR
  have HsB := Lib.hid (validB_small hb)
  have HSm := Lib.hid (show ∀ k ∈ ([atXY (n + 1) base 0 0] : List (Bx (n + 1))), Small (n + 1) k ∧ bCount (n + 1) k ≤ 1000000 from fun k hk => by
    obtain rfl := List.mem_singleton.1 hk
    exact ⟨small_at HsB.out.1, Nat.le_trans (Nat.le_of_eq count_at) (Nat.le_trans HsB.out.2 (by omega))⟩)
  clear hSh hrP hE hM hvR hb hl hv hF _bW
  go_enter Try.func23, Try.ntmps23
  have hS := own_start w
  go_upto_region 1 with (first | (refine own_unguard (by rfl) ?_) | (refine w_ld rfl _ rfl (by rfl) (by first | exact rd_1 (by repeat constructor) (by first | rfl | assumption) | exact rd_w (by repeat constructor) (by rfl) | exact rd_o (by assumption) (by rfl) (by first | exact nmn | assumption | simp) | exact rd_h (by assumption) (by rfl) (by first | exact nmn | assumption | simp) | exact rd_1o (by assumption) (by first | exact nmn | assumption | simp) | exact rd_1h (by assumption) (by first | rfl | assumption) (by first | exact nmn | assumption | simp)) hS ?_) | (refine own_box rfl _ _ rfl (by rfl) hS ?_; clear hS; (try clear ww); intro bb ww hS) | (refine w_al rfl rfl hS ?_; clear hS; (try clear ww); intro bb ww hS) | (refine w_st rfl _ _ rfl (by rfl) (by rfl) (by repeat constructor) (by rfl) (by rfl) (by first | rfl | assumption) hS ?_; clear hS; (try clear ww); intro ww hS) | (refine w_s1 rfl _ _ rfl (by rfl) (by repeat constructor) (by first | exact .c | exact .t rfl) (by rfl) (by repeat constructor) hS ?_; clear hS; (try clear ww); intro ww hS))
  have HC0 := Lib.hid hS
  obtain ⟨D0, hD0, hs0, hS1⟩ := safe_start (R := P) hS hP
  have HS0 := Lib.hid hs0
  clear hS hs0
  have hS := hS1
  clear hS1
  go_wp2_with (first | (refine own_unguard (by rfl) ?_) | (go_at_call 44; refine own_calls hS (by first | exact HPc.out _ (chainH HC0.out hD0 hS).below) ?_; clear hS; (try clear ww); intro ww hS) | (go_at_call 39; refine own_calls hS (by first | exact HVb.out _ (chainH HC0.out hD0 hS).below) ?_; clear hS; (try clear ww); intro ww hS) | (go_at_call 45; refine own_calls hS (by first | exact script_valid_0 _ _ _) ?_; clear hS; (try clear ww); intro ww hS) | (go_at_call 46; refine own_calls hS (by first | exact HSh.out _ (chainH HC0.out hD0 hS).below) ?_; clear hS; (try clear ww); intro ww hS) | (refine w_ld rfl _ rfl (by rfl) (by first | exact rd_1 (by repeat constructor) (by first | rfl | assumption) | exact rd_w (by repeat constructor) (by rfl) | exact rd_o (by assumption) (by rfl) (by first | exact nmn | assumption | simp) | exact rd_h (by assumption) (by rfl) (by first | exact nmn | assumption | simp) | exact rd_1o (by assumption) (by first | exact nmn | assumption | simp) | exact rd_1h (by assumption) (by first | rfl | assumption) (by first | exact nmn | assumption | simp)) hS ?_) | (refine own_box rfl _ _ rfl (by rfl) hS ?_; clear hS; (try clear ww); intro bb ww hS) | (refine w_al rfl rfl hS ?_; clear hS; (try clear ww); intro bb ww hS) | (refine w_st rfl _ _ rfl (by rfl) (by rfl) (by repeat constructor) (by rfl) (by rfl) (by first | rfl | assumption) hS ?_; clear hS; (try clear ww); intro ww hS) | (refine w_s1 rfl _ _ rfl (by rfl) (by repeat constructor) (by first | exact .c | exact .t rfl) (by rfl) (by repeat constructor) hS ?_; clear hS; (try clear ww); intro ww hS))
  go_at_call 47
  refine Calls.mono (box_At_I P n base _ 0 0 _ (repP_step HrP.out (chainH HC0.out hD0 hS).below) i64_0 i64_0 HsB.out.1.1) ?_
  rintro e w3 ⟨cs3, rfl, hr3, hb3⟩
  obtain ⟨P1, D1, hD1, hPP1, hs1, q1, hS1, hC1⟩ := own_give HS0.out hS hr3 hb3 (bself _)
  have HC1 := Lib.hid (chainH HC0.out hD0 hC1)
  have HS1 := Lib.hid hs1
  have Q1 := Lib.hid q1
  obtain ⟨e0, e1, e2, e3, e4, e5, e6, e7, e8, e9, e10, rfl⟩ := eleven q1.len
  clear hS hs1 hr3 hb3 hC1 q1
  (try clear ww)
  have hS := hS1
  clear hS1
  go_wp2_with (first | (refine own_unguard (by rfl) ?_) | (refine own_buildSlice rfl _ _ 1 _ rfl [e0, e1, e2, e3, e4, e5, e6, e7, e8, e9, e10] hS Try.underlying30 (by kernel_rfl) ?_; clear hS; (try clear ww); intro bs ww hS) | (refine w_ld rfl _ rfl (by rfl) (by first | exact rd_1 (by repeat constructor) (by first | rfl | assumption) | exact rd_w (by repeat constructor) (by rfl) | exact rd_o (by assumption) (by rfl) (by first | exact nmn | assumption | simp) | exact rd_h (by assumption) (by rfl) (by first | exact nmn | assumption | simp) | exact rd_1o (by assumption) (by first | exact nmn | assumption | simp) | exact rd_1h (by assumption) (by first | rfl | assumption) (by first | exact nmn | assumption | simp)) hS ?_) | (refine own_box rfl _ _ rfl (by rfl) hS ?_; clear hS; (try clear ww); intro bb ww hS) | (refine w_al rfl rfl hS ?_; clear hS; (try clear ww); intro bb ww hS) | (refine w_st rfl _ _ rfl (by rfl) (by rfl) (by repeat constructor) (by rfl) (by rfl) (by first | rfl | assumption) hS ?_; clear hS; (try clear ww); intro ww hS) | (refine w_s1 rfl _ _ rfl (by rfl) (by repeat constructor) (by first | exact .c | exact .t rfl) (by rfl) (by repeat constructor) hS ?_; clear hS; (try clear ww); intro ww hS))
  refine wp_loop_rounds 1 ?_
  rw [rounds_succ]
  go_wp2_with (first | (refine own_unguard (by rfl) ?_) | (refine w_ld rfl _ rfl (by rfl) (by first | exact rd_1 (by repeat constructor) (by first | rfl | assumption) | exact rd_w (by repeat constructor) (by rfl) | exact rd_o (by assumption) (by rfl) (by first | exact nmn | assumption | simp) | exact rd_h (by assumption) (by rfl) (by first | exact nmn | assumption | simp) | exact rd_1o (by assumption) (by first | exact nmn | assumption | simp) | exact rd_1h (by assumption) (by first | rfl | assumption) (by first | exact nmn | assumption | simp)) hS ?_) | (refine own_box rfl _ _ rfl (by rfl) hS ?_; clear hS; (try clear ww); intro bb ww hS) | (refine w_al rfl rfl hS ?_; clear hS; (try clear ww); intro bb ww hS) | (refine w_st rfl _ _ rfl (by rfl) (by rfl) (by repeat constructor) (by rfl) (by rfl) (by first | rfl | assumption) hS ?_; clear hS; (try clear ww); intro ww hS) | (refine w_s1 rfl _ _ rfl (by rfl) (by repeat constructor) (by first | exact .c | exact .t rfl) (by rfl) (by repeat constructor) hS ?_; clear hS; (try clear ww); intro ww hS))
  refine wp_loop_rounds 1 ?_
  rw [rounds_succ]
  go_wp2_with (first | (refine own_unguard (by rfl) ?_) | (refine w_ld rfl _ rfl (by rfl) (by first | exact rd_1 (by repeat constructor) (by first | rfl | assumption) | exact rd_w (by repeat constructor) (by rfl) | exact rd_o (by assumption) (by rfl) (by first | exact nmn | assumption | simp) | exact rd_h (by assumption) (by rfl) (by first | exact nmn | assumption | simp) | exact rd_1o (by assumption) (by first | exact nmn | assumption | simp) | exact rd_1h (by assumption) (by first | rfl | assumption) (by first | exact nmn | assumption | simp)) hS ?_) | (refine own_box rfl _ _ rfl (by rfl) hS ?_; clear hS; (try clear ww); intro bb ww hS) | (refine w_al rfl rfl hS ?_; clear hS; (try clear ww); intro bb ww hS) | (refine w_st rfl _ _ rfl (by rfl) (by rfl) (by repeat constructor) (by rfl) (by rfl) (by first | rfl | assumption) hS ?_; clear hS; (try clear ww); intro ww hS) | (refine w_s1 rfl _ _ rfl (by rfl) (by repeat constructor) (by first | exact .c | exact .t rfl) (by rfl) (by repeat constructor) hS ?_; clear hS; (try clear ww); intro ww hS))
  have hrow : RepLP P1 _ (n + 1) (some ⟨bs, 0, none⟩) [atXY (n + 1) base 0 0] := has_kids (hS.get at0) ⟨_, [], by simp, HS1.out.turn Q1.out hS, rfl⟩
  go_at_call 48
  refine own_calls hS (ext_E HE.out _ 1 _ (repLP_L hrow) HM.out (by simp)) ?_
  clear hS hrow
  (try clear ww)
  intro ww hS
  go_wp2_with (first | (refine own_unguard (by rfl) ?_) | (refine w_ld rfl _ rfl (by rfl) (by first | exact rd_1 (by repeat constructor) (by first | rfl | assumption) | exact rd_w (by repeat constructor) (by rfl) | exact rd_o (by assumption) (by rfl) (by first | exact nmn | assumption | simp) | exact rd_h (by assumption) (by rfl) (by first | exact nmn | assumption | simp) | exact rd_1o (by assumption) (by first | exact nmn | assumption | simp) | exact rd_1h (by assumption) (by first | rfl | assumption) (by first | exact nmn | assumption | simp)) hS ?_) | (refine own_box rfl _ _ rfl (by rfl) hS ?_; clear hS; (try clear ww); intro bb ww hS) | (refine w_al rfl rfl hS ?_; clear hS; (try clear ww); intro bb ww hS) | (refine w_st rfl _ _ rfl (by rfl) (by rfl) (by repeat constructor) (by rfl) (by rfl) (by first | rfl | assumption) hS ?_; clear hS; (try clear ww); intro ww hS) | (refine w_s1 rfl _ _ rfl (by rfl) (by repeat constructor) (by first | exact .c | exact .t rfl) (by rfl) (by repeat constructor) hS ?_; clear hS; (try clear ww); intro ww hS))
  have hrow : RepLP P1 _ (n + 1) (some ⟨bs, 0, none⟩) [atXY (n + 1) base 0 0] := has_kids (hS.get at0) ⟨_, [], by simp, HS1.out.turn Q1.out hS, rfl⟩
  go_at_call 49
  refine Calls.mono (box_List_I P1 (n + 1) [atXY (n + 1) base 0 0] _ 1 E.r E.h E.d _ hrow HSm.out (by simp) iE.1 iE.2.1 iE.2.2) ?_
  rintro e wA ⟨csA, rfl, hrA, hbA⟩
  obtain ⟨PA, DA, hDA, hPPA, hsA, qA, hS2, hC2⟩ := own_give HS1.out hS hrA hbA (bself _)
  have HCA := Lib.hid (chainH HC1.out hD1 hC2)
  have HSA := Lib.hid hsA
  have QA := Lib.hid qA
  have hallA := rep_all qA
  obtain ⟨g0, g1, g2, g3, g4, g5, g6, g7, g8, g9, g10, rfl⟩ := eleven qA.len
  clear hS hrA hbA hsA qA hC2 hrow
  (try clear ww)
  have hS := hS2
  clear hS2
  have HVR := Lib.hid (fun (ww : World) (L' : List (Nat × List Value)) (h : Own DA wA L' ww) => box_Valid_calls (n + 2) _ _ ww (HSA.out.turn QA.out h).rep (HSA.out.turn QA.out h).rep.wide _ (iff_t HvR.out))
  go_wp2_with (first | (refine own_unguard (by rfl) ?_) | (go_at_call 39; refine own_calls hS (HVR.out _ _ hS) ?_; clear hS; (try clear ww); intro ww hS) | (refine w_ld rfl _ rfl (by rfl) (by first | exact rd_1 (by repeat constructor) (by first | rfl | assumption) | exact rd_w (by repeat constructor) (by rfl) | exact rd_o (by assumption) (by rfl) (by first | exact nmn | assumption | simp) | exact rd_h (by assumption) (by rfl) (by first | exact nmn | assumption | simp) | exact rd_1o (by assumption) (by first | exact nmn | assumption | simp) | exact rd_1h (by assumption) (by first | rfl | assumption) (by first | exact nmn | assumption | simp)) hS ?_) | (refine own_box rfl _ _ rfl (by rfl) hS ?_; clear hS; (try clear ww); intro bb ww hS) | (refine w_al rfl rfl hS ?_; clear hS; (try clear ww); intro bb ww hS) | (refine w_st rfl _ _ rfl (by rfl) (by rfl) (by repeat constructor) (by rfl) (by rfl) (by first | rfl | assumption) hS ?_; clear hS; (try clear ww); intro ww hS) | (refine w_s1 rfl _ _ rfl (by rfl) (by repeat constructor) (by first | exact .c | exact .t rfl) (by rfl) (by repeat constructor) hS ?_; clear hS; (try clear ww); intro ww hS))
  have hc := (hS.get at2).cell
  refine bodyPost_ret (v := .tuple #[.agg #[g0, g1, g2, g3, g4, g5, g6, g7, g8, g9, g10], .int .i64 0]) (by simp [results, Try.results23, go_sem, hc]) rfl ⟨_, rfl, HSA.out.ends QA.out hS, (chainH HCA.out hDA hS).below⟩

end Go.Proofs.Ytgpabckipmhobaa
namespace Go.Proofs.Ytgpabckipmhobaa
open Go.RowKit

attribute [local irreducible] wpQuiet wpG wpP wpK wpList Code.wp Calls

set_option maxHeartbeats 16000000 in
set_option maxRecDepth 100000 in
theorem scrMake_y01 (P : Nat → Prop) (F : Fnt) (l U V _IT bw : Int) (c : Bool) (n _m : Nat) (base : Bx (n + 1)) (c0 c1 c2 c4 c5 c6 c7 c8 c9 c10 : Value) (E : E4) (w : World) (sc uc : Nat) (sx : Option Addr) (sp : Bx (n + 1)) (uk uo : Nat) (us : List Value) (hF : FntOk w F) (hl : lvlOk l = true) (hv : ValidF F) (hP : ∀ k, P k → k < w.heap.size) (hrP : RepP P w (n + 1) base [c0, c1, c2, .int .i64 bw, c4, c5, c6, c7, c8, c9, c10]) (hb : validB (n + 1) base) (hu : w.rangeAt uk uo us) (huP : RepP P w (n + 1) sp us) (huv : validB (n + 1) sp) (hSh : ∀ w', Below w.heap.size w w' → Calls Try.prog 46 #[F.val, .agg #[.int .i64 l, .bool c], .int .i64 (sizeOf' F l), .agg #[c0, c1, c2, .int .i64 bw, c4, c5, c6, c7, c8, c9, c10], .slice sx 0 sc, .slice (some ⟨uk, uo, none⟩) 1 uc] w' (Gives (.tuple #[.int .i64 U, .int .i64 V]) w')) (hE : E = extL (([atXY (n + 1) base 0 0, atXY (n + 1) sp bw U] : List (Bx (n + 1))).map (·.1))) (hM : ∀ k ∈ ([atXY (n + 1) base 0 0, atXY (n + 1) sp bw U] : List (Bx (n + 1))), Mild k.1) (iE : I64 E.r ∧ I64 E.h ∧ I64 E.d) (hvR : validB (n + 2) (listB (n + 1) E.r E.h E.d [atXY (n + 1) base 0 0, atXY (n + 1) sp bw U])) (bW : -1073741824 ≤ bw ∧ bw ≤ 1073741824) (bU : -4294967296 ≤ U ∧ U ≤ 4294967296) :
    Calls Try.prog 23 #[F.val, .agg #[.int .i64 l, .bool c], .agg #[c0, c1, c2, .int .i64 bw, c4, c5, c6, c7, c8, c9, c10], .slice sx 0 sc, .slice (some ⟨uk, uo, none⟩) 1 uc] w (GivesBEP P (n + 2) (listB (n + 1) E.r E.h E.d [atXY (n + 1) base 0 0, atXY (n + 1) sp bw U]) 0 w) := by
  have HPc := Lib.hid (fun w' (h : Below w.heap.size w w') => style_Percent_calls F l (sizeOf' F l) 0 c w' (hF.below h) ⟨fun _ => ⟨rfl, rfl⟩, fun h => by
    rcases h with h | h
    · rw [hl] at h; cases h
    · exact absurd hv h⟩)
  have HVb := Lib.hid (fun w' (h : Below w.heap.size w w') => box_Valid_calls (n + 1) base _ w' (hrP.rep.step h) hrP.rep.wide _ (iff_t hb))
  have HSh := Lib.hid hSh
  have HrP := Lib.hid hrP
  have HE := Lib.hid hE
  have HM := Lib.hid hM
  have HvR := Lib.hid hvR
  have HsB := Lib.hid (validB_small hb)
  have HVu := Lib.hid (fun w' (h : Below w.heap.size w w') => script_valid_1 (n + 1) sp us uk uo uc w' (rangeAt_below hu h) (huP.rep.step h) true (iff_t huv))
  have HuP := Lib.hid huP
  have Hu := Lib.hid hu
  have HsU := Lib.hid (validB_small huv)
  have luk := range_lt0 hu huP.len
  have hallu := rep_all huP
  have HSm := Lib.hid (show ∀ k ∈ ([atXY (n + 1) base 0 0, atXY (n + 1) sp bw U] : List (Bx (n + 1))), Small (n + 1) k ∧ bCount (n + 1) k ≤ 1000000 from fun k hk => by
    simp only [List.mem_cons, List.not_mem_nil, or_false] at hk
    rcases hk with rfl | rfl
    · exact ⟨small_at HsB.out.1, Nat.le_trans (Nat.le_of_eq count_at) (Nat.le_trans HsB.out.2 (by omega))⟩
    · exact ⟨small_at HsU.out.1, Nat.le_trans (Nat.le_of_eq count_at) (Nat.le_trans HsU.out.2 (by omega))⟩
)
  have jW : I64 bw := by unfold I64; omega
  have jU : I64 U := by unfold I64; omega
  obtain ⟨u0, u1, u2, u3, u4, u5, u6, u7, u8, u9, u10, rfl⟩ := eleven huP.len
  clear hSh hrP hE hM hvR hb hl hv hF bW hu huP huv bU
  go_enter Try.func23, Try.ntmps23
  have hS := own_start w
  go_upto_region 1 with (first | (refine own_unguard (by rfl) ?_) | (refine w_ld rfl _ rfl (by rfl) (by first | exact rd_1 (by repeat constructor) (by first | rfl | assumption) | exact rd_w (by repeat constructor) (by rfl) | exact rd_o (by assumption) (by rfl) (by first | exact nmn | assumption | simp) | exact rd_h (by assumption) (by rfl) (by first | exact nmn | assumption | simp) | exact rd_1o (by assumption) (by first | exact nmn | assumption | simp) | exact rd_1h (by assumption) (by first | rfl | assumption) (by first | exact nmn | assumption | simp)) hS ?_) | (refine own_box rfl _ _ rfl (by rfl) hS ?_; clear hS; (try clear ww); intro bb ww hS) | (refine w_al rfl rfl hS ?_; clear hS; (try clear ww); intro bb ww hS) | (refine w_st rfl _ _ rfl (by rfl) (by rfl) (by repeat constructor) (by rfl) (by rfl) (by first | rfl | assumption) hS ?_; clear hS; (try clear ww); intro ww hS) | (refine w_s1 rfl _ _ rfl (by rfl) (by repeat constructor) (by first | exact .c | exact .t rfl) (by rfl) (by repeat constructor) hS ?_; clear hS; (try clear ww); intro ww hS))
  have HC0 := Lib.hid hS
  obtain ⟨D0, hD0, hs0, hS1⟩ := safe_start (R := P) hS hP
  have HS0 := Lib.hid hs0
  clear hS hs0
  have hS := hS1
  clear hS1
  go_wp2_with (first | (refine own_unguard (by rfl) ?_) | (go_at_call 44; refine own_calls hS (by first | exact HPc.out _ (chainH HC0.out hD0 hS).below) ?_; clear hS; (try clear ww); intro ww hS) | (go_at_call 39; refine own_calls hS (by first | exact HVb.out _ (chainH HC0.out hD0 hS).below) ?_; clear hS; (try clear ww); intro ww hS) | (go_at_call 45; refine own_calls hS (by first | exact HVu.out _ (chainH HC0.out hD0 hS).below | exact script_valid_0 _ _ _) ?_; clear hS; (try clear ww); intro ww hS) | (go_at_call 46; refine own_calls hS (by first | exact HSh.out _ (chainH HC0.out hD0 hS).below) ?_; clear hS; (try clear ww); intro ww hS) | (refine w_ld rfl _ rfl (by rfl) (by first | exact rd_1 (by repeat constructor) (by first | rfl | assumption) | exact rd_w (by repeat constructor) (by rfl) | exact rd_o (by assumption) (by rfl) (by first | exact nmn | assumption | simp) | exact rd_h (by assumption) (by rfl) (by first | exact nmn | assumption | simp) | exact rd_1o (by assumption) (by first | exact nmn | assumption | simp) | exact rd_1h (by assumption) (by first | rfl | assumption) (by first | exact nmn | assumption | simp)) hS ?_) | (refine own_box rfl _ _ rfl (by rfl) hS ?_; clear hS; (try clear ww); intro bb ww hS) | (refine w_al rfl rfl hS ?_; clear hS; (try clear ww); intro bb ww hS) | (refine w_st rfl _ _ rfl (by rfl) (by rfl) (by repeat constructor) (by rfl) (by rfl) (by first | rfl | assumption) hS ?_; clear hS; (try clear ww); intro ww hS) | (refine w_s1 rfl _ _ rfl (by rfl) (by repeat constructor) (by first | exact .c | exact .t rfl) (by rfl) (by repeat constructor) hS ?_; clear hS; (try clear ww); intro ww hS))
  go_at_call 47
  refine Calls.mono (box_At_I P n base _ 0 0 _ (repP_step HrP.out (chainH HC0.out hD0 hS).below) i64_0 i64_0 HsB.out.1.1) ?_
  rintro e w3 ⟨cs3, rfl, hr3, hb3⟩
  obtain ⟨P1, D1, hD1, hPP1, hs1, q1, hS1, hC1⟩ := own_give HS0.out hS hr3 hb3 (bself _)
  have HC1 := Lib.hid (chainH HC0.out hD0 hC1)
  have HS1 := Lib.hid hs1
  have Q1 := Lib.hid q1
  obtain ⟨e0, e1, e2, e3, e4, e5, e6, e7, e8, e9, e10, rfl⟩ := eleven q1.len
  clear hS hs1 hr3 hb3 hC1 q1
  (try clear ww)
  have hS := hS1
  clear hS1
  go_wp2_with (first | (refine own_unguard (by rfl) ?_) | (refine own_buildSlice rfl _ _ 1 _ rfl [e0, e1, e2, e3, e4, e5, e6, e7, e8, e9, e10] hS Try.underlying30 (by kernel_rfl) ?_; clear hS; (try clear ww); intro bs ww hS) | (refine w_ld rfl _ rfl (by rfl) (by first | exact rd_1 (by repeat constructor) (by first | rfl | assumption) | exact rd_w (by repeat constructor) (by rfl) | exact rd_o (by assumption) (by rfl) (by first | exact nmn | assumption | simp) | exact rd_h (by assumption) (by rfl) (by first | exact nmn | assumption | simp) | exact rd_1o (by assumption) (by first | exact nmn | assumption | simp) | exact rd_1h (by assumption) (by first | rfl | assumption) (by first | exact nmn | assumption | simp)) hS ?_) | (refine own_box rfl _ _ rfl (by rfl) hS ?_; clear hS; (try clear ww); intro bb ww hS) | (refine w_al rfl rfl hS ?_; clear hS; (try clear ww); intro bb ww hS) | (refine w_st rfl _ _ rfl (by rfl) (by rfl) (by repeat constructor) (by rfl) (by rfl) (by first | rfl | assumption) hS ?_; clear hS; (try clear ww); intro ww hS) | (refine w_s1 rfl _ _ rfl (by rfl) (by repeat constructor) (by first | exact .c | exact .t rfl) (by rfl) (by repeat constructor) hS ?_; clear hS; (try clear ww); intro ww hS))
  refine wp_loop_rounds 1 ?_
  rw [rounds_succ]
  go_wp2_with (first | (refine own_unguard (by rfl) ?_) | (refine w_ld rfl _ rfl (by rfl) (by first | exact rd_1 (by repeat constructor) (by first | rfl | assumption) | exact rd_w (by repeat constructor) (by rfl) | exact rd_o (by assumption) (by rfl) (by first | exact nmn | assumption | simp) | exact rd_h (by assumption) (by rfl) (by first | exact nmn | assumption | simp) | exact rd_1o (by assumption) (by first | exact nmn | assumption | simp) | exact rd_1h (by assumption) (by first | rfl | assumption) (by first | exact nmn | assumption | simp)) hS ?_) | (refine own_box rfl _ _ rfl (by rfl) hS ?_; clear hS; (try clear ww); intro bb ww hS) | (refine w_al rfl rfl hS ?_; clear hS; (try clear ww); intro bb ww hS) | (refine w_st rfl _ _ rfl (by rfl) (by rfl) (by repeat constructor) (by rfl) (by rfl) (by first | rfl | assumption) hS ?_; clear hS; (try clear ww); intro ww hS) | (refine w_s1 rfl _ _ rfl (by rfl) (by repeat constructor) (by first | exact .c | exact .t rfl) (by rfl) (by repeat constructor) hS ?_; clear hS; (try clear ww); intro ww hS))
  refine wp_loop_rounds 2 ?_
  rw [rounds_succ]
  have g2 := rangeAt_below Hu.out HC1.out.below
  have n2 := HS1.out.old _ luk
  go_wp2_with (first | (refine own_unguard (by rfl) ?_) | (refine w_ld rfl _ rfl (by rfl) (by first | exact rd_1 (by repeat constructor) (by first | rfl | assumption) | exact rd_w (by repeat constructor) (by rfl) | exact rd_o (by assumption) (by rfl) (by first | exact nmn | assumption | simp) | exact rd_h (by assumption) (by rfl) (by first | exact nmn | assumption | simp) | exact rd_1o (by assumption) (by first | exact nmn | assumption | simp) | exact rd_1h (by assumption) (by first | rfl | assumption) (by first | exact nmn | assumption | simp)) hS ?_) | (refine own_box rfl _ _ rfl (by rfl) hS ?_; clear hS; (try clear ww); intro bb ww hS) | (refine w_al rfl rfl hS ?_; clear hS; (try clear ww); intro bb ww hS) | (refine w_st rfl _ _ rfl (by rfl) (by rfl) (by repeat constructor) (by rfl) (by rfl) (by first | rfl | assumption) hS ?_; clear hS; (try clear ww); intro ww hS) | (refine w_s1 rfl _ _ rfl (by rfl) (by repeat constructor) (by first | exact .c | exact .t rfl) (by rfl) (by repeat constructor) hS ?_; clear hS; (try clear ww); intro ww hS))
  go_at_call 47
  refine Calls.mono (box_At_I P1 n sp _ (bw) (U) _ (repP_mono (repP_step HuP.out (chainH HC1.out hD1 hS).below) hPP1) jW jU HsU.out.1.1) ?_
  rintro e w20 ⟨cs4, rfl, hr4, hb4⟩
  obtain ⟨P2, D2, hD2, hPP2, hs2, q2, hS2, hC2⟩ := own_give HS1.out hS hr4 hb4 (bself _)
  have HC2 := Lib.hid (chainH HC1.out hD1 hC2)
  have HS2 := Lib.hid hs2
  have Q2 := Lib.hid q2
  have Q12 := Lib.hid (repP_mono (HS1.out.turn Q1.out hC2) hPP2)
  have hall2 := rep_all q2
  obtain ⟨h0, h1, h2, h3, h4, h5, h6, h7, h8, h9, h10, rfl⟩ := eleven q2.len
  clear hS hs2 hr4 hb4 hC2 q2
  (try clear ww)
  have hS := hS2
  clear hS2
  go_wp2_with (first | (refine own_unguard (by rfl) ?_) | (refine own_buildSlice rfl _ _ 1 _ rfl [h0, h1, h2, h3, h4, h5, h6, h7, h8, h9, h10] hS Try.underlying30 (by kernel_rfl) ?_; clear hS; (try clear ww); intro bn ww hS) | (refine own_append_new (n := 1) (xs := [e0, e1, e2, e3, e4, e5, e6, e7, e8, e9, e10]) (X := [(bs, [e0, e1, e2, e3, e4, e5, e6, e7, e8, e9, e10])]) (L := [_, _, _, _, _]) rfl _ _ _ rfl ⟨rfl, .inr ⟨bs, 1, [], rfl, Nat.le_refl _, by simp [maxLen], rfl, rfl⟩⟩ rfl rfl (hS.perm (perm_row _ _ _ _)) rfl hall2 el_box (by decide) (by simp only [maxLen]; omega) (by omega) ?_; clear hS; (try clear ww); intro v1 X1 ww hS hX1; obtain ⟨y1, k1, rfl⟩ := hX1.slice; simp only [List.cons_append, List.nil_append] at hS) | (refine w_ld rfl _ rfl (by rfl) (by first | exact rd_1 (by repeat constructor) (by first | rfl | assumption) | exact rd_w (by repeat constructor) (by rfl) | exact rd_o (by assumption) (by rfl) (by first | exact nmn | assumption | simp) | exact rd_h (by assumption) (by rfl) (by first | exact nmn | assumption | simp) | exact rd_1o (by assumption) (by first | exact nmn | assumption | simp) | exact rd_1h (by assumption) (by first | rfl | assumption) (by first | exact nmn | assumption | simp)) hS ?_) | (refine own_box rfl _ _ rfl (by rfl) hS ?_; clear hS; (try clear ww); intro bb ww hS) | (refine w_al rfl rfl hS ?_; clear hS; (try clear ww); intro bb ww hS) | (refine w_st rfl _ _ rfl (by rfl) (by rfl) (by repeat constructor) (by rfl) (by rfl) (by first | rfl | assumption) hS ?_; clear hS; (try clear ww); intro ww hS) | (refine w_s1 rfl _ _ rfl (by rfl) (by repeat constructor) (by first | exact .c | exact .t rfl) (by rfl) (by repeat constructor) hS ?_; clear hS; (try clear ww); intro ww hS))
  rw [rounds_succ]
  go_wp2_with (first | (refine own_unguard (by rfl) ?_) | (refine w_ld rfl _ rfl (by rfl) (by first | exact rd_1 (by repeat constructor) (by first | rfl | assumption) | exact rd_w (by repeat constructor) (by rfl) | exact rd_o (by assumption) (by rfl) (by first | exact nmn | assumption | simp) | exact rd_h (by assumption) (by rfl) (by first | exact nmn | assumption | simp) | exact rd_1o (by assumption) (by first | exact nmn | assumption | simp) | exact rd_1h (by assumption) (by first | rfl | assumption) (by first | exact nmn | assumption | simp)) hS ?_) | (refine own_box rfl _ _ rfl (by rfl) hS ?_; clear hS; (try clear ww); intro bb ww hS) | (refine w_al rfl rfl hS ?_; clear hS; (try clear ww); intro bb ww hS) | (refine w_st rfl _ _ rfl (by rfl) (by rfl) (by repeat constructor) (by rfl) (by rfl) (by first | rfl | assumption) hS ?_; clear hS; (try clear ww); intro ww hS) | (refine w_s1 rfl _ _ rfl (by rfl) (by repeat constructor) (by first | exact .c | exact .t rfl) (by rfl) (by repeat constructor) hS ?_; clear hS; (try clear ww); intro ww hS))
  have hrow : RepLP P2 _ (n + 1) y1 [atXY (n + 1) base 0 0, atXY (n + 1) sp bw U] := sl_kids hS (fun x hx => by simp [hx]) hX1 rfl ⟨_, _, rfl, HS2.out.turn Q12.out hS, ⟨_, [], by simp, HS2.out.turn Q2.out hS, rfl⟩⟩
  go_at_call 48
  refine own_calls hS (ext_E HE.out _ k1 _ (repLP_L hrow) HM.out (by simp)) ?_
  clear hS hrow
  (try clear ww)
  intro ww hS
  go_wp2_with (first | (refine own_unguard (by rfl) ?_) | (refine w_ld rfl _ rfl (by rfl) (by first | exact rd_1 (by repeat constructor) (by first | rfl | assumption) | exact rd_w (by repeat constructor) (by rfl) | exact rd_o (by assumption) (by rfl) (by first | exact nmn | assumption | simp) | exact rd_h (by assumption) (by rfl) (by first | exact nmn | assumption | simp) | exact rd_1o (by assumption) (by first | exact nmn | assumption | simp) | exact rd_1h (by assumption) (by first | rfl | assumption) (by first | exact nmn | assumption | simp)) hS ?_) | (refine own_box rfl _ _ rfl (by rfl) hS ?_; clear hS; (try clear ww); intro bb ww hS) | (refine w_al rfl rfl hS ?_; clear hS; (try clear ww); intro bb ww hS) | (refine w_st rfl _ _ rfl (by rfl) (by rfl) (by repeat constructor) (by rfl) (by rfl) (by first | rfl | assumption) hS ?_; clear hS; (try clear ww); intro ww hS) | (refine w_s1 rfl _ _ rfl (by rfl) (by repeat constructor) (by first | exact .c | exact .t rfl) (by rfl) (by repeat constructor) hS ?_; clear hS; (try clear ww); intro ww hS))
  have hrow : RepLP P2 _ (n + 1) y1 [atXY (n + 1) base 0 0, atXY (n + 1) sp bw U] := sl_kids hS (fun x hx => by simp [hx]) hX1 rfl ⟨_, _, rfl, HS2.out.turn Q12.out hS, ⟨_, [], by simp, HS2.out.turn Q2.out hS, rfl⟩⟩
  go_at_call 49
  refine Calls.mono (box_List_I P2 (n + 1) [atXY (n + 1) base 0 0, atXY (n + 1) sp bw U] _ k1 E.r E.h E.d _ hrow HSm.out (by simp) iE.1 iE.2.1 iE.2.2) ?_
  rintro e wA ⟨csA, rfl, hrA, hbA⟩
  obtain ⟨PA, DA, hDA, hPPA, hsA, qA, hS2, hC2⟩ := own_give HS2.out hS hrA hbA (bself _)
  have HCA := Lib.hid (chainH HC2.out hD2 hC2)
  have HSA := Lib.hid hsA
  have QA := Lib.hid qA
  have hallA := rep_all qA
  obtain ⟨g0, g1, g2, g3, g4, g5, g6, g7, g8, g9, g10, rfl⟩ := eleven qA.len
  clear hS hrA hbA hsA qA hC2 hrow
  (try clear ww)
  have hS := hS2
  clear hS2
  have HVR := Lib.hid (fun (ww : World) (L' : List (Nat × List Value)) (h : Own DA wA L' ww) => box_Valid_calls (n + 2) _ _ ww (HSA.out.turn QA.out h).rep (HSA.out.turn QA.out h).rep.wide _ (iff_t HvR.out))
  go_wp2_with (first | (refine own_unguard (by rfl) ?_) | (go_at_call 39; refine own_calls hS (HVR.out _ _ hS) ?_; clear hS; (try clear ww); intro ww hS) | (refine w_ld rfl _ rfl (by rfl) (by first | exact rd_1 (by repeat constructor) (by first | rfl | assumption) | exact rd_w (by repeat constructor) (by rfl) | exact rd_o (by assumption) (by rfl) (by first | exact nmn | assumption | simp) | exact rd_h (by assumption) (by rfl) (by first | exact nmn | assumption | simp) | exact rd_1o (by assumption) (by first | exact nmn | assumption | simp) | exact rd_1h (by assumption) (by first | rfl | assumption) (by first | exact nmn | assumption | simp)) hS ?_) | (refine own_box rfl _ _ rfl (by rfl) hS ?_; clear hS; (try clear ww); intro bb ww hS) | (refine w_al rfl rfl hS ?_; clear hS; (try clear ww); intro bb ww hS) | (refine w_st rfl _ _ rfl (by rfl) (by rfl) (by repeat constructor) (by rfl) (by rfl) (by first | rfl | assumption) hS ?_; clear hS; (try clear ww); intro ww hS) | (refine w_s1 rfl _ _ rfl (by rfl) (by repeat constructor) (by first | exact .c | exact .t rfl) (by rfl) (by repeat constructor) hS ?_; clear hS; (try clear ww); intro ww hS))
  have hc := (hS.get at2).cell
  refine bodyPost_ret (v := .tuple #[.agg #[g0, g1, g2, g3, g4, g5, g6, g7, g8, g9, g10], .int .i64 0]) (by simp [results, Try.results23, go_sem, hc]) rfl ⟨_, rfl, HSA.out.ends QA.out hS, (chainH HCA.out hDA hS).below⟩

end Go.Proofs.Ytgpabckipmhobaa
