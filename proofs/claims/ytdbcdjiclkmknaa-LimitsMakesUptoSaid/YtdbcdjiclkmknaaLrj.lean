/- Limits: the reference's Make, joined; what both return. -/
import Derived.Test.YtdbcdjiclkmknaaLr0
import Derived.Test.YtdbcdjiclkmknaaLrz00
import Derived.Test.YtdbcdjiclkmknaaLrz01
import Derived.Test.YtdbcdjiclkmknaaLrz10
import Derived.Test.YtdbcdjiclkmknaaLrz11
import Derived.Test.YtdbcdjiclkmknaaK29
namespace Go.Proofs.Ytdbcdjiclkmknaa
open Go.RowKit

attribute [local irreducible] wpQuiet wpG wpP wpK wpList Code.wp Calls

theorem one35L {w : World} {n : Nat} {x : Option Addr} {b : Bx n} (h : RepL w n x [b]) : ∃ k o css, x = some ⟨k, o, none⟩ ∧ w.rangeAt k o css ∧ Rep w n b css := by
  obtain ⟨k, o, css, rfl, hr, hp⟩ := h 0 b rfl
  rw [Nat.zero_mul, Nat.add_zero] at hr
  exact ⟨k, o, css, rfl, hr, hp⟩
theorem repLP_oldR {w : World} {n : Nat} {x : Option Addr} {l : List (Bx n)} (h : RepL w n x l) : RepLP (fun k => k < w.heap.size) w n x l := fun i kid hi => by
  obtain ⟨k, o, css, e, hr, hp⟩ := h i kid hi
  exact ⟨k, o, css, e, hr, repP_old hp⟩
theorem chk_of_scr {F : Fnt} {l : Int} {n : Nat} {base : Bx (n + 1)} {subs sups : List (Bx (n + 1))} (h : ScrOk F l n base subs sups) : ChkOk F l (n + 1) (base :: (subs ++ sups)) :=
  ⟨h.1, h.2.1, fun k hk => by
    rcases List.mem_cons.1 hk with rfl | hk
    · exact h.2.2.1
    · rcases List.mem_append.1 hk with hk | hk
      · exact h.2.2.2.1.2 k hk
      · exact h.2.2.2.2.2 k hk⟩
theorem limB_count {F : Fnt} {l : Int} {n : Nat} {base : Bx (n + 1)} {subs sups : List (Bx (n + 1))} (h1 : subs.length ≤ 1) (h2 : sups.length ≤ 1) (hc : ∀ k ∈ base :: (subs ++ sups), bCount (n + 1) k ≤ 200) : bCount (n + 2) (limB F l n base subs sups) ≤ 1000000 := by
  have h0 := hc base (by simp)
  rcases subs with _ | ⟨sb, _ | ⟨x, subs⟩⟩
  · rcases sups with _ | ⟨sp, _ | ⟨y, sups⟩⟩
    · have c2 : bCount (n + 2) (limB F l n base [] []) = 1 + (bCount (n + 1) base + 0) := rfl
      omega
    · have c2 : bCount (n + 2) (limB F l n base [] [sp]) = 1 + (bCount (n + 1) base + (bCount (n + 1) sp + 0)) := rfl
      have h4 := hc sp (by simp)
      omega
    · simp at h2
  · rcases sups with _ | ⟨sp, _ | ⟨y, sups⟩⟩
    · have c2 : bCount (n + 2) (limB F l n base [sb] []) = 1 + (bCount (n + 1) base + (bCount (n + 1) sb + 0)) := rfl
      have h3 := hc sb (by simp)
      omega
    · have c2 : bCount (n + 2) (limB F l n base [sb] [sp]) = 1 + (bCount (n + 1) base + (bCount (n + 1) sb + (bCount (n + 1) sp + 0))) := rfl
      have h3 := hc sb (by simp)
      have h4 := hc sp (by simp)
      omega
    · simp at h2
  · simp at h1

set_option maxHeartbeats 4000000 in
theorem refLim_both (F : Fnt) (l : Int) (c : Bool) (n m : Nat) (base : Bx (n + 1)) (subs sups : List (Bx (n + 1))) (cs : List Value) (sx ux : Option Addr) (sc uc : Nat) (w : World) (hq : F.gs.length ≤ 500 ∧ F.ss.length ≤ 50) (hF : FntOk w F) (hr : Rep w (n + 1) base cs) (hs : RepL w (n + 1) sx subs) (hu : RepL w (n + 1) ux sups) (h : ScrOk F l n base subs sups) (hc : ∀ k ∈ base :: (subs ++ sups), bCount (n + 1) k ≤ 1000000) (hcR : bCount (n + 2) (limB F l n base subs sups) ≤ 1000000) : Calls Try.prog 11 #[F.val, .agg #[.int .i64 l, .bool c], .agg cs.toArray, .slice sx subs.length sc, .slice ux sups.length uc] w (fun e w' => (validB (n + 2) (limB F l n base subs sups) → GivesBE (n + 2) (limB F l n base subs sups) 0 w e w') ∧ (¬ validB (n + 2) (limB F l n base subs sups) → GivesBE (m + 1) (zeroB m) 6 w e w')) := by
  have hk := chk_of_scr h
  have vb := vlens h.2.2.1
  obtain ⟨⟨bk, bn, bz, bw, bh, bd, bx, by_, bo, bs⟩, bks⟩ := base
  obtain ⟨kx, kc, tx, tc, rfl, _⟩ := rep_out hr
  rcases subs with _ | ⟨sb, _ | ⟨x, subs⟩⟩
  · rcases sups with _ | ⟨sp, _ | ⟨y, sups⟩⟩
    · exact refLim_m00 (F := F) (l := l) (c := c) (n := n) (m := m) (w := w) (W := (limW n ((⟨bk, bn, bz, bw, bh, bd, bx, by_, bo, bs⟩, bks) : Bx (n + 1)) [] [])) (L := (limL F n ((⟨bk, bn, bz, bw, bh, bd, bx, by_, bo, bs⟩, bks) : Bx (n + 1)) [] [])) (E := (limE F n ((⟨bk, bn, bz, bw, bh, bd, bx, by_, bo, bs⟩, bks) : Bx (n + 1)) [] [])) (h := limI F n ((⟨bk, bn, bz, bw, bh, bd, bx, by_, bo, bs⟩, bks) : Bx (n + 1))) (X0 := lmX0 (limW n ((⟨bk, bn, bz, bw, bh, bd, bx, by_, bo, bs⟩, bks) : Bx (n + 1)) [] []) bw - (limL F n ((⟨bk, bn, bz, bw, bh, bd, bx, by_, bo, bs⟩, bks) : Bx (n + 1)) [] [])) (p0 := lmX0 (limW n ((⟨bk, bn, bz, bw, bh, bd, bx, by_, bo, bs⟩, bks) : Bx (n + 1)) [] []) bw) (hF := hF) (hq := hq) (hr := hr) (hs := hs) (hu := hu) (hk := hk) (hc := hc) (eIT := rfl) (eh := rfl) (iw := vb.1) (ib := vb.2) (eA0 := rfl) (eW := rfl) (e10 := rfl) (ep0 := rfl) (eL0 := rfl) (eL := rfl) (eX0 := rfl) (eC0 := rfl) (eE := rfl) (hcR := hcR) ..
    · have vu := vlens (h.2.2.2.2.2 sp (by simp))
      obtain ⟨uk, uo, us, rfl, hu1, hu2⟩ := one35L hu
      obtain ⟨⟨uk', un, uz, uw, uh, ud, ux', uy, uf, usr⟩, uks⟩ := sp
      obtain ⟨_, _, _, _, rfl, _⟩ := rep_out hu2
      exact refLim_m01 (F := F) (l := l) (c := c) (n := n) (m := m) (w := w) (W := (limW n ((⟨bk, bn, bz, bw, bh, bd, bx, by_, bo, bs⟩, bks) : Bx (n + 1)) [] [((⟨uk', un, uz, uw, uh, ud, ux', uy, uf, usr⟩, uks) : Bx (n + 1))])) (L := (limL F n ((⟨bk, bn, bz, bw, bh, bd, bx, by_, bo, bs⟩, bks) : Bx (n + 1)) [] [((⟨uk', un, uz, uw, uh, ud, ux', uy, uf, usr⟩, uks) : Bx (n + 1))])) (E := (limE F n ((⟨bk, bn, bz, bw, bh, bd, bx, by_, bo, bs⟩, bks) : Bx (n + 1)) [] [((⟨uk', un, uz, uw, uh, ud, ux', uy, uf, usr⟩, uks) : Bx (n + 1))])) (h := limI F n ((⟨bk, bn, bz, bw, bh, bd, bx, by_, bo, bs⟩, bks) : Bx (n + 1))) (X0 := lmX0 (limW n ((⟨bk, bn, bz, bw, bh, bd, bx, by_, bo, bs⟩, bks) : Bx (n + 1)) [] [((⟨uk', un, uz, uw, uh, ud, ux', uy, uf, usr⟩, uks) : Bx (n + 1))]) bw - (limL F n ((⟨bk, bn, bz, bw, bh, bd, bx, by_, bo, bs⟩, bks) : Bx (n + 1)) [] [((⟨uk', un, uz, uw, uh, ud, ux', uy, uf, usr⟩, uks) : Bx (n + 1))])) (X2' := lmX2 (limW n ((⟨bk, bn, bz, bw, bh, bd, bx, by_, bo, bs⟩, bks) : Bx (n + 1)) [] [((⟨uk', un, uz, uw, uh, ud, ux', uy, uf, usr⟩, uks) : Bx (n + 1))]) (limI F n ((⟨bk, bn, bz, bw, bh, bd, bx, by_, bo, bs⟩, bks) : Bx (n + 1))) uw - (limL F n ((⟨bk, bn, bz, bw, bh, bd, bx, by_, bo, bs⟩, bks) : Bx (n + 1)) [] [((⟨uk', un, uz, uw, uh, ud, ux', uy, uf, usr⟩, uks) : Bx (n + 1))])) (q2 := lmX2 (limW n ((⟨bk, bn, bz, bw, bh, bd, bx, by_, bo, bs⟩, bks) : Bx (n + 1)) [] [((⟨uk', un, uz, uw, uh, ud, ux', uy, uf, usr⟩, uks) : Bx (n + 1))]) (limI F n ((⟨bk, bn, bz, bw, bh, bd, bx, by_, bo, bs⟩, bks) : Bx (n + 1))) uw) (p0 := lmX0 (limW n ((⟨bk, bn, bz, bw, bh, bd, bx, by_, bo, bs⟩, bks) : Bx (n + 1)) [] [((⟨uk', un, uz, uw, uh, ud, ux', uy, uf, usr⟩, uks) : Bx (n + 1))]) bw) (hF := hF) (hq := hq) (hr := hr) (hs := hs) (hu := hu) (hu1 := hu1) (hu2 := hu2) (hk := hk) (hc := hc) (eIT := rfl) (eh := rfl) (iw := vb.1) (ib := vb.2) (eA0 := rfl) (eA2 := rfl) (eW := rfl) (e10 := rfl) (ep0 := rfl) (iu := vu.1) (iv := vu.2) (e11 := rfl) (ep2 := rfl) (eq2 := rfl) (eu := rfl) (epp := rfl) (eH := rfl) (eL0 := rfl) (eL2 := rfl) (eL := rfl) (eX0 := rfl) (eX2 := rfl) (eC0 := rfl) (eC2 := rfl) (eE := rfl) (hcR := hcR) ..
    · have := h.2.2.2.2.1; simp at this
  · rcases sups with _ | ⟨sp, _ | ⟨y, sups⟩⟩
    · have vs := vlens (h.2.2.2.1.2 sb (by simp))
      obtain ⟨sk, so, ss, rfl, hs1, hs2⟩ := one35L hs
      obtain ⟨⟨sk', sn, sz, sw, sh, sd, sx', sy, sf, ssr⟩, sks⟩ := sb
      obtain ⟨_, _, _, _, rfl, _⟩ := rep_out hs2
      exact refLim_m10 (F := F) (l := l) (c := c) (n := n) (m := m) (w := w) (W := (limW n ((⟨bk, bn, bz, bw, bh, bd, bx, by_, bo, bs⟩, bks) : Bx (n + 1)) [((⟨sk', sn, sz, sw, sh, sd, sx', sy, sf, ssr⟩, sks) : Bx (n + 1))] [])) (L := (limL F n ((⟨bk, bn, bz, bw, bh, bd, bx, by_, bo, bs⟩, bks) : Bx (n + 1)) [((⟨sk', sn, sz, sw, sh, sd, sx', sy, sf, ssr⟩, sks) : Bx (n + 1))] [])) (E := (limE F n ((⟨bk, bn, bz, bw, bh, bd, bx, by_, bo, bs⟩, bks) : Bx (n + 1)) [((⟨sk', sn, sz, sw, sh, sd, sx', sy, sf, ssr⟩, sks) : Bx (n + 1))] [])) (h := limI F n ((⟨bk, bn, bz, bw, bh, bd, bx, by_, bo, bs⟩, bks) : Bx (n + 1))) (X0 := lmX0 (limW n ((⟨bk, bn, bz, bw, bh, bd, bx, by_, bo, bs⟩, bks) : Bx (n + 1)) [((⟨sk', sn, sz, sw, sh, sd, sx', sy, sf, ssr⟩, sks) : Bx (n + 1))] []) bw - (limL F n ((⟨bk, bn, bz, bw, bh, bd, bx, by_, bo, bs⟩, bks) : Bx (n + 1)) [((⟨sk', sn, sz, sw, sh, sd, sx', sy, sf, ssr⟩, sks) : Bx (n + 1))] [])) (X1 := lmX1 (limW n ((⟨bk, bn, bz, bw, bh, bd, bx, by_, bo, bs⟩, bks) : Bx (n + 1)) [((⟨sk', sn, sz, sw, sh, sd, sx', sy, sf, ssr⟩, sks) : Bx (n + 1))] []) (limI F n ((⟨bk, bn, bz, bw, bh, bd, bx, by_, bo, bs⟩, bks) : Bx (n + 1))) sw - (limL F n ((⟨bk, bn, bz, bw, bh, bd, bx, by_, bo, bs⟩, bks) : Bx (n + 1)) [((⟨sk', sn, sz, sw, sh, sd, sx', sy, sf, ssr⟩, sks) : Bx (n + 1))] [])) (q1 := lmX1 (limW n ((⟨bk, bn, bz, bw, bh, bd, bx, by_, bo, bs⟩, bks) : Bx (n + 1)) [((⟨sk', sn, sz, sw, sh, sd, sx', sy, sf, ssr⟩, sks) : Bx (n + 1))] []) (limI F n ((⟨bk, bn, bz, bw, bh, bd, bx, by_, bo, bs⟩, bks) : Bx (n + 1))) sw) (p0 := lmX0 (limW n ((⟨bk, bn, bz, bw, bh, bd, bx, by_, bo, bs⟩, bks) : Bx (n + 1)) [((⟨sk', sn, sz, sw, sh, sd, sx', sy, sf, ssr⟩, sks) : Bx (n + 1))] []) bw) (hF := hF) (hq := hq) (hr := hr) (hs := hs) (hs1 := hs1) (hs2 := hs2) (hu := hu) (hk := hk) (hc := hc) (eIT := rfl) (eh := rfl) (iw := vb.1) (ib := vb.2) (eA0 := rfl) (eA1 := rfl) (eW := rfl) (e10 := rfl) (ep0 := rfl) (is_ := vs.1) (it := vs.2) (e17 := rfl) (ep1 := rfl) (eq1 := rfl) (et := rfl) (en := rfl) (eD := rfl) (eL0 := rfl) (eL1 := rfl) (eL := rfl) (eX0 := rfl) (eX1 := rfl) (eC0 := rfl) (eC1 := rfl) (eE := rfl) (hcR := hcR) ..
    · have vs := vlens (h.2.2.2.1.2 sb (by simp))
      obtain ⟨sk, so, ss, rfl, hs1, hs2⟩ := one35L hs
      obtain ⟨⟨sk', sn, sz, sw, sh, sd, sx', sy, sf, ssr⟩, sks⟩ := sb
      obtain ⟨_, _, _, _, rfl, _⟩ := rep_out hs2
      have vu := vlens (h.2.2.2.2.2 sp (by simp))
      obtain ⟨uk, uo, us, rfl, hu1, hu2⟩ := one35L hu
      obtain ⟨⟨uk', un, uz, uw, uh, ud, ux', uy, uf, usr⟩, uks⟩ := sp
      obtain ⟨_, _, _, _, rfl, _⟩ := rep_out hu2
      exact refLim_m11 (F := F) (l := l) (c := c) (n := n) (m := m) (w := w) (W := (limW n ((⟨bk, bn, bz, bw, bh, bd, bx, by_, bo, bs⟩, bks) : Bx (n + 1)) [((⟨sk', sn, sz, sw, sh, sd, sx', sy, sf, ssr⟩, sks) : Bx (n + 1))] [((⟨uk', un, uz, uw, uh, ud, ux', uy, uf, usr⟩, uks) : Bx (n + 1))])) (L := (limL F n ((⟨bk, bn, bz, bw, bh, bd, bx, by_, bo, bs⟩, bks) : Bx (n + 1)) [((⟨sk', sn, sz, sw, sh, sd, sx', sy, sf, ssr⟩, sks) : Bx (n + 1))] [((⟨uk', un, uz, uw, uh, ud, ux', uy, uf, usr⟩, uks) : Bx (n + 1))])) (E := (limE F n ((⟨bk, bn, bz, bw, bh, bd, bx, by_, bo, bs⟩, bks) : Bx (n + 1)) [((⟨sk', sn, sz, sw, sh, sd, sx', sy, sf, ssr⟩, sks) : Bx (n + 1))] [((⟨uk', un, uz, uw, uh, ud, ux', uy, uf, usr⟩, uks) : Bx (n + 1))])) (h := limI F n ((⟨bk, bn, bz, bw, bh, bd, bx, by_, bo, bs⟩, bks) : Bx (n + 1))) (X0 := lmX0 (limW n ((⟨bk, bn, bz, bw, bh, bd, bx, by_, bo, bs⟩, bks) : Bx (n + 1)) [((⟨sk', sn, sz, sw, sh, sd, sx', sy, sf, ssr⟩, sks) : Bx (n + 1))] [((⟨uk', un, uz, uw, uh, ud, ux', uy, uf, usr⟩, uks) : Bx (n + 1))]) bw - (limL F n ((⟨bk, bn, bz, bw, bh, bd, bx, by_, bo, bs⟩, bks) : Bx (n + 1)) [((⟨sk', sn, sz, sw, sh, sd, sx', sy, sf, ssr⟩, sks) : Bx (n + 1))] [((⟨uk', un, uz, uw, uh, ud, ux', uy, uf, usr⟩, uks) : Bx (n + 1))])) (X1 := lmX1 (limW n ((⟨bk, bn, bz, bw, bh, bd, bx, by_, bo, bs⟩, bks) : Bx (n + 1)) [((⟨sk', sn, sz, sw, sh, sd, sx', sy, sf, ssr⟩, sks) : Bx (n + 1))] [((⟨uk', un, uz, uw, uh, ud, ux', uy, uf, usr⟩, uks) : Bx (n + 1))]) (limI F n ((⟨bk, bn, bz, bw, bh, bd, bx, by_, bo, bs⟩, bks) : Bx (n + 1))) sw - (limL F n ((⟨bk, bn, bz, bw, bh, bd, bx, by_, bo, bs⟩, bks) : Bx (n + 1)) [((⟨sk', sn, sz, sw, sh, sd, sx', sy, sf, ssr⟩, sks) : Bx (n + 1))] [((⟨uk', un, uz, uw, uh, ud, ux', uy, uf, usr⟩, uks) : Bx (n + 1))])) (q1 := lmX1 (limW n ((⟨bk, bn, bz, bw, bh, bd, bx, by_, bo, bs⟩, bks) : Bx (n + 1)) [((⟨sk', sn, sz, sw, sh, sd, sx', sy, sf, ssr⟩, sks) : Bx (n + 1))] [((⟨uk', un, uz, uw, uh, ud, ux', uy, uf, usr⟩, uks) : Bx (n + 1))]) (limI F n ((⟨bk, bn, bz, bw, bh, bd, bx, by_, bo, bs⟩, bks) : Bx (n + 1))) sw) (X2' := lmX2 (limW n ((⟨bk, bn, bz, bw, bh, bd, bx, by_, bo, bs⟩, bks) : Bx (n + 1)) [((⟨sk', sn, sz, sw, sh, sd, sx', sy, sf, ssr⟩, sks) : Bx (n + 1))] [((⟨uk', un, uz, uw, uh, ud, ux', uy, uf, usr⟩, uks) : Bx (n + 1))]) (limI F n ((⟨bk, bn, bz, bw, bh, bd, bx, by_, bo, bs⟩, bks) : Bx (n + 1))) uw - (limL F n ((⟨bk, bn, bz, bw, bh, bd, bx, by_, bo, bs⟩, bks) : Bx (n + 1)) [((⟨sk', sn, sz, sw, sh, sd, sx', sy, sf, ssr⟩, sks) : Bx (n + 1))] [((⟨uk', un, uz, uw, uh, ud, ux', uy, uf, usr⟩, uks) : Bx (n + 1))])) (q2 := lmX2 (limW n ((⟨bk, bn, bz, bw, bh, bd, bx, by_, bo, bs⟩, bks) : Bx (n + 1)) [((⟨sk', sn, sz, sw, sh, sd, sx', sy, sf, ssr⟩, sks) : Bx (n + 1))] [((⟨uk', un, uz, uw, uh, ud, ux', uy, uf, usr⟩, uks) : Bx (n + 1))]) (limI F n ((⟨bk, bn, bz, bw, bh, bd, bx, by_, bo, bs⟩, bks) : Bx (n + 1))) uw) (p0 := lmX0 (limW n ((⟨bk, bn, bz, bw, bh, bd, bx, by_, bo, bs⟩, bks) : Bx (n + 1)) [((⟨sk', sn, sz, sw, sh, sd, sx', sy, sf, ssr⟩, sks) : Bx (n + 1))] [((⟨uk', un, uz, uw, uh, ud, ux', uy, uf, usr⟩, uks) : Bx (n + 1))]) bw) (hF := hF) (hq := hq) (hr := hr) (hs := hs) (hs1 := hs1) (hs2 := hs2) (hu := hu) (hu1 := hu1) (hu2 := hu2) (hk := hk) (hc := hc) (eIT := rfl) (eh := rfl) (iw := vb.1) (ib := vb.2) (eA0 := rfl) (eA1 := rfl) (eA2 := rfl) (eW := rfl) (e10 := rfl) (ep0 := rfl) (is_ := vs.1) (it := vs.2) (e17 := rfl) (ep1 := rfl) (eq1 := rfl) (et := rfl) (en := rfl) (eD := rfl) (iu := vu.1) (iv := vu.2) (e11 := rfl) (ep2 := rfl) (eq2 := rfl) (eu := rfl) (epp := rfl) (eH := rfl) (eL0 := rfl) (eL1 := rfl) (eL2 := rfl) (eL := rfl) (eX0 := rfl) (eX1 := rfl) (eX2 := rfl) (eC0 := rfl) (eC1 := rfl) (eC2 := rfl) (eE := rfl) (hcR := hcR) ..
    · have := h.2.2.2.2.1; simp at this
  · have := h.2.2.2.1.1; simp at this

/-- What both return: a box and an error. -/
theorem lim_both (F : Fnt) (l : Int) (c : Bool) (n : Nat) (base : Bx (n + 1)) (subs sups : List (Bx (n + 1))) (cs : List Value) (sx ux : Option Addr) (sc uc : Nat) (w : World) (hq : F.gs.length ≤ 500 ∧ F.ss.length ≤ 50) (hF : FntOk w F) (hr : Rep w (n + 1) base cs) (hs : RepL w (n + 1) sx subs) (hu : RepL w (n + 1) ux sups) (b1 : subs.length ≤ 7) (b2 : sups.length ≤ 7) (hc : ∀ k ∈ base :: (subs ++ sups), bCount (n + 1) k ≤ 200) : ∃ (R : Bx (n + 2)) (e : Int), Small (n + 2) R ∧
      (∀ w', Below w.heap.size w w' → Calls Try.prog 10 #[F.val, .agg #[.int .i64 l, .bool c], .agg cs.toArray, .slice sx subs.length sc, .slice ux sups.length uc] w' (GivesBE (n + 2) R e w')) ∧
      (∀ w', Below w.heap.size w w' → Calls Try.prog 11 #[F.val, .agg #[.int .i64 l, .bool c], .agg cs.toArray, .slice sx subs.length sc, .slice ux sups.length uc] w' (GivesBE (n + 2) R e w')) := by
  have hc' : ∀ k ∈ base :: (subs ++ sups), bCount (n + 1) k ≤ 1000000 := fun k hk => by have := hc k hk; omega
  by_cases h : ScrOk F l n base subs sups
  · have hcR := limB_count (F := F) (l := l) h.2.2.2.1.1 h.2.2.2.2.1 hc
    by_cases hR : validB (n + 2) (limB F l n base subs sups)
    · exact ⟨_, 0, (validB_small hR).1, fun w' hb => (limMake_ok (fun k => k < w'.heap.size) F l c n 0 base subs sups cs sx ux sc uc w' (hF.below hb) (fun _ h => h) (repP_old (hr.step hb)) (repLP_oldR (hs.step hb)) (repLP_oldR (hu.step hb)) h hR).mono (fun _ _ ⟨cs', he, hp, hb2⟩ => ⟨cs', he, hp.rep, hb2⟩),
        fun w' hb => (refLim_both F l c n 0 base subs sups cs sx ux sc uc w' hq (hF.below hb) (hr.step hb) (hs.step hb) (hu.step hb) h hc' hcR).mono fun _ _ h2 => h2.1 hR⟩
    · exact ⟨zeroB (n + 1), 6, ⟨Nat.zero_le _, Nat.zero_le _, fun k hk => by cases hk⟩, fun w' hb => limMake_lim (fun k => k < w'.heap.size) F l c n (n + 1) base subs sups cs sx ux sc uc w' (hF.below hb) (fun _ h => h) (repP_old (hr.step hb)) (repLP_oldR (hs.step hb)) (repLP_oldR (hu.step hb)) h hR,
        fun w' hb => (refLim_both F l c n (n + 1) base subs sups cs sx ux sc uc w' hq (hF.below hb) (hr.step hb) (hs.step hb) (hu.step hb) h hc' hcR).mono fun _ _ h2 => h2.2 hR⟩
  · exact ⟨zeroB (n + 1), 1, ⟨Nat.zero_le _, Nat.zero_le _, fun k hk => by cases hk⟩, fun w' hb => limMake_bad F l c n (n + 1) base subs sups cs sx ux sc uc w' (hF.below hb) (hr.step hb) (hs.step hb) (hu.step hb) h,
      fun w' hb => refLim_bad F l c n (n + 1) base subs sups cs sx ux sc uc w' (hF.below hb) hq (hr.step hb) (hs.step hb) (hu.step hb) (by omega) (by omega) hc' h⟩

end Go.Proofs.Ytdbcdjiclkmknaa
