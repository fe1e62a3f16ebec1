/- Texts Lmj, Awf, Aw5, Req, Law. -/
import Derived.Test.YtdbcdjiclkmknaaK20
import Derived.Test.YtdbcdjiclkmknaaK21
import Derived.Test.YtdbcdjiclkmknaaK22
import Derived.Test.YtdbcdjiclkmknaaK23
import Derived.Test.YtdbcdjiclkmknaaK24
import Derived.Test.YtdbcdjiclkmknaaK25
import Derived.Test.YtdbcdjiclkmknaaK26
import Derived.Test.YtdbcdjiclkmknaaK27
import Derived.Test.YtdbcdjiclkmknaaK28
import Derived.Test.YtdbcdjiclkmknaaK15
import Derived.Test.YtdbcdjiclkmknaaK13
import Derived.Test.YtdbcdjiclkmknaaK00
import Derived.ProofKit
import Derived.Lib.SmallJoins
namespace Go.Proofs.Ytdbcdjiclkmknaa
open Go.RowKit

attribute [local irreducible] wpQuiet wpG wpP wpK wpList Code.wp Calls

theorem RepLP.one35 {P : Nat → Prop} {w : World} {n : Nat} {x : Option Addr} {b : Bx n} (h : RepLP P w n x [b]) : ∃ k o css, x = some ⟨k, o, none⟩ ∧ w.rangeAt k o css ∧ RepP P w n b css := by
  obtain ⟨k, o, css, rfl, hr, hp⟩ := h 0 b rfl
  rw [Nat.zero_mul, Nat.add_zero] at hr
  exact ⟨k, o, css, rfl, hr, hp⟩
theorem italic_ok35 (F : Fnt) (n : Nat) (b : Bx n) (cs : List Value) (w : World) (hF : FntOk w F) (hr : Rep w n b cs) (hf : ValidF F) (hb : validB n b) : Calls Try.prog 24 #[F.val, .agg cs.toArray] w (Gives (.int .i64 (italB F n b)) w) := by
  have := script_Italic_calls F n b cs w hF hr
  rwa [if_pos ⟨hf, hb⟩] at this
theorem lim_in {F : Fnt} {l : Int} {n : Nat} {base : Bx (n + 1)} {subs sups : List (Bx (n + 1))} (h : ScrOk F l n base subs sups) : (0 ≤ limW n base subs sups ∧ limW n base subs sups ≤ 1073741824) ∧ (-536870912 ≤ limI F n base ∧ limI F n base ≤ 536870912) ∧ (-2147483648 ≤ limL F n base subs sups ∧ limL F n base subs sups ≤ 0) ∧ (0 ≤ limE F n base subs sups ∧ limE F n base subs sups ≤ 8589934592) := by
  have hi : -536870912 ≤ limI F n base ∧ limI F n base ≤ 536870912 := hlf_bd _
  have ha := lmAll_in (h := limI F n base) (ow := base.1.w) (ss := subs.map (·.1.w)) (us := sups.map (·.1.w)) hi (vlens h.2.2.1).1 (fun s hs => by
    obtain ⟨b, hb, rfl⟩ := List.mem_map.1 hs
    exact (vlens (h.2.2.2.1.2 b hb)).1) (fun s hs => by
    obtain ⟨b, hb, rfl⟩ := List.mem_map.1 hs
    exact (vlens (h.2.2.2.2.2 b hb)).1)
  exact ⟨ha.1, hi, ha.2.1, ha.2.2⟩

theorem limMake_both (P : Nat → Prop) (F : Fnt) (l : Int) (c : Bool) (n m : Nat) (base : Bx (n + 1)) (subs sups : List (Bx (n + 1))) (cs : List Value) (sx ux : Option Addr) (sc uc : Nat) (w : World) (hF : FntOk w F) (hP : ∀ k, P k → k < w.heap.size) (hr : RepP P w (n + 1) base cs) (hs : RepLP P w (n + 1) sx subs) (hu : RepLP P w (n + 1) ux sups) (h : ScrOk F l n base subs sups) : Calls Try.prog 10 #[F.val, .agg #[.int .i64 l, .bool c], .agg cs.toArray, .slice sx subs.length sc, .slice ux sups.length uc] w (fun e w' => (validB (n + 2) (limB F l n base subs sups) → GivesBEP P (n + 2) (limB F l n base subs sups) 0 w e w') ∧ (¬ validB (n + 2) (limB F l n base subs sups) → GivesBE (m + 1) (zeroB m) 6 w e w')) := by
  have hin := lim_in h
  have hIt := fun w' (hb : Below w.heap.size w w') => italic_ok35 F (n + 1) base cs w' (hF.below hb) (hr.rep.step hb) h.1 h.2.2.1
  have q10 := lmQ_in (l := l) (p := 10) h.1 (by omega)
  have q11 := lmQ_in (l := l) (p := 11) h.1 (by omega)
  have q17 := lmQ_in (l := l) (p := 17) h.1 (by omega)
  have hall := rep_all hr
  have vb := vlens h.2.2.1
  have xx := fun x => lmX_in (limW n base subs sups) (limI F n base) x hin.2.1
  have iE : I64 (limE F n base subs sups) := by unfold I64; omega
  have iL : I64 (0 - limL F n base subs sups) := by unfold I64; omega
  have i0 : ∀ x, I64 (lmX0 (limW n base subs sups) x - limL F n base subs sups) := fun x => by have := xx x; unfold I64; omega
  have i1 : ∀ x, I64 (lmX1 (limW n base subs sups) (limI F n base) x - limL F n base subs sups) := fun x => by have := xx x; unfold I64; omega
  have i2 : ∀ x, I64 (lmX2 (limW n base subs sups) (limI F n base) x - limL F n base subs sups) := fun x => by have := xx x; unfold I64; omega
  have hh := hin.2.1
  obtain ⟨⟨bk, bn, bz, bw, bh, bd, bx, by_, bo, bs⟩, bks⟩ := base
  obtain ⟨kx, kc, tx, tc, rfl, _⟩ := rep_out hr.rep
  rcases subs with _ | ⟨sb, _ | ⟨x, subs⟩⟩
  · rcases sups with _ | ⟨sp, _ | ⟨y, sups⟩⟩
    · exact limMake_m00 P F l _ (lmX0 (limW n ((⟨bk, bn, bz, bw, bh, bd, bx, by_, bo, bs⟩, bks) : Bx (n + 1)) [] []) bw - limL F n ((⟨bk, bn, bz, bw, bh, bd, bx, by_, bo, bs⟩, bks) : Bx (n + 1)) [] []) (0 - limL F n ((⟨bk, bn, bz, bw, bh, bd, bx, by_, bo, bs⟩, bks) : Bx (n + 1)) [] []) (0 - limL F n ((⟨bk, bn, bz, bw, bh, bd, bx, by_, bo, bs⟩, bks) : Bx (n + 1)) [] []) (limE F n ((⟨bk, bn, bz, bw, bh, bd, bx, by_, bo, bs⟩, bks) : Bx (n + 1)) [] []) (par F l F.quad) (lmQ F l 10) bw bh bd c n m ((⟨bk, bn, bz, bw, bh, bd, bx, by_, bo, bs⟩, bks) : Bx (n + 1)) _ _ _ _ _ _ _ _ w sc uc sx ux hF h.2.1 h.1 hP hr h.2.2.1 rfl rfl q10 vb.2 ⟨i0 _, iL, iL⟩ iE   (fun w' bob hb => places_00 (limI F n ((⟨bk, bn, bz, bw, bh, bd, bx, by_, bo, bs⟩, bks) : Bx (n + 1))) bw bob 0 1 sc uc _ _ _ _ _ _ _ _ _ _ w' hb hall vb.1 hh sx ux _ _ _ _ _ _ _ _ rfl rfl rfl rfl rfl rfl rfl rfl) hIt
    · have vu := vlens (h.2.2.2.2.2 sp (by simp))
      have wuv := h.2.2.2.2.2 sp (by simp)
      obtain ⟨uk, uo, us, rfl, hu1, hu2⟩ := hu.one35
      have hallu := rep_all hu2
      obtain ⟨⟨uk', un, uz, uw, uh, ud, ux', uy, uf, usr⟩, uks⟩ := sp
      obtain ⟨_, _, _, _, rfl, _⟩ := rep_out hu2.rep
      exact limMake_m01 P F l _ (lmX0 (limW n ((⟨bk, bn, bz, bw, bh, bd, bx, by_, bo, bs⟩, bks) : Bx (n + 1)) [] [((⟨uk', un, uz, uw, uh, ud, ux', uy, uf, usr⟩, uks) : Bx (n + 1))]) bw - limL F n ((⟨bk, bn, bz, bw, bh, bd, bx, by_, bo, bs⟩, bks) : Bx (n + 1)) [] [((⟨uk', un, uz, uw, uh, ud, ux', uy, uf, usr⟩, uks) : Bx (n + 1))]) (0 - limL F n ((⟨bk, bn, bz, bw, bh, bd, bx, by_, bo, bs⟩, bks) : Bx (n + 1)) [] [((⟨uk', un, uz, uw, uh, ud, ux', uy, uf, usr⟩, uks) : Bx (n + 1))]) (lmX2 (limW n ((⟨bk, bn, bz, bw, bh, bd, bx, by_, bo, bs⟩, bks) : Bx (n + 1)) [] [((⟨uk', un, uz, uw, uh, ud, ux', uy, uf, usr⟩, uks) : Bx (n + 1))]) (limI F n ((⟨bk, bn, bz, bw, bh, bd, bx, by_, bo, bs⟩, bks) : Bx (n + 1))) uw - limL F n ((⟨bk, bn, bz, bw, bh, bd, bx, by_, bo, bs⟩, bks) : Bx (n + 1)) [] [((⟨uk', un, uz, uw, uh, ud, ux', uy, uf, usr⟩, uks) : Bx (n + 1))]) (limE F n ((⟨bk, bn, bz, bw, bh, bd, bx, by_, bo, bs⟩, bks) : Bx (n + 1)) [] [((⟨uk', un, uz, uw, uh, ud, ux', uy, uf, usr⟩, uks) : Bx (n + 1))]) (par F l F.quad) (lmQ F l 10) bw bh bd c n m ((⟨bk, bn, bz, bw, bh, bd, bx, by_, bo, bs⟩, bks) : Bx (n + 1)) _ _ _ _ _ _ _ _ w sc uc sx _ uk uo _ _ _ _ _ _ _ _ uw uh ud (lmQ F l 11) _ _ _ hF h.2.1 h.1 hP hr h.2.2.1 rfl rfl q10 vb.2 ⟨i0 _, iL, i2 _⟩ iE  hu1 hu2 wuv vu.2 rfl q11 rfl rfl rfl (fun w' bob hb hu => places_01 (limI F n ((⟨bk, bn, bz, bw, bh, bd, bx, by_, bo, bs⟩, bks) : Bx (n + 1))) bw bob 0 1 sc uc _ _ _ _ _ _ _ _ _ _ w' hb hall vb.1 hh sx uk uo _ _ _ _ _ _ _ _ _ _ uw hu hallu vu.1 _ _ _ _ _ _ _ _ _ _ _ _ _ _ rfl rfl rfl rfl rfl rfl rfl rfl rfl rfl rfl rfl rfl rfl) hIt
    · have := h.2.2.2.2.1; simp at this
  · rcases sups with _ | ⟨sp, _ | ⟨y, sups⟩⟩
    · have vs := vlens (h.2.2.2.1.2 sb (by simp))
      have wsv := h.2.2.2.1.2 sb (by simp)
      obtain ⟨sk, so, ss, rfl, hs1, hs2⟩ := hs.one35
      have halls := rep_all hs2
      obtain ⟨⟨sk', sn, sz, sw, sh, sd, sx', sy, sf, ssr⟩, sks⟩ := sb
      obtain ⟨_, _, _, _, rfl, _⟩ := rep_out hs2.rep
      exact limMake_m10 P F l _ (lmX0 (limW n ((⟨bk, bn, bz, bw, bh, bd, bx, by_, bo, bs⟩, bks) : Bx (n + 1)) [((⟨sk', sn, sz, sw, sh, sd, sx', sy, sf, ssr⟩, sks) : Bx (n + 1))] []) bw - limL F n ((⟨bk, bn, bz, bw, bh, bd, bx, by_, bo, bs⟩, bks) : Bx (n + 1)) [((⟨sk', sn, sz, sw, sh, sd, sx', sy, sf, ssr⟩, sks) : Bx (n + 1))] []) (lmX1 (limW n ((⟨bk, bn, bz, bw, bh, bd, bx, by_, bo, bs⟩, bks) : Bx (n + 1)) [((⟨sk', sn, sz, sw, sh, sd, sx', sy, sf, ssr⟩, sks) : Bx (n + 1))] []) (limI F n ((⟨bk, bn, bz, bw, bh, bd, bx, by_, bo, bs⟩, bks) : Bx (n + 1))) sw - limL F n ((⟨bk, bn, bz, bw, bh, bd, bx, by_, bo, bs⟩, bks) : Bx (n + 1)) [((⟨sk', sn, sz, sw, sh, sd, sx', sy, sf, ssr⟩, sks) : Bx (n + 1))] []) (0 - limL F n ((⟨bk, bn, bz, bw, bh, bd, bx, by_, bo, bs⟩, bks) : Bx (n + 1)) [((⟨sk', sn, sz, sw, sh, sd, sx', sy, sf, ssr⟩, sks) : Bx (n + 1))] []) (limE F n ((⟨bk, bn, bz, bw, bh, bd, bx, by_, bo, bs⟩, bks) : Bx (n + 1)) [((⟨sk', sn, sz, sw, sh, sd, sx', sy, sf, ssr⟩, sks) : Bx (n + 1))] []) (par F l F.quad) (lmQ F l 10) bw bh bd c n m ((⟨bk, bn, bz, bw, bh, bd, bx, by_, bo, bs⟩, bks) : Bx (n + 1)) _ _ _ _ _ _ _ _ w sc uc _ sk so _ _ _ _ _ _ _ _ sw sh sd (lmQ F l 17) _ _ _ ux hF h.2.1 h.1 hP hr h.2.2.1 rfl rfl q10 vb.2 ⟨i0 _, i1 _, iL⟩ iE hs1 hs2 wsv vs.2 rfl q17 rfl rfl rfl  (fun w' bob hb hs => places_10 (limI F n ((⟨bk, bn, bz, bw, bh, bd, bx, by_, bo, bs⟩, bks) : Bx (n + 1))) bw bob 0 1 sc uc _ _ _ _ _ _ _ _ _ _ w' hb hall vb.1 hh sk so _ _ _ _ _ _ _ _ _ _ sw hs halls vs.1 ux _ _ _ _ _ _ _ _ _ _ _ _ _ _ rfl rfl rfl rfl rfl rfl rfl rfl rfl rfl rfl rfl rfl rfl) hIt
    · have vs := vlens (h.2.2.2.1.2 sb (by simp))
      have wsv := h.2.2.2.1.2 sb (by simp)
      obtain ⟨sk, so, ss, rfl, hs1, hs2⟩ := hs.one35
      have halls := rep_all hs2
      obtain ⟨⟨sk', sn, sz, sw, sh, sd, sx', sy, sf, ssr⟩, sks⟩ := sb
      obtain ⟨_, _, _, _, rfl, _⟩ := rep_out hs2.rep
      have vu := vlens (h.2.2.2.2.2 sp (by simp))
      have wuv := h.2.2.2.2.2 sp (by simp)
      obtain ⟨uk, uo, us, rfl, hu1, hu2⟩ := hu.one35
      have hallu := rep_all hu2
      obtain ⟨⟨uk', un, uz, uw, uh, ud, ux', uy, uf, usr⟩, uks⟩ := sp
      obtain ⟨_, _, _, _, rfl, _⟩ := rep_out hu2.rep
      exact limMake_m11 P F l _ (lmX0 (limW n ((⟨bk, bn, bz, bw, bh, bd, bx, by_, bo, bs⟩, bks) : Bx (n + 1)) [((⟨sk', sn, sz, sw, sh, sd, sx', sy, sf, ssr⟩, sks) : Bx (n + 1))] [((⟨uk', un, uz, uw, uh, ud, ux', uy, uf, usr⟩, uks) : Bx (n + 1))]) bw - limL F n ((⟨bk, bn, bz, bw, bh, bd, bx, by_, bo, bs⟩, bks) : Bx (n + 1)) [((⟨sk', sn, sz, sw, sh, sd, sx', sy, sf, ssr⟩, sks) : Bx (n + 1))] [((⟨uk', un, uz, uw, uh, ud, ux', uy, uf, usr⟩, uks) : Bx (n + 1))]) (lmX1 (limW n ((⟨bk, bn, bz, bw, bh, bd, bx, by_, bo, bs⟩, bks) : Bx (n + 1)) [((⟨sk', sn, sz, sw, sh, sd, sx', sy, sf, ssr⟩, sks) : Bx (n + 1))] [((⟨uk', un, uz, uw, uh, ud, ux', uy, uf, usr⟩, uks) : Bx (n + 1))]) (limI F n ((⟨bk, bn, bz, bw, bh, bd, bx, by_, bo, bs⟩, bks) : Bx (n + 1))) sw - limL F n ((⟨bk, bn, bz, bw, bh, bd, bx, by_, bo, bs⟩, bks) : Bx (n + 1)) [((⟨sk', sn, sz, sw, sh, sd, sx', sy, sf, ssr⟩, sks) : Bx (n + 1))] [((⟨uk', un, uz, uw, uh, ud, ux', uy, uf, usr⟩, uks) : Bx (n + 1))]) (lmX2 (limW n ((⟨bk, bn, bz, bw, bh, bd, bx, by_, bo, bs⟩, bks) : Bx (n + 1)) [((⟨sk', sn, sz, sw, sh, sd, sx', sy, sf, ssr⟩, sks) : Bx (n + 1))] [((⟨uk', un, uz, uw, uh, ud, ux', uy, uf, usr⟩, uks) : Bx (n + 1))]) (limI F n ((⟨bk, bn, bz, bw, bh, bd, bx, by_, bo, bs⟩, bks) : Bx (n + 1))) uw - limL F n ((⟨bk, bn, bz, bw, bh, bd, bx, by_, bo, bs⟩, bks) : Bx (n + 1)) [((⟨sk', sn, sz, sw, sh, sd, sx', sy, sf, ssr⟩, sks) : Bx (n + 1))] [((⟨uk', un, uz, uw, uh, ud, ux', uy, uf, usr⟩, uks) : Bx (n + 1))]) (limE F n ((⟨bk, bn, bz, bw, bh, bd, bx, by_, bo, bs⟩, bks) : Bx (n + 1)) [((⟨sk', sn, sz, sw, sh, sd, sx', sy, sf, ssr⟩, sks) : Bx (n + 1))] [((⟨uk', un, uz, uw, uh, ud, ux', uy, uf, usr⟩, uks) : Bx (n + 1))]) (par F l F.quad) (lmQ F l 10) bw bh bd c n m ((⟨bk, bn, bz, bw, bh, bd, bx, by_, bo, bs⟩, bks) : Bx (n + 1)) _ _ _ _ _ _ _ _ w sc uc _ sk so _ _ _ _ _ _ _ _ sw sh sd (lmQ F l 17) _ _ _ _ uk uo _ _ _ _ _ _ _ _ uw uh ud (lmQ F l 11) _ _ _ hF h.2.1 h.1 hP hr h.2.2.1 rfl rfl q10 vb.2 ⟨i0 _, i1 _, i2 _⟩ iE hs1 hs2 wsv vs.2 rfl q17 rfl rfl rfl hu1 hu2 wuv vu.2 rfl q11 rfl rfl rfl (fun w' bob hb hs hu => places_11 (limI F n ((⟨bk, bn, bz, bw, bh, bd, bx, by_, bo, bs⟩, bks) : Bx (n + 1))) bw bob 0 1 sc uc _ _ _ _ _ _ _ _ _ _ w' hb hall vb.1 hh sk so _ _ _ _ _ _ _ _ _ _ sw hs halls vs.1 uk uo _ _ _ _ _ _ _ _ _ _ uw hu hallu vu.1 _ _ _ _ _ _ _ _ _ _ _ _ _ _ _ _ _ _ _ _ rfl rfl rfl rfl rfl rfl rfl rfl rfl rfl rfl rfl rfl rfl rfl rfl rfl rfl rfl rfl) hIt
    · have := h.2.2.2.2.1; simp at this
  · have := h.2.2.2.1.1; simp at this

theorem limMake_ok (P : Nat → Prop) (F : Fnt) (l : Int) (c : Bool) (n m : Nat) (base : Bx (n + 1)) (subs sups : List (Bx (n + 1))) (cs : List Value) (sx ux : Option Addr) (sc uc : Nat) (w : World) (hF : FntOk w F) (hP : ∀ k, P k → k < w.heap.size) (hr : RepP P w (n + 1) base cs) (hs : RepLP P w (n + 1) sx subs) (hu : RepLP P w (n + 1) ux sups) (h : ScrOk F l n base subs sups) (hvR : validB (n + 2) (limB F l n base subs sups)) : Calls Try.prog 10 #[F.val, .agg #[.int .i64 l, .bool c], .agg cs.toArray, .slice sx subs.length sc, .slice ux sups.length uc] w (GivesBEP P (n + 2) (limB F l n base subs sups) 0 w) := (limMake_both P F l c n m base subs sups cs sx ux sc uc w hF hP hr hs hu h).mono fun _ _ h2 => h2.1 hvR
theorem limMake_lim (P : Nat → Prop) (F : Fnt) (l : Int) (c : Bool) (n m : Nat) (base : Bx (n + 1)) (subs sups : List (Bx (n + 1))) (cs : List Value) (sx ux : Option Addr) (sc uc : Nat) (w : World) (hF : FntOk w F) (hP : ∀ k, P k → k < w.heap.size) (hr : RepP P w (n + 1) base cs) (hs : RepLP P w (n + 1) sx subs) (hu : RepLP P w (n + 1) ux sups) (h : ScrOk F l n base subs sups) (hvR : ¬ validB (n + 2) (limB F l n base subs sups)) : Calls Try.prog 10 #[F.val, .agg #[.int .i64 l, .bool c], .agg cs.toArray, .slice sx subs.length sc, .slice ux sups.length uc] w (GivesBE (m + 1) (zeroB m) 6 w) := (limMake_both P F l c n m base subs sups cs sx ux sc uc w hF hP hr hs hu h).mono fun _ _ h2 => h2.2 hvR

end Go.Proofs.Ytdbcdjiclkmknaa
namespace Go.Proofs.Ytdbcdjiclkmknaa
open Go.RowKit

attribute [local irreducible] wpQuiet wpG wpP wpK wpList Code.wp Calls

instance zt_fnt : ZeroTy Try.prog 27 [.slice none 0 0, .slice none 0 0, .int .i64 0, .int .i64 0, .int .i64 0, .int .i64 0, .int .i64 0, .int .i64 0, .int .i64 0, .int .i64 0, .int .i64 0, .int .i64 0, .int .i64 0, .int .i64 0, .int .i64 0, .int .i64 0, .int .i64 0, .int .i64 0, .int .i64 0, .int .i64 0, .int .i64 0, .int .i64 0] := ⟨.agg #[.slice none 0 0, .slice none 0 0, .int .i64 0, .int .i64 0, .int .i64 0, .int .i64 0, .int .i64 0, .int .i64 0, .int .i64 0, .int .i64 0, .int .i64 0, .int .i64 0, .int .i64 0, .int .i64 0, .int .i64 0, .int .i64 0, .int .i64 0, .int .i64 0, .int .i64 0, .int .i64 0, .int .i64 0, .int .i64 0], by kernel_rfl, rfl⟩
end Go.Proofs.Ytdbcdjiclkmknaa
namespace Go.Proofs.Ytdbcdjiclkmknaa
open Go.RowKit

attribute [local irreducible] wpQuiet wpG wpP wpK wpList Code.wp Calls

/-- The font, the operator and what is below it. -/
def aw5F : Fnt := { gx := none, gc := 0, gs := [], sx := none, sc := 0, ss := [], quad := 1000, xheight := 0, axis := 0, rule := 0, num1 := 0, num2 := 0, den1 := 0, den2 := 0, sup1 := 0, sup2 := 0, sup3 := 0, sub1 := 0, sub2 := 0, supdrop := 0, subdrop := 0, script := 70, sscript := 50, dpercent := 90, dshort := 0, acc := 0 }
def aw5B : Bx 1 := (⟨2, ⟨#[]⟩, 0, 500, 700, 200, 0, 0, 0, []⟩, [])
def aw5U : Bx 1 := (⟨2, ⟨#[]⟩, 0, 900, 300, 0, 0, 0, 0, []⟩, [])
theorem aw5F_ok (w : World) : FntOk w aw5F where
  glys := .inl rfl
  strs := .inl rfl
  gok := fun g hg => by cases hg
  sok := fun s hs => by cases hs
  glen := Nat.zero_le _
  slen := Nat.zero_le _
  gcap := ⟨Nat.zero_le _, fun h => absurd rfl h⟩
  scap := ⟨Nat.zero_le _, fun h => absurd rfl h⟩
  prm := fun n hn => by
    simp only [Fnt.prm, aw5F, List.mem_cons, Value.int.injEq, true_and, List.not_mem_nil, or_false] at hn
    unfold I64
    omega
theorem aw5F_valid : ValidF aw5F := ⟨by decide, by decide, by rfl, by simp [aw5F, GlysOk], fun k s h => by simp [aw5F] at h⟩
theorem aw5B_valid : validB 1 aw5B := ⟨by simp [allOwn, ownOk, lensOk, Hd.lens, kindOk, srcOk, srcEnd, aw5B, Lib.toList_data], by decide, by decide⟩
theorem aw5U_valid : validB 1 aw5U := ⟨by simp [allOwn, ownOk, lensOk, Hd.lens, kindOk, srcOk, srcEnd, aw5U, Lib.toList_data], by decide, by decide⟩
theorem aw5O : ScrOk aw5F 0 0 aw5B [aw5U] [] := ⟨aw5F_valid, by rfl, aw5B_valid, ⟨by decide, fun b hb => by obtain rfl := List.mem_singleton.1 hb; exact aw5U_valid⟩, ⟨by decide, fun b hb => by cases hb⟩⟩
def aw5R : Bx 2 := listB 1 900 700 770 [atXY 1 aw5B 200 0, atXY 1 aw5U 0 (-670)]
theorem aw5T_eq : limB aw5F 0 0 aw5B [aw5U] [] = aw5R := by rfl
theorem aw5T_valid : validB 2 aw5R := ⟨by simp [allOwn, ownOk, lensOk, Hd.lens, kindOk, srcOk, srcEnd, aw5B, aw5U, aw5R, listB, atXY, Lib.toList_data], by decide, by decide⟩
theorem aw5B_rep (P : Nat → Prop) (w : World) : RepP P w 1 aw5B [.int .i64 2, .string ⟨#[]⟩, .int .i64 0, .int .i64 500, .int .i64 700, .int .i64 200, .int .i64 0, .int .i64 0, .slice none 0 0, .int .i64 0, .slice none 0 0] :=
  rep_bare (rep_mk (kx := none) (sx := none) (kc := 0) (sc := 0) (by constructor <;> first|(unfold I64;simp;done)|(intro n hn;cases hn;done)|(simp [maxLen, ByteArray.size];done)|decide) (by simp) (.inl rfl) (fun i kid hi => by simp at hi)) rfl
theorem aw5U_rep (P : Nat → Prop) (w : World) : RepP P w 1 aw5U [.int .i64 2, .string ⟨#[]⟩, .int .i64 0, .int .i64 900, .int .i64 300, .int .i64 0, .int .i64 0, .int .i64 0, .slice none 0 0, .int .i64 0, .slice none 0 0] :=
  rep_bare (rep_mk (kx := none) (sx := none) (kc := 0) (sc := 0) (by constructor <;> first|(unfold I64;simp;done)|(intro n hn;cases hn;done)|(simp [maxLen, ByteArray.size];done)|decide) (by simp) (.inl rfl) (fun i kid hi => by simp at hi)) rfl
theorem awMake35 {w : World} {s : Nat} (hs : Has w s [.int .i64 2, .string ⟨#[]⟩, .int .i64 0, .int .i64 900, .int .i64 300, .int .i64 0, .int .i64 0, .int .i64 0, .slice none 0 0, .int .i64 0, .slice none 0 0]) :
    Calls Try.prog 10 #[aw5F.val, .agg #[.int .i64 0, .bool false], .agg #[.int .i64 2, .string ⟨#[]⟩, .int .i64 0, .int .i64 500, .int .i64 700, .int .i64 200, .int .i64 0, .int .i64 0, .slice none 0 0, .int .i64 0, .slice none 0 0], .slice (some ⟨s, 0, none⟩) 1 1, .slice none 0 0] w (GivesBE 2 aw5R 0 w) := by
  have h := limMake_ok (fun k => k < w.heap.size) aw5F 0 false 0 0 aw5B [aw5U] [] _ (some ⟨s, 0, none⟩) none 1 0 w (aw5F_ok w) (fun _ h => h) (aw5B_rep _ w) (has_kids hs ⟨_, [], by simp, aw5U_rep _ w, rfl⟩) (fun i kid hi => by simp at hi) aw5O (by rw [aw5T_eq]; exact aw5T_valid)
  rw [aw5T_eq] at h
  exact h.mono fun _ _ ⟨cs, he, hr, hb⟩ => ⟨cs, he, hr.rep, hb⟩
/-- The cells that the example looks at. -/
theorem awLook35 {w : World} {cs : List Value} (h : Rep w 2 aw5R cs) : ∃ c0 c1 c2 c3 c4 c6 c7 c9 c10 k o kc, cs = [c0, c1, c2, c3, c4, .int .i64 770, c6, c7, .slice (some ⟨k, o, none⟩) 2 kc, c9, c10] ∧ w.cell? ⟨k, o + 6, none⟩ = some (.int .i64 200) ∧ w.cell? ⟨k, o + 11 + 7, none⟩ = some (.int .i64 (-670)) ∧ cs.all (·.oneCell') = true := by
  have hall := rep_all h
  unfold aw5R at h
  obtain ⟨kx, kc, sx, sc, rfl, _, _, _, hk⟩ := rep_out h
  obtain ⟨k, o, css, rfl, hr0, hp0⟩ := hk 0 _ rfl
  obtain ⟨k1, o1, css1, e1, hr1, hp1⟩ := hk 1 _ rfl
  obtain ⟨rfl, rfl⟩ : k = k1 ∧ o = o1 := by simpa using e1
  obtain ⟨_, _, _, _, rfl, _⟩ := rep_out hp0
  obtain ⟨_, _, _, _, rfl, _⟩ := rep_out hp1
  rw [Nat.zero_mul, Nat.add_zero] at hr0
  rw [Nat.one_mul] at hr1
  exact ⟨_, _, _, _, _, _, _, _, _, k, o, kc, rfl, hr0 6 _ rfl, hr1 7 _ rfl, hall⟩

set_option maxHeartbeats 8000000 in
set_option maxRecDepth 100000 in
theorem awake35_calls (w : World) : Calls Try.prog 8 #[] w (Gives (.bool true) w) := by
  go_enter Try.func8, Try.ntmps8
  have hS := own_start w
  go_wp2_with (first|(refine own_unguard (by rfl) ?_)|(refine own_buildSlice rfl _ _ 1 _ rfl [.int .i64 2, .string ⟨#[]⟩, .int .i64 0, .int .i64 900, .int .i64 300, .int .i64 0, .int .i64 0, .int .i64 0, .slice none 0 0, .int .i64 0, .slice none 0 0] hS Try.underlying30 (by kernel_rfl) ?_;clear hS;(try clear ww);intro bs ww hS)|(go_at_call 10;refine Calls.mono (awMake35 (hS.get at0)) ?_;rintro e w6 ⟨cs6, rfl, hr6, hb6⟩;have hB6 := bthen hS.below hb6;obtain ⟨c0, c1, c2, c3, c4, c6, c7, c9, c10, k, o, kc, rfl, hy0, hy1, hall⟩ := awLook35 hr6;clear hS hr6 hb6;have hS := own_start w6)|(refine own_store rfl _ _ _ rfl rfl rfl hS at0 rt_box (by rfl) hall ?_;clear hS;intro ww hS;(try simp only [List.set_cons_zero] at hS))|(refine w_ld rfl _ rfl (by rfl) (by first|exact rd_1 (by repeat constructor) (by first|rfl|assumption)|exact rd_w (by repeat constructor) (by rfl)|((first|refine rd_o ‹_› (by rfl) ?_|refine rd_h ‹_› (by rfl) ?_|refine rd_1o ‹_› ?_|refine rd_1h ‹_› (by first|rfl|assumption) ?_);first|exact nmn|assumption|simp)) hS ?_)|((first|refine own_box rfl _ _ rfl (by rfl) hS ?_|refine w_al rfl rfl hS ?_);clear hS;(try clear ww);intro bb ww hS)|((first|refine w_st rfl _ _ rfl (by rfl) (by rfl) (by repeat constructor) (by rfl) (by rfl) (by first|rfl|assumption) hS ?_|refine w_s1 rfl _ _ rfl (by rfl) (by repeat constructor) (by first|exact .c|exact .t rfl) (by rfl) (by repeat constructor) hS ?_);clear hS;(try clear ww);intro ww hS))
  go_ret
  exact ⟨rfl, bthen hB6 hS.below⟩

end Go.Proofs.Ytdbcdjiclkmknaa
namespace Go.Proofs.Ytdbcdjiclkmknaa
open Go.RowKit

attribute [local irreducible] wpQuiet wpG wpP wpK wpList Code.wp Calls

set_option maxHeartbeats 8000000 in
set_option maxRecDepth 100000 in
theorem ref28_SameInts_same (l : List Int) (x y : Option Addr) (c d : Nat) (w : World) (hx : RowAt w x 1 intCells l) (hy : RowAt w y 1 intCells l) (hl : l.length ≤ 17592186044416) : Calls Try.prog 31 #[.slice x l.length c, .slice y l.length d] w (Gives (.bool true) w) := by
  have HX := Lib.hid hx
  have HY := Lib.hid hy
  clear hx hy
  go_enter Try.func31, Try.ntmps31
  have hS := own_start w
  go_wp2_with (first|(refine own_unguard (by rfl) ?_)|(refine w_ld rfl _ rfl (by rfl) (by first|exact rd_1 (by repeat constructor) (by first|rfl|assumption)|exact rd_w (by repeat constructor) (by rfl)|((first|refine rd_o ‹_› (by rfl) ?_|refine rd_h ‹_› (by rfl) ?_|refine rd_1o ‹_› ?_|refine rd_1h ‹_› (by first|rfl|assumption) ?_);first|exact nmn|assumption|simp)) hS ?_)|(refine own_box rfl _ _ rfl (by rfl) hS ?_;clear hS;(try clear ww);intro bb ww hS)|((first|refine w_st rfl _ _ rfl (by rfl) (by rfl) (by repeat constructor) (by rfl) (by rfl) (by first|rfl|assumption) hS ?_|refine w_s1 rfl _ _ rfl (by rfl) (by repeat constructor) (by first|exact .c|exact .t rfl) (by rfl) (by repeat constructor) hS ?_);clear hS;(try clear ww);intro ww hS))
  go_loopw [5] (fun i wr => ∃ j : Nat, j ≤ l.length ∧ i = .int .i64 j ∧ Own [] w [] wr) (fun i _ => l.length - (intOf i).toNat)
  case atStart => exact ⟨0, Nat.zero_le _, rfl, hS⟩
  case round =>
    clear hS
    obtain ⟨j, hj, rfl, hS⟩ := hrel
    by_cases hlt : j < l.length
    · obtain ⟨n, hn⟩ : ∃ n, l[j]? = some n := ⟨l[j], by simp [hlt]⟩
      obtain ⟨b1, o1, hx1, hr1⟩ := HX.out.get hn
      obtain ⟨b2, o2, hx2, hr2⟩ := HY.out.get hn
      obtain rfl : x = some ⟨b1, o1, none⟩ := hx1
      obtain rfl : y = some ⟨b2, o2, none⟩ := hx2
      have hc1 : w.cell? ⟨b1, o1 + j * 1, none⟩ = some (.int .i64 n) := hr1 0 _ rfl
      have hc2 : w.cell? ⟨b2, o2 + j * 1, none⟩ = some (.int .i64 n) := hr2 0 _ rfl
      rw [Nat.mul_one] at hc1 hc2
      clear hr1 hr2 hn
      go_wp2_with (first|(refine own_unguard (by rfl) ?_)|(refine w_ld rfl _ rfl (by rfl) (by first|exact rd_1 (by repeat constructor) (by first|rfl|assumption)|exact rd_w (by repeat constructor) (by rfl)|((first|refine rd_o ‹_› (by rfl) ?_|refine rd_h ‹_› (by rfl) ?_|refine rd_1o ‹_› ?_|refine rd_1h ‹_› (by first|rfl|assumption) ?_);first|exact nmn|assumption|simp)) hS ?_)|(refine own_box rfl _ _ rfl (by rfl) hS ?_;clear hS;(try clear ww);intro bb ww hS)|((first|refine w_st rfl _ _ rfl (by rfl) (by rfl) (by repeat constructor) (by rfl) (by rfl) (by first|rfl|assumption) hS ?_|refine w_s1 rfl _ _ rfl (by rfl) (by repeat constructor) (by first|exact .c|exact .t rfl) (by rfl) (by repeat constructor) hS ?_);clear hS;(try clear ww);intro ww hS))
      refine own_region hS (by kernel_rfl) (by kernel_rfl) ?_
      (try simp only);(try simp only [List.drop_succ_cons]);(try simp only [List.drop_zero]);(try simp only [List.take_succ_cons]);(try simp only [List.take_zero])
      repeat (first
          | (first|(refine quiet_plain rfl ?_)|(refine quiet_yes rfl rfl rfl (by simp only [List.getElem?_toArray, List.getElem?_cons_succ, List.getElem?_cons_zero];rfl) (by with_reducible constructor) ?_)
             apply Exists.intro; refine ⟨?_, ?_⟩
             focus (intro wq hq0;have hq : Own _ _ _ wq := hq0;first|(exact quietAt_rd rfl (by rfl) (by first|exact rd_1 (by repeat constructor) (by first|rfl|assumption)|exact rd_w (by repeat constructor) (by rfl)|((first|refine rd_o ‹_› (by rfl) ?_|refine rd_h ‹_› (by rfl) ?_|refine rd_1o ‹_› ?_|refine rd_1h ‹_› (by first|rfl|assumption) ?_);first|exact nmn|assumption|simp)) hq)|(go_simp;first|(with_reducible rfl)))
             simp only [Act.put, List.setIfInBounds_toArray, List.set_cons_zero, List.set_cons_succ])
          | (refine quiet_no rfl rfl rfl (by simp only [List.getElem?_toArray, List.getElem?_cons_succ, List.getElem?_cons_zero];rfl) (by with_reducible constructor) ?_;simp only [Act.put, List.setIfInBounds_toArray, List.set_cons_zero, List.set_cons_succ]))
      refine wpQuiet_nil ?_
      clear hS
      intro ww hS
      go_wp2_with (first|(refine own_unguard (by rfl) ?_)|(refine w_ld rfl _ rfl (by rfl) (by first|exact rd_1 (by repeat constructor) (by first|rfl|assumption)|exact rd_w (by repeat constructor) (by rfl)|((first|refine rd_o ‹_› (by rfl) ?_|refine rd_h ‹_› (by rfl) ?_|refine rd_1o ‹_› ?_|refine rd_1h ‹_› (by first|rfl|assumption) ?_);first|exact nmn|assumption|simp)) hS ?_)|(refine own_box rfl _ _ rfl (by rfl) hS ?_;clear hS;(try clear ww);intro bb ww hS)|((first|refine w_st rfl _ _ rfl (by rfl) (by rfl) (by repeat constructor) (by rfl) (by rfl) (by first|rfl|assumption) hS ?_|refine w_s1 rfl _ _ rfl (by rfl) (by repeat constructor) (by first|exact .c|exact .t rfl) (by rfl) (by repeat constructor) hS ?_);clear hS;(try clear ww);intro ww hS))
      go_roundw
      case rel => exact ⟨j + 1, hlt, by go_num, hS⟩
      case measure => exact loop_meas hlt
    · obtain rfl : j = l.length := by omega
      go_wp2_with (first|(refine own_unguard (by rfl) ?_)|(refine w_ld rfl _ rfl (by rfl) (by first|exact rd_1 (by repeat constructor) (by first|rfl|assumption)|exact rd_w (by repeat constructor) (by rfl)|((first|refine rd_o ‹_› (by rfl) ?_|refine rd_h ‹_› (by rfl) ?_|refine rd_1o ‹_› ?_|refine rd_1h ‹_› (by first|rfl|assumption) ?_);first|exact nmn|assumption|simp)) hS ?_)|(refine own_box rfl _ _ rfl (by rfl) hS ?_;clear hS;(try clear ww);intro bb ww hS)|((first|refine w_st rfl _ _ rfl (by rfl) (by rfl) (by repeat constructor) (by rfl) (by rfl) (by first|rfl|assumption) hS ?_|refine w_s1 rfl _ _ rfl (by rfl) (by repeat constructor) (by first|exact .c|exact .t rfl) (by rfl) (by repeat constructor) hS ?_);clear hS;(try clear ww);intro ww hS))
      go_ret
      exact own_gives hS

set_option maxHeartbeats 16000000 in
set_option maxRecDepth 100000 in
theorem ref28_Equal_step (n : Nat) (ih : ∀ (b : Bx n) (cs ds : List Value) (w : World), Rep w n b cs → Rep w n b ds → Small n b → Calls Try.prog 12 #[.agg cs.toArray, .agg ds.toArray] w (Gives (.bool true) w))
    (b : Bx (n + 1)) (cs ds : List Value) (w : World) (hr : Rep w (n + 1) b cs) (hr2 : Rep w (n + 1) b ds) (hsm : Small (n + 1) b) : Calls Try.prog 12 #[.agg cs.toArray, .agg ds.toArray] w (Gives (.bool true) w) := by
  obtain ⟨⟨kind, name, size, bw, bh, bd, bx, by_, of, src⟩, kids⟩ := b
  obtain ⟨kx, kc, sx, sc, rfl, ha, hkl, hrow0, hkids⟩ := rep_out hr
  obtain ⟨kx2, kc2, sx2, sc2, rfl, _, _, hrow2, hkids2⟩ := rep_out hr2
  have hkl2 : kids.length ≤ 1000000 := hsm.2.1
  have hsl : src.length ≤ 17592186044416 := hsm.1
  have IH := Lib.hid ih
  have HK := Lib.hid hkids
  have HK2 := Lib.hid hkids2
  have HSm := Lib.hid hsm.2.2
  have HRow := Lib.hid hrow0
  have HRow2 := Lib.hid hrow2
  simp only at HRow HRow2
  clear ih hr hr2 ha hkl hrow0 hkids hsm hrow2 hkids2
  go_enter Try.func12, Try.ntmps12
  try simp only [List.append]
  have hS := own_start w
  go_wp2_with (first|(refine own_unguard (by rfl) ?_)|(go_at_call 31;refine own_calls hS (ref28_SameInts_same src sx sx2 sc sc2 _ (HRow.out.own hS) (HRow2.out.own hS) hsl) ?_;clear hS;(try clear ww);intro ww hS)|(refine w_ld rfl _ rfl (by rfl) (by first|exact rd_1 (by repeat constructor) (by first|rfl|assumption)|exact rd_w (by repeat constructor) (by rfl)|((first|refine rd_o ‹_› (by rfl) ?_|refine rd_h ‹_› (by rfl) ?_|refine rd_1o ‹_› ?_|refine rd_1h ‹_› (by first|rfl|assumption) ?_);first|exact nmn|assumption|simp)) hS ?_)|(refine own_box rfl _ _ rfl (by rfl) hS ?_;clear hS;(try clear ww);intro bb ww hS)|((first|refine w_st rfl _ _ rfl (by rfl) (by rfl) (by repeat constructor) (by rfl) (by rfl) (by first|rfl|assumption) hS ?_|refine w_s1 rfl _ _ rfl (by rfl) (by repeat constructor) (by first|exact .c|exact .t rfl) (by rfl) (by repeat constructor) hS ?_);clear hS;(try clear ww);intro ww hS))
  obtain ⟨L0, HL, hS0⟩ := hS.named
  clear hS
  have hS := hS0
  clear hS0
  go_loopw [5] (fun i wr => ∃ j : Nat, j ≤ kids.length ∧ i = .int .i64 j ∧ Own [] w L0 wr) (fun i _ => kids.length - (intOf i).toNat)
  case atStart => exact ⟨0, Nat.zero_le _, rfl, hS⟩
  case round =>
    clear hS
    obtain ⟨j, hj, rfl, hS⟩ := hrel
    obtain rfl := HL.out
    clear HL
    by_cases hlt : j < kids.length
    · obtain ⟨kid, hkid⟩ : ∃ kid, kids[j]? = some kid := ⟨kids[j], by simp [hlt]⟩
      obtain ⟨kb, ko, css, hkx, hrg, hrep⟩ := HK.out j kid hkid
      obtain ⟨kb2, ko2, css2, hkx2, hrg2, hrep2⟩ := HK2.out j kid hkid
      obtain rfl : kx = some ⟨kb, ko, none⟩ := hkx
      obtain rfl : kx2 = some ⟨kb2, ko2, none⟩ := hkx2
      obtain ⟨c0, c1, c2, c3, c4, c5, c6, c7, c8, c9, c10, rfl⟩ := eleven hrep.len
      obtain ⟨d0, d1, d2, d3, d4, d5, d6, d7, d8, d9, d10, rfl⟩ := eleven hrep2.len
      have HE := Lib.hid (fun wq (h : Below w.heap.size w wq) => IH.out kid _ _ wq (hrep.step h) (hrep2.step h) (HSm.out kid (List.mem_of_getElem? hkid)))
      clear hrep hrep2 hkid
      go_wp2_with (first|(refine own_unguard (by rfl) ?_)|(refine w_ld rfl _ rfl (by rfl) (by first|exact rd_1 (by repeat constructor) (by first|rfl|assumption)|exact rd_w (by repeat constructor) (by rfl)|((first|refine rd_o ‹_› (by rfl) ?_|refine rd_h ‹_› (by rfl) ?_|refine rd_1o ‹_› ?_|refine rd_1h ‹_› (by first|rfl|assumption) ?_);first|exact nmn|assumption|simp)) hS ?_)|(refine own_box rfl _ _ rfl (by rfl) hS ?_;clear hS;(try clear ww);intro bb ww hS)|((first|refine w_st rfl _ _ rfl (by rfl) (by rfl) (by repeat constructor) (by rfl) (by rfl) (by first|rfl|assumption) hS ?_|refine w_s1 rfl _ _ rfl (by rfl) (by repeat constructor) (by first|exact .c|exact .t rfl) (by rfl) (by repeat constructor) hS ?_);clear hS;(try clear ww);intro ww hS))
      refine own_region hS (by kernel_rfl) (by kernel_rfl) ?_
      (try simp only);(try simp only [List.drop_succ_cons]);(try simp only [List.drop_zero]);(try simp only [List.take_succ_cons]);(try simp only [List.take_zero])
      repeat (first
          | (first|(refine quiet_plain rfl ?_)|(refine quiet_yes rfl rfl rfl (by simp only [List.getElem?_toArray, List.getElem?_cons_succ, List.getElem?_cons_zero];rfl) (by with_reducible constructor) ?_)
             apply Exists.intro; refine ⟨?_, ?_⟩
             focus (intro wq hq0;have hq : Own _ _ _ wq := hq0;first|(exact quietAt_rd rfl (by rfl) (by first|exact rd_1 (by repeat constructor) (by first|rfl|assumption)|exact rd_w (by repeat constructor) (by rfl)|((first|refine rd_o ‹_› (by rfl) ?_|refine rd_h ‹_› (by rfl) ?_|refine rd_1o ‹_› ?_|refine rd_1h ‹_› (by first|rfl|assumption) ?_);first|exact nmn|assumption|simp)) hq)|(go_simp;first|(go_at_call 12;exact quietG hq (HE.out _ hq.below))|(with_reducible rfl)))
             simp only [Act.put, List.setIfInBounds_toArray, List.set_cons_zero, List.set_cons_succ])
          | (refine quiet_no rfl rfl rfl (by simp only [List.getElem?_toArray, List.getElem?_cons_succ, List.getElem?_cons_zero];rfl) (by with_reducible constructor) ?_;simp only [Act.put, List.setIfInBounds_toArray, List.set_cons_zero, List.set_cons_succ]))
      refine wpQuiet_nil ?_
      clear hS
      intro ww hS
      go_wp2_with (first|(refine own_unguard (by rfl) ?_)|(refine w_ld rfl _ rfl (by rfl) (by first|exact rd_1 (by repeat constructor) (by first|rfl|assumption)|exact rd_w (by repeat constructor) (by rfl)|((first|refine rd_o ‹_› (by rfl) ?_|refine rd_h ‹_› (by rfl) ?_|refine rd_1o ‹_› ?_|refine rd_1h ‹_› (by first|rfl|assumption) ?_);first|exact nmn|assumption|simp)) hS ?_)|(refine own_box rfl _ _ rfl (by rfl) hS ?_;clear hS;(try clear ww);intro bb ww hS)|((first|refine w_st rfl _ _ rfl (by rfl) (by rfl) (by repeat constructor) (by rfl) (by rfl) (by first|rfl|assumption) hS ?_|refine w_s1 rfl _ _ rfl (by rfl) (by repeat constructor) (by first|exact .c|exact .t rfl) (by rfl) (by repeat constructor) hS ?_);clear hS;(try clear ww);intro ww hS))
      go_roundw
      case rel => exact ⟨j + 1, hlt, by go_num, hS⟩
      case measure => exact loop_meas hlt
    · obtain rfl : j = kids.length := by omega
      go_wp2_with (first|(refine own_unguard (by rfl) ?_)|(refine w_ld rfl _ rfl (by rfl) (by first|exact rd_1 (by repeat constructor) (by first|rfl|assumption)|exact rd_w (by repeat constructor) (by rfl)|((first|refine rd_o ‹_› (by rfl) ?_|refine rd_h ‹_› (by rfl) ?_|refine rd_1o ‹_› ?_|refine rd_1h ‹_› (by first|rfl|assumption) ?_);first|exact nmn|assumption|simp)) hS ?_)|(refine own_box rfl _ _ rfl (by rfl) hS ?_;clear hS;(try clear ww);intro bb ww hS)|((first|refine w_st rfl _ _ rfl (by rfl) (by rfl) (by repeat constructor) (by rfl) (by rfl) (by first|rfl|assumption) hS ?_|refine w_s1 rfl _ _ rfl (by rfl) (by repeat constructor) (by first|exact .c|exact .t rfl) (by rfl) (by repeat constructor) hS ?_);clear hS;(try clear ww);intro ww hS))
      go_ret
      exact own_gives hS

theorem ref28_Equal_calls : ∀ (n : Nat) (b : Bx n) (cs ds : List Value) (w : World), Rep w n b cs → Rep w n b ds → Small n b → Calls Try.prog 12 #[.agg cs.toArray, .agg ds.toArray] w (Gives (.bool true) w) := by
  intro n
  induction n with
  | zero => intro b cs ds w h; exact h.elim
  | succ n ih => intro b cs ds w h1 h2 h3; exact ref28_Equal_step n ih b cs ds w h1 h2 h3

end Go.Proofs.Ytdbcdjiclkmknaa
namespace Go.Proofs.Ytdbcdjiclkmknaa
open Go.RowKit Go.ChangeShapes Go.WideShapes Go.ChangeAt

theorem Try.own : ownKnob Try.prog.godebug = none := by kernel_rfl
theorem Try.laidOut : laidOutB Try.prog = true := by kernel_rfl

/-- All arguments read as before. -/
theorem below_trodAll {H : Type} {enc : TypeId × Value → H} {P : Program} (hl : laidOutB P = true) {W W' : World} (hb : Below W.heap.size W W') (ts : List TypeId) :
    ∀ (vs : List Value) (ds : List (DataW H)) (ps : List MemPlace), (∀ t ∈ ts, P.readableRec t = true ∧ t < P.types.size) → DataW.TrodAll enc P W 0 (fun _ => true) true ts vs ds ps →
    (∀ x ∈ ps, x.block < W.heap.size) → DataW.TrodAll enc P W' 0 (fun b => decide (b < W.heap.size)) true ts vs ds ps := by
  induction ts with
  | nil => intro vs ds ps _ h _; obtain ⟨rfl, rfl, rfl⟩ := trodAll_nil h; exact rfl
  | cons t ts ih =>
    intro vs ds ps hr h hlt
    obtain ⟨v, vs', d, ds', p, q, rfl, rfl, rfl, h1, h2⟩ := trodAll_cons h
    exact ⟨p, q, Below.trod hl (hr t (by simp)).1 (hr t (by simp)).2 h1 hb (fun x hx => hlt x (by simp [hx])),
      ih vs' ds' q (fun u hu => hr u (by simp [hu])) h2 (fun x hx => hlt x (by simp [hx])), rfl⟩

/-- What the row asks behind the call of a law. -/
theorem law_post {H : Type} {enc : TypeId × Value → H} {P : Program} (hl : laidOutB P = true) {f : Func} {s : ChangeSpec} {tb : TypeId} {W W' : World} {args : Array Value} {ds gs : List (DataW H)} {before : List MemPlace}
    (hvars : s.vars = []) (hres : f.resultTypes = #[tb]) (hbool : P.underlying tb = some .bool) (hread : ∀ t ∈ f.params.toList, P.readableRec t = true ∧ t < P.types.size)
    (hspec : s.fn H (ds ++ gs) = { results := [.lit (.bool true)], args := ds }) (hW : DataW.Whole enc P f.params.toList s.vars false W args.toList ds gs before) (hb : Below W.heap.size W W') :
    s.post enc P f false true false false W args (.bool true) W' := by
  obtain ⟨p, q, hA, hV, rfl, hfz, hnd⟩ := id hW
  refine ⟨ds, gs, p ++ q, [], p, [], hW, ?_, ?_, ?_, Below.frame hb _, fun h => by cases h⟩
  · rw [hspec, hres]
    exact trodAll_mk1 (shut_bool hbool true)
  · rw [hspec]
    exact below_trodAll hl hb _ _ _ _ hread hA (fun x hx => hW.lt x (by simp [hx]))
  · rw [hspec, hvars]
    exact rfl
end Go.Proofs.Ytdbcdjiclkmknaa
