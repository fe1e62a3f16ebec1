/- Chapter 32: a box with another depth or height; the fraction with it. -/
import Derived.Test.YtfmoghkffffmmaaK14
namespace Go.Proofs.Ytfmoghkffffmmaa
open Go.RowKit

attribute [local irreducible] wpQuiet wpG wpP wpK wpList Code.wp Calls

/-- A box with another height and depth. -/
def dimB {n : Nat} (b : Bx (n + 1)) (h d : Int) : Bx (n + 1) := ({ b.1 with h := h, d := d }, b.2)
theorem lens5 {a b c d e : Int} : lensOk [a, b, c, d, e] = true ↔ (-1073741824 ≤ a ∧ a ≤ 1073741824) ∧ (-1073741824 ≤ b ∧ b ≤ 1073741824) ∧ (-1073741824 ≤ c ∧ c ≤ 1073741824) ∧ (-1073741824 ≤ d ∧ d ≤ 1073741824) ∧ (-1073741824 ≤ e ∧ e ≤ 1073741824) := by
  simp [lensOk]
/-- A box whose lengths alone are others. -/
theorem allOwn_head {n : Nat} {a a' : Hd} {ks : List (Bx n)} (h : allOwn (n + 1) (a, ks) = true) (hl : lensOk a'.lens = true) (hk : kindOk a' ks.length = kindOk a ks.length) (hs : srcOk a' = srcOk a) : allOwn (n + 1) (a', ks) = true := by
  simp only [allOwn, ownOk, Bool.and_eq_true] at h ⊢
  exact ⟨⟨⟨hl, hk ▸ h.1.1.2⟩, hs ▸ h.1.2⟩, h.2⟩
theorem allOwn_list {n : Nat} {bw bh bd : Int} {b0 b1 b2 : Bx (n + 1)} : allOwn (n + 2) (listB (n + 1) bw bh bd [b0, b1, b2]) = true ↔ lensOk [bw, bh, bd, 0, 0] = true ∧ allOwn (n + 1) b0 = true ∧ allOwn (n + 1) b1 = true ∧ allOwn (n + 1) b2 = true := by
  have hk : kindOk ⟨3, ⟨#[]⟩, 0, bw, bh, bd, 0, 0, 0, []⟩ 3 = true := by simp [kindOk, Lib.toList_data]
  have hs : srcOk ⟨3, ⟨#[]⟩, 0, bw, bh, bd, 0, 0, 0, []⟩ = true := by simp [srcOk, srcEnd]
  have e : allOwn (n + 2) (listB (n + 1) bw bh bd [b0, b1, b2]) = ((lensOk [bw, bh, bd, 0, 0] && kindOk ⟨3, ⟨#[]⟩, 0, bw, bh, bd, 0, 0, 0, []⟩ 3 && srcOk ⟨3, ⟨#[]⟩, 0, bw, bh, bd, 0, 0, 0, []⟩) && (allOwn (n + 1) b0 && (allOwn (n + 1) b1 && (allOwn (n + 1) b2 && true)))) := rfl
  rw [e, hk, hs]
  simp [Bool.and_eq_true]
theorem allOwn_rule {n : Nat} {bw bh bd x y : Int} : allOwn (n + 1) (atXY (n + 1) (ruleB n bw bh bd) x y) = true ↔ lensOk [bw, bh, bd, x, y] = true := by
  have hk : kindOk ⟨2, ⟨#[]⟩, 0, bw, bh, bd, x, y, 0, []⟩ 0 = true := by simp [kindOk, Lib.toList_data]
  have hs : srcOk ⟨2, ⟨#[]⟩, 0, bw, bh, bd, x, y, 0, []⟩ = true := by simp [srcOk, srcEnd]
  have e : allOwn (n + 1) (atXY (n + 1) (ruleB n bw bh bd) x y) = ((lensOk [bw, bh, bd, x, y] && kindOk ⟨2, ⟨#[]⟩, 0, bw, bh, bd, x, y, 0, []⟩ 0 && srcOk ⟨2, ⟨#[]⟩, 0, bw, bh, bd, x, y, 0, []⟩) && true) := rfl
  rw [e, hk, hs]
  simp
theorem validB_dim {n : Nat} {b : Bx (n + 1)} {h d : Int} (hv : validB (n + 1) b) (hm : modB n b = true) (h1 : -1073741824 ≤ h ∧ h ≤ 1073741824) (h2 : -1073741824 ≤ d ∧ d ≤ 1073741824) : validB (n + 1) (dimB b h d) := by
  obtain ⟨⟨k, nm, sz, bw, bh, bd, x, y, o, src⟩, ks⟩ := b
  have m := modB_out hm
  simp only at m
  exact ⟨allOwn_head (a' := ⟨k, nm, sz, bw, h, d, x, y, o, src⟩) hv.1 (lens5.2 (by dsimp only; omega)) rfl rfl, hv.2⟩
/-- The fraction with a deeper numerator and a higher denominator is a box, too. -/
theorem frac_valid {F : Fnt} {l : Int} {n : Nat} {num den : Bx (n + 1)} (h : MadeOk F l n num den) {d' h' : Int} (b1 : -100000000 ≤ d' ∧ d' ≤ 200000000) (b2 : -100000000 ≤ h' ∧ h' ≤ 200000000) : validB (n + 2) (fracB F l n (dimB num num.1.h d') (dimB den h' den.1.d)) := by
  obtain ⟨⟨br1, br2⟩, ⟨by1, by2⟩, ⟨bg1, bg2⟩, ⟨bu1, bu2⟩, ⟨bd1, bd2⟩⟩ := made_nums h
  have mn := modB_out h.2.1
  have md := modB_out h.2.2.1
  have hR := h.2.2.2.2
  have hn := h.2.2.2.1.2.2.1.1
  have hd := h.2.2.2.1.2.2.2.1
  obtain ⟨⟨nk, nn, nsz, nw, nh, nd, nx, ny, nof, nsrc⟩, nkids⟩ := num
  obtain ⟨⟨dk, dn, dsz, dw, dh, dd, dx, dy, dof, dsrc⟩, dkids⟩ := den
  refine ⟨?_, hR.2⟩
  have e : fracB F l n (dimB (⟨nk, nn, nsz, nw, nh, nd, nx, ny, nof, nsrc⟩, nkids) nh d') (dimB (⟨dk, dn, dsz, dw, dh, dd, dx, dy, dof, dsrc⟩, dkids) h' dd) = listB (n + 1) (fracW nw dw) (max (fracUpY F l d' + nh) (fracY F l + par F l F.rule)) (max (dd + fracDnY F l h') (-(fracY F l))) [(⟨nk, nn, nsz, nw, nh, d', hlf (fracW nw dw - nw), fracUpY F l d', nof, nsrc⟩, nkids), atXY (n + 1) (ruleB n (fracW nw dw) (par F l F.rule) 0) 0 (fracY F l), (⟨dk, dn, dsz, dw, h', dd, hlf (fracW nw dw - dw), -(fracDnY F l h'), dof, dsrc⟩, dkids)] := rfl
  rw [e]
  simp only at mn md
  have bW : max (max 0 nw) dw = fracW nw dw := rfl
  have bxn := hlf_in (n := fracW nw dw - nw) (by omega) (by omega)
  have bxd := hlf_in (n := fracW nw dw - dw) (by omega) (by omega)
  have bU : max (fracUp F l) (fracY F l + par F l F.rule + fracGap l (par F l F.rule) + d') = fracUpY F l d' := rfl
  have bV : max (fracDown F l) (h' + fracGap l (par F l F.rule) - fracY F l) = fracDnY F l h' := rfl
  refine allOwn_list.2 ⟨lens5.2 ?_, allOwn_head hn (lens5.2 ?_) rfl rfl, allOwn_rule.2 (lens5.2 ?_), allOwn_head hd (lens5.2 ?_) rfl rfl⟩ <;> (try dsimp only) <;> omega
/-- The cells of a box with another depth; with another height. -/
theorem rep_setD {w : World} {n : Nat} {k sz bw bh bd x y o : Int} {nm : ByteArray} {src : List Int} {kids : List (Bx n)} {c8 c10 : Value} {d' : Int} (h : Rep w (n + 1) (⟨k, nm, sz, bw, bh, bd, x, y, o, src⟩, kids) [.int .i64 k, .string nm, .int .i64 sz, .int .i64 bw, .int .i64 bh, .int .i64 bd, .int .i64 x, .int .i64 y, c8, .int .i64 o, c10]) (hd : I64 d') : Rep w (n + 1) (⟨k, nm, sz, bw, bh, d', x, y, o, src⟩, kids) [.int .i64 k, .string nm, .int .i64 sz, .int .i64 bw, .int .i64 bh, .int .i64 d', .int .i64 x, .int .i64 y, c8, .int .i64 o, c10] := by
  obtain ⟨kx, kc, sx, sc, e, ha, hl, hs, hk⟩ := rep_out h
  simp only [Hd.cells, List.cons.injEq, and_true, true_and] at e
  obtain ⟨rfl, rfl⟩ := e
  exact rep_mk (a := ⟨k, nm, sz, bw, bh, d', x, y, o, src⟩) ⟨ha.kind, ha.size, ha.w, ha.h, hd, ha.x, ha.y, ha.of, ha.src, ha.srcLen, ha.nameLen⟩ hl hs hk
theorem rep_setH {w : World} {n : Nat} {k sz bw bh bd x y o : Int} {nm : ByteArray} {src : List Int} {kids : List (Bx n)} {c8 c10 : Value} {h' : Int} (h : Rep w (n + 1) (⟨k, nm, sz, bw, bh, bd, x, y, o, src⟩, kids) [.int .i64 k, .string nm, .int .i64 sz, .int .i64 bw, .int .i64 bh, .int .i64 bd, .int .i64 x, .int .i64 y, c8, .int .i64 o, c10]) (hd : I64 h') : Rep w (n + 1) (⟨k, nm, sz, bw, h', bd, x, y, o, src⟩, kids) [.int .i64 k, .string nm, .int .i64 sz, .int .i64 bw, .int .i64 h', .int .i64 bd, .int .i64 x, .int .i64 y, c8, .int .i64 o, c10] := by
  obtain ⟨kx, kc, sx, sc, e, ha, hl, hs, hk⟩ := rep_out h
  simp only [Hd.cells, List.cons.injEq, and_true, true_and] at e
  obtain ⟨rfl, rfl⟩ := e
  exact rep_mk (a := ⟨k, nm, sz, bw, h', bd, x, y, o, src⟩) ⟨ha.kind, ha.size, ha.w, hd, ha.d, ha.x, ha.y, ha.of, ha.src, ha.srcLen, ha.nameLen⟩ hl hs hk

end Go.Proofs.Ytfmoghkffffmmaa
