/- Chapter 36: what the laws on a made box need. -/
import Derived.Test.YtceigjonhabmmaaJ25
import Derived.Test.YtceigjonhabmmaaJ23
import Derived.Test.YtceigjonhabmmaaJ24
import Derived.Test.YtceigjonhabmmaaJ19
namespace Go.Proofs.Ytceigjonhabmmaa
open Go.RowKit

attribute [local irreducible] wpQuiet wpG wpP wpK wpList Code.wp Calls

/-- The accent's cells. -/
theorem gly_out {w : World} {n : Nat} {gn : ByteArray} {p gw gh gd x y : Int} {cs : List Value} (h : Rep w (n + 1) (atXY (n + 1) (glyB n gn p gw gh gd) x y) cs) : ∃ kx kc sx sc, cs = [.int .i64 1, .string gn, .int .i64 p, .int .i64 gw, .int .i64 gh, .int .i64 gd, .int .i64 x, .int .i64 y, .slice kx 0 kc, .int .i64 0, .slice sx 0 sc] := by
  obtain ⟨kx, kc, sx, sc, rfl, _⟩ := rep_out h
  exact ⟨kx, kc, sx, sc, rfl⟩
theorem pair_out {w : World} {n : Nat} {bw bh bd : Int} {b0 b1 : Bx (n + 1)} {cs : List Value} (h : Rep w (n + 2) (listB (n + 1) bw bh bd [b0, b1]) cs) : ∃ k o kc sx sc q0 q1, cs = [.int .i64 3, .string ⟨#[]⟩, .int .i64 0, .int .i64 bw, .int .i64 bh, .int .i64 bd, .int .i64 0, .int .i64 0, .slice (some ⟨k, o, none⟩) 2 kc, .int .i64 0, .slice sx 0 sc] ∧ w.rangeAt k o q0 ∧ w.rangeAt k (o + 11) q1 ∧ Rep w (n + 1) b0 q0 ∧ Rep w (n + 1) b1 q1 := by
  obtain ⟨kx, kc, sx, sc, rfl, _, _, _, hk⟩ := rep_out h
  obtain ⟨k, o, q0, rfl, hr0, hp0⟩ := hk 0 _ rfl
  obtain ⟨k1, o1, q1, e1, hr1, hp1⟩ := hk 1 _ rfl
  obtain ⟨rfl, rfl⟩ : k = k1 ∧ o = o1 := by simpa using e1
  rw [Nat.zero_mul, Nat.add_zero] at hr0
  rw [Nat.one_mul] at hr1
  exact ⟨k, o, kc, sx, sc, q0, q1, rfl, hr0, hr1, hp0, hp1⟩
theorem cell_below36 {w w' : World} {a : Addr} {v : Value} (h : w.cell? a = some v) (hb : Below w.heap.size w w') : w'.cell? a = some v := (hb.cell (World.block_lt_of_cell? w _ h)).trans h
section
variable {F : Fnt} {l : Int} {n : Nat} {s : ByteArray} {body : Bx (n + 1)}
/-- Each kid is inside. -/
theorem accK_in {k : Bx (n + 1)} (hk : k ∈ accK F l n s body) : 0 ≤ k.1.x ∧ k.1.x + k.1.w ≤ max 0 (extL ((accK F l n s body).map (·.1))).r ∧ k.1.y + k.1.h ≤ (extL ((accK F l n s body).map (·.1))).h ∧ k.1.d - k.1.y ≤ (extL ((accK F l n s body).map (·.1))).d := by
  rw [acc_ext]
  simp only [accK, List.mem_cons, List.not_mem_nil, or_false] at hk
  rcases hk with rfl | rfl
  · simp only [atXY, accG, glyB]
    omega
  · simp only [atXY]
    omega
/-- A body with another height: its glyph, its point of attachment. -/
theorem att_high {h' : Int} : attB F n (dimB body h' body.1.d) = attB F n body := by
  obtain ⟨⟨bk, bn, bz, bw, bh, bd, bx, by_, bo, bs⟩, bks⟩ := body
  unfold attB dimB
  by_cases h1 : bk = 1
  · rw [inner_glyph (a := ⟨bk, bn, bz, bw, h', bd, bx, by_, bo, bs⟩) (ks := bks) h1, inner_glyph (a := ⟨bk, bn, bz, bw, bh, bd, bx, by_, bo, bs⟩) (ks := bks) h1]
  · by_cases h3 : bk = 3
    · by_cases hl : bks.length = 1
      · obtain ⟨k, rfl⟩ := List.length_eq_one_iff.1 hl
        cases ha : atO n k
        · rw [inner_off (a := ⟨bk, bn, bz, bw, h', bd, bx, by_, bo, bs⟩) h1 ha, inner_off (a := ⟨bk, bn, bz, bw, bh, bd, bx, by_, bo, bs⟩) h1 ha]
        · rw [inner_down (a := ⟨bk, bn, bz, bw, h', bd, bx, by_, bo, bs⟩) h3 ha, inner_down (a := ⟨bk, bn, bz, bw, bh, bd, bx, by_, bo, bs⟩) h3 ha]
      · rw [inner_len (a := ⟨bk, bn, bz, bw, h', bd, bx, by_, bo, bs⟩) (ks := bks) h1 hl, inner_len (a := ⟨bk, bn, bz, bw, bh, bd, bx, by_, bo, bs⟩) (ks := bks) h1 hl]
    · rw [inner_kind (a := ⟨bk, bn, bz, bw, h', bd, bx, by_, bo, bs⟩) (ks := bks) h1 h3, inner_kind (a := ⟨bk, bn, bz, bw, bh, bd, bx, by_, bo, bs⟩) (ks := bks) h1 h3]
theorem accX_high {h' : Int} : accX F l n s (dimB body h' body.1.d) = accX F l n s body := by
  unfold accX
  rw [att_high]
theorem allOwn_pair {bw bh bd : Int} {b0 b1 : Bx (n + 1)} : allOwn (n + 2) (listB (n + 1) bw bh bd [b0, b1]) = true ↔ lensOk [bw, bh, bd, 0, 0] = true ∧ allOwn (n + 1) b0 = true ∧ allOwn (n + 1) b1 = true := by
  have hk : kindOk ⟨3, ⟨#[]⟩, 0, bw, bh, bd, 0, 0, 0, []⟩ 2 = true := by simp [kindOk, Lib.toList_data]
  have hs : srcOk ⟨3, ⟨#[]⟩, 0, bw, bh, bd, 0, 0, 0, []⟩ = true := by simp [srcOk, srcEnd]
  have e : allOwn (n + 2) (listB (n + 1) bw bh bd [b0, b1]) = ((lensOk [bw, bh, bd, 0, 0] && kindOk ⟨3, ⟨#[]⟩, 0, bw, bh, bd, 0, 0, 0, []⟩ 2 && srcOk ⟨3, ⟨#[]⟩, 0, bw, bh, bd, 0, 0, 0, []⟩) && (allOwn (n + 1) b0 && (allOwn (n + 1) b1 && true))) := rfl
  rw [e, hk, hs]
  simp [Bool.and_eq_true]
/-- The box of a higher body is a box, too. -/
theorem acc_valid (h : MadeA F l n s body) {h' : Int} (b1 : -100000000 ≤ h' ∧ h' ≤ 200000000) : validB (n + 2) (accB F l n s (dimB body h' body.1.d)) := by
  have hn := acc_nums h.2.2.1
  have hg := acc_in h.2.2.1.1 s hn.2.1
  have mb := modB_out h.2.1
  have hp := acc_prm h.2.2.1.1
  have hA := par_in (l := l) h.2.2.1.1 hp.1 hp.2
  have hR := h.2.2.2
  have ho := h.2.2.1.2.2.1.1
  have ba := attG_in h.2.2.1.1 s hn.2.1
  have hX : -200000000 ≤ accX F l n s body ∧ accX F l n s body ≤ 200000000 := by
    unfold accX attB
    cases hi : innerS (n + 1) body with
    | none =>
      have := mb.1
      have : -100000000 ≤ hlf body.1.w ∧ hlf body.1.w ≤ 100000000 := by
        rw [hlf_ok (by omega)]
        unfold rdiv
        split <;> omega
      simp only
      omega
    | some g =>
      have := attG_in h.2.2.1.1 g.2.1.name (inner_size hi h.2.2.1.2.2.1)
      simp only
      omega
  have eX := accX_high (F := F) (l := l) (s := s) (body := body) (h' := h')
  obtain ⟨⟨bk, bn, bz, bw, bh, bd, bx, by_, bo, bs⟩, bks⟩ := body
  refine ⟨?_, hR.2⟩
  have hG := (allOwn_pair.1 hR.1).2.1
  have e : accB F l n s (dimB (⟨bk, bn, bz, bw, bh, bd, bx, by_, bo, bs⟩, bks) h' bd) = listB (n + 1) (max 0 (max (accX F l n s (dimB (⟨bk, bn, bz, bw, bh, bd, bx, by_, bo, bs⟩, bks) h' bd) + max 0 (-(accX F l n s (dimB (⟨bk, bn, bz, bw, bh, bd, bx, by_, bo, bs⟩, bks) h' bd))) + boxW (scaledG (pickG F.gs s) (sizeOf' F l))) (max 0 (-(accX F l n s (dimB (⟨bk, bn, bz, bw, bh, bd, bx, by_, bo, bs⟩, bks) h' bd))) + bw))) (max (raiseI F l h' + (scaledG (pickG F.gs s) (sizeOf' F l)).h) (0 + h')) (max ((scaledG (pickG F.gs s) (sizeOf' F l)).d - raiseI F l h') (bd - 0)) [(⟨1, (scaledG (pickG F.gs s) (sizeOf' F l)).name, sizeOf' F l, boxW (scaledG (pickG F.gs s) (sizeOf' F l)), (scaledG (pickG F.gs s) (sizeOf' F l)).h, (scaledG (pickG F.gs s) (sizeOf' F l)).d, accX F l n s (dimB (⟨bk, bn, bz, bw, bh, bd, bx, by_, bo, bs⟩, bks) h' bd) + max 0 (-(accX F l n s (dimB (⟨bk, bn, bz, bw, bh, bd, bx, by_, bo, bs⟩, bks) h' bd))), raiseI F l h', 0, []⟩, []), (⟨bk, bn, bz, bw, h', bd, max 0 (-(accX F l n s (dimB (⟨bk, bn, bz, bw, bh, bd, bx, by_, bo, bs⟩, bks) h' bd))), 0, bo, bs⟩, bks)] := rfl
  simp only at eX mb
  rw [e, eX]
  generalize accX F l n s (⟨bk, bn, bz, bw, bh, bd, bx, by_, bo, bs⟩, bks) = x at *
  have hu : 0 ≤ raiseI F l h' ∧ raiseI F l h' ≤ 200000000 := by unfold raiseI; omega
  refine allOwn_pair.2 ⟨lens5.2 ?_, allOwn_head hG (lens5.2 ?_) rfl rfl, allOwn_head ho (lens5.2 ?_) rfl rfl⟩ <;> (try dsimp only) <;> omega
end

end Go.Proofs.Ytceigjonhabmmaa
