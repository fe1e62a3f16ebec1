/- Chapter 35: a part of the limits alone. -/
import Derived.Test.YtdbcdjiclkmknaaLt5
import Derived.Test.YtdbcdjiclkmknaaJ25
namespace Go.Proofs.Ytdbcdjiclkmknaa
open Go.RowKit

theorem allOwn_kids5 {n : Nat} {bw bh bd : Int} {kids : List (Bx (n + 1))} (hl : lensOk [bw, bh, bd, 0, 0] = true) (hk : ∀ k ∈ kids, allOwn (n + 1) k = true) : allOwn (n + 2) (listB (n + 1) bw bh bd kids) = true := by
  have h1 : kindOk ⟨3, ⟨#[]⟩, 0, bw, bh, bd, 0, 0, 0, []⟩ kids.length = true := by simp [kindOk, Lib.toList_data]
  have h2 : srcOk ⟨3, ⟨#[]⟩, 0, bw, bh, bd, 0, 0, 0, []⟩ = true := by simp [srcOk, srcEnd]
  have e : allOwn (n + 2) (listB (n + 1) bw bh bd kids) = ((lensOk [bw, bh, bd, 0, 0] && kindOk ⟨3, ⟨#[]⟩, 0, bw, bh, bd, 0, 0, 0, []⟩ kids.length && srcOk ⟨3, ⟨#[]⟩, 0, bw, bh, bd, 0, 0, 0, []⟩) && kids.all (allOwn (n + 1))) := rfl
  rw [e, hl, h1, h2]
  simpa using hk
theorem allOwn_at5 {n : Nat} {b : Bx (n + 1)} {x y : Int} (h : allOwn (n + 1) b = true) (hb : (-1073741824 ≤ b.1.w ∧ b.1.w ≤ 1073741824) ∧ (-1073741824 ≤ b.1.h ∧ b.1.h ≤ 1073741824) ∧ (-1073741824 ≤ b.1.d ∧ b.1.d ≤ 1073741824)) (hx : -1073741824 ≤ x ∧ x ≤ 1073741824) (hy : -1073741824 ≤ y ∧ y ≤ 1073741824) : allOwn (n + 1) (atXY (n + 1) b x y) = true := by
  obtain ⟨⟨k, nm, sz, bw, bh, bd, bx, by_, o, src⟩, ks⟩ := b
  exact allOwn_head (a' := ⟨k, nm, sz, bw, bh, bd, x, y, o, src⟩) h (lens5.2 ⟨hb.1, hb.2.1, hb.2.2, hx, hy⟩) rfl rfl
theorem lim_own {F : Fnt} {l : Int} {n : Nat} {base : Bx (n + 1)} {subs sups : List (Bx (n + 1))} (h : ScrOk F l n base subs sups) (hm : modL2 n (base :: (subs ++ sups)) = true) : allOwn (n + 2) (limB F l n base subs sups) = true := by
  have hit := ital_in h.1 h.2.2.1
  have hI := hlf_in (n := italB F (n + 1) base) hit.1 (by omega)
  have hI : 0 ≤ limI F n base ∧ limI F n base ≤ 200000 := by unfold limI; omega
  have q10 := lmQ_in (l := l) (p := 10) h.1 (by omega)
  have q11 := lmQ_in (l := l) (p := 11) h.1 (by omega)
  have q17 := lmQ_in (l := l) (p := 17) h.1 (by omega)
  clear hit
  obtain ⟨hW, hb, hs, hu⟩ := limW_mod hm
  have l0 := (lmL_le (W := limW n base subs sups) (h := limI F n base) (ow := base.1.w) (ss := subs.map (·.1.w)) (us := sups.map (·.1.w))).1
  have l1 := lmL_ge (W := limW n base subs sups) (h := limI F n base) (ow := base.1.w) (ss := subs.map (·.1.w)) (us := sups.map (·.1.w)) (lo := -200000) (by omega) (by have := lmX_cen hW.2 hb; unfold lmX0; omega) (fun s h => by have := lmX_cen hW.2 (hs s h); unfold lmX1; omega) (fun s h => by have := lmX_cen hW.2 (hu s h); unfold lmX2; omega)
  have hL : -200000 ≤ limL F n base subs sups ∧ limL F n base subs sups ≤ 0 := ⟨l1, l0⟩
  have e0 := (lmE_ge (W := limW n base subs sups) (h := limI F n base) (L := limL F n base subs sups) (ow := base.1.w) (ss := subs.map (·.1.w)) (us := sups.map (·.1.w))).1
  have e1 := lmE_le (W := limW n base subs sups) (h := limI F n base) (L := limL F n base subs sups) (ow := base.1.w) (ss := subs.map (·.1.w)) (us := sups.map (·.1.w)) (hi := 1000000000) (by omega) (by have := lmX_cen hW.2 hb; unfold lmX0; omega) (fun s h => by have := lmX_cen hW.2 (hs s h); have := hs s h; unfold lmX1; omega) (fun s h => by have := lmX_cen hW.2 (hu s h); have := hu s h; unfold lmX2; omega)
  have hE : 0 ≤ limE F n base subs sups ∧ limE F n base subs sups ≤ 1000000000 := ⟨by have : limW n base subs sups ≤ limE F n base subs sups := e0; omega, e1⟩
  clear l0 l1 e0 e1
  have mo : ∀ b ∈ base :: (subs ++ sups), (-100000000 ≤ b.1.h ∧ b.1.h ≤ 100000000) ∧ (-100000000 ≤ b.1.d ∧ b.1.d ≤ 100000000) := fun b hb => ⟨(modL2_out hm hb).2.1, (modL2_out hm hb).2.2.1⟩
  have mb := mo base (by simp)
  have hH : -1000000000 ≤ limH F l n base sups ∧ limH F l n base sups ≤ 1000000000 := by
    have a := (fmax_ge (sups.map fun b => base.1.h + lmQ F l 11 + b.1.d + b.1.h + lmQ F l 10) base.1.h).1
    have b := fmax_le (sups.map fun b => base.1.h + lmQ F l 11 + b.1.d + b.1.h + lmQ F l 10) base.1.h 1000000000 (by omega) (fun x hx => by
      obtain ⟨k, hk, rfl⟩ := List.mem_map.1 hx
      have := mo k (by simp [hk])
      omega)
    unfold limH
    omega
  have hD : -1000000000 ≤ limD F l n base subs ∧ limD F l n base subs ≤ 1000000000 := by
    have a := (fmax_ge (subs.map fun b => base.1.d + lmQ F l 17 + b.1.h + b.1.d + lmQ F l 10) base.1.d).1
    have b := fmax_le (subs.map fun b => base.1.d + lmQ F l 17 + b.1.h + b.1.d + lmQ F l 10) base.1.d 1000000000 (by omega) (fun x hx => by
      obtain ⟨k, hk, rfl⟩ := List.mem_map.1 hx
      have := mo k (by simp [hk])
      omega)
    unfold limD
    omega
  unfold limB
  generalize limE F n base subs sups = E at *
  generalize limH F l n base sups = H at *
  generalize limD F l n base subs = D at *
  refine allOwn_kids5 (lens5.2 (by omega)) (fun k hk => ?_)
  simp only [limK, List.mem_cons, List.mem_append, List.mem_map] at hk
  generalize limW n base subs sups = W at *
  generalize limL F n base subs sups = L at *
  generalize limI F n base = I at *
  generalize lmQ F l 17 = Q17 at *
  generalize lmQ F l 11 = Q11 at *
  rcases hk with rfl | ⟨b, hm, rfl⟩ | ⟨b, hm, rfl⟩
  · have t := lmX_cen hW.2 hb
    exact allOwn_at5 h.2.2.1.1 (vlens h.2.2.1) (by unfold lmX0; omega) (by omega)
  · have t := lmX_cen hW.2 (hs _ (mem_w hm))
    have t2 := hs _ (mem_w hm)
    have t3 := mo b (by simp [hm])
    exact allOwn_at5 (h.2.2.2.1.2 b hm).1 (vlens (h.2.2.2.1.2 b hm)) (by unfold lmX1; omega) (by omega)
  · have t := lmX_cen hW.2 (hu _ (mem_w hm))
    have t2 := hu _ (mem_w hm)
    have t3 := mo b (by simp [hm])
    exact allOwn_at5 (h.2.2.2.2.2 b hm).1 (vlens (h.2.2.2.2.2 b hm)) (by unfold lmX2; omega) (by omega)
/-- Each part alone has a result too. -/
theorem lim_part {F : Fnt} {l : Int} {n : Nat} {base sb sp : Bx (n + 1)} (h : MadeOk5 F l n base [sb] [sp]) : MadeOk5 F l n base [] [sp] ∧ MadeOk5 F l n base [sb] [] := by
  obtain ⟨ht, _, _, hm, ho, hv⟩ := h
  have hm2 := hm
  unfold modL2 at hm2
  simp only [List.cons_append, List.nil_append, List.all_cons, List.all_nil, Bool.and_true, Bool.and_eq_true] at hm2
  have m1 : modL2 n (base :: ([] ++ [sp])) = true := by
    unfold modL2
    simp only [List.nil_append, List.all_cons, List.all_nil, Bool.and_true, Bool.and_eq_true]
    exact ⟨hm2.1, hm2.2.2⟩
  have m2 : modL2 n (base :: ([sb] ++ [])) = true := by
    unfold modL2
    simp only [List.append_nil, List.all_cons, List.all_nil, Bool.and_true, Bool.and_eq_true]
    exact ⟨hm2.1, hm2.2.1⟩
  have o1 : ScrOk F l n base [] [sp] := ⟨ho.1, ho.2.1, ho.2.2.1, ⟨Nat.zero_le _, fun b hb => by cases hb⟩, ho.2.2.2.2⟩
  have o2 : ScrOk F l n base [sb] [] := ⟨ho.1, ho.2.1, ho.2.2.1, ho.2.2.2.1, ⟨Nat.zero_le _, fun b hb => by cases hb⟩⟩
  unfold tameS fewL at ht
  simp only [List.cons_append, List.nil_append, List.all_cons, List.all_nil, Bool.and_true, Bool.and_eq_true, decide_eq_true_eq, List.length_cons, List.length_nil] at ht
  have c0 : bCount (n + 2) (limB F l n base [sb] [sp]) = 1 + (bCount (n + 1) base + (bCount (n + 1) sb + (bCount (n + 1) sp + 0))) := rfl
  have n0 : bNested (n + 2) (limB F l n base [sb] [sp]) = 1 + max (max (max 0 (bNested (n + 1) base)) (bNested (n + 1) sb)) (bNested (n + 1) sp) := rfl
  have c1 : bCount (n + 2) (limB F l n base [] [sp]) = 1 + (bCount (n + 1) base + (bCount (n + 1) sp + 0)) := rfl
  have n1 : bNested (n + 2) (limB F l n base [] [sp]) = 1 + max (max 0 (bNested (n + 1) base)) (bNested (n + 1) sp) := rfl
  have c2 : bCount (n + 2) (limB F l n base [sb] []) = 1 + (bCount (n + 1) base + (bCount (n + 1) sb + 0)) := rfl
  have n2 : bNested (n + 2) (limB F l n base [sb] []) = 1 + max (max 0 (bNested (n + 1) base)) (bNested (n + 1) sb) := rfl
  have hc := hv.2.1
  have hn := hv.2.2
  rw [c0] at hc
  rw [n0] at hn
  refine ⟨⟨?_, Nat.zero_le _, by simp, m1, o1, lim_own o1 m1, by rw [c1]; omega, by rw [n1]; omega⟩, ⟨?_, by simp, Nat.zero_le _, m2, o2, lim_own o2 m2, by rw [c2]; omega, by rw [n2]; omega⟩⟩
  · unfold tameS fewL
    simp only [List.nil_append, List.all_cons, List.all_nil, Bool.and_true, Bool.and_eq_true, decide_eq_true_eq, List.length_cons, List.length_nil]
    exact ⟨by omega, ht.2.1, ht.2.2.1, ht.2.2.2.2⟩
  · unfold tameS fewL
    simp only [List.append_nil, List.all_cons, List.all_nil, Bool.and_true, Bool.and_eq_true, decide_eq_true_eq, List.length_cons, List.length_nil]
    exact ⟨by omega, ht.2.1, ht.2.2.1, ht.2.2.2.1⟩

end Go.Proofs.Ytdbcdjiclkmknaa
