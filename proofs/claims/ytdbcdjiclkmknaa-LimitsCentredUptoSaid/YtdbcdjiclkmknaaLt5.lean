/- Chapter 35: plain laws of results. -/
import Derived.Test.YtdbcdjiclkmknaaJ25
namespace Go.Proofs.Ytdbcdjiclkmknaa
open Go.RowKit

theorem mem_w {n : Nat} {b : Bx (n + 1)} {l : List (Bx (n + 1))} (h : b ∈ l) : b.1.w ∈ l.map (·.1.w) := List.mem_map_of_mem (f := (·.1.w)) h
/-- Each kid is inside. -/
theorem limK_in {F : Fnt} {l : Int} {n : Nat} {base : Bx (n + 1)} {subs sups : List (Bx (n + 1))} (h : ScrOk F l n base subs sups) {k : Bx (n + 1)} (hk : k ∈ limK F l n base subs sups) : 0 ≤ k.1.x ∧ k.1.x + k.1.w ≤ limE F n base subs sups ∧ (-1073741824 ≤ k.1.w ∧ k.1.w ≤ 1073741824) := by
  have hl := lmL_le (W := limW n base subs sups) (h := limI F n base) (ow := base.1.w) (ss := subs.map (·.1.w)) (us := sups.map (·.1.w))
  have he := lmE_ge (W := limW n base subs sups) (h := limI F n base) (L := limL F n base subs sups) (ow := base.1.w) (ss := subs.map (·.1.w)) (us := sups.map (·.1.w))
  change limL F n base subs sups ≤ 0 ∧ limL F n base subs sups ≤ _ ∧ (∀ s ∈ _, limL F n base subs sups ≤ _) ∧ (∀ u ∈ _, limL F n base subs sups ≤ _) at hl
  change _ ≤ limE F n base subs sups ∧ _ ≤ limE F n base subs sups ∧ (∀ s ∈ _, _ ≤ limE F n base subs sups) ∧ (∀ u ∈ _, _ ≤ limE F n base subs sups) at he
  simp only [limK, List.mem_cons, List.mem_append, List.mem_map] at hk
  rcases hk with rfl | ⟨b, hb, rfl⟩ | ⟨b, hb, rfl⟩
  · have v := (vlens h.2.2.1).1
    have a1 := hl.2.1
    have a2 := he.2.1
    simp only [atXY]
    omega
  · have v := (vlens (h.2.2.2.1.2 b hb)).1
    have a1 := hl.2.2.1 _ (mem_w hb)
    have a2 := he.2.2.1 _ (mem_w hb)
    simp only [atXY]
    omega
  · have v := (vlens (h.2.2.2.2.2 b hb)).1
    have a1 := hl.2.2.2 _ (mem_w hb)
    have a2 := he.2.2.2 _ (mem_w hb)
    simp only [atXY]
    omega
/-- Widths of modest boxes. -/
theorem limW_mod {n : Nat} {base : Bx (n + 1)} {subs sups : List (Bx (n + 1))} (hm : modL2 n (base :: (subs ++ sups)) = true) : (0 ≤ limW n base subs sups ∧ limW n base subs sups ≤ 100000000) ∧ (-100000000 ≤ base.1.w ∧ base.1.w ≤ limW n base subs sups) ∧ (∀ s ∈ subs.map (·.1.w), -100000000 ≤ s ∧ s ≤ limW n base subs sups) ∧ (∀ s ∈ sups.map (·.1.w), -100000000 ≤ s ∧ s ≤ limW n base subs sups) := by
  have mb := (modL2_out hm (b := base) (by simp)).1
  have ms : ∀ s ∈ subs.map (·.1.w), -100000000 ≤ s ∧ s ≤ 100000000 := fun s hs => by
    obtain ⟨b, hb, rfl⟩ := List.mem_map.1 hs
    exact (modL2_out hm (b := b) (by simp [hb])).1
  have mu : ∀ s ∈ sups.map (·.1.w), -100000000 ≤ s ∧ s ≤ 100000000 := fun s hs => by
    obtain ⟨b, hb, rfl⟩ := List.mem_map.1 hs
    exact (modL2_out hm (b := b) (by simp [hb])).1
  have w0 := lmW_ge (ow := base.1.w) (ss := subs.map (·.1.w)) (us := sups.map (·.1.w))
  have w1 := lmW_le (ow := base.1.w) (ss := subs.map (·.1.w)) (us := sups.map (·.1.w)) (hi := 100000000) (by omega) mb.2 (fun s hs => (ms s hs).2) (fun s hs => (mu s hs).2)
  exact ⟨⟨w0.1, w1⟩, ⟨mb.1, w0.2.1⟩, fun s hs => ⟨(ms s hs).1, w0.2.2.1 s hs⟩, fun s hs => ⟨(mu s hs).1, w0.2.2.2 s hs⟩⟩
theorem lmX_cen {W x : Int} (hW : W ≤ 100000000) (hx : -100000000 ≤ x ∧ x ≤ W) : 0 ≤ hlf (W - x) ∧ W - x ≤ 2 * hlf (W - x) ∧ 2 * hlf (W - x) ≤ W - x + 1 := hlf_in (by omega) (by omega)
/-- Without a correction nothing sticks out. -/
theorem lim_cen {F : Fnt} {n : Nat} {base : Bx (n + 1)} {subs sups : List (Bx (n + 1))} (hm : modL2 n (base :: (subs ++ sups)) = true) (hI : limI F n base = 0) : limL F n base subs sups = 0 ∧ limE F n base subs sups = limW n base subs sups := by
  obtain ⟨hW, hb, hs, hu⟩ := limW_mod hm
  unfold limE
  have e : limL F n base subs sups = lmL (limW n base subs sups) 0 base.1.w (subs.map (·.1.w)) (sups.map (·.1.w)) := by unfold limL; rw [hI]
  rw [hI]
  generalize limW n base subs sups = W at *
  have l0 := (lmL_le (W := W) (h := 0) (ow := base.1.w) (ss := subs.map (·.1.w)) (us := sups.map (·.1.w))).1
  have l1 := lmL_ge (W := W) (h := 0) (ow := base.1.w) (ss := subs.map (·.1.w)) (us := sups.map (·.1.w)) (lo := 0) (by omega) (by have := lmX_cen hW.2 hb; unfold lmX0; omega) (fun s h => by have := lmX_cen hW.2 (hs s h); unfold lmX1; omega) (fun s h => by have := lmX_cen hW.2 (hu s h); unfold lmX2; omega)
  have eL : limL F n base subs sups = 0 := by omega
  rw [eL]
  have e0 := (lmE_ge (W := W) (h := 0) (L := 0) (ow := base.1.w) (ss := subs.map (·.1.w)) (us := sups.map (·.1.w))).1
  have e1 := lmE_le (W := W) (h := 0) (L := 0) (ow := base.1.w) (ss := subs.map (·.1.w)) (us := sups.map (·.1.w)) (hi := W) (by omega) (by have := lmX_cen hW.2 hb; unfold lmX0; omega) (fun s h => by have := lmX_cen hW.2 (hs s h); have := hs s h; unfold lmX1; omega) (fun s h => by have := lmX_cen hW.2 (hu s h); have := hu s h; unfold lmX2; omega)
  exact ⟨rfl, by omega⟩
/-- .. and all kids are centred. -/
theorem limK_cen {F : Fnt} {l : Int} {n : Nat} {base : Bx (n + 1)} {subs sups : List (Bx (n + 1))} (hm : modL2 n (base :: (subs ++ sups)) = true) (hI : limI F n base = 0) {k : Bx (n + 1)} (hk : k ∈ limK F l n base subs sups) : (-1 ≤ 2 * k.1.x + k.1.w - limE F n base subs sups ∧ 2 * k.1.x + k.1.w - limE F n base subs sups ≤ 1) ∧ (-1000000000 ≤ k.1.x ∧ k.1.x ≤ 1000000000) ∧ (-1000000000 ≤ k.1.w ∧ k.1.w ≤ 1000000000) := by
  obtain ⟨hW, hb, hs, hu⟩ := limW_mod hm
  obtain ⟨eL, eE⟩ := lim_cen hm hI
  rw [eE]
  simp only [limK, eL, hI, List.mem_cons, List.mem_append, List.mem_map] at hk
  generalize limW n base subs sups = W at *
  rcases hk with rfl | ⟨b, hm, rfl⟩ | ⟨b, hm, rfl⟩
  · have := lmX_cen hW.2 hb
    simp only [atXY, lmX0]
    omega
  · have := lmX_cen hW.2 (hs _ (mem_w hm))
    have := hs _ (mem_w hm)
    simp only [atXY, lmX1]
    omega
  · have := lmX_cen hW.2 (hu _ (mem_w hm))
    have := hu _ (mem_w hm)
    simp only [atXY, lmX2]
    omega
theorem limK_len {F : Fnt} {l : Int} {n : Nat} {base : Bx (n + 1)} {subs sups : List (Bx (n + 1))} : (limK F l n base subs sups).length = 1 + subs.length + sups.length := by
  unfold limK
  simp only [List.length_cons, List.length_append, List.length_map]
  omega

end Go.Proofs.Ytdbcdjiclkmknaa
