/- The law StyleJoined. -/
import Derived.Test.YtillohdeljlchaaL25b
namespace Go.Proofs.Ytillohdeljlchaa
open Go.RowKit

set_option maxHeartbeats 4000000 in
set_option maxRecDepth 100000 in
theorem joined_pre (b o b' o' n m c c' : Nat) (l L1 E1 L2 E2 L3 E3 : Int) (cr C1 C2 C3 : Bool) (w : World) (h1 : n ≤ 30) (hnc : n ≤ c) (hnc' : n ≤ c') (hc : c ≤ maxLen) (hc' : c' ≤ maxLen) (hm : (n : Int).tdiv 2 = m) (hmn : 2 * m ≤ n) (hn : 0 < n) (hE : (E2 ≠ 0 ∧ E1 = E2) ∨ (E2 = 0 ∧ E1 = E3 ∧ L1 = L3 ∧ C1 = C3))
    (H : ∀ w', Below w.heap.size w w' → Calls Try.prog 16 #[.slice (some ⟨b, o, none⟩) n c, .slice (some ⟨b', o', none⟩) n c', .agg #[.int .i64 l, .bool cr]] w' (Gives (.tuple #[.agg #[.int .i64 L1, .bool C1], .int .i64 E1]) w'))
    (G : ∀ w', Below w.heap.size w w' → Calls Try.prog 16 #[.slice (some ⟨b, o, none⟩) m c, .slice (some ⟨b', o', none⟩) m c', .agg #[.int .i64 l, .bool cr]] w' (Gives (.tuple #[.agg #[.int .i64 L2, .bool C2], .int .i64 E2]) w'))
    (G3 : ∀ w', Below w.heap.size w w' → Calls Try.prog 16 #[.slice (some ⟨b, o + m, none⟩) (n - m) (c - m), .slice (some ⟨b', o' + m, none⟩) (n - m) (c' - m), .agg #[.int .i64 L2, .bool C2]] w' (Gives (.tuple #[.agg #[.int .i64 L3, .bool C3], .int .i64 E3]) w')) :
    Calls Try.prog 7 #[.slice (some ⟨b, o, none⟩) n c, .slice (some ⟨b', o', none⟩) n c', .agg #[.int .i64 l, .bool cr]] w (Gives (.bool true) w) := by
  have HH := Lib.hid H
  have GG := Lib.hid G
  have GG3 := Lib.hid G3
  clear H G G3
  have d1 : decide ((30 : Int) < n) = false := by simp; omega
  have k1 : wrap64 (m : Int) = m := by unfold wrap64; omega
  have k2 : (0 : Int) ≤ m := by omega
  have k3 : (m : Int) ≤ c := by omega
  have k4 : (m : Int) ≤ c' := by omega
  have k5 : ¬ c = m := by omega
  have k6 : ¬ c' = m := by omega
  have k7 : wrap64 (n : Int) = n := by unfold wrap64; omega
  have k8 : (m : Int) ≤ n := by omega
  have k9 : (n : Int) ≤ c := by omega
  have k10 : (n : Int) ≤ c' := by omega
  go_enter Try.func7, Try.ntmps7
  go_wp2_with fail
  refine (awake_calls _).mono ?_
  rintro e w1 ⟨rfl, hb⟩
  have d0 := hb.cell (p := ⟨w.heap.size, 0, none⟩) (by go_size)
  have d1 := hb.cell (p := ⟨w.heap.size, 1, none⟩) (by go_size)
  simp [go_sem] at d0 d1
  have hz := hb.size
  simp only [World.size_alloc] at hz
  have hz0 : w.heap.size < w1.heap.size := by omega
  have hb1 : Below w.heap.size w w1 := bthen (bnew (bself w) _) hb
  go_wp2_with fail
  refine (HH.out _ hb1).mono ?_
  rintro e w2 ⟨rfl, hb2⟩
  have e0 := hb2.cell (p := ⟨w.heap.size, 0, none⟩) (by go_size)
  have e1 := hb2.cell (p := ⟨w.heap.size, 1, none⟩) (by go_size)
  simp [go_sem, d0, d1] at e0 e1
  have hz2 := hb2.size
  have hz3 : w.heap.size < w2.heap.size := by omega
  have hb3 : Below w.heap.size w w2 := bthen hb1 hb2
  go_upto_region 7 with fail
  refine wp_region_float [(⟨w.heap.size, 0, none⟩, .int .i64 l), (⟨w.heap.size, 1, none⟩, .bool cr)] 9 11 (.cells #[.int .i64 0, .bool false] 23) (by kernel_rfl) (by kernel_rfl) rfl (fun _ _ _ _ _ h => h) (fun a w => by go_simp) (by simp [go_sem, e0, e1, hz3]) (fun C hC => ?_)
  simp only [List.take_succ_cons, List.take_zero, List.drop_succ_cons, List.drop_zero]
  repeat (first
      | (refine g_plain (by with_reducible rfl) ?_
         apply Exists.intro
         refine ⟨?_, ?_⟩
         focus (intro wq hq; have hc := hC.cells _ hq; simp at hc; go_simp; first | (go_at_call 16; exact GG.out _ (bthen (bnew hb3 _) (hC.below _ hq))) | (with_reducible rfl))
         simp only [Act.put, List.setIfInBounds_toArray, List.set_cons_zero, List.set_cons_succ])
      | (refine g_at (by with_reducible rfl) (by rfl) (by rfl) (by simp only [List.getElem?_toArray, List.getElem?_cons_succ, List.getElem?_cons_zero]; rfl) ?_
         first | (with_reducible refine QG_tt ?_) | (with_reducible refine QG_ff ?_)
         apply Exists.intro
         refine ⟨?_, ?_⟩
         focus (intro wq hq; have hc := hC.cells _ hq; simp at hc; go_simp; first | (go_at_call 16; exact GG.out _ (bthen (bnew hb3 _) (hC.below _ hq))) | (with_reducible rfl))
         simp only [Act.put, List.setIfInBounds_toArray, List.set_cons_zero, List.set_cons_succ])
      | (refine g_at (by with_reducible rfl) (by rfl) (by rfl) (by simp only [List.getElem?_toArray, List.getElem?_cons_succ, List.getElem?_cons_zero]; rfl) ?_
         first | (with_reducible refine QG_tf ?_) | (with_reducible refine QG_ft ?_) | (with_reducible refine QG_u ?_)
         simp only [Act.put, List.setIfInBounds_toArray, List.set_cons_zero, List.set_cons_succ]))
  refine g_nil ?_
  repeat
    refine p_plain (by with_reducible rfl) ?_
    apply Exists.intro
    refine ⟨?_, ?_⟩
    focus (intro wq; go_simp; with_reducible rfl)
    simp only [Act.put, List.setIfInBounds_toArray, List.set_cons_zero, List.set_cons_succ]
  refine p_nil ?_
  intro g wz hzz hg hO
  have hbz := hC.below _ hzz
  have hgs := size_at hO
  have p0 := cell_at hO 0
  have p1 := cell_at hO 1
  have q0 := frozen_at hO 0
  have q1 := frozen_at hO 1
  simp at p0 p1
  simp only [World.size_alloc] at hg
  have r0 := hbz.cell (p := ⟨w.heap.size, 0, none⟩) (by go_size)
  have r1 := hbz.cell (p := ⟨w.heap.size, 1, none⟩) (by go_size)
  have s0 := hbz.cell (p := ⟨w2.heap.size, 0, none⟩) (by go_size)
  have s1 := hbz.cell (p := ⟨w2.heap.size, 1, none⟩) (by go_size)
  simp [go_sem, e0, e1, hz3] at r0 r1 s0 s1
  clear hO hC hzz
  have hzz : w2.heap.size + 1 ≤ wz.heap.size := by have := hbz.size; simp only [World.size_alloc] at this; omega
  have hbw : Below w.heap.size w wz := bthen (bnew hb3 _) hbz
  have m0 : ¬ g = w.heap.size := by omega
  have m1 : ¬ g = w2.heap.size := by omega
  have m2 : ¬ w.heap.size = g := by omega
  have m3 : ¬ w2.heap.size = g := by omega
  rcases hE with ⟨he, rfl⟩ | ⟨rfl, rfl, rfl, rfl⟩
  · have he' : (E1 != 0) = true := by simp [he]
    go_wp2_with fail
    go_ret
    refine ⟨rfl, ?_⟩
    repeat (first | (with_reducible exact hbw) | (with_reducible refine Below.setCell ?_ ?_ _) | go_size)
  · skip
    go_upto_region 10 with fail
    have hbv : Below w.heap.size w ((wz.setCell ⟨g, 0, none⟩ (.int .i64 L2)).setCell ⟨g, 1, none⟩ (.bool C2)) := by
      repeat (first | (with_reducible exact hbw) | (with_reducible refine Below.setCell ?_ ?_ _) | go_size)
    have hv0 : ((wz.setCell ⟨g, 0, none⟩ (.int .i64 L2)).setCell ⟨g, 1, none⟩ (.bool C2)).cell? ⟨g, 0, none⟩ = some (.int .i64 L2) := by simp [go_sem, hgs, p0, p1]
    have hv1 : ((wz.setCell ⟨g, 0, none⟩ (.int .i64 L2)).setCell ⟨g, 1, none⟩ (.bool C2)).cell? ⟨g, 1, none⟩ = some (.bool C2) := by simp [go_sem, hgs, p0, p1]
    have hv2 : ((wz.setCell ⟨g, 0, none⟩ (.int .i64 L2)).setCell ⟨g, 1, none⟩ (.bool C2)).cell? ⟨w2.heap.size, 0, none⟩ = some (.int .i64 L1) := by simp [go_sem, m3, m1, s0]
    have hv3 : ((wz.setCell ⟨g, 0, none⟩ (.int .i64 L2)).setCell ⟨g, 1, none⟩ (.bool C2)).cell? ⟨w2.heap.size, 1, none⟩ = some (.bool C1) := by simp [go_sem, m3, m1, s1]
    have hvs : wz.heap.size = ((wz.setCell ⟨g, 0, none⟩ (.int .i64 L2)).setCell ⟨g, 1, none⟩ (.bool C2)).heap.size := by simp only [World.size_setCell]
    generalize (wz.setCell ⟨g, 0, none⟩ (.int .i64 L2)).setCell ⟨g, 1, none⟩ (.bool C2) = W2 at hbv hv0 hv1 hv2 hv3 hvs ⊢
    refine wp_region_float [(⟨g, 0, none⟩, .int .i64 L2), (⟨g, 1, none⟩, .bool C2), (⟨w2.heap.size, 0, none⟩, .int .i64 L1), (⟨w2.heap.size, 1, none⟩, .bool C1)] 9 11 (.cells #[.int .i64 0, .bool false] 23) (by kernel_rfl) (by kernel_rfl) rfl (fun _ _ _ _ _ h => h) (fun a w => by go_simp) (by simp [hv0, hv1, hv2, hv3]) (fun C hC => ?_)
    simp only [List.take_succ_cons, List.take_zero, List.drop_succ_cons, List.drop_zero]
    repeat (first
        | (refine g_plain (by with_reducible rfl) ?_
           apply Exists.intro
           refine ⟨?_, ?_⟩
           focus (intro wq hq; have hc := hC.cells _ hq; simp at hc; go_simp; first | (go_at_call 16; exact GG3.out _ (bthen hbv (hC.below _ hq))) | (with_reducible rfl))
           simp only [Act.put, List.setIfInBounds_toArray, List.set_cons_zero, List.set_cons_succ])
        | (refine g_at (by with_reducible rfl) (by rfl) (by rfl) (by simp only [List.getElem?_toArray, List.getElem?_cons_succ, List.getElem?_cons_zero]; rfl) ?_
           first | (with_reducible refine QG_tt ?_) | (with_reducible refine QG_ff ?_)
           apply Exists.intro
           refine ⟨?_, ?_⟩
           focus (intro wq hq; have hc := hC.cells _ hq; simp at hc; go_simp; first | (go_at_call 16; exact GG3.out _ (bthen hbv (hC.below _ hq))) | (with_reducible rfl))
           simp only [Act.put, List.setIfInBounds_toArray, List.set_cons_zero, List.set_cons_succ])
        | (refine g_at (by with_reducible rfl) (by rfl) (by rfl) (by simp only [List.getElem?_toArray, List.getElem?_cons_succ, List.getElem?_cons_zero]; rfl) ?_
           first | (with_reducible refine QG_tf ?_) | (with_reducible refine QG_ft ?_) | (with_reducible refine QG_u ?_)
           simp only [Act.put, List.setIfInBounds_toArray, List.set_cons_zero, List.set_cons_succ]))
    refine g_nil ?_
    repeat
      refine p_plain (by with_reducible rfl) ?_
      apply Exists.intro
      refine ⟨?_, ?_⟩
      focus (intro wq; go_simp; with_reducible rfl)
      simp only [Act.put, List.setIfInBounds_toArray, List.set_cons_zero, List.set_cons_succ]
    refine p_nil ?_
    intro g' wy hyy hg' hO
    have hby := hC.below _ hyy
    have hcy := hC.cells _ hyy
    simp at hcy
    obtain ⟨a0, a1, a2, a3⟩ := hcy
    have hgs' := size_at hO
    have b0 := cell_at hO 0
    have b1 := cell_at hO 1
    have b2 := frozen_at hO 0
    have b3 := frozen_at hO 1
    simp at b0 b1
    rw [← hvs] at hg'
    clear hO hC hyy hm
    have m4 : ¬ g' = w2.heap.size := by omega
    have m5 : ¬ w2.heap.size = g' := by omega
    have hbx := bthen hbv hby
    have hgw : w.heap.size ≤ g' := by omega
    go_wp2_with fail
    go_ret
    refine ⟨rfl, ?_⟩
    repeat (first | (with_reducible exact hbx) | (with_reducible refine Below.setCell ?_ ?_ _) | go_size)

set_option maxHeartbeats 400000 in
theorem joined_far (x x' : Option Addr) (n m c c' : Nat) (l : Int) (cr : Bool) (w : World) (h : 30 < n ∨ m ≠ n) :
    Calls Try.prog 7 #[.slice x n c, .slice x' m c', .agg #[.int .i64 l, .bool cr]] w (Gives (.bool true) w) := by
  go_enter Try.func7, Try.ntmps7
  go_wp2_with fail
  refine (awake_calls _).mono ?_
  rintro e w1 ⟨rfl, hb⟩
  by_cases h1 : 30 < n
  · have d1 : decide ((30 : Int) < n) = true := by simp; omega
    go_wp2_with fail
    go_ret
    exact ⟨rfl, bthen (bnew (bself w) _) hb⟩
  · have d1 : decide ((30 : Int) < n) = false := by simp; omega
    have d2 : ((m : Int) != n) = true := by simp; omega
    go_wp2_with fail
    go_ret
    exact ⟨rfl, bthen (bnew (bself w) _) hb⟩

set_option maxHeartbeats 4000000 in
set_option maxRecDepth 100000 in
theorem joined_none (x x' : Option Addr) (c c' : Nat) (l L E : Int) (cr C1 : Bool) (w : World) (hc : c ≤ maxLen) (hc' : c' ≤ maxLen) (hx : (x = none ∧ c = 0) ∨ (∃ b o, x = some ⟨b, o, none⟩) ∨ (∃ a, x = some a ∧ c = 0)) (hx' : (x' = none ∧ c' = 0) ∨ (∃ b o, x' = some ⟨b, o, none⟩) ∨ (∃ a, x' = some a ∧ c' = 0)) (hE : E ≠ 0 ∨ (E = 0 ∧ L = l ∧ C1 = cr))
    (H : ∀ y y' d d' w', Below w.heap.size w w' → Calls Try.prog 16 #[.slice y 0 d, .slice y' 0 d', .agg #[.int .i64 l, .bool cr]] w' (Gives (.tuple #[.agg #[.int .i64 L, .bool C1], .int .i64 E]) w')) :
    Calls Try.prog 7 #[.slice x 0 c, .slice x' 0 c', .agg #[.int .i64 l, .bool cr]] w (Gives (.bool true) w) := by
  have HH := Lib.hid H
  clear H
  go_enter Try.func7, Try.ntmps7
  go_wp2_with fail
  refine (awake_calls _).mono ?_
  rintro e w1 ⟨rfl, hb⟩
  have d0 := hb.cell (p := ⟨w.heap.size, 0, none⟩) (by go_size)
  have d1 := hb.cell (p := ⟨w.heap.size, 1, none⟩) (by go_size)
  simp [go_sem] at d0 d1
  have hz := hb.size
  simp only [World.size_alloc] at hz
  have hz0 : w.heap.size < w1.heap.size := by omega
  have hb1 : Below w.heap.size w w1 := bthen (bnew (bself w) _) hb
  go_wp2_with fail
  refine (HH.out _ _ _ _ _ hb1).mono ?_
  rintro e w2 ⟨rfl, hb2⟩
  have e0 := hb2.cell (p := ⟨w.heap.size, 0, none⟩) (by go_size)
  have e1 := hb2.cell (p := ⟨w.heap.size, 1, none⟩) (by go_size)
  simp [go_sem, d0, d1] at e0 e1
  have hz2 := hb2.size
  have hz3 : w.heap.size < w2.heap.size := by omega
  have hb3 : Below w.heap.size w w2 := bthen hb1 hb2
  go_upto_region 7 with fail
  rcases hx with ⟨rfl, rfl⟩ | ⟨b, o, rfl⟩ | ⟨a, rfl, rfl⟩ <;> rcases hx' with ⟨rfl, rfl⟩ | ⟨b', o', rfl⟩ | ⟨a', rfl, rfl⟩
  all_goals
    refine wp_region_float [(⟨w.heap.size, 0, none⟩, .int .i64 l), (⟨w.heap.size, 1, none⟩, .bool cr)] 9 11 (.cells #[.int .i64 0, .bool false] 23) (by kernel_rfl) (by kernel_rfl) rfl (fun _ _ _ _ _ h => h) (fun a w => by go_simp) (by simp [go_sem, e0, e1, hz3]) (fun C hC => ?_)
    simp only [List.take_succ_cons, List.take_zero, List.drop_succ_cons, List.drop_zero]
    repeat (first
        | (refine g_plain (by with_reducible rfl) ?_
           apply Exists.intro
           refine ⟨?_, ?_⟩
           focus (intro wq hq; have hc := hC.cells _ hq; simp at hc; go_simp; first | (go_at_call 16; exact HH.out _ _ _ _ _ (bthen (bnew hb3 _) (hC.below _ hq))) | (with_reducible rfl))
           simp only [Act.put, List.setIfInBounds_toArray, List.set_cons_zero, List.set_cons_succ])
        | (refine g_at (by with_reducible rfl) (by rfl) (by rfl) (by simp only [List.getElem?_toArray, List.getElem?_cons_succ, List.getElem?_cons_zero]; rfl) ?_
           first | (with_reducible refine QG_tt ?_) | (with_reducible refine QG_ff ?_)
           apply Exists.intro
           refine ⟨?_, ?_⟩
           focus (intro wq hq; have hc := hC.cells _ hq; simp at hc; go_simp; first | (go_at_call 16; exact HH.out _ _ _ _ _ (bthen (bnew hb3 _) (hC.below _ hq))) | (with_reducible rfl))
           simp only [Act.put, List.setIfInBounds_toArray, List.set_cons_zero, List.set_cons_succ])
        | (refine g_at (by with_reducible rfl) (by rfl) (by rfl) (by simp only [List.getElem?_toArray, List.getElem?_cons_succ, List.getElem?_cons_zero]; rfl) ?_
           first | (with_reducible refine QG_tf ?_) | (with_reducible refine QG_ft ?_) | (with_reducible refine QG_u ?_)
           simp only [Act.put, List.setIfInBounds_toArray, List.set_cons_zero, List.set_cons_succ]))
    refine g_nil ?_
    repeat
      refine p_plain (by with_reducible rfl) ?_
      apply Exists.intro
      refine ⟨?_, ?_⟩
      focus (intro wq; go_simp; with_reducible rfl)
      simp only [Act.put, List.setIfInBounds_toArray, List.set_cons_zero, List.set_cons_succ]
    refine p_nil ?_
    intro g wz hzz hg hO
    have hbz := hC.below _ hzz
    have hgs := size_at hO
    have p0 := cell_at hO 0
    have p1 := cell_at hO 1
    have q0 := frozen_at hO 0
    have q1 := frozen_at hO 1
    simp at p0 p1
    simp only [World.size_alloc] at hg
    have r0 := hbz.cell (p := ⟨w.heap.size, 0, none⟩) (by go_size)
    have r1 := hbz.cell (p := ⟨w.heap.size, 1, none⟩) (by go_size)
    have s0 := hbz.cell (p := ⟨w2.heap.size, 0, none⟩) (by go_size)
    have s1 := hbz.cell (p := ⟨w2.heap.size, 1, none⟩) (by go_size)
    simp [go_sem, e0, e1, hz3] at r0 r1 s0 s1
    clear hO hC hzz
    have hzz : w2.heap.size + 1 ≤ wz.heap.size := by have := hbz.size; simp only [World.size_alloc] at this; omega
    have hbw : Below w.heap.size w wz := bthen (bnew hb3 _) hbz
    have m0 : ¬ g = w.heap.size := by omega
    have m1 : ¬ g = w2.heap.size := by omega
    have m2 : ¬ w.heap.size = g := by omega
    have m3 : ¬ w2.heap.size = g := by omega
    rcases hE with he | ⟨rfl, rfl, rfl⟩
    · have he' : (E != 0) = true := by simp [he]
      go_wp2_with fail
      go_ret
      refine ⟨rfl, ?_⟩
      repeat (first | (with_reducible exact hbw) | (with_reducible refine Below.setCell ?_ ?_ _) | go_size)
    · go_upto_region 10 with fail
      have hbv : Below w.heap.size w ((wz.setCell ⟨g, 0, none⟩ (.int .i64 L)).setCell ⟨g, 1, none⟩ (.bool C1)) := by
        repeat (first | (with_reducible exact hbw) | (with_reducible refine Below.setCell ?_ ?_ _) | go_size)
      have hv0 : ((wz.setCell ⟨g, 0, none⟩ (.int .i64 L)).setCell ⟨g, 1, none⟩ (.bool C1)).cell? ⟨g, 0, none⟩ = some (.int .i64 L) := by simp [go_sem, hgs, p0, p1]
      have hv1 : ((wz.setCell ⟨g, 0, none⟩ (.int .i64 L)).setCell ⟨g, 1, none⟩ (.bool C1)).cell? ⟨g, 1, none⟩ = some (.bool C1) := by simp [go_sem, hgs, p0, p1]
      have hv2 : ((wz.setCell ⟨g, 0, none⟩ (.int .i64 L)).setCell ⟨g, 1, none⟩ (.bool C1)).cell? ⟨w2.heap.size, 0, none⟩ = some (.int .i64 L) := by simp [go_sem, m3, m1, s0]
      have hv3 : ((wz.setCell ⟨g, 0, none⟩ (.int .i64 L)).setCell ⟨g, 1, none⟩ (.bool C1)).cell? ⟨w2.heap.size, 1, none⟩ = some (.bool C1) := by simp [go_sem, m3, m1, s1]
      have hvs : wz.heap.size = ((wz.setCell ⟨g, 0, none⟩ (.int .i64 L)).setCell ⟨g, 1, none⟩ (.bool C1)).heap.size := by simp only [World.size_setCell]
      generalize (wz.setCell ⟨g, 0, none⟩ (.int .i64 L)).setCell ⟨g, 1, none⟩ (.bool C1) = W2 at hbv hv0 hv1 hv2 hv3 hvs ⊢
      refine wp_region_float [(⟨g, 0, none⟩, .int .i64 L), (⟨g, 1, none⟩, .bool C1), (⟨w2.heap.size, 0, none⟩, .int .i64 L), (⟨w2.heap.size, 1, none⟩, .bool C1)] 9 11 (.cells #[.int .i64 0, .bool false] 23) (by kernel_rfl) (by kernel_rfl) rfl (fun _ _ _ _ _ h => h) (fun a w => by go_simp) (by simp [hv0, hv1, hv2, hv3]) (fun C hC => ?_)
      simp only [List.take_succ_cons, List.take_zero, List.drop_succ_cons, List.drop_zero]
      repeat (first
          | (refine g_plain (by with_reducible rfl) ?_
             apply Exists.intro
             refine ⟨?_, ?_⟩
             focus (intro wq hq; have hc := hC.cells _ hq; simp at hc; go_simp; first | (go_at_call 16; exact HH.out _ _ _ _ _ (bthen hbv (hC.below _ hq))) | (with_reducible rfl))
             simp only [Act.put, List.setIfInBounds_toArray, List.set_cons_zero, List.set_cons_succ])
          | (refine g_at (by with_reducible rfl) (by rfl) (by rfl) (by simp only [List.getElem?_toArray, List.getElem?_cons_succ, List.getElem?_cons_zero]; rfl) ?_
             first | (with_reducible refine QG_tt ?_) | (with_reducible refine QG_ff ?_)
             apply Exists.intro
             refine ⟨?_, ?_⟩
             focus (intro wq hq; have hc := hC.cells _ hq; simp at hc; go_simp; first | (go_at_call 16; exact HH.out _ _ _ _ _ (bthen hbv (hC.below _ hq))) | (with_reducible rfl))
             simp only [Act.put, List.setIfInBounds_toArray, List.set_cons_zero, List.set_cons_succ])
          | (refine g_at (by with_reducible rfl) (by rfl) (by rfl) (by simp only [List.getElem?_toArray, List.getElem?_cons_succ, List.getElem?_cons_zero]; rfl) ?_
             first | (with_reducible refine QG_tf ?_) | (with_reducible refine QG_ft ?_) | (with_reducible refine QG_u ?_)
             simp only [Act.put, List.setIfInBounds_toArray, List.set_cons_zero, List.set_cons_succ]))
      refine g_nil ?_
      repeat
        refine p_plain (by with_reducible rfl) ?_
        apply Exists.intro
        refine ⟨?_, ?_⟩
        focus (intro wq; go_simp; with_reducible rfl)
        simp only [Act.put, List.setIfInBounds_toArray, List.set_cons_zero, List.set_cons_succ]
      refine p_nil ?_
      intro g' wy hyy hg' hO
      have hby := hC.below _ hyy
      have hcy := hC.cells _ hyy
      simp at hcy
      obtain ⟨a0, a1, a2, a3⟩ := hcy
      have hgs' := size_at hO
      have b0 := cell_at hO 0
      have b1 := cell_at hO 1
      have b2 := frozen_at hO 0
      have b3 := frozen_at hO 1
      simp at b0 b1
      rw [← hvs] at hg'
      clear hO hC hyy
      have m4 : ¬ g' = w2.heap.size := by omega
      have m5 : ¬ w2.heap.size = g' := by omega
      have hbx := bthen hbv hby
      have hgw : w.heap.size ≤ g' := by omega
      go_wp2_with fail
      go_ret
      refine ⟨rfl, ?_⟩
      repeat (first | (with_reducible exact hbx) | (with_reducible refine Below.setCell ?_ ?_ _) | go_size)

end Go.Proofs.Ytillohdeljlchaa
