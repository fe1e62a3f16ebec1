/- Scaled and Height in the reference; Height in package font. -/
import Derived.Test.YtgknameejoalnaaScal
namespace Go.Proofs.Ytgknameejoalnaa
open Go.RowKit

set_option maxHeartbeats 400000 in
theorem font_Height_calls (g : Gly) (w : World) :
    Calls Try.prog 13 #[.agg #[.string g.name, .int .i64 g.w, .int .i64 g.h, .int .i64 g.d, .int .i64 g.it, .int .i64 g.at_]] w (Gives (.int .i64 (wrap64 (g.h + g.d))) w) := by
  go_enter Try.func13, Try.ntmps13
  go_wp2_with fail
  go_ret
  exact ⟨rfl, bnew (bself w) _⟩

set_option maxHeartbeats 2000000 in
theorem ref05_metrics_calls (g : Gly) (w : World) :
    Calls Try.prog 31 #[.agg #[.string g.name, .int .i64 g.w, .int .i64 g.h, .int .i64 g.d, .int .i64 g.it, .int .i64 g.at_]] w (Gives (.bool (metricsOk g)) w) := by
  obtain ⟨ns, hns⟩ : ∃ ns, ns = g.nums := ⟨_, rfl⟩
  have hm := Lib.hid (show metricsOk g = allIn (-20000) 20000 ns by rw [hns]; rfl)
  have hlen : ns.length = 5 := by rw [hns]; rfl
  have hat : ∀ k n, ns[k]? = some n → ((w.alloc (.cells #[.string g.name, .int .i64 g.w, .int .i64 g.h, .int .i64 g.d, .int .i64 g.it, .int .i64 g.at_] 23)).alloc (.cells #[.int .i64 g.w, .int .i64 g.h, .int .i64 g.d, .int .i64 g.it, .int .i64 g.at_] 3)).cell? ⟨w.heap.size + 1, k, none⟩ = some (.int .i64 n) := by
    intro k n hk
    rw [hns] at hk
    simp only [Gly.nums] at hk
    rcases k with _ | _ | _ | _ | _ | k <;> simp at hk <;> subst hk <;> simp [go_sem]
  have HAT := Lib.hid hat
  have HLEN := Lib.hid hlen
  clear hat hns hlen
  go_enter Try.func31, Try.ntmps31
  go_wp2_with fail
  generalize hW : (w.alloc (.cells #[.string g.name, .int .i64 g.w, .int .i64 g.h, .int .i64 g.d, .int .i64 g.it, .int .i64 g.at_] 23)).alloc (.cells #[.int .i64 g.w, .int .i64 g.h, .int .i64 g.d, .int .i64 g.it, .int .i64 g.at_] 3) = W at *
  have hb : Below w.heap.size w W := by rw [← hW]; exact bnew (bnew (bself w) _) _
  clear hW
  go_loop [4] (fun i => ∃ k : Nat, k ≤ 5 ∧ i = .int .i64 k ∧ allIn (-20000) 20000 ns = allIn (-20000) 20000 (ns.drop k)) (fun i => 5 - (intOf i).toNat)
  case atStart => exact ⟨0, Nat.zero_le _, rfl, rfl⟩
  case round =>
    obtain ⟨k, hk, rfl, hf⟩ := hrel
    by_cases hlt : k < 5
    · obtain ⟨n, hg⟩ : ∃ n, ns[k]? = some n := ⟨ns[k]'(by rw [HLEN.out]; omega), by simp [HLEN.out, hlt]⟩
      have g0 := HAT.out k n hg
      rw [allIn_drop _ _ ns k n hg] at hf
      have HF := Lib.hid hf
      clear hf hg
      by_cases h1 : (decide (-20000 ≤ n) && decide (n ≤ 20000)) = true
      · have E1 := Lib.hid (show allIn (-20000) 20000 ns = allIn (-20000) 20000 (ns.drop (k + 1)) by rw [HF.out, h1, Bool.true_and])
        go_wp2_with fail
        refine (ref05_within_calls _ _ _ _).mono ?_
        rintro e w' ⟨rfl, rfl⟩
        go_wp2_with fail
        go_round
        case rel => exact ⟨k + 1, by omega, by go_num, E1.out⟩
        case measure => simp [intOf]; omega
      · have h1' : (decide (-20000 ≤ n) && decide (n ≤ 20000)) = false := by simpa using h1
        have E1 := Lib.hid (show allIn (-20000) 20000 ns = false by rw [HF.out, h1', Bool.false_and])
        clear h1
        go_wp2_with fail
        refine (ref05_within_calls _ _ _ _).mono ?_
        rintro e w' ⟨rfl, rfl⟩
        go_wp2_with fail
        go_ret
        refine ⟨ret_bool ?_, hb⟩
        rw [hm.out, E1.out]
    · have E1 := Lib.hid (show allIn (-20000) 20000 ns = true by rw [hf, List.drop_of_length_le (by rw [HLEN.out]; omega)]; rfl)
      clear hf
      go_wp2_with fail
      go_ret
      refine ⟨ret_bool ?_, hb⟩
      rw [hm.out, E1.out]

set_option maxHeartbeats 2000000 in
theorem ref05_Scaled_range (g : Gly) (p : Int) (w : World) (hp : ¬ (1 ≤ p ∧ p ≤ 1000)) :
    Calls Try.prog 12 #[.agg #[.string g.name, .int .i64 g.w, .int .i64 g.h, .int .i64 g.d, .int .i64 g.it, .int .i64 g.at_], .int .i64 p] w (Gives (gePair zeroG 2) w) := by
  have hr : (decide (1 ≤ p) && decide (p ≤ 1000)) = false := by simp; omega
  go_enter Try.func12, Try.ntmps12
  go_wp2_with fail
  refine (ref05_within_calls _ _ _ _).mono ?_
  rintro e w' ⟨rfl, rfl⟩
  go_wp2_with fail
  refine bodyPost_ret (v := gePair zeroG 2) (by simp [results, Try.results12, gePair, zeroG, go_sem]) rfl ⟨rfl, bnew (bnew (bself w) _) _⟩

set_option maxHeartbeats 2000000 in
theorem ref05_Scaled_arg (g : Gly) (p : Int) (w : World) (hp : 1 ≤ p ∧ p ≤ 1000) (hm : metricsOk g = false) :
    Calls Try.prog 12 #[.agg #[.string g.name, .int .i64 g.w, .int .i64 g.h, .int .i64 g.d, .int .i64 g.it, .int .i64 g.at_], .int .i64 p] w (Gives (gePair zeroG 1) w) := by
  have hr : (decide (1 ≤ p) && decide (p ≤ 1000)) = true := by simp; omega
  go_enter Try.func12, Try.ntmps12
  go_wp2_with fail
  refine (ref05_within_calls _ _ _ _).mono ?_
  rintro e w' ⟨rfl, rfl⟩
  go_wp2_with fail
  refine (ref05_metrics_calls g _).mono ?_
  rintro e w1 ⟨rfl, hb⟩
  have d0 := hb.cell (p := ⟨w.heap.size + 1, 0, none⟩) (by go_size)
  have d1 := hb.cell (p := ⟨w.heap.size + 1, 1, none⟩) (by go_size)
  have d2 := hb.cell (p := ⟨w.heap.size + 1, 2, none⟩) (by go_size)
  have d3 := hb.cell (p := ⟨w.heap.size + 1, 3, none⟩) (by go_size)
  have d4 := hb.cell (p := ⟨w.heap.size + 1, 4, none⟩) (by go_size)
  have d5 := hb.cell (p := ⟨w.heap.size + 1, 5, none⟩) (by go_size)
  have f0 := hb.frozen (p := ⟨w.heap.size + 1, 0, none⟩) (by go_size)
  have f1 := hb.frozen (p := ⟨w.heap.size + 1, 1, none⟩) (by go_size)
  have f2 := hb.frozen (p := ⟨w.heap.size + 1, 2, none⟩) (by go_size)
  have f3 := hb.frozen (p := ⟨w.heap.size + 1, 3, none⟩) (by go_size)
  have f4 := hb.frozen (p := ⟨w.heap.size + 1, 4, none⟩) (by go_size)
  have f5 := hb.frozen (p := ⟨w.heap.size + 1, 5, none⟩) (by go_size)
  simp [go_sem] at d0 d1 d2 d3 d4 d5 f0 f1 f2 f3 f4 f5
  go_wp2_with fail
  refine bodyPost_ret (v := gePair zeroG 1) (by simp [results, Try.results12, gePair, zeroG, go_sem, *]) rfl ⟨rfl, ?_⟩
  have hb0 := bthen (bnew (bnew (bself w) _) _) hb
  clear hb
  repeat (first | (with_reducible exact hb0) | (with_reducible refine Below.setCell ?_ ?_ _) | go_size)

theorem ref05_Scale_gives (n p : Int) (w : World) (h : -20000 ≤ n ∧ n ≤ 20000) (p0 : 1 ≤ p ∧ p ≤ 1000) :
    Calls Try.prog 32 #[.int .i64 n, .int .i64 p] w (Gives (.int .i64 (scl n p)) w) :=
  (ref05_Scale_calls n p w (by omega) (by omega) (by omega)).mono fun _ _ ⟨he, hw⟩ => ⟨he, hw ▸ bself w⟩

set_option maxHeartbeats 4000000 in
theorem ref05_Scaled_ok (g : Gly) (p : Int) (w : World) (hp : 1 ≤ p ∧ p ≤ 1000) (hm : metricsOk g = true) :
    Calls Try.prog 12 #[.agg #[.string g.name, .int .i64 g.w, .int .i64 g.h, .int .i64 g.d, .int .i64 g.it, .int .i64 g.at_], .int .i64 p] w (Gives (gePair (sclG g p) 0) w) := by
  have hr : (decide (1 ≤ p) && decide (p ≤ 1000)) = true := by simp; omega
  have HB := Lib.hid (metricsOk_bd hm)
  have HP := Lib.hid hp
  clear hp
  go_enter Try.func12, Try.ntmps12
  go_wp2_with fail
  refine (ref05_within_calls _ _ _ _).mono ?_
  rintro e w' ⟨rfl, rfl⟩
  go_wp2_with fail
  refine (ref05_metrics_calls g _).mono ?_
  rintro e w1 ⟨rfl, hb⟩
  have c0 := hb.cell (p := ⟨w.heap.size, 0, none⟩) (by go_size)
  have c1 := hb.cell (p := ⟨w.heap.size, 1, none⟩) (by go_size)
  have c2 := hb.cell (p := ⟨w.heap.size, 2, none⟩) (by go_size)
  have c3 := hb.cell (p := ⟨w.heap.size, 3, none⟩) (by go_size)
  have c4 := hb.cell (p := ⟨w.heap.size, 4, none⟩) (by go_size)
  have c5 := hb.cell (p := ⟨w.heap.size, 5, none⟩) (by go_size)
  have d0 := hb.cell (p := ⟨w.heap.size + 1, 0, none⟩) (by go_size)
  have d1 := hb.cell (p := ⟨w.heap.size + 1, 1, none⟩) (by go_size)
  have d2 := hb.cell (p := ⟨w.heap.size + 1, 2, none⟩) (by go_size)
  have d3 := hb.cell (p := ⟨w.heap.size + 1, 3, none⟩) (by go_size)
  have d4 := hb.cell (p := ⟨w.heap.size + 1, 4, none⟩) (by go_size)
  have d5 := hb.cell (p := ⟨w.heap.size + 1, 5, none⟩) (by go_size)
  have f0 := hb.frozen (p := ⟨w.heap.size + 1, 0, none⟩) (by go_size)
  have f1 := hb.frozen (p := ⟨w.heap.size + 1, 1, none⟩) (by go_size)
  have f2 := hb.frozen (p := ⟨w.heap.size + 1, 2, none⟩) (by go_size)
  have f3 := hb.frozen (p := ⟨w.heap.size + 1, 3, none⟩) (by go_size)
  have f4 := hb.frozen (p := ⟨w.heap.size + 1, 4, none⟩) (by go_size)
  have f5 := hb.frozen (p := ⟨w.heap.size + 1, 5, none⟩) (by go_size)
  simp [go_sem] at c0 c1 c2 c3 c4 c5 d0 d1 d2 d3 d4 d5 f0 f1 f2 f3 f4 f5
  go_wp2_with fail
  refine wp_region_cls_tail [(⟨w.heap.size, 0, none⟩, .string g.name), (⟨w.heap.size, 1, none⟩, .int .i64 g.w), (⟨w.heap.size, 2, none⟩, .int .i64 g.h), (⟨w.heap.size, 3, none⟩, .int .i64 g.d), (⟨w.heap.size, 4, none⟩, .int .i64 g.it), (⟨w.heap.size, 5, none⟩, .int .i64 g.at_)] 23 (by kernel_rfl) (by kernel_rfl) (by simp [c0, c1, c2, c3, c4, c5]) (fun C hC => ?_)
  simp only [List.take_succ_cons, List.take_zero, List.drop_succ_cons, List.drop_zero]
  repeat (first
      | (refine quiet_plain (by with_reducible rfl) ?_
         apply Exists.intro
         refine ⟨?_, ?_⟩
         focus (intro wq hq; have hc := hC.cells _ hq; simp at hc; go_simp; first | (go_at_call 32; exact hC.call hq (ref05_Scale_gives _ p _ (by first | exact HB.out.1 | exact HB.out.2.1 | exact HB.out.2.2.1 | exact HB.out.2.2.2.1 | exact HB.out.2.2.2.2) HP.out)) | (with_reducible rfl))
         simp only [Act.put, List.setIfInBounds_toArray, List.set_cons_zero, List.set_cons_succ])
      | (refine quiet_at (by with_reducible rfl) (by rfl) (by rfl) (by simp only [List.getElem?_toArray, List.getElem?_cons_succ, List.getElem?_cons_zero]; rfl) ?_
         first | (with_reducible refine QG_tt ?_) | (with_reducible refine QG_ff ?_)
         apply Exists.intro
         refine ⟨?_, ?_⟩
         focus (intro wq hq; have hc := hC.cells _ hq; simp at hc; go_simp; first | (go_at_call 32; exact hC.call hq (ref05_Scale_gives _ p _ (by first | exact HB.out.1 | exact HB.out.2.1 | exact HB.out.2.2.1 | exact HB.out.2.2.2.1 | exact HB.out.2.2.2.2) HP.out)) | (with_reducible rfl))
         simp only [Act.put, List.setIfInBounds_toArray, List.set_cons_zero, List.set_cons_succ])
      | (refine quiet_at (by with_reducible rfl) (by rfl) (by rfl) (by simp only [List.getElem?_toArray, List.getElem?_cons_succ, List.getElem?_cons_zero]; rfl) ?_
         first | (with_reducible refine QG_tf ?_) | (with_reducible refine QG_ft ?_) | (with_reducible refine QG_u ?_)
         simp only [Act.put, List.setIfInBounds_toArray, List.set_cons_zero, List.set_cons_succ]))
  refine wpQuiet_nil ?_
  intro wz hz
  have hbz := hC.below _ hz
  have hzz := lt_more (show w.heap.size + 1 < w1.heap.size by have := hb.size; simp at this; omega)
  have dd0 := hbz.cell (p := ⟨w.heap.size + 1, 0, none⟩) (by go_size)
  have dd1 := hbz.cell (p := ⟨w.heap.size + 1, 1, none⟩) (by go_size)
  have dd2 := hbz.cell (p := ⟨w.heap.size + 1, 2, none⟩) (by go_size)
  have dd3 := hbz.cell (p := ⟨w.heap.size + 1, 3, none⟩) (by go_size)
  have dd4 := hbz.cell (p := ⟨w.heap.size + 1, 4, none⟩) (by go_size)
  have dd5 := hbz.cell (p := ⟨w.heap.size + 1, 5, none⟩) (by go_size)
  have ff0 := hbz.frozen (p := ⟨w.heap.size + 1, 0, none⟩) (by go_size)
  have ff1 := hbz.frozen (p := ⟨w.heap.size + 1, 1, none⟩) (by go_size)
  have ff2 := hbz.frozen (p := ⟨w.heap.size + 1, 2, none⟩) (by go_size)
  have ff3 := hbz.frozen (p := ⟨w.heap.size + 1, 3, none⟩) (by go_size)
  have ff4 := hbz.frozen (p := ⟨w.heap.size + 1, 4, none⟩) (by go_size)
  have ff5 := hbz.frozen (p := ⟨w.heap.size + 1, 5, none⟩) (by go_size)
  simp [go_sem, d0, d1, d2, d3, d4, d5, f0, f1, f2, f3, f4, f5] at dd0 dd1 dd2 dd3 dd4 dd5 ff0 ff1 ff2 ff3 ff4 ff5
  go_wp2_with fail
  refine bodyPost_ret (v := gePair (sclG g p) 0) (by simp [results, Try.results12, gePair, sclG, go_sem, *]) rfl ⟨rfl, ?_⟩
  have hb0 := bthen (bthen (bnew (bnew (bself w) _) _) hb) hbz
  clear hb hbz
  repeat (first | (with_reducible exact hb0) | (with_reducible refine Below.setCell ?_ ?_ _) | go_size)

theorem ref05_Scaled_calls (g : Gly) (p : Int) (w : World) :
    Calls Try.prog 12 #[.agg #[.string g.name, .int .i64 g.w, .int .i64 g.h, .int .i64 g.d, .int .i64 g.it, .int .i64 g.at_], .int .i64 p] w (Gives (gePair (scaledG g p) (scaledErr g p)) w) := by
  unfold scaledG scaledErr
  by_cases hp : 1 ≤ p ∧ p ≤ 1000
  · rw [if_pos hp]
    cases hm : metricsOk g
    · exact ref05_Scaled_arg g p w hp hm
    · exact ref05_Scaled_ok g p w hp hm
  · rw [if_neg hp]
    exact ref05_Scaled_range g p w hp

end Go.Proofs.Ytgknameejoalnaa
