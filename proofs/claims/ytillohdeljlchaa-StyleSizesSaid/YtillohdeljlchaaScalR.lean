/- Scaled and Height in the reference; Height in package font. -/
import Derived.Test.YtillohdeljlchaaScal
namespace Go.Proofs.Ytillohdeljlchaa
open Go.RowKit



set_option maxHeartbeats 2000000 in
theorem ref05_metrics_calls (g : Gly) (w : World) :
    Calls Try.prog 42 #[.agg #[.string g.name, .int .i64 g.w, .int .i64 g.h, .int .i64 g.d, .int .i64 g.it, .int .i64 g.at_]] w (Gives (.bool (metricsOk g)) w) := by
  obtain ⟨ns, hns⟩ : ∃ ns, ns = g.nums := ⟨_, rfl⟩
  have hm := Lib.hid (show metricsOk g = allIn (-20000) 20000 ns by rw [hns]; rfl)
  have hlen : ns.length = 5 := by rw [hns]; rfl
  have hat : ∀ k n, ns[k]? = some n → ((w.alloc (.cells #[.string g.name, .int .i64 g.w, .int .i64 g.h, .int .i64 g.d, .int .i64 g.it, .int .i64 g.at_] 61)).alloc (.cells #[.int .i64 g.w, .int .i64 g.h, .int .i64 g.d, .int .i64 g.it, .int .i64 g.at_] 3)).cell? ⟨w.heap.size + 1, k, none⟩ = some (.int .i64 n) := by
    intro k n hk
    rw [hns] at hk
    simp only [Gly.nums] at hk
    rcases k with _ | _ | _ | _ | _ | k <;> simp at hk <;> subst hk <;> simp [go_sem]
  have HAT := Lib.hid hat
  have HLEN := Lib.hid hlen
  clear hat hns hlen
  go_enter Try.func42, Try.ntmps42
  go_wp2_with fail
  generalize hW : (w.alloc (.cells #[.string g.name, .int .i64 g.w, .int .i64 g.h, .int .i64 g.d, .int .i64 g.it, .int .i64 g.at_] 61)).alloc (.cells #[.int .i64 g.w, .int .i64 g.h, .int .i64 g.d, .int .i64 g.it, .int .i64 g.at_] 3) = W at *
  have hb : Below w.heap.size w W := by rw [← hW]; exact bnew (bnew (bself w) _) _
  clear hW
  go_loop [4] (fun i => ∃ k : Nat, k ≤ 5 ∧ i = .int .i64 k ∧ allIn (-20000) 20000 ns = allIn (-20000) 20000 (ns.drop k)) (fun i => 5 - (intOf i).toNat)
  case atStart => exact ⟨0, Nat.zero_le _, rfl, rfl⟩
  case round =>
    obtain ⟨k, hk, rfl, hf⟩ := hrel
    by_cases hlt : k < 5
    · obtain ⟨n, hg⟩ : ∃ n, ns[k]? = some n := ⟨ns[k]'(by rw [HLEN.out]; omega), by simp [HLEN.out, hlt]⟩
      have g0 := HAT.out k n hg
      rw [allIn_drop _ _ ns k n hg] at hf
      have HF := Lib.hid hf
      clear hf hg
      by_cases h1 : (decide (-20000 ≤ n) && decide (n ≤ 20000)) = true
      · have E1 := Lib.hid (show allIn (-20000) 20000 ns = allIn (-20000) 20000 (ns.drop (k + 1)) by rw [HF.out, h1, Bool.true_and])
        go_wp2_with fail
        refine (ref05_within_calls _ _ _ _).mono ?_
        rintro e w' ⟨rfl, rfl⟩
        go_wp2_with fail
        go_round
        case rel => exact ⟨k + 1, by omega, by go_num, E1.out⟩
        case measure => simp [intOf]; omega
      · have h1' : (decide (-20000 ≤ n) && decide (n ≤ 20000)) = false := by simpa using h1
        have E1 := Lib.hid (show allIn (-20000) 20000 ns = false by rw [HF.out, h1', Bool.false_and])
        clear h1
        go_wp2_with fail
        refine (ref05_within_calls _ _ _ _).mono ?_
        rintro e w' ⟨rfl, rfl⟩
        go_wp2_with fail
        go_ret
        refine ⟨ret_bool ?_, hb⟩
        rw [hm.out, E1.out]
    · have E1 := Lib.hid (show allIn (-20000) 20000 ns = true by rw [hf, List.drop_of_length_le (by rw [HLEN.out]; omega)]; rfl)
      clear hf
      go_wp2_with fail
      go_ret
      refine ⟨ret_bool ?_, hb⟩
      rw [hm.out, E1.out]











end Go.Proofs.Ytillohdeljlchaa
