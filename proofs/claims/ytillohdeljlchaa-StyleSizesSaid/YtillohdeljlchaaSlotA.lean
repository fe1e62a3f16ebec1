/- What Slot returns, in the program and in the reference. -/
import Derived.Test.YtillohdeljlchaaSlotB
import Derived.Test.YtillohdeljlchaaSlotE
import Derived.Test.YtillohdeljlchaaRSlot
namespace Go.Proofs.Ytillohdeljlchaa
open Go.RowKit

/-- The error of Slot. -/
def slotErr (k s l : Int) : Int := if l < 0 ∨ 3 < l ∨ k < 5 ∨ 12 < k then 1 else if s < 0 ∨ slotsOf k ≤ s then 2 else 0
/-- The level that Slot returns. -/
def slotLevel (k s l : Int) : Int := if slotErr k s l = 0 then (if k = 5 then min (l + 1) 3 else if k = 6 then (if s = 0 then 3 else l) else if k = 7 ∨ k = 8 ∨ k = 9 then (if s = 0 then l else 2 + l / 2) else if k = 12 then max l 1 else l) else 0
/-- Whether the slot's style is cramped. -/
def slotCr (k s l : Int) (c : Bool) : Bool := if slotErr k s l = 0 then (c || decide (k = 10) || (decide (s = 1) && decide (k = 5 ∨ k = 6 ∨ k = 7 ∨ k = 9))) else false
/-- What Slot returns. -/
def slotVal (k s l : Int) (c : Bool) : Value := .tuple #[.agg #[.int .i64 (slotLevel k s l), .bool (slotCr k s l c)], .int .i64 (slotErr k s l)]

theorem slotVal_err {k s l e : Int} {c : Bool} (h : slotErr k s l = e) (he : e ≠ 0) : slotVal k s l c = .tuple #[.agg #[.int .i64 0, .bool false], .int .i64 e] := by
  unfold slotVal slotLevel slotCr
  rw [h, if_neg he, if_neg he]
theorem slotVal_ok {k s l L : Int} {c C : Bool} (h : slotErr k s l = 0) (hl : (if k = 5 then min (l + 1) 3 else if k = 6 then (if s = 0 then 3 else l) else if k = 7 ∨ k = 8 ∨ k = 9 then (if s = 0 then l else 2 + l / 2) else if k = 12 then max l 1 else l) = L)
    (hc : (c || decide (k = 10) || (decide (s = 1) && decide (k = 5 ∨ k = 6 ∨ k = 7 ∨ k = 9))) = C) : slotVal k s l c = .tuple #[.agg #[.int .i64 L, .bool C], .int .i64 0] := by
  unfold slotVal slotLevel slotCr
  rw [h, if_pos rfl, if_pos rfl, hl, hc]
theorem slotErr_one {k s l : Int} (h : l < 0 ∨ 3 < l ∨ k < 5 ∨ 12 < k) : slotErr k s l = 1 := by unfold slotErr; rw [if_pos h]
theorem slotErr_two {k s l n : Int} (h : ¬ (l < 0 ∨ 3 < l ∨ k < 5 ∨ 12 < k)) (hn : slotsOf k = n) (h2 : s < 0 ∨ n ≤ s) : slotErr k s l = 2 := by unfold slotErr; rw [if_neg h, hn, if_pos h2]
theorem slotErr_ok {k s l n : Int} (h : ¬ (l < 0 ∨ 3 < l ∨ k < 5 ∨ 12 < k)) (hn : slotsOf k = n) (h2 : ¬ (s < 0 ∨ n ≤ s)) : slotErr k s l = 0 := by unfold slotErr; rw [if_neg h, hn, if_neg h2]

theorem style_Slot_calls (k s l : Int) (c : Bool) (w : World) :
    Calls Try.prog 11 #[.int .i64 k, .int .i64 s, .agg #[.int .i64 l, .bool c]] w (Gives (slotVal k s l c) w) := by
  by_cases h1 : l < 0
  · rw [slotVal_err (slotErr_one (.inl h1)) (by decide)]; exact slot_err_lo k s l c w h1
  by_cases h2 : 3 < l
  · rw [slotVal_err (slotErr_one (.inr (.inl h2))) (by decide)]; exact slot_err_hi k s l c w h2
  have g0 : 0 ≤ l := by omega
  have g3 : l ≤ 3 := by omega
  by_cases h3 : k < 5
  · rw [slotVal_err (slotErr_one (.inr (.inr (.inl h3)))) (by decide)]; exact slot_err_klo k s l c w g0 g3 h3
  by_cases h4 : 12 < k
  · rw [slotVal_err (slotErr_one (.inr (.inr (.inr h4)))) (by decide)]; exact slot_err_khi k s l c w g0 g3 h4
  have hk : k = 5 ∨ k = 6 ∨ k = 7 ∨ k = 8 ∨ k = 9 ∨ k = 10 ∨ k = 11 ∨ k = 12 := by omega
  clear h1 h2 h3 h4
  rcases hk with rfl | rfl | rfl | rfl | rfl | rfl | rfl | rfl
  · by_cases hn : s < 0
    · rw [slotVal_err (slotErr_two (by omega) (n := 2) rfl (.inl hn)) (by decide)]; exact slot_5_neg s l c w g0 g3 hn
    by_cases hb : 2 ≤ s
    · rw [slotVal_err (slotErr_two (by omega) (n := 2) rfl (.inr hb)) (by decide)]; exact slot_5_big s l c w g0 g3 hb
    have hs : s = 0 ∨ s = 1 := by omega
    clear hn hb
    rcases hs with rfl | rfl
    · cases c
      · rw [slotVal_ok (L := min (l + 1) 3) (C := false) (slotErr_ok (by omega) (n := 2) rfl (by omega)) (by simp) (by simp)]; exact slot_5_0_false l w g0 g3
      · rw [slotVal_ok (L := min (l + 1) 3) (C := true) (slotErr_ok (by omega) (n := 2) rfl (by omega)) (by simp) (by simp)]; exact slot_5_0_true l w g0 g3
    · cases c
      · rw [slotVal_ok (L := min (l + 1) 3) (C := true) (slotErr_ok (by omega) (n := 2) rfl (by omega)) (by simp) (by simp)]; exact slot_5_1_false l w g0 g3
      · rw [slotVal_ok (L := min (l + 1) 3) (C := true) (slotErr_ok (by omega) (n := 2) rfl (by omega)) (by simp) (by simp)]; exact slot_5_1_true l w g0 g3
  · by_cases hn : s < 0
    · rw [slotVal_err (slotErr_two (by omega) (n := 2) rfl (.inl hn)) (by decide)]; exact slot_6_neg s l c w g0 g3 hn
    by_cases hb : 2 ≤ s
    · rw [slotVal_err (slotErr_two (by omega) (n := 2) rfl (.inr hb)) (by decide)]; exact slot_6_big s l c w g0 g3 hb
    have hs : s = 0 ∨ s = 1 := by omega
    clear hn hb
    rcases hs with rfl | rfl
    · cases c
      · rw [slotVal_ok (L := 3) (C := false) (slotErr_ok (by omega) (n := 2) rfl (by omega)) (by simp) (by simp)]; exact slot_6_0_false l w g0 g3
      · rw [slotVal_ok (L := 3) (C := true) (slotErr_ok (by omega) (n := 2) rfl (by omega)) (by simp) (by simp)]; exact slot_6_0_true l w g0 g3
    · cases c
      · rw [slotVal_ok (L := l) (C := true) (slotErr_ok (by omega) (n := 2) rfl (by omega)) (by simp) (by simp)]; exact slot_6_1_false l w g0 g3
      · rw [slotVal_ok (L := l) (C := true) (slotErr_ok (by omega) (n := 2) rfl (by omega)) (by simp) (by simp)]; exact slot_6_1_true l w g0 g3
  · by_cases hn : s < 0
    · rw [slotVal_err (slotErr_two (by omega) (n := 2) rfl (.inl hn)) (by decide)]; exact slot_7_neg s l c w g0 g3 hn
    by_cases hb : 2 ≤ s
    · rw [slotVal_err (slotErr_two (by omega) (n := 2) rfl (.inr hb)) (by decide)]; exact slot_7_big s l c w g0 g3 hb
    have hs : s = 0 ∨ s = 1 := by omega
    clear hn hb
    rcases hs with rfl | rfl
    · cases c
      · rw [slotVal_ok (L := l) (C := false) (slotErr_ok (by omega) (n := 2) rfl (by omega)) (by simp) (by simp)]; exact slot_7_0_false l w g0 g3
      · rw [slotVal_ok (L := l) (C := true) (slotErr_ok (by omega) (n := 2) rfl (by omega)) (by simp) (by simp)]; exact slot_7_0_true l w g0 g3
    · cases c
      · rw [slotVal_ok (L := 2 + l / 2) (C := true) (slotErr_ok (by omega) (n := 2) rfl (by omega)) (by simp) (by simp)]; exact slot_7_1_false l w g0 g3
      · rw [slotVal_ok (L := 2 + l / 2) (C := true) (slotErr_ok (by omega) (n := 2) rfl (by omega)) (by simp) (by simp)]; exact slot_7_1_true l w g0 g3
  · by_cases hn : s < 0
    · rw [slotVal_err (slotErr_two (by omega) (n := 2) rfl (.inl hn)) (by decide)]; exact slot_8_neg s l c w g0 g3 hn
    by_cases hb : 2 ≤ s
    · rw [slotVal_err (slotErr_two (by omega) (n := 2) rfl (.inr hb)) (by decide)]; exact slot_8_big s l c w g0 g3 hb
    have hs : s = 0 ∨ s = 1 := by omega
    clear hn hb
    rcases hs with rfl | rfl
    · cases c
      · rw [slotVal_ok (L := l) (C := false) (slotErr_ok (by omega) (n := 2) rfl (by omega)) (by simp) (by simp)]; exact slot_8_0_false l w g0 g3
      · rw [slotVal_ok (L := l) (C := true) (slotErr_ok (by omega) (n := 2) rfl (by omega)) (by simp) (by simp)]; exact slot_8_0_true l w g0 g3
    · cases c
      · rw [slotVal_ok (L := 2 + l / 2) (C := false) (slotErr_ok (by omega) (n := 2) rfl (by omega)) (by simp) (by simp)]; exact slot_8_1_false l w g0 g3
      · rw [slotVal_ok (L := 2 + l / 2) (C := true) (slotErr_ok (by omega) (n := 2) rfl (by omega)) (by simp) (by simp)]; exact slot_8_1_true l w g0 g3
  · by_cases hn : s < 0
    · rw [slotVal_err (slotErr_two (by omega) (n := 3) rfl (.inl hn)) (by decide)]; exact slot_9_neg s l c w g0 g3 hn
    by_cases hb : 3 ≤ s
    · rw [slotVal_err (slotErr_two (by omega) (n := 3) rfl (.inr hb)) (by decide)]; exact slot_9_big s l c w g0 g3 hb
    have hs : s = 0 ∨ s = 1 ∨ s = 2 := by omega
    clear hn hb
    rcases hs with rfl | rfl | rfl
    · cases c
      · rw [slotVal_ok (L := l) (C := false) (slotErr_ok (by omega) (n := 3) rfl (by omega)) (by simp) (by simp)]; exact slot_9_0_false l w g0 g3
      · rw [slotVal_ok (L := l) (C := true) (slotErr_ok (by omega) (n := 3) rfl (by omega)) (by simp) (by simp)]; exact slot_9_0_true l w g0 g3
    · cases c
      · rw [slotVal_ok (L := 2 + l / 2) (C := true) (slotErr_ok (by omega) (n := 3) rfl (by omega)) (by simp) (by simp)]; exact slot_9_1_false l w g0 g3
      · rw [slotVal_ok (L := 2 + l / 2) (C := true) (slotErr_ok (by omega) (n := 3) rfl (by omega)) (by simp) (by simp)]; exact slot_9_1_true l w g0 g3
    · cases c
      · rw [slotVal_ok (L := 2 + l / 2) (C := false) (slotErr_ok (by omega) (n := 3) rfl (by omega)) (by simp) (by simp)]; exact slot_9_2_false l w g0 g3
      · rw [slotVal_ok (L := 2 + l / 2) (C := true) (slotErr_ok (by omega) (n := 3) rfl (by omega)) (by simp) (by simp)]; exact slot_9_2_true l w g0 g3
  · by_cases hn : s < 0
    · rw [slotVal_err (slotErr_two (by omega) (n := 1) rfl (.inl hn)) (by decide)]; exact slot_10_neg s l c w g0 g3 hn
    by_cases hb : 1 ≤ s
    · rw [slotVal_err (slotErr_two (by omega) (n := 1) rfl (.inr hb)) (by decide)]; exact slot_10_big s l c w g0 g3 hb
    have hs : s = 0 := by omega
    clear hn hb
    subst hs
    cases c
    · rw [slotVal_ok (L := l) (C := true) (slotErr_ok (by omega) (n := 1) rfl (by omega)) (by simp) (by simp)]; exact slot_10_0_false l w g0 g3
    · rw [slotVal_ok (L := l) (C := true) (slotErr_ok (by omega) (n := 1) rfl (by omega)) (by simp) (by simp)]; exact slot_10_0_true l w g0 g3
  · by_cases hn : s < 0
    · rw [slotVal_err (slotErr_two (by omega) (n := 1) rfl (.inl hn)) (by decide)]; exact slot_11_neg s l c w g0 g3 hn
    by_cases hb : 1 ≤ s
    · rw [slotVal_err (slotErr_two (by omega) (n := 1) rfl (.inr hb)) (by decide)]; exact slot_11_big s l c w g0 g3 hb
    have hs : s = 0 := by omega
    clear hn hb
    subst hs
    cases c
    · rw [slotVal_ok (L := l) (C := false) (slotErr_ok (by omega) (n := 1) rfl (by omega)) (by simp) (by simp)]; exact slot_11_0_false l w g0 g3
    · rw [slotVal_ok (L := l) (C := true) (slotErr_ok (by omega) (n := 1) rfl (by omega)) (by simp) (by simp)]; exact slot_11_0_true l w g0 g3
  · by_cases hn : s < 0
    · rw [slotVal_err (slotErr_two (by omega) (n := 256) rfl (.inl hn)) (by decide)]; exact slot_12_neg s l c w g0 g3 hn
    by_cases hb : 256 ≤ s
    · rw [slotVal_err (slotErr_two (by omega) (n := 256) rfl (.inr hb)) (by decide)]; exact slot_12_big s l c w g0 g3 hb
    by_cases hs : s = 0
    · subst hs
      cases c
      · rw [slotVal_ok (L := max l 1) (C := false) (slotErr_ok (by omega) (n := 256) rfl (by omega)) (by simp) (by simp)]; exact slot_12_0_false l w g0 g3
      · rw [slotVal_ok (L := max l 1) (C := true) (slotErr_ok (by omega) (n := 256) rfl (by omega)) (by simp) (by simp)]; exact slot_12_0_true l w g0 g3
    · cases c
      · rw [slotVal_ok (L := max l 1) (C := false) (slotErr_ok (by omega) (n := 256) rfl (by omega)) (by simp) (by simp)]; exact slot_12_1_false l s w g0 g3 (by omega) (by omega)
      · rw [slotVal_ok (L := max l 1) (C := true) (slotErr_ok (by omega) (n := 256) rfl (by omega)) (by simp) (by simp)]; exact slot_12_1_true l s w g0 g3 (by omega) (by omega)

theorem ref25_Slot_calls (k s l : Int) (c : Bool) (w : World) :
    Calls Try.prog 13 #[.int .i64 k, .int .i64 s, .agg #[.int .i64 l, .bool c]] w (Gives (slotVal k s l c) w) := by
  by_cases h1 : l < 0
  · rw [slotVal_err (slotErr_one (.inl h1)) (by decide)]; exact rslot_err_lo k s l c w h1
  by_cases h2 : 3 < l
  · rw [slotVal_err (slotErr_one (.inr (.inl h2))) (by decide)]; exact rslot_err_hi k s l c w h2
  have g0 : 0 ≤ l := by omega
  have g3 : l ≤ 3 := by omega
  by_cases h3 : k < 5 ∨ 12 < k
  · rw [slotVal_err (slotErr_one (.inr (.inr h3))) (by decide)]; exact rslot_err_k k s l c w g0 g3 h3
  have hk : k = 5 ∨ k = 6 ∨ k = 7 ∨ k = 8 ∨ k = 9 ∨ k = 10 ∨ k = 11 ∨ k = 12 := by omega
  clear h1 h2 h3
  rcases hk with rfl | rfl | rfl | rfl | rfl | rfl | rfl | rfl
  · by_cases hn : s < 0
    · rw [slotVal_err (slotErr_two (by omega) (n := 2) rfl (.inl hn)) (by decide)]; exact rslot_5_neg s l c w g0 g3 hn
    by_cases hb : 2 ≤ s
    · rw [slotVal_err (slotErr_two (by omega) (n := 2) rfl (.inr hb)) (by decide)]; exact rslot_5_big s l c w g0 g3 hb
    have hs : s = 0 ∨ s = 1 := by omega
    clear hn hb
    rcases hs with rfl | rfl
    · cases c
      · rw [slotVal_ok (L := min (l + 1) 3) (C := false) (slotErr_ok (by omega) (n := 2) rfl (by omega)) (by simp) (by simp)]; exact rslot_5_0_false l w g0 g3
      · rw [slotVal_ok (L := min (l + 1) 3) (C := true) (slotErr_ok (by omega) (n := 2) rfl (by omega)) (by simp) (by simp)]; exact rslot_5_0_true l w g0 g3
    · cases c
      · rw [slotVal_ok (L := min (l + 1) 3) (C := true) (slotErr_ok (by omega) (n := 2) rfl (by omega)) (by simp) (by simp)]; exact rslot_5_1_false l w g0 g3
      · rw [slotVal_ok (L := min (l + 1) 3) (C := true) (slotErr_ok (by omega) (n := 2) rfl (by omega)) (by simp) (by simp)]; exact rslot_5_1_true l w g0 g3
  · by_cases hn : s < 0
    · rw [slotVal_err (slotErr_two (by omega) (n := 2) rfl (.inl hn)) (by decide)]; exact rslot_6_neg s l c w g0 g3 hn
    by_cases hb : 2 ≤ s
    · rw [slotVal_err (slotErr_two (by omega) (n := 2) rfl (.inr hb)) (by decide)]; exact rslot_6_big s l c w g0 g3 hb
    have hs : s = 0 ∨ s = 1 := by omega
    clear hn hb
    rcases hs with rfl | rfl
    · cases c
      · rw [slotVal_ok (L := 3) (C := false) (slotErr_ok (by omega) (n := 2) rfl (by omega)) (by simp) (by simp)]; exact rslot_6_0_false l w g0 g3
      · rw [slotVal_ok (L := 3) (C := true) (slotErr_ok (by omega) (n := 2) rfl (by omega)) (by simp) (by simp)]; exact rslot_6_0_true l w g0 g3
    · cases c
      · rw [slotVal_ok (L := l) (C := true) (slotErr_ok (by omega) (n := 2) rfl (by omega)) (by simp) (by simp)]; exact rslot_6_1_false l w g0 g3
      · rw [slotVal_ok (L := l) (C := true) (slotErr_ok (by omega) (n := 2) rfl (by omega)) (by simp) (by simp)]; exact rslot_6_1_true l w g0 g3
  · by_cases hn : s < 0
    · rw [slotVal_err (slotErr_two (by omega) (n := 2) rfl (.inl hn)) (by decide)]; exact rslot_7_neg s l c w g0 g3 hn
    by_cases hb : 2 ≤ s
    · rw [slotVal_err (slotErr_two (by omega) (n := 2) rfl (.inr hb)) (by decide)]; exact rslot_7_big s l c w g0 g3 hb
    have hs : s = 0 ∨ s = 1 := by omega
    clear hn hb
    rcases hs with rfl | rfl
    · cases c
      · rw [slotVal_ok (L := l) (C := false) (slotErr_ok (by omega) (n := 2) rfl (by omega)) (by simp) (by simp)]; exact rslot_7_0_false l w g0 g3
      · rw [slotVal_ok (L := l) (C := true) (slotErr_ok (by omega) (n := 2) rfl (by omega)) (by simp) (by simp)]; exact rslot_7_0_true l w g0 g3
    · cases c
      · rw [slotVal_ok (L := 2 + l / 2) (C := true) (slotErr_ok (by omega) (n := 2) rfl (by omega)) (by simp) (by simp)]; exact rslot_7_1_false l w g0 g3
      · rw [slotVal_ok (L := 2 + l / 2) (C := true) (slotErr_ok (by omega) (n := 2) rfl (by omega)) (by simp) (by simp)]; exact rslot_7_1_true l w g0 g3
  · by_cases hn : s < 0
    · rw [slotVal_err (slotErr_two (by omega) (n := 2) rfl (.inl hn)) (by decide)]; exact rslot_8_neg s l c w g0 g3 hn
    by_cases hb : 2 ≤ s
    · rw [slotVal_err (slotErr_two (by omega) (n := 2) rfl (.inr hb)) (by decide)]; exact rslot_8_big s l c w g0 g3 hb
    have hs : s = 0 ∨ s = 1 := by omega
    clear hn hb
    rcases hs with rfl | rfl
    · cases c
      · rw [slotVal_ok (L := l) (C := false) (slotErr_ok (by omega) (n := 2) rfl (by omega)) (by simp) (by simp)]; exact rslot_8_0_false l w g0 g3
      · rw [slotVal_ok (L := l) (C := true) (slotErr_ok (by omega) (n := 2) rfl (by omega)) (by simp) (by simp)]; exact rslot_8_0_true l w g0 g3
    · cases c
      · rw [slotVal_ok (L := 2 + l / 2) (C := false) (slotErr_ok (by omega) (n := 2) rfl (by omega)) (by simp) (by simp)]; exact rslot_8_1_false l w g0 g3
      · rw [slotVal_ok (L := 2 + l / 2) (C := true) (slotErr_ok (by omega) (n := 2) rfl (by omega)) (by simp) (by simp)]; exact rslot_8_1_true l w g0 g3
  · by_cases hn : s < 0
    · rw [slotVal_err (slotErr_two (by omega) (n := 3) rfl (.inl hn)) (by decide)]; exact rslot_9_neg s l c w g0 g3 hn
    by_cases hb : 3 ≤ s
    · rw [slotVal_err (slotErr_two (by omega) (n := 3) rfl (.inr hb)) (by decide)]; exact rslot_9_big s l c w g0 g3 hb
    have hs : s = 0 ∨ s = 1 ∨ s = 2 := by omega
    clear hn hb
    rcases hs with rfl | rfl | rfl
    · cases c
      · rw [slotVal_ok (L := l) (C := false) (slotErr_ok (by omega) (n := 3) rfl (by omega)) (by simp) (by simp)]; exact rslot_9_0_false l w g0 g3
      · rw [slotVal_ok (L := l) (C := true) (slotErr_ok (by omega) (n := 3) rfl (by omega)) (by simp) (by simp)]; exact rslot_9_0_true l w g0 g3
    · cases c
      · rw [slotVal_ok (L := 2 + l / 2) (C := true) (slotErr_ok (by omega) (n := 3) rfl (by omega)) (by simp) (by simp)]; exact rslot_9_1_false l w g0 g3
      · rw [slotVal_ok (L := 2 + l / 2) (C := true) (slotErr_ok (by omega) (n := 3) rfl (by omega)) (by simp) (by simp)]; exact rslot_9_1_true l w g0 g3
    · cases c
      · rw [slotVal_ok (L := 2 + l / 2) (C := false) (slotErr_ok (by omega) (n := 3) rfl (by omega)) (by simp) (by simp)]; exact rslot_9_2_false l w g0 g3
      · rw [slotVal_ok (L := 2 + l / 2) (C := true) (slotErr_ok (by omega) (n := 3) rfl (by omega)) (by simp) (by simp)]; exact rslot_9_2_true l w g0 g3
  · by_cases hn : s < 0
    · rw [slotVal_err (slotErr_two (by omega) (n := 1) rfl (.inl hn)) (by decide)]; exact rslot_10_neg s l c w g0 g3 hn
    by_cases hb : 1 ≤ s
    · rw [slotVal_err (slotErr_two (by omega) (n := 1) rfl (.inr hb)) (by decide)]; exact rslot_10_big s l c w g0 g3 hb
    have hs : s = 0 := by omega
    clear hn hb
    subst hs
    cases c
    · rw [slotVal_ok (L := l) (C := true) (slotErr_ok (by omega) (n := 1) rfl (by omega)) (by simp) (by simp)]; exact rslot_10_0_false l w g0 g3
    · rw [slotVal_ok (L := l) (C := true) (slotErr_ok (by omega) (n := 1) rfl (by omega)) (by simp) (by simp)]; exact rslot_10_0_true l w g0 g3
  · by_cases hn : s < 0
    · rw [slotVal_err (slotErr_two (by omega) (n := 1) rfl (.inl hn)) (by decide)]; exact rslot_11_neg s l c w g0 g3 hn
    by_cases hb : 1 ≤ s
    · rw [slotVal_err (slotErr_two (by omega) (n := 1) rfl (.inr hb)) (by decide)]; exact rslot_11_big s l c w g0 g3 hb
    have hs : s = 0 := by omega
    clear hn hb
    subst hs
    cases c
    · rw [slotVal_ok (L := l) (C := false) (slotErr_ok (by omega) (n := 1) rfl (by omega)) (by simp) (by simp)]; exact rslot_11_0_false l w g0 g3
    · rw [slotVal_ok (L := l) (C := true) (slotErr_ok (by omega) (n := 1) rfl (by omega)) (by simp) (by simp)]; exact rslot_11_0_true l w g0 g3
  · by_cases hn : s < 0
    · rw [slotVal_err (slotErr_two (by omega) (n := 256) rfl (.inl hn)) (by decide)]; exact rslot_12_neg s l c w g0 g3 hn
    by_cases hb : 256 ≤ s
    · rw [slotVal_err (slotErr_two (by omega) (n := 256) rfl (.inr hb)) (by decide)]; exact rslot_12_big s l c w g0 g3 hb
    cases c
    · rw [slotVal_ok (L := max l 1) (C := false) (slotErr_ok (by omega) (n := 256) rfl (by omega)) (by simp) (by simp)]; exact rslot_12_0_false l s w g0 g3 (by omega) (by omega)
    · rw [slotVal_ok (L := max l 1) (C := true) (slotErr_ok (by omega) (n := 256) rfl (by omega)) (by simp) (by simp)]; exact rslot_12_0_true l s w g0 g3 (by omega) (by omega)

end Go.Proofs.Ytillohdeljlchaa
