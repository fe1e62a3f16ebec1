/- The laws of chapter 25 on Path. -/
import Derived.Test.YtillohdeljlchaaPathP
import Derived.Test.YtillohdeljlchaaL25
namespace Go.Proofs.Ytillohdeljlchaa
open Go.RowKit

set_option maxHeartbeats 400000 in
theorem pathLaw_far (x x' : Option Addr) (n m c c' : Nat) (l : Int) (cr : Bool) (w : World) (h : 30 < n ∨ 30 < m) :
    Calls Try.prog 6 #[.slice x n c, .slice x' m c', .agg #[.int .i64 l, .bool cr]] w (Gives (.bool true) w) := by
  go_enter Try.func6, Try.ntmps6
  go_wp2_with fail
  refine (awake_calls _).mono ?_
  rintro e w1 ⟨rfl, hb⟩
  by_cases h1 : 30 < n
  · have d1 : decide ((30 : Int) < n) = true := by simp; omega
    go_wp2_with fail
    go_ret
    exact ⟨rfl, bthen (bnew (bself w) _) hb⟩
  · have d1 : decide ((30 : Int) < n) = false := by simp; omega
    have d2 : decide ((30 : Int) < m) = true := by simp; omega
    go_wp2_with fail
    go_ret
    exact ⟨rfl, bthen (bnew (bself w) _) hb⟩

set_option maxHeartbeats 400000 in
theorem pathLaw_near (x x' : Option Addr) (n m c c' : Nat) (l L E : Int) (cr C : Bool) (w : World) (h1 : n ≤ 30) (h2 : m ≤ 30)
    (H : ∀ w', Below w.heap.size w w' → Calls Try.prog 16 #[.slice x n c, .slice x' m c', .agg #[.int .i64 l, .bool cr]] w' (Gives (.tuple #[.agg #[.int .i64 L, .bool C], .int .i64 E]) w'))
    (G : ∀ w', Below w.heap.size w w' → Calls Try.prog 17 #[.slice x n c, .slice x' m c', .agg #[.int .i64 l, .bool cr]] w' (Gives (.tuple #[.agg #[.int .i64 L, .bool C], .int .i64 E]) w')) :
    Calls Try.prog 6 #[.slice x n c, .slice x' m c', .agg #[.int .i64 l, .bool cr]] w (Gives (.bool true) w) := by
  have HH := Lib.hid H
  have GG := Lib.hid G
  clear H G
  have d1 : decide ((30 : Int) < n) = false := by simp; omega
  have d2 : decide ((30 : Int) < m) = false := by simp; omega
  go_enter Try.func6, Try.ntmps6
  go_wp2_with fail
  refine (awake_calls _).mono ?_
  rintro e w1 ⟨rfl, hb⟩
  have d0 := hb.cell (p := ⟨w.heap.size, 0, none⟩) (by go_size)
  have d1 := hb.cell (p := ⟨w.heap.size, 1, none⟩) (by go_size)
  simp [go_sem] at d0 d1
  have hz := hb.size
  simp only [World.size_alloc] at hz
  have hz0 : w.heap.size < w1.heap.size := by omega
  have hb1 : Below w.heap.size w w1 := bthen (bnew (bself w) _) hb
  go_wp2_with fail
  refine (HH.out _ hb1).mono ?_
  rintro e w2 ⟨rfl, hb2⟩
  have e0 := hb2.cell (p := ⟨w.heap.size, 0, none⟩) (by go_size)
  have e1 := hb2.cell (p := ⟨w.heap.size, 1, none⟩) (by go_size)
  simp [go_sem, d0, d1] at e0 e1
  have hz2 := hb2.size
  have hz3 : w.heap.size < w2.heap.size := by omega
  have hb3 : Below w.heap.size w w2 := bthen hb1 hb2
  go_wp2_with fail
  refine (GG.out _ (bnew hb3 _)).mono ?_
  rintro e w3 ⟨rfl, hb4⟩
  have f0 := hb4.cell (p := ⟨w2.heap.size, 0, none⟩) (by go_size)
  have f1 := hb4.cell (p := ⟨w2.heap.size, 1, none⟩) (by go_size)
  simp [go_sem] at f0 f1
  have hz5 : w2.heap.size < w3.heap.size := by have := hb4.size; simp only [World.size_alloc] at this; omega
  go_wp2_with fail
  go_ret
  exact ⟨rfl, bnew (bthen (bnew hb3 _) hb4) _⟩

theorem path_law_calls (x x' : Option Addr) (c c' : Nat) (ks ss : List Int) (l : Int) (cr : Bool) (w : World) (hk : IntSl w x ks) (hs : IntSl w x' ss) :
    Calls Try.prog 6 #[.slice x ks.length c, .slice x' ss.length c', .agg #[.int .i64 l, .bool cr]] w (Gives (.bool true) w) := by
  by_cases h : 30 < ks.length ∨ 30 < ss.length
  · exact pathLaw_far _ _ _ _ _ _ _ _ _ h
  · exact pathLaw_near _ _ _ _ _ _ l (pathOf ks ss l cr).1 (pathOf ks ss l cr).2.2 cr (pathOf ks ss l cr).2.1 w (by omega) (by omega)
      (fun w' hb => style_Path_calls x x' c c' ks ss l cr w' (by omega) (hk.below hb) (hs.below hb)) (fun w' hb => ref25_Path_calls x x' c c' ks ss l cr w' (by omega) (hk.below hb) (hs.below hb))

end Go.Proofs.Ytillohdeljlchaa
