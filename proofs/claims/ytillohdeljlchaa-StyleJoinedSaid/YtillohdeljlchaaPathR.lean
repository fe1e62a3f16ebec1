/- The reference's Path. -/
import Derived.Test.YtillohdeljlchaaSlotA
import Derived.Test.YtillohdeljlchaaFlo
import Derived.Deep.DeepCutAuto
namespace Go.Proofs.Ytillohdeljlchaa
open Go.RowKit

/-- One step behind another: level, cramping, error. -/
def pathGo : List (Int × Int) → Int → Bool → Int × Bool × Int
  | [], l, c => (l, c, 0)
  | x :: r, l, c => if slotErr x.1 x.2 l = 0 then pathGo r (slotLevel x.1 x.2 l) (slotCr x.1 x.2 l c) else (0, false, slotErr x.1 x.2 l)
/-- A level, a cramping and an error as a result. -/
def tripVal (x : Int × Bool × Int) : Value := .tuple #[.agg #[.int .i64 x.1, .bool x.2.1], .int .i64 x.2.2]

theorem pathGo_drop {ks ss : List Int} {k : Nat} {x y : Int} (hx : ks[k]? = some x) (hy : ss[k]? = some y) (l : Int) (c : Bool) :
    pathGo ((ks.drop k).zip (ss.drop k)) l c = if slotErr x y l = 0 then pathGo ((ks.drop (k + 1)).zip (ss.drop (k + 1))) (slotLevel x y l) (slotCr x y l c) else (0, false, slotErr x y l) := by
  obtain ⟨h1, rfl⟩ := List.getElem?_eq_some_iff.1 hx
  obtain ⟨h2, rfl⟩ := List.getElem?_eq_some_iff.1 hy
  rw [List.drop_eq_getElem_cons h1, List.drop_eq_getElem_cons h2, List.zip_cons_cons]
  rfl

theorem ref25_Slot_tuple (k s l : Int) (c : Bool) (w : World) :
    Calls Try.prog 13 #[.int .i64 k, .int .i64 s, .agg #[.int .i64 l, .bool c]] w (Gives (.tuple #[.agg #[.int .i64 (slotLevel k s l), .bool (slotCr k s l c)], .int .i64 (slotErr k s l)]) w) := ref25_Slot_calls k s l c w

set_option maxHeartbeats 4000000 in
set_option maxRecDepth 100000 in
theorem ref25_Path_full (b o c b' o' c' : Nat) (ks ss : List Int) (l : Int) (cr : Bool) (w : World) (hn : ks.length ≤ 1000000) (hls : ss.length = ks.length) (h0 : 0 ≤ l) (h3 : l ≤ 3)
    (hk : ∀ i n, ks[i]? = some n → w.cell? ⟨b, o + i, none⟩ = some (.int .i64 n)) (hs : ∀ i n, ss[i]? = some n → w.cell? ⟨b', o' + i, none⟩ = some (.int .i64 n)) :
    Calls Try.prog 17 #[.slice (some ⟨b, o, none⟩) ks.length c, .slice (some ⟨b', o', none⟩) ks.length c', .agg #[.int .i64 l, .bool cr]] w (Gives (tripVal (pathGo (ks.zip ss) l cr)) w) := by
  have HK := Lib.hid hk
  have HS := Lib.hid hs
  have HL := Lib.hid hls
  have hv : (decide (0 ≤ l) && decide (l ≤ 3)) = true := by simp; omega
  clear hk hs hls
  go_enter Try.func17, Try.ntmps17
  go_wp2_with fail
  refine (ref25_Valid_calls _ _ _).mono ?_
  rintro e w' ⟨rfl, rfl⟩
  go_wp2_with fail
  go_loopw [8] (fun i wr => ∃ (k : Nat) (l' : Int) (cr' : Bool), k ≤ ks.length ∧ i = .int .i64 k ∧ Below w.heap.size w wr ∧ w.heap.size + 1 < wr.heap.size ∧ wr.cell? ⟨w.heap.size, 0, none⟩ = some (.int .i64 l') ∧ wr.cell? ⟨w.heap.size, 1, none⟩ = some (.bool cr') ∧
    wr.cell? ⟨w.heap.size + 1, 0, none⟩ = some (.int .i64 0) ∧ wr.cell? ⟨w.heap.size + 1, 1, none⟩ = some (.bool false) ∧ wr.frozen? ⟨w.heap.size, 0, none⟩ = false ∧ wr.frozen? ⟨w.heap.size, 1, none⟩ = false ∧
    wr.frozen? ⟨w.heap.size + 1, 0, none⟩ = false ∧ wr.frozen? ⟨w.heap.size + 1, 1, none⟩ = false ∧ pathGo (ks.zip ss) l cr = pathGo ((ks.drop k).zip (ss.drop k)) l' cr') (fun i _ => ks.length - (intOf i).toNat)
  case atStart =>
    refine ⟨0, l, cr, Nat.zero_le _, rfl, bnew (bnew (bnew (bself w) _) _) _, ?_, ?_⟩
    · simp
    · simp [go_sem]
  case round =>
    obtain ⟨k, l', cr', hk, rfl, hb, hz, c0, c1, d0, d1, f0, f1, g0, g1, hp⟩ := hrel
    by_cases hlt : k < ks.length
    · obtain ⟨x, hx⟩ : ∃ x, ks[k]? = some x := ⟨ks[k], by simp [hlt]⟩
      obtain ⟨y, hy⟩ : ∃ y, ss[k]? = some y := ⟨ss[k]'(by rw [HL.out]; exact hlt), by simp [HL.out, hlt]⟩
      have ax := HK.out k x hx
      have ay := HS.out k y hy
      have ax' := (hb.cell (World.block_lt_of_cell? w _ ax)).trans ax
      have ay' := (hb.cell (World.block_lt_of_cell? w _ ay)).trans ay
      rw [pathGo_drop hx hy] at hp
      have HP := Lib.hid hp
      clear hp hx hy ax ay
      have hz0 : w.heap.size < wr.heap.size := by omega
      go_upto_region 6 with fail
      refine wp_region_float [(⟨b, o + k, none⟩, .int .i64 x), (⟨b', o' + k, none⟩, .int .i64 y), (⟨w.heap.size, 0, none⟩, .int .i64 l'), (⟨w.heap.size, 1, none⟩, .bool cr')] 11 13 (.cells #[.int .i64 0, .bool false] 23) (by kernel_rfl) (by kernel_rfl) rfl (fun _ _ _ _ _ h => h) (fun a w => by go_simp) (by simp [ax', ay', c0, c1]) (fun C hC => ?_)
      simp only [List.take_succ_cons, List.take_zero, List.drop_succ_cons, List.drop_zero]
      repeat (first
          | (refine g_plain (by with_reducible rfl) ?_
             apply Exists.intro
             refine ⟨?_, ?_⟩
             focus (intro wq hq; have hc := hC.cells _ hq; simp at hc; go_simp; first | (go_at_call 13; exact ref25_Slot_tuple _ _ _ _ _) | (with_reducible rfl))
             simp only [Act.put, List.setIfInBounds_toArray, List.set_cons_zero, List.set_cons_succ])
          | (refine g_at (by with_reducible rfl) (by rfl) (by rfl) (by simp only [List.getElem?_toArray, List.getElem?_cons_succ, List.getElem?_cons_zero]; rfl) ?_
             first | (with_reducible refine QG_tt ?_) | (with_reducible refine QG_ff ?_)
             apply Exists.intro
             refine ⟨?_, ?_⟩
             focus (intro wq hq; have hc := hC.cells _ hq; simp at hc; go_simp; first | (go_at_call 13; exact ref25_Slot_tuple _ _ _ _ _) | (with_reducible rfl))
             simp only [Act.put, List.setIfInBounds_toArray, List.set_cons_zero, List.set_cons_succ])
          | (refine g_at (by with_reducible rfl) (by rfl) (by rfl) (by simp only [List.getElem?_toArray, List.getElem?_cons_succ, List.getElem?_cons_zero]; rfl) ?_
             first | (with_reducible refine QG_tf ?_) | (with_reducible refine QG_ft ?_) | (with_reducible refine QG_u ?_)
             simp only [Act.put, List.setIfInBounds_toArray, List.set_cons_zero, List.set_cons_succ]))
      refine g_nil ?_
      repeat
        refine p_plain (by with_reducible rfl) ?_
        apply Exists.intro
        refine ⟨?_, ?_⟩
        focus (intro wq; go_simp; with_reducible rfl)
        simp only [Act.put, List.setIfInBounds_toArray, List.set_cons_zero, List.set_cons_succ]
      refine p_nil ?_
      intro g wz hzz hg hO
      have hbz := hC.below _ hzz
      have hgs := size_at hO
      have e0 := cell_at hO 0
      have e1 := cell_at hO 1
      have k0 := frozen_at hO 0
      have k1 := frozen_at hO 1
      simp at e0 e1
      clear hO hC hzz ax' ay'
      have p0 := hbz.cell (p := ⟨w.heap.size, 0, none⟩) (by go_size)
      have p1 := hbz.cell (p := ⟨w.heap.size, 1, none⟩) (by go_size)
      have q0 := hbz.cell (p := ⟨w.heap.size + 1, 0, none⟩) (by go_size)
      have q1 := hbz.cell (p := ⟨w.heap.size + 1, 1, none⟩) (by go_size)
      have r0 := hbz.frozen (p := ⟨w.heap.size, 0, none⟩) (by go_size)
      have r1 := hbz.frozen (p := ⟨w.heap.size, 1, none⟩) (by go_size)
      have s0 := hbz.frozen (p := ⟨w.heap.size + 1, 0, none⟩) (by go_size)
      have s1 := hbz.frozen (p := ⟨w.heap.size + 1, 1, none⟩) (by go_size)
      simp [go_sem, c0, c1, d0, d1, f0, f1, g0, g1] at p0 p1 q0 q1 r0 r1 s0 s1
      have m0 : ¬ g = w.heap.size := by omega
      have m1 : ¬ g = w.heap.size + 1 := by omega
      have m2 : ¬ w.heap.size = g := by omega
      have m3 : ¬ w.heap.size + 1 = g := by omega
      have hgw : w.heap.size ≤ g := by omega
      have hbw : Below w.heap.size w wz := hb.trans (hbz.mono (by omega))
      have hzz : w.heap.size + 1 < wz.heap.size := by omega
      have HP := HP.out
      by_cases he : slotErr x y l' = 0
      · have he' : (slotErr x y l' != 0) = false := by simp [he]
        rw [if_pos he] at HP
        have HP := Lib.hid HP
        go_wp2_with fail
        go_roundw
        case rel =>
          refine ⟨k + 1, slotLevel x y l', slotCr x y l' cr', by omega, by simp, ?_, by go_size, ?_⟩
          · repeat (first | (with_reducible exact hbw) | (with_reducible refine Below.setCell ?_ ?_ _) | go_size)
          · simp [go_sem, *]
            all_goals exact HP.out
        case measure => simp [intOf]; omega
      · have he' : (slotErr x y l' != 0) = true := by simp [he]
        rw [if_neg he] at HP
        have HP := Lib.hid HP
        go_wp2_with fail
        refine bodyPost_ret (v := tripVal (0, false, slotErr x y l')) (by simp [results, Try.results17, tripVal, go_sem, *]) rfl ⟨by rw [HP.out], ?_⟩
        repeat (first | (with_reducible exact hbw) | (with_reducible refine Below.setCell ?_ ?_ _) | go_size)
    · have hke : k = ks.length := by omega
      have hp' : pathGo (ks.zip ss) l cr = (l', cr', 0) := by
        rw [hp, hke, List.drop_length, List.zip_nil_left]; rfl
      have HP := Lib.hid hp'
      clear hp hp'
      subst hke
      have hlt' : decide (ks.length < ks.length) = false := by simp
      go_wp2_with fail
      refine bodyPost_ret (v := tripVal (l', cr', 0)) (by simp [results, Try.results17, tripVal, go_sem, *]) rfl ⟨by rw [HP.out], ?_⟩
      repeat (first | (with_reducible exact hb) | (with_reducible refine Below.setCell ?_ ?_ _) | go_size)

set_option maxHeartbeats 400000 in
theorem ref25_Path_none (x x' : Option Addr) (c c' : Nat) (l : Int) (cr : Bool) (w : World) (h0 : 0 ≤ l) (h3 : l ≤ 3) :
    Calls Try.prog 17 #[.slice x 0 c, .slice x' 0 c', .agg #[.int .i64 l, .bool cr]] w (Gives (tripVal (l, cr, 0)) w) := by
  have hv : (decide (0 ≤ l) && decide (l ≤ 3)) = true := by simp; omega
  go_enter Try.func17, Try.ntmps17
  go_wp2_with fail
  refine (ref25_Valid_calls _ _ _).mono ?_
  rintro e w' ⟨rfl, rfl⟩
  go_wp2_with fail
  refine wp_loop_once ?_
  go_wp2_with fail
  refine bodyPost_ret (v := tripVal (l, cr, 0)) (by simp [results, Try.results17, tripVal, go_sem, *]) rfl ⟨rfl, ?_⟩
  repeat (first | (with_reducible exact bself _) | (with_reducible refine bnew ?_ _) | (with_reducible refine Below.setCell ?_ ?_ _) | go_size)

set_option maxHeartbeats 400000 in
theorem ref25_Path_length (x x' : Option Addr) (n n' : Nat) (c c' : Nat) (l : Int) (cr : Bool) (w : World) (h : n ≠ n') :
    Calls Try.prog 17 #[.slice x n c, .slice x' n' c', .agg #[.int .i64 l, .bool cr]] w (Gives (tripVal (0, false, 1)) w) := by
  have hv : ((n : Int) != (n' : Int)) = true := by simp; omega
  go_enter Try.func17, Try.ntmps17
  go_wp2_with fail
  refine bodyPost_ret (v := tripVal (0, false, 1)) (by simp [results, Try.results17, tripVal, go_sem, *]) rfl ⟨rfl, ?_⟩
  repeat (first | (with_reducible exact bself _) | (with_reducible refine bnew ?_ _) | (with_reducible refine Below.setCell ?_ ?_ _) | go_size)

set_option maxHeartbeats 400000 in
theorem ref25_Path_level (x x' : Option Addr) (n : Nat) (c c' : Nat) (l : Int) (cr : Bool) (w : World) (h : l < 0 ∨ 3 < l) :
    Calls Try.prog 17 #[.slice x n c, .slice x' n c', .agg #[.int .i64 l, .bool cr]] w (Gives (tripVal (0, false, 1)) w) := by
  have hv : (decide (0 ≤ l) && decide (l ≤ 3)) = false := by simp; omega
  go_enter Try.func17, Try.ntmps17
  go_wp2_with fail
  refine (ref25_Valid_calls _ _ _).mono ?_
  rintro e w' ⟨rfl, rfl⟩
  go_wp2_with fail
  refine bodyPost_ret (v := tripVal (0, false, 1)) (by simp [results, Try.results17, tripVal, go_sem, *]) rfl ⟨rfl, ?_⟩
  repeat (first | (with_reducible exact bself _) | (with_reducible refine bnew ?_ _) | (with_reducible refine Below.setCell ?_ ?_ _) | go_size)

/-- A slice of ints: empty, or a row of cells. -/
def IntSl (w : World) (x : Option Addr) (ns : List Int) : Prop :=
  ns = [] ∨ ∃ b o, x = some ⟨b, o, none⟩ ∧ ∀ i n, ns[i]? = some n → w.cell? ⟨b, o + i, none⟩ = some (.int .i64 n)

/-- What Path answers. -/
def pathOf (ks ss : List Int) (l : Int) (c : Bool) : Int × Bool × Int :=
  if ks.length ≠ ss.length ∨ l < 0 ∨ 3 < l then (0, false, 1) else pathGo (ks.zip ss) l c

theorem IntSl.below {w w' : World} {x : Option Addr} {ns : List Int} (h : IntSl w x ns) (hb : Below w.heap.size w w') : IntSl w' x ns := by
  rcases h with h | ⟨b, o, rfl, h⟩
  · exact .inl h
  · exact .inr ⟨b, o, rfl, fun i n hi => (hb.cell (World.block_lt_of_cell? w _ (h i n hi))).trans (h i n hi)⟩

theorem ref25_Path_calls (x x' : Option Addr) (c c' : Nat) (ks ss : List Int) (l : Int) (cr : Bool) (w : World) (hn : ks.length ≤ 1000000) (hk : IntSl w x ks) (hs : IntSl w x' ss) :
    Calls Try.prog 17 #[.slice x ks.length c, .slice x' ss.length c', .agg #[.int .i64 l, .bool cr]] w (Gives (tripVal (pathOf ks ss l cr)) w) := by
  unfold pathOf
  by_cases hl : ks.length ≠ ss.length
  · rw [if_pos (.inl hl)]; exact ref25_Path_length _ _ _ _ _ _ _ _ _ hl
  · have hl' : ss.length = ks.length := by omega
    by_cases hv : l < 0 ∨ 3 < l
    · rw [if_pos (.inr hv), hl']; exact ref25_Path_level _ _ _ _ _ _ _ _ hv
    · rw [if_neg (by rintro (h | h); exact hl h; exact hv h), hl']
      have h0 : 0 ≤ l := by omega
      have h3 : l ≤ 3 := by omega
      rcases hk with rfl | ⟨b, o, rfl, hk⟩
      · exact ref25_Path_none x x' c c' l cr w h0 h3
      · rcases hs with rfl | ⟨b', o', rfl, hs⟩
        · have : ks = [] := by rw [← List.length_eq_zero_iff]; simpa using hl'.symm
          subst this
          exact ref25_Path_none _ x' c c' l cr w h0 h3
        · exact ref25_Path_full b o c b' o' c' ks ss l cr w hn hl' h0 h3 hk hs

end Go.Proofs.Ytillohdeljlchaa
