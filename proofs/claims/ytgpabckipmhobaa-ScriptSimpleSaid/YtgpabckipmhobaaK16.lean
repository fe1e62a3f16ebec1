/- Texts Slot, Ext, Sfp, Mea, Avo, Avl, Frk. -/
import Derived.Test.YtgpabckipmhobaaK15
import Derived.Test.YtgpabckipmhobaaK00
import Derived.Test.YtgpabckipmhobaaK06
import Derived.Test.YtgpabckipmhobaaK13
import Derived.Test.YtgpabckipmhobaaK14
import Derived.Test.YtgpabckipmhobaaK04
namespace Go.Proofs.Ytgpabckipmhobaa
open Go.RowKit

theorem style_rules_calls_8 (w : World) : Calls Try.prog 77 #[] w fun e w' => e = .returned (rulesVal w.heap.size) ∧ Below w.heap.size w w' ∧ w'.cell? ⟨w.heap.size + 1 + 1 + 1 + 1, 0, none⟩ = some (.func (.func 82) #[] #[]) ∧ w'.cell? ⟨w.heap.size + 1 + 1 + 1 + 1, 1, none⟩ = some (.bool false) ∧ w'.cell? ⟨w.heap.size + 1 + 1 + 1 + 1, 2, none⟩ = some (.func (.func 83) #[] #[]) ∧ w'.cell? ⟨w.heap.size + 1 + 1 + 1 + 1, 3, none⟩ = some (.bool false) :=
  (style_rules_calls w).mono fun _ _ ⟨he, hw⟩ => hw ▸ ⟨he, rulesWorld_below w, rulesWorld_8 w⟩

set_option maxHeartbeats 1000000 in
theorem slot_8_1_true (l : Int) (w : World) (h0 : 0 ≤ l) (h3 : l ≤ 3) :
    Calls Try.prog 71 #[.int .i64 8, .int .i64 1, .agg #[.int .i64 l, .bool true]] w (Gives (.tuple #[.agg #[.int .i64 (2 + l / 2), .bool true], .int .i64 0]) w) := by
  have hv : (decide (0 ≤ l) && decide (l ≤ 3)) = true := by simp; omega
  go_enter Try.func71, Try.ntmps71
  go_wp2_with fail
  refine (style_Valid_calls _ _ _).mono ?_
  rintro e w' ⟨rfl, rfl⟩
  go_wp2_with fail
  refine (style_rules_calls_8 _).mono ?_
  rintro e w1 ⟨rfl, hb, c0, c1, c2, c3⟩
  simp only [World.size_alloc] at hb c0 c1 c2 c3
  have d0 := hb.cell (p := ⟨w.heap.size, 0, none⟩) (by simp; omega)
  have d1 := hb.cell (p := ⟨w.heap.size, 1, none⟩) (by simp; omega)
  have d2 := hb.cell (p := ⟨w.heap.size + 1, 0, none⟩) (by simp)
  have d3 := hb.cell (p := ⟨w.heap.size + 1, 1, none⟩) (by simp)
  have f2 := hb.frozen (p := ⟨w.heap.size + 1, 0, none⟩) (by simp)
  have f3 := hb.frozen (p := ⟨w.heap.size + 1, 1, none⟩) (by simp)
  simp [go_sem] at d0 d1 d2 d3 f2 f3
  have hz : w.heap.size + 1 + 1 + 1 ≤ w1.heap.size := by simpa using hb.size
  have hbb : Below w.heap.size w w1 := ((((Below.refl _ _).alloc (Nat.le_refl _) _).alloc (by go_size) _).alloc (by go_size) _).trans (hb.mono (by go_size))
  have hz0 : w.heap.size < w1.heap.size := by omega
  have hz1 : w.heap.size + 1 < w1.heap.size := by omega
  have i5 := rules_index_8
  go_wp2_with fail
  refine wp_region_steady (fun w' => ∃ n, w' = World.drewN _ n) 12 (by kernel_rfl) (by kernel_rfl) ⟨1, rfl⟩ ?_
  simp only [List.take_succ_cons, List.take_zero, List.drop_succ_cons, List.drop_zero]
  repeat (quiet_step ((go_at_call 83; exact Calls.quiet_of_same ((style_script_calls _ _ h0 h3).mono fun _ _ ⟨he, hw⟩ => ⟨he, hw.symm⟩))))
  refine wpQuiet_nil ?_
  intro _ hw'
  obtain ⟨nq, hw''⟩ := hw'
  subst hw''
  go_wp2
  refine bodyPost_ret (v := .tuple #[.agg #[.int .i64 (2 + l / 2), .bool true], .int .i64 0]) (by simp [results, Try.results71, go_sem, *]) rfl ⟨rfl, ?_⟩
  refine Below.setCell (Below.setCell (Go.below_drewN (Below.alloc hbb ?_ _) _) ?_ _) ?_ _ <;> go_size

set_option maxHeartbeats 1000000 in
theorem slot_8_1_false (l : Int) (w : World) (h0 : 0 ≤ l) (h3 : l ≤ 3) :
    Calls Try.prog 71 #[.int .i64 8, .int .i64 1, .agg #[.int .i64 l, .bool false]] w (Gives (.tuple #[.agg #[.int .i64 (2 + l / 2), .bool false], .int .i64 0]) w) := by
  have hv : (decide (0 ≤ l) && decide (l ≤ 3)) = true := by simp; omega
  go_enter Try.func71, Try.ntmps71
  go_wp2_with fail
  refine (style_Valid_calls _ _ _).mono ?_
  rintro e w' ⟨rfl, rfl⟩
  go_wp2_with fail
  refine (style_rules_calls_8 _).mono ?_
  rintro e w1 ⟨rfl, hb, c0, c1, c2, c3⟩
  simp only [World.size_alloc] at hb c0 c1 c2 c3
  have d0 := hb.cell (p := ⟨w.heap.size, 0, none⟩) (by simp; omega)
  have d1 := hb.cell (p := ⟨w.heap.size, 1, none⟩) (by simp; omega)
  have d2 := hb.cell (p := ⟨w.heap.size + 1, 0, none⟩) (by simp)
  have d3 := hb.cell (p := ⟨w.heap.size + 1, 1, none⟩) (by simp)
  have f2 := hb.frozen (p := ⟨w.heap.size + 1, 0, none⟩) (by simp)
  have f3 := hb.frozen (p := ⟨w.heap.size + 1, 1, none⟩) (by simp)
  simp [go_sem] at d0 d1 d2 d3 f2 f3
  have hz : w.heap.size + 1 + 1 + 1 ≤ w1.heap.size := by simpa using hb.size
  have hbb : Below w.heap.size w w1 := ((((Below.refl _ _).alloc (Nat.le_refl _) _).alloc (by go_size) _).alloc (by go_size) _).trans (hb.mono (by go_size))
  have hz0 : w.heap.size < w1.heap.size := by omega
  have hz1 : w.heap.size + 1 < w1.heap.size := by omega
  have i5 := rules_index_8
  go_wp2_with fail
  refine wp_region_steady (fun w' => ∃ n, w' = World.drewN _ n) 12 (by kernel_rfl) (by kernel_rfl) ⟨1, rfl⟩ ?_
  simp only [List.take_succ_cons, List.take_zero, List.drop_succ_cons, List.drop_zero]
  repeat (quiet_step ((go_at_call 83; exact Calls.quiet_of_same ((style_script_calls _ _ h0 h3).mono fun _ _ ⟨he, hw⟩ => ⟨he, hw.symm⟩))))
  refine wpQuiet_nil ?_
  intro _ hw'
  obtain ⟨nq, hw''⟩ := hw'
  subst hw''
  go_wp2
  refine bodyPost_ret (v := .tuple #[.agg #[.int .i64 (2 + l / 2), .bool false], .int .i64 0]) (by simp [results, Try.results71, go_sem, *]) rfl ⟨rfl, ?_⟩
  refine Below.setCell (Below.setCell (Go.below_drewN (Below.alloc hbb ?_ _) _) ?_ _) ?_ _ <;> go_size

end Go.Proofs.Ytgpabckipmhobaa
namespace Go.Proofs.Ytgpabckipmhobaa
open Go.RowKit

attribute [local irreducible] wpQuiet wpG wpP wpK wpList Code.wp Calls

/-- An extent: left, right, height, depth. -/
structure E4 where
  l : Int
  r : Int
  h : Int
  d : Int
def ext1 (a : Hd) : E4 := ⟨a.x, a.x + a.w, a.y + a.h, a.d - a.y⟩
def extStep (e : E4) (a : Hd) : E4 := ⟨min e.l a.x, max e.r (a.x + a.w), max e.h (a.y + a.h), max e.d (a.d - a.y)⟩
/-- The extent of some boxes. -/
def extL : List Hd → E4
  | [] => ⟨0, 0, 0, 0⟩
  | a :: l => l.foldl extStep (ext1 a)
theorem extL_next {l : List Hd} {a : Hd} (h : l ≠ []) : extL (l ++ [a]) = extStep (extL l) a := by
  cases l with
  | nil => exact absurd rfl h
  | cons b l => simp [extL, List.foldl_append]
/-- The lengths of a box are not great. -/
def Mild (a : Hd) : Prop := (-4294967296 ≤ a.x ∧ a.x ≤ 4294967296) ∧ (-4294967296 ≤ a.y ∧ a.y ≤ 4294967296) ∧ (-4294967296 ≤ a.w ∧ a.w ≤ 4294967296) ∧ (-4294967296 ≤ a.h ∧ a.h ≤ 4294967296) ∧ (-4294967296 ≤ a.d ∧ a.d ≤ 4294967296)

set_option maxHeartbeats 16000000 in
set_option maxRecDepth 100000 in
theorem box_Extent_calls (n : Nat) (kids : List (Bx (n + 1))) (x : Option Addr) (c : Nat) (w : World) (hk : RepL w (n + 1) x kids) (hm : ∀ k ∈ kids, Mild k.1) (hl : kids.length ≤ 1000000) :
    Calls Try.prog 48 #[.slice x kids.length c] w (Gives (.tuple #[.int .i64 (extL (kids.map (·.1))).l, .int .i64 (extL (kids.map (·.1))).r, .int .i64 (extL (kids.map (·.1))).h, .int .i64 (extL (kids.map (·.1))).d]) w) := by
  have HK := Lib.hid hk
  have HM := Lib.hid hm
  clear hk hm
  go_enter Try.func48, Try.ntmps48
  have hS := own_start w
  go_wp2_with (first | (refine own_unguard (by rfl) ?_) | (refine w_ld rfl _ rfl (by rfl) (by first | exact rd_1 (by repeat constructor) (by first | rfl | assumption) | exact rd_w (by repeat constructor) (by rfl) | exact rd_o (by assumption) (by rfl) (by first | exact nmn | assumption | simp) | exact rd_h (by assumption) (by rfl) (by first | exact nmn | assumption | simp) | exact rd_1o (by assumption) (by first | exact nmn | assumption | simp) | exact rd_1h (by assumption) (by first | rfl | assumption) (by first | exact nmn | assumption | simp)) hS ?_) | (refine own_box rfl _ _ rfl (by rfl) hS ?_; clear hS; (try clear ww); intro bb ww hS) | (refine w_al rfl rfl hS ?_; clear hS; (try clear ww); intro bb ww hS) | (refine w_st rfl _ _ rfl (by rfl) (by rfl) (by repeat constructor) (by rfl) (by rfl) (by first | rfl | assumption) hS ?_; clear hS; (try clear ww); intro ww hS) | (refine w_s1 rfl _ _ rfl (by rfl) (by repeat constructor) (by first | exact .c | exact .t rfl) (by rfl) (by repeat constructor) hS ?_; clear hS; (try clear ww); intro ww hS))
  go_loopw [2, 3, 4, 5, 10] (fun v2 v3 v4 v5 i wr => ∃ (k : Nat) (e : E4), k ≤ kids.length ∧ i = .int .i64 k ∧ v2 = .int .i64 e.l ∧ v3 = .int .i64 e.r ∧ v4 = .int .i64 e.h ∧ v5 = .int .i64 e.d ∧ e = extL ((kids.take k).map (·.1)) ∧ Own [] w [] wr) (fun _ _ _ _ i _ => kids.length - (intOf i).toNat)
  case atStart => exact ⟨0, ⟨0, 0, 0, 0⟩, Nat.zero_le _, rfl, rfl, rfl, rfl, rfl, rfl, hS⟩
  case round =>
    clear hS
    obtain ⟨k, ⟨e2, e3, e4, e5⟩, hkl, rfl, rfl, rfl, rfl, rfl, he, hS⟩ := hrel
    have HE := Lib.hid he
    clear he
    by_cases hlt : k < kids.length
    · obtain ⟨kid, hkid⟩ : ∃ q, kids[k]? = some q := ⟨kids[k], by simp [hlt]⟩
      obtain ⟨kb, ko, css, rfl, hr, hp⟩ := HK.out k kid hkid
      have hmd := HM.out kid (List.mem_of_getElem? hkid)
      have htk : kids.take (k + 1) = kids.take k ++ [kid] := by rw [List.take_add_one, hkid]; rfl
      obtain ⟨⟨kk, kn, kz, kw, kh, kd, kxx, kyy, kof, ksrc⟩, kks⟩ := kid
      obtain ⟨_, _, _, _, rfl, _⟩ := rep_out hp
      unfold Mild at hmd
      simp only at hmd
      have i1 : IntKind.i64.wrap (kxx + kw) = kxx + kw := IntWalk.i64_in _ (by omega)
      have i2 : IntKind.i64.wrap (kyy + kh) = kyy + kh := IntWalk.i64_in _ (by omega)
      have i3 : IntKind.i64.wrap (kd - kyy) = kd - kyy := IntWalk.i64_in _ (by omega)
      have HT := Lib.hid htk
      clear hp hmd hkid htk
      cases k with
      | zero =>
        have HN := Lib.hid (show extL ((kids.take (0 + 1)).map (·.1)) = ⟨kxx, kxx + kw, kyy + kh, kd - kyy⟩ by rw [HT.out]; rfl)
        go_upto_region 5 with (first | (refine own_unguard (by rfl) ?_) | (refine w_ld rfl _ rfl (by rfl) (by first | exact rd_1 (by repeat constructor) (by first | rfl | assumption) | exact rd_w (by repeat constructor) (by rfl) | exact rd_o (by assumption) (by rfl) (by first | exact nmn | assumption | simp) | exact rd_h (by assumption) (by rfl) (by first | exact nmn | assumption | simp) | exact rd_1o (by assumption) (by first | exact nmn | assumption | simp) | exact rd_1h (by assumption) (by first | rfl | assumption) (by first | exact nmn | assumption | simp)) hS ?_) | (refine own_box rfl _ _ rfl (by rfl) hS ?_; clear hS; (try clear ww); intro bb ww hS) | (refine w_al rfl rfl hS ?_; clear hS; (try clear ww); intro bb ww hS) | (refine w_st rfl _ _ rfl (by rfl) (by rfl) (by repeat constructor) (by rfl) (by rfl) (by first | rfl | assumption) hS ?_; clear hS; (try clear ww); intro ww hS) | (refine w_s1 rfl _ _ rfl (by rfl) (by repeat constructor) (by first | exact .c | exact .t rfl) (by rfl) (by repeat constructor) hS ?_; clear hS; (try clear ww); intro ww hS))
        (try simp only [Act.put]); (try simp only [List.setIfInBounds_toArray]); (try simp only [List.set_cons_succ]); (try simp only [List.set_cons_zero])
        refine own_region hS (by kernel_rfl) (by kernel_rfl) ?_
        (try simp only [List.append])
        (try simp only); (try simp only [List.drop_succ_cons]); (try simp only [List.drop_zero]); (try simp only [List.take_succ_cons]); (try simp only [List.take_zero])
        repeat (first
            | (first | (refine quiet_plain rfl ?_) | (refine quiet_yes rfl rfl rfl (by simp only [List.getElem?_toArray, List.getElem?_cons_succ, List.getElem?_cons_zero]; rfl) (by with_reducible constructor) ?_)
               apply Exists.intro; refine ⟨?_, ?_⟩
               focus (intro wq hq0; have hq : Own _ _ _ wq := hq0; first | (exact quietAt_rd rfl (by rfl) (by first | exact rd_1 (by repeat constructor) (by first | rfl | assumption) | exact rd_w (by repeat constructor) (by rfl) | exact rd_o (by assumption) (by rfl) (by first | exact nmn | assumption | simp) | exact rd_h (by assumption) (by rfl) (by first | exact nmn | assumption | simp) | exact rd_1o (by assumption) (by first | exact nmn | assumption | simp) | exact rd_1h (by assumption) (by first | rfl | assumption) (by first | exact nmn | assumption | simp)) hq) | (go_simp; first | (with_reducible rfl)))
               simp only [Act.put, List.setIfInBounds_toArray, List.set_cons_zero, List.set_cons_succ])
            | (refine quiet_no rfl rfl rfl (by simp only [List.getElem?_toArray, List.getElem?_cons_succ, List.getElem?_cons_zero]; rfl) (by with_reducible constructor) ?_; simp only [Act.put, List.setIfInBounds_toArray, List.set_cons_zero, List.set_cons_succ]))
        refine wpQuiet_nil ?_
        clear hS
        intro ww hS
        go_wp2_with (first | (refine own_unguard (by rfl) ?_) | (refine w_ld rfl _ rfl (by rfl) (by first | exact rd_1 (by repeat constructor) (by first | rfl | assumption) | exact rd_w (by repeat constructor) (by rfl) | exact rd_o (by assumption) (by rfl) (by first | exact nmn | assumption | simp) | exact rd_h (by assumption) (by rfl) (by first | exact nmn | assumption | simp) | exact rd_1o (by assumption) (by first | exact nmn | assumption | simp) | exact rd_1h (by assumption) (by first | rfl | assumption) (by first | exact nmn | assumption | simp)) hS ?_) | (refine own_box rfl _ _ rfl (by rfl) hS ?_; clear hS; (try clear ww); intro bb ww hS) | (refine w_al rfl rfl hS ?_; clear hS; (try clear ww); intro bb ww hS) | (refine w_st rfl _ _ rfl (by rfl) (by rfl) (by repeat constructor) (by rfl) (by rfl) (by first | rfl | assumption) hS ?_; clear hS; (try clear ww); intro ww hS) | (refine w_s1 rfl _ _ rfl (by rfl) (by repeat constructor) (by first | exact .c | exact .t rfl) (by rfl) (by repeat constructor) hS ?_; clear hS; (try clear ww); intro ww hS))
        go_roundw
        case rel => exact ⟨0 + 1, _, hlt, by go_num, rfl, rfl, rfl, rfl, HN.out.symm, hS.forget (List.nil_sublist _)⟩
        case measure => exact loop_meas hlt
      | succ k =>
        have HN := Lib.hid (show extL ((kids.take (k + 1 + 1)).map (·.1)) = ⟨min e2 kxx, max e3 (kxx + kw), max e4 (kyy + kh), max e5 (kd - kyy)⟩ by
          rw [HT.out, List.map_append, List.map_cons, List.map_nil, extL_next (fun h => by simp at h; rw [h] at hlt; simp at hlt), ← HE.out]
          rfl)
        have m2 : ∀ (w : World) (ts : Array TypeId) (t : TypeId), (Builtin.min_ ts t #[.int .i64 e2, .int .i64 kxx]).run Try.prog w = .ok (.int .i64 (min e2 kxx)) w := fun w ts t => by rw [run_min_int2]; congr 2; split <;> omega
        have m3 : ∀ (w : World) (ts : Array TypeId) (t : TypeId), (Builtin.max_ ts t #[.int .i64 e3, .int .i64 (kxx + kw)]).run Try.prog w = .ok (.int .i64 (max e3 (kxx + kw))) w := fun w ts t => by rw [run_max_int2]; congr 2; split <;> omega
        have m4 : ∀ (w : World) (ts : Array TypeId) (t : TypeId), (Builtin.max_ ts t #[.int .i64 e4, .int .i64 (kyy + kh)]).run Try.prog w = .ok (.int .i64 (max e4 (kyy + kh))) w := fun w ts t => by rw [run_max_int2]; congr 2; split <;> omega
        have m5 : ∀ (w : World) (ts : Array TypeId) (t : TypeId), (Builtin.max_ ts t #[.int .i64 e5, .int .i64 (kd - kyy)]).run Try.prog w = .ok (.int .i64 (max e5 (kd - kyy))) w := fun w ts t => by rw [run_max_int2]; congr 2; split <;> omega
        have z0 : (((k + 1 : Nat) : Int) == 0) = false := by simp; omega
        go_upto_region 6 with (first | (refine own_unguard (by rfl) ?_) | (refine w_ld rfl _ rfl (by rfl) (by first | exact rd_1 (by repeat constructor) (by first | rfl | assumption) | exact rd_w (by repeat constructor) (by rfl) | exact rd_o (by assumption) (by rfl) (by first | exact nmn | assumption | simp) | exact rd_h (by assumption) (by rfl) (by first | exact nmn | assumption | simp) | exact rd_1o (by assumption) (by first | exact nmn | assumption | simp) | exact rd_1h (by assumption) (by first | rfl | assumption) (by first | exact nmn | assumption | simp)) hS ?_) | (refine own_box rfl _ _ rfl (by rfl) hS ?_; clear hS; (try clear ww); intro bb ww hS) | (refine w_al rfl rfl hS ?_; clear hS; (try clear ww); intro bb ww hS) | (refine w_st rfl _ _ rfl (by rfl) (by rfl) (by repeat constructor) (by rfl) (by rfl) (by first | rfl | assumption) hS ?_; clear hS; (try clear ww); intro ww hS) | (refine w_s1 rfl _ _ rfl (by rfl) (by repeat constructor) (by first | exact .c | exact .t rfl) (by rfl) (by repeat constructor) hS ?_; clear hS; (try clear ww); intro ww hS))
        (try simp only [Act.put]); (try simp only [List.setIfInBounds_toArray]); (try simp only [List.set_cons_succ]); (try simp only [List.set_cons_zero])
        refine own_region hS (by kernel_rfl) (by kernel_rfl) ?_
        (try simp only [List.append])
        (try simp only); (try simp only [List.drop_succ_cons]); (try simp only [List.drop_zero]); (try simp only [List.take_succ_cons]); (try simp only [List.take_zero])
        repeat (first
            | (first | (refine quiet_plain rfl ?_) | (refine quiet_yes rfl rfl rfl (by simp only [List.getElem?_toArray, List.getElem?_cons_succ, List.getElem?_cons_zero]; rfl) (by with_reducible constructor) ?_)
               apply Exists.intro; refine ⟨?_, ?_⟩
               focus (intro wq hq0; have hq : Own _ _ _ wq := hq0; first | (exact quietAt_rd rfl (by rfl) (by first | exact rd_1 (by repeat constructor) (by first | rfl | assumption) | exact rd_w (by repeat constructor) (by rfl) | exact rd_o (by assumption) (by rfl) (by first | exact nmn | assumption | simp) | exact rd_h (by assumption) (by rfl) (by first | exact nmn | assumption | simp) | exact rd_1o (by assumption) (by first | exact nmn | assumption | simp) | exact rd_1h (by assumption) (by first | rfl | assumption) (by first | exact nmn | assumption | simp)) hq) | (go_simp; first | (with_reducible rfl)))
               simp only [Act.put, List.setIfInBounds_toArray, List.set_cons_zero, List.set_cons_succ])
            | (refine quiet_no rfl rfl rfl (by simp only [List.getElem?_toArray, List.getElem?_cons_succ, List.getElem?_cons_zero]; rfl) (by with_reducible constructor) ?_; simp only [Act.put, List.setIfInBounds_toArray, List.set_cons_zero, List.set_cons_succ]))
        refine wpQuiet_nil ?_
        clear hS
        intro ww hS
        go_upto_region 7 with (first | (refine own_unguard (by rfl) ?_) | (refine w_ld rfl _ rfl (by rfl) (by first | exact rd_1 (by repeat constructor) (by first | rfl | assumption) | exact rd_w (by repeat constructor) (by rfl) | exact rd_o (by assumption) (by rfl) (by first | exact nmn | assumption | simp) | exact rd_h (by assumption) (by rfl) (by first | exact nmn | assumption | simp) | exact rd_1o (by assumption) (by first | exact nmn | assumption | simp) | exact rd_1h (by assumption) (by first | rfl | assumption) (by first | exact nmn | assumption | simp)) hS ?_) | (refine own_box rfl _ _ rfl (by rfl) hS ?_; clear hS; (try clear ww); intro bb ww hS) | (refine w_al rfl rfl hS ?_; clear hS; (try clear ww); intro bb ww hS) | (refine w_st rfl _ _ rfl (by rfl) (by rfl) (by repeat constructor) (by rfl) (by rfl) (by first | rfl | assumption) hS ?_; clear hS; (try clear ww); intro ww hS) | (refine w_s1 rfl _ _ rfl (by rfl) (by repeat constructor) (by first | exact .c | exact .t rfl) (by rfl) (by repeat constructor) hS ?_; clear hS; (try clear ww); intro ww hS))
        (try simp only [Act.put]); (try simp only [List.setIfInBounds_toArray]); (try simp only [List.set_cons_succ]); (try simp only [List.set_cons_zero])
        refine own_region hS (by kernel_rfl) (by kernel_rfl) ?_
        (try simp only [List.append])
        (try simp only); (try simp only [List.drop_succ_cons]); (try simp only [List.drop_zero]); (try simp only [List.take_succ_cons]); (try simp only [List.take_zero])
        repeat (first
            | (first | (refine quiet_plain rfl ?_) | (refine quiet_yes rfl rfl rfl (by simp only [List.getElem?_toArray, List.getElem?_cons_succ, List.getElem?_cons_zero]; rfl) (by with_reducible constructor) ?_)
               apply Exists.intro; refine ⟨?_, ?_⟩
               focus (intro wq hq0; have hq : Own _ _ _ wq := hq0; first | (exact quietAt_rd rfl (by rfl) (by first | exact rd_1 (by repeat constructor) (by first | rfl | assumption) | exact rd_w (by repeat constructor) (by rfl) | exact rd_o (by assumption) (by rfl) (by first | exact nmn | assumption | simp) | exact rd_h (by assumption) (by rfl) (by first | exact nmn | assumption | simp) | exact rd_1o (by assumption) (by first | exact nmn | assumption | simp) | exact rd_1h (by assumption) (by first | rfl | assumption) (by first | exact nmn | assumption | simp)) hq) | (go_simp; first | (with_reducible rfl)))
               simp only [Act.put, List.setIfInBounds_toArray, List.set_cons_zero, List.set_cons_succ])
            | (refine quiet_no rfl rfl rfl (by simp only [List.getElem?_toArray, List.getElem?_cons_succ, List.getElem?_cons_zero]; rfl) (by with_reducible constructor) ?_; simp only [Act.put, List.setIfInBounds_toArray, List.set_cons_zero, List.set_cons_succ]))
        refine wpQuiet_nil ?_
        clear hS
        intro ww hS
        go_wp2_with (first | (refine own_unguard (by rfl) ?_) | (refine w_ld rfl _ rfl (by rfl) (by first | exact rd_1 (by repeat constructor) (by first | rfl | assumption) | exact rd_w (by repeat constructor) (by rfl) | exact rd_o (by assumption) (by rfl) (by first | exact nmn | assumption | simp) | exact rd_h (by assumption) (by rfl) (by first | exact nmn | assumption | simp) | exact rd_1o (by assumption) (by first | exact nmn | assumption | simp) | exact rd_1h (by assumption) (by first | rfl | assumption) (by first | exact nmn | assumption | simp)) hS ?_) | (refine own_box rfl _ _ rfl (by rfl) hS ?_; clear hS; (try clear ww); intro bb ww hS) | (refine w_al rfl rfl hS ?_; clear hS; (try clear ww); intro bb ww hS) | (refine w_st rfl _ _ rfl (by rfl) (by rfl) (by repeat constructor) (by rfl) (by rfl) (by first | rfl | assumption) hS ?_; clear hS; (try clear ww); intro ww hS) | (refine w_s1 rfl _ _ rfl (by rfl) (by repeat constructor) (by first | exact .c | exact .t rfl) (by rfl) (by repeat constructor) hS ?_; clear hS; (try clear ww); intro ww hS))
        go_roundw
        case rel => exact ⟨k + 1 + 1, _, hlt, by go_num, rfl, rfl, rfl, rfl, HN.out.symm, hS.forget (List.nil_sublist _)⟩
        case measure => exact loop_meas hlt
    · obtain rfl : k = kids.length := by omega
      have HN := Lib.hid (show extL (kids.map (·.1)) = ⟨e2, e3, e4, e5⟩ by rw [HE.out, List.take_length])
      go_wp2_with (first | (refine own_unguard (by rfl) ?_) | (refine w_ld rfl _ rfl (by rfl) (by first | exact rd_1 (by repeat constructor) (by first | rfl | assumption) | exact rd_w (by repeat constructor) (by rfl) | exact rd_o (by assumption) (by rfl) (by first | exact nmn | assumption | simp) | exact rd_h (by assumption) (by rfl) (by first | exact nmn | assumption | simp) | exact rd_1o (by assumption) (by first | exact nmn | assumption | simp) | exact rd_1h (by assumption) (by first | rfl | assumption) (by first | exact nmn | assumption | simp)) hS ?_) | (refine own_box rfl _ _ rfl (by rfl) hS ?_; clear hS; (try clear ww); intro bb ww hS) | (refine w_al rfl rfl hS ?_; clear hS; (try clear ww); intro bb ww hS) | (refine w_st rfl _ _ rfl (by rfl) (by rfl) (by repeat constructor) (by rfl) (by rfl) (by first | rfl | assumption) hS ?_; clear hS; (try clear ww); intro ww hS) | (refine w_s1 rfl _ _ rfl (by rfl) (by repeat constructor) (by first | exact .c | exact .t rfl) (by rfl) (by repeat constructor) hS ?_; clear hS; (try clear ww); intro ww hS))
      refine bodyPost_ret (v := .tuple #[.int .i64 e2, .int .i64 e3, .int .i64 e4, .int .i64 e5]) (by simp [results, Try.results48, go_sem]) rfl ⟨by rw [HN.out], hS.below⟩

end Go.Proofs.Ytgpabckipmhobaa
namespace Go.Proofs.Ytgpabckipmhobaa
open Go.RowKit

/-- A parameter, scaled to the size of a superscript. -/
def shQ (F : Fnt) (l n : Int) : Int := scl n (sizeOf' F (2 + l / 2))
def shU0 (F : Fnt) (l : Int) (s : Bool) (h : Int) : Int := if s = true then 0 else h - shQ F l F.supdrop
def shV0 (F : Fnt) (l : Int) (s : Bool) (d : Int) : Int := if s = true then 0 else d + shQ F l F.subdrop
def shX (F : Fnt) (l p : Int) : Int := scl (par F l F.xheight) p
def shUp (F : Fnt) (l : Int) (c : Bool) (u ud : Int) : Int := max (max u (par F l (raiseP F l c))) (ud + shX F l 25)
def shLow (F : Fnt) (l v sh : Int) : Int := max (max v (par F l F.sub1)) (sh - shX F l 80)
/-- Both: how the gap is kept; m: 80% of the height of small letters, r4: the least gap. -/
def shGap (u v ud sh m r4 : Int) : Int × Int :=
  if (u - ud) - (sh - v) < r4 then (if 0 < m - (u - ud) then (u + (m - (u - ud)), v + (r4 - ((u - ud) - (sh - v))) - (m - (u - ud))) else (u, v + (r4 - ((u - ud) - (sh - v))))) else (u, v)
def shiftP (F : Fnt) (l : Int) (c s : Bool) (b : Hd) (subs sups : List Hd) : Int × Int :=
  match subs, sups with
  | [], [] => (shU0 F l s b.h, shV0 F l s b.d)
  | [], a :: _ => (shUp F l c (shU0 F l s b.h) a.d, shV0 F l s b.d)
  | e :: _, [] => (shU0 F l s b.h, shLow F l (shV0 F l s b.d) e.h)
  | e :: _, a :: _ => shGap (shUp F l c (shU0 F l s b.h) a.d) (max (shV0 F l s b.d) (par F l F.sub2)) a.d e.h (shX F l 80) (4 * par F l F.rule)

theorem scl_in {n p : Int} (h0 : 0 ≤ n) (h1 : n ≤ 20000) (hp : 0 ≤ p ∧ p ≤ 100) : 0 ≤ scl n p ∧ scl n p ≤ n := by
  rw [scl_ok (by omega) hp.1 (by omega)]
  have hm : 0 ≤ n * p := Int.mul_nonneg h0 hp.1
  have hk : n * p ≤ n * 100 := Int.mul_le_mul_of_nonneg_left hp.2 h0
  unfold rdiv
  rw [if_pos hm]
  omega
/-- The parameters of a valid font that scripts use. -/
theorem prm_scr {F : Fnt} (h : ValidF F) : (0 ≤ F.xheight ∧ F.xheight ≤ 20000) ∧ (0 ≤ F.rule ∧ F.rule ≤ 20000) ∧ (0 ≤ F.sup1 ∧ F.sup1 ≤ 20000) ∧ (0 ≤ F.sup2 ∧ F.sup2 ≤ 20000) ∧ (0 ≤ F.sup3 ∧ F.sup3 ≤ 20000) ∧ (0 ≤ F.sub1 ∧ F.sub1 ≤ 20000) ∧ (0 ≤ F.sub2 ∧ F.sub2 ≤ 20000) ∧ (0 ≤ F.supdrop ∧ F.supdrop ≤ 20000) ∧ (0 ≤ F.subdrop ∧ F.subdrop ≤ 20000) := by
  have := h.2.2.1
  simp [prmOk, allIn] at this
  omega
/-- Cells of a font. -/
theorem fnt_cells {w : World} {k : Nat} {F : Fnt} (h : w.rangeAt k 0 F.cells) : w.rangeAt k 2 F.prm ∧ w.cell? ⟨k, 3, none⟩ = some (.int .i64 F.xheight) ∧ w.cell? ⟨k, 5, none⟩ = some (.int .i64 F.rule) ∧ w.cell? ⟨k, 13, none⟩ = some (.int .i64 F.sub1) ∧ w.cell? ⟨k, 14, none⟩ = some (.int .i64 F.sub2) ∧ w.cell? ⟨k, 15, none⟩ = some (.int .i64 F.supdrop) ∧ w.cell? ⟨k, 16, none⟩ = some (.int .i64 F.subdrop) := by
  refine ⟨fun j v hj => ?_, h 3 _ rfl, h 5 _ rfl, h 13 _ rfl, h 14 _ rfl, h 15 _ rfl, h 16 _ rfl⟩
  have := h (2 + j) v (by rw [Nat.add_comm]; exact hj)
  rwa [Nat.zero_add] at this
theorem box_cells0 {w : World} {k : Nat} {c0 c1 c2 c3 c6 c7 c8 c9 c10 : Value} {h d : Int} (hr : w.rangeAt k 0 [c0, c1, c2, c3, .int .i64 h, .int .i64 d, c6, c7, c8, c9, c10]) : w.cell? ⟨k, 4, none⟩ = some (.int .i64 h) ∧ w.cell? ⟨k, 5, none⟩ = some (.int .i64 d) := ⟨hr 4 _ rfl, hr 5 _ rfl⟩
theorem run_max3 {P : Program} (a b c : Int) (w : World) (ts : Array TypeId) (t : TypeId) : (Builtin.max_ ts t #[.int .i64 a, .int .i64 b, .int .i64 c]).run P w = .ok (.int .i64 (max (max a b) c)) w := by
  rw [run_max_int3]
  have e : (if c > (if b > a then b else a) then c else (if b > a then b else a)) = max (max a b) c := by
    repeat' split
    all_goals omega
  rw [e]
theorem run_max2 {P : Program} (a b : Int) (w : World) (ts : Array TypeId) (t : TypeId) : (Builtin.max_ ts t #[.int .i64 a, .int .i64 b]).run P w = .ok (.int .i64 (max a b)) w := by
  rw [run_max_int2]
  congr 2
  split <;> omega

end Go.Proofs.Ytgpabckipmhobaa
namespace Go.Proofs.Ytgpabckipmhobaa
open Go.RowKit

attribute [local irreducible] wpQuiet wpG wpP wpK wpList Code.wp Calls

end Go.Proofs.Ytgpabckipmhobaa
namespace Go.Proofs.Ytgpabckipmhobaa
open Go.RowKit

attribute [local irreducible] wpQuiet wpG wpP wpK wpList Code.wp Calls

/-- The cells are the box, none of whose lists lies in the blocks B. -/
@[reducible] def RepA (B : List Nat) (w : World) (n : Nat) (b : Bx n) (cs : List Value) : Prop := RepG (fun k _ => k ∉ B) (fun k => k ∉ B) w n b cs
theorem RepG.rep {ko : Nat → Nat → Prop} {so : Nat → Prop} {w : World} {n : Nat} {b : Bx n} {cs : List Value} (h : RepG ko so w n b cs) : Rep w n b cs := h.mono (fun _ _ _ => trivial) (fun _ _ => trivial)
theorem repA_step {B : List Nat} {w w' : World} {n : Nat} {b : Bx n} {cs : List Value} (h : RepA B w n b cs) (hb : Below w.heap.size w w') : RepA B w' n b cs := RepG.step hb n b cs h
/-- The block of a slice of the call's own. -/
theorem sl_where {size n : Nat} {y : Option Addr} {c : Nat} {xs : List Value} {X : List (Nat × List Value)} (h : Sl size n (.slice y n c) xs X) (hn : n ≠ 0) {k o : Nat} (hx : y = some ⟨k, o, none⟩) : ∃ z, (k, z) ∈ X := by
  rcases h.2 with ⟨_, _, _, h0, _⟩ | ⟨b, c', junk, he, _, _, _, rfl⟩
  · exact absurd h0 hn
  · subst hx
    have hb : k = b := by
      simp at he
      exact he.1.1
    exact ⟨xs ++ junk, by rw [hb]; simp⟩
/-- A list of boxes lies there; K: where. -/
def RepLA (K : Nat → Prop) (B : List Nat) (w : World) (n : Nat) (x : Option Addr) (kids : List (Bx n)) : Prop := ∀ i kid, kids[i]? = some kid → ∃ k o css, x = some ⟨k, o, none⟩ ∧ K k ∧ w.rangeAt k (o + i * 11) css ∧ RepA B w n kid css
theorem rep_mkA {B : List Nat} {w : World} {n : Nat} {a : Hd} {kids : List (Bx n)} {kx sx : Option Addr} {kc sc : Nat} (ha : HdOk a) (hl : kids.length ≤ maxLen) (hs : RowAt w sx 1 intCells a.src) (hso : a.src ≠ [] → ∀ k o, sx = some ⟨k, o, none⟩ → k ∉ B) (hk : RepLA (fun k => k ∉ B) B w n kx kids) : RepA B w (n + 1) (a, kids) (a.cells (.slice kx kids.length kc) (.slice sx a.src.length sc)) :=
  ⟨kx, kc, sx, sc, rfl, ha, hl, hs, hso, hk⟩
theorem rep_outA {B : List Nat} {w : World} {n : Nat} {a : Hd} {kids : List (Bx n)} {cs : List Value} (h : RepA B w (n + 1) (a, kids) cs) : ∃ kx kc sx sc, cs = a.cells (.slice kx kids.length kc) (.slice sx a.src.length sc) ∧ HdOk a ∧ kids.length ≤ maxLen ∧ RowAt w sx 1 intCells a.src ∧ (a.src ≠ [] → ∀ k o, sx = some ⟨k, o, none⟩ → k ∉ B) ∧ RepLA (fun k => k ∉ B) B w n kx kids := by
  obtain ⟨kx, kc, sx, sc, h1, h2, h3, h4, h5, h6⟩ := h
  exact ⟨kx, kc, sx, sc, h1, h2, h3, h4, h5, h6⟩
theorem RepLA.step {K : Nat → Prop} {B : List Nat} {w w' : World} {n : Nat} {x : Option Addr} {kids : List (Bx n)} (h : RepLA K B w n x kids) (hb : Below w.heap.size w w') : RepLA K B w' n x kids := fun i kid hi => by
  obtain ⟨k, o, css, e, hK, hr, hp⟩ := h i kid hi
  exact ⟨k, o, css, e, hK, rangeAt_below hr hb, repA_step hp hb⟩
/-- The call gives a box away from the blocks B. -/
def GivesA (B : List Nat) (n : Nat) (b : Bx n) (w : World) (e : Ending) (w' : World) : Prop := ∃ cs, e = .returned (.agg cs.toArray) ∧ RepA B w' n b cs ∧ Below w.heap.size w w'

set_option maxHeartbeats 4000000 in
set_option maxRecDepth 100000 in
theorem box_At_A (B : List Nat) (n : Nat) (b : Bx (n + 1)) (cs : List Value) (x y : Int) (w : World) (hr : RepA B w (n + 1) b cs) (hB : ∀ k ∈ B, k < w.heap.size) (hx : I64 x) (hy : I64 y) (hsl : b.1.src.length ≤ 17592186044416) : Calls Try.prog 47 #[.agg cs.toArray, .int .i64 x, .int .i64 y] w (GivesA B (n + 1) (atXY (n + 1) b x y) w) := by
  obtain ⟨⟨kind, name, size, bw, bh, bd, bx, by_, of, src⟩, kids⟩ := b
  obtain ⟨kx, kc, sx, sc, rfl, ha, hkl, hrow0, hso, hkids⟩ := rep_outA hr
  have HH := Lib.hid (show HdOk ⟨kind, name, size, bw, bh, bd, x, y, of, src⟩ from ⟨ha.kind, ha.size, ha.w, ha.h, ha.d, hx, hy, ha.of, ha.src, ha.srcLen, ha.nameLen⟩)
  have HL := Lib.hid hkl
  have HSr := Lib.hid hrow0
  have HK := Lib.hid hkids
  have HB := Lib.hid hB
  simp only at HSr
  clear hr ha hkl hrow0 hkids hx hy hso hB
  go_enter Try.func47, Try.ntmps47
  have hS := own_start w
  go_wp2_with (first | (refine own_unguard (by rfl) ?_) | (go_at_call 50; refine own_ints hS (clone_calls _ _ _ _ (HSr.out.own hS) hsl) ?_; clear hS; intro y2 c2 Xs ww hXs hrow hS1; have hS := hS1.perm (front_back Xs _ _ []); clear hS1) | (refine w_ld rfl _ rfl (by rfl) (by first | exact rd_1 (by repeat constructor) (by first | rfl | assumption) | exact rd_w (by repeat constructor) (by rfl) | exact rd_o (by assumption) (by rfl) (by first | exact nmn | assumption | simp) | exact rd_h (by assumption) (by rfl) (by first | exact nmn | assumption | simp) | exact rd_1o (by assumption) (by first | exact nmn | assumption | simp) | exact rd_1h (by assumption) (by first | rfl | assumption) (by first | exact nmn | assumption | simp)) hS ?_) | (refine own_box rfl _ _ rfl (by rfl) hS ?_; clear hS; (try clear ww); intro bb ww hS) | (refine w_al rfl rfl hS ?_; clear hS; (try clear ww); intro bb ww hS) | (refine w_st rfl _ _ rfl (by rfl) (by rfl) (by repeat constructor) (by rfl) (by rfl) (by first | rfl | assumption) hS ?_; clear hS; (try clear ww); intro ww hS) | (refine w_s1 rfl _ _ rfl (by rfl) (by repeat constructor) (by first | exact .c | exact .t rfl) (by rfl) (by repeat constructor) hS ?_; clear hS; (try clear ww); intro ww hS))
  have hc := (hS.get at0).cell
  have hso2 : src ≠ [] → ∀ k o, y2 = some ⟨k, o, none⟩ → k ∉ B := fun hne k o hx hm => by
    have h1 := HB.out k hm
    rcases sl_where hXs (by intro h0; exact hne (List.eq_nil_of_length_eq_zero h0)) hx with ⟨z, hz⟩
    rcases hS.ge (k, z) (by simp [hz]) with h2 | h2
    · cases h2
    · simp only at h2; omega
  refine bodyPost_ret (v := .agg #[.int .i64 kind, .string name, .int .i64 size, .int .i64 bw, .int .i64 bh, .int .i64 bd, .int .i64 x, .int .i64 y, .slice kx kids.length kc, .int .i64 of, .slice y2 src.length c2]) (by simp [results, Try.results47, go_sem, hc]) rfl ⟨_, rfl, rep_mkA HH.out HL.out (sl_row hS (fun x hx => by simp [hx]) hXs) hso2 (HK.out.step hS.below), hS.below⟩

end Go.Proofs.Ytgpabckipmhobaa
namespace Go.Proofs.Ytgpabckipmhobaa
open Go.RowKit

attribute [local irreducible] wpQuiet wpG wpP wpK wpList Code.wp Calls

theorem repLA_of {w : World} {n : Nat} {kids : List (Bx n)} {B : List Nat} {l : List { c : List Value // c.length = 11 }} {y : Option Addr} (hr : RowAt w y 11 Subtype.val l) (h : Done w n kids B l) (hl : l.length = kids.length) (hy : l ≠ [] → ∀ k o, y = some ⟨k, o, none⟩ → k ∉ B) : RepLA (fun k => k ∉ B) B w n y kids := fun i kid hi => by
  have hlt : i < l.length := by rw [hl]; exact (List.getElem?_eq_some_iff.1 hi).1
  obtain ⟨b, o, hx, hrg⟩ := hr.get (List.getElem?_eq_getElem hlt)
  exact ⟨b, o, _, hx, hy (by intro h0; subst h0; simp at hlt) b o hx, hrg, h i _ kid (List.getElem?_eq_getElem hlt) hi⟩

set_option maxHeartbeats 8000000 in
set_option maxRecDepth 100000 in
theorem box_List_A (B : List Nat) (n : Nat) (kids : List (Bx n)) (kx : Option Addr) (kc : Nat) (bw bh bd : Int) (w : World) (hk : RepLA (fun _ => True) B w n kx kids) (hB : ∀ k ∈ B, k < w.heap.size) (hsm : ∀ k ∈ kids, Small n k ∧ bCount n k ≤ 1000000) (hl : kids.length ≤ 1000000) (h1 : I64 bw) (h2 : I64 bh) (h3 : I64 bd) :
    Calls Try.prog 49 #[.int .i64 bw, .int .i64 bh, .int .i64 bd, .slice kx kids.length kc] w (GivesA B (n + 1) (listB n bw bh bd kids) w) := by
  have HK := Lib.hid hk
  have HB := Lib.hid hB
  have HM := Lib.hid hsm
  have HH := Lib.hid (hdOk_new (k := 3) (by unfold I64; omega) h1 h2 h3)
  have tok1 : True := trivial
  clear hk hsm h1 h2 h3 hB
  go_enter Try.func49, Try.ntmps49
  have hS := own_start w
  go_wp2_with (first | (refine own_unguard (by rfl) ?_) | (have _t := tok1; refine own_alloc rfl _ rfl hS zt_box ?_; clear hS tok1; (try clear ww); intro b8 ww hS) | (refine own_alloc rfl _ rfl hS zt_box ?_; clear hS; (try clear ww); intro b9 ww hS) | (refine w_ld rfl _ rfl (by rfl) (by first | exact rd_1 (by repeat constructor) (by first | rfl | assumption) | exact rd_w (by repeat constructor) (by rfl) | exact rd_o (by assumption) (by rfl) (by first | exact nmn | assumption | simp) | exact rd_h (by assumption) (by rfl) (by first | exact nmn | assumption | simp) | exact rd_1o (by assumption) (by first | exact nmn | assumption | simp) | exact rd_1h (by assumption) (by first | rfl | assumption) (by first | exact nmn | assumption | simp)) hS ?_) | (refine own_box rfl _ _ rfl (by rfl) hS ?_; clear hS; (try clear ww); intro bb ww hS) | (refine w_al rfl rfl hS ?_; clear hS; (try clear ww); intro bb ww hS) | (refine w_st rfl _ _ rfl (by rfl) (by rfl) (by repeat constructor) (by rfl) (by rfl) (by first | rfl | assumption) hS ?_; clear hS; (try clear ww); intro ww hS) | (refine w_s1 rfl _ _ rfl (by rfl) (by repeat constructor) (by first | exact .c | exact .t rfl) (by rfl) (by repeat constructor) hS ?_; clear hS; (try clear ww); intro ww hS))
  go_loopw [18] (fun i wr => ∃ (j : Nat) (v : Value) (X : List (Nat × List Value)) (l : List { c : List Value // c.length = 11 }), j ≤ kids.length ∧ i = .int .i64 j ∧ l.length = j ∧ Sl 11 j v (l.flatMap Subtype.val) X ∧ Done wr n kids ((b9 :: b8 :: X.map (·.1)) ++ B) l ∧ Own [] w ([(b9, [.int .i64 3, .string ⟨#[]⟩, .int .i64 0, .int .i64 bw, .int .i64 bh, .int .i64 bd, .int .i64 0, .int .i64 0, v, .int .i64 0, .slice none 0 0]), (b8, [.int .i64 0, .string ⟨#[]⟩, .int .i64 0, .int .i64 0, .int .i64 0, .int .i64 0, .int .i64 0, .int .i64 0, .slice none 0 0, .int .i64 0, .slice none 0 0])] ++ X) wr) (fun i _ => kids.length - (intOf i).toNat)
  case atStart => exact ⟨0, _, [], [], Nat.zero_le _, rfl, rfl, sl_nil 11, (fun q css kid hq _ => by simp at hq), by simpa using hS⟩
  case round =>
    clear hS
    obtain ⟨j, v, X, l, hj, rfl, hlj, hX, hD, hA⟩ := hrel
    have hS := hA.rebase
    by_cases hlt : j < kids.length
    · obtain ⟨kid, hkid⟩ : ∃ kid, kids[j]? = some kid := ⟨kids[j], by simp [hlt]⟩
      obtain ⟨kb, ko, css, hkx, _, hrg, hrep⟩ := HK.out j kid hkid
      obtain rfl : kx = some ⟨kb, ko, none⟩ := hkx
      obtain ⟨c0, c1, c2, c3, c4, c5, c6, c7, c8, c9, c10, rfl⟩ := eleven hrep.len
      have hkb : kb < w.heap.size := World.block_lt_of_cell? w _ (hrg 0 c0 rfl)
      have hge : ∀ x, x ∈ ([(b9, [.int .i64 3, .string ⟨#[]⟩, .int .i64 0, .int .i64 bw, .int .i64 bh, .int .i64 bd, .int .i64 0, .int .i64 0, v, .int .i64 0, .slice none 0 0]), (b8, [.int .i64 0, .string ⟨#[]⟩, .int .i64 0, .int .i64 0, .int .i64 0, .int .i64 0, .int .i64 0, .int .i64 0, .slice none 0 0, .int .i64 0, .slice none 0 0])] ++ X) → w.heap.size ≤ x.1 := fun x hx => by
        rcases hA.ge x hx with h | h
        · cases h
        · exact h
      have hnk : kb ∉ (([(b9, [.int .i64 3, .string ⟨#[]⟩, .int .i64 0, .int .i64 bw, .int .i64 bh, .int .i64 bd, .int .i64 0, .int .i64 0, v, .int .i64 0, .slice none 0 0]), (b8, [.int .i64 0, .string ⟨#[]⟩, .int .i64 0, .int .i64 0, .int .i64 0, .int .i64 0, .int .i64 0, .int .i64 0, .slice none 0 0, .int .i64 0, .slice none 0 0])] ++ X).map (·.1)) := fun h => by
        obtain ⟨x, hx, he⟩ := List.mem_map.1 h
        have := hge x hx
        omega
      have hrg2 : wr.rangeAt kb (ko + j * 11) [c0, c1, c2, c3, c4, c5, c6, c7, c8, c9, c10] := Own.range hA (by simp) hrg
      have HA := Lib.hid hA
      have HX := Lib.hid hX
      have HDn := Lib.hid hD
      have HRp := Lib.hid hrep
      have HKid := Lib.hid hkid
      have hall := rep_all hrep
      clear hA hX hD hrep hrg hkid hge
      go_wp2_with (first | (refine own_unguard (by rfl) ?_) | (refine own_load_old rfl _ _ rfl rfl hS hrg2 hnk rt_box ?_) | (refine own_store rfl _ _ _ rfl rfl rfl hS at0 rt_box (by rfl) hall ?_; clear hS; intro ww hS; simp only [List.set_cons_zero] at hS) | (refine w_ld rfl _ rfl (by rfl) (by first | exact rd_1 (by repeat constructor) (by first | rfl | assumption) | exact rd_w (by repeat constructor) (by rfl) | exact rd_o (by assumption) (by rfl) (by first | exact nmn | assumption | simp) | exact rd_h (by assumption) (by rfl) (by first | exact nmn | assumption | simp) | exact rd_1o (by assumption) (by first | exact nmn | assumption | simp) | exact rd_1h (by assumption) (by first | rfl | assumption) (by first | exact nmn | assumption | simp)) hS ?_) | (refine own_box rfl _ _ rfl (by rfl) hS ?_; clear hS; (try clear ww); intro bb ww hS) | (refine w_al rfl rfl hS ?_; clear hS; (try clear ww); intro bb ww hS) | (refine w_st rfl _ _ rfl (by rfl) (by rfl) (by repeat constructor) (by rfl) (by rfl) (by first | rfl | assumption) hS ?_; clear hS; (try clear ww); intro ww hS) | (refine w_s1 rfl _ _ rfl (by rfl) (by repeat constructor) (by first | exact .c | exact .t rfl) (by rfl) (by repeat constructor) hS ?_; clear hS; (try clear ww); intro ww hS))
      try simp only [Act.put, List.setIfInBounds_toArray, List.set_cons_zero, List.set_cons_succ]
      refine own_any hS [5, 7] 8 (by kernel_rfl) (by kernel_rfl) ?_
      clear hS
      intro hcl ww hS
      refine own_batch hS [0, 1, 2] 5 rfl hcl (by kernel_rfl) ?_
      (try simp only); repeat (first | (simp only [List.filterMap_cons]) | (simp only [List.filterMap_nil]) | (simp only [List.getElem?_toArray]) | (simp only [List.getElem?_cons_succ]) | (simp only [List.getElem?_cons_zero]) | (simp only [List.reverse_cons]) | (simp only [List.reverse_nil]) | (simp only [List.nil_append]) | (simp only [List.cons_append]))
      repeat (first
          | (first | (refine g_plain rfl ?_) | (refine g_yes rfl rfl rfl (by simp only [List.getElem?_toArray, List.getElem?_cons_succ, List.getElem?_cons_zero]; rfl) (by with_reducible constructor) ?_)
             apply Exists.intro; refine ⟨?_, ?_⟩
             focus (intro wq hq0; (first | have hq : Own _ _ _ wq := hq0 | have hq : Own _ _ _ wq := hq0.1 | skip); first | ((with_reducible show givesAt _ ({ dst := _, op := Op.load _ _, type := _, pos := _, after := _, guard := _ } : Oper) _ _ _); first | (exact givesAt_rd rfl (by rfl) (by first | exact rd_1 (by repeat constructor) (by first | rfl | assumption) | exact rd_w (by repeat constructor) (by rfl) | exact rd_o (by assumption) (by rfl) (by first | exact nmn | assumption | simp) | exact rd_h (by assumption) (by rfl) (by first | exact nmn | assumption | simp) | exact rd_1o (by assumption) (by first | exact nmn | assumption | simp) | exact rd_1h (by assumption) (by first | rfl | assumption) (by first | exact nmn | assumption | simp)) hq)) | (go_simp; first | (with_reducible rfl)))
             simp only [Act.put, List.setIfInBounds_toArray]; (try simp only [List.set_cons_succ]); (try simp only [List.set_cons_zero]))
          | (refine g_no rfl rfl rfl (by simp only [List.getElem?_toArray, List.getElem?_cons_succ, List.getElem?_cons_zero]; rfl) (by with_reducible constructor) ?_; simp only [Act.put, List.setIfInBounds_toArray]; (try simp only [List.set_cons_succ]); (try simp only [List.set_cons_zero])))
      refine g_nil ?_
      clear hS hcl
      intro hcl ww hS
      have hA2 := HA.out.chain hS
      refine own_softB hS 3 hcl rfl (by kernel_rfl) ?_
      have hO := hS
      clear hS
      intro hS
      go_wp2_with (first | (go_at_call 29; refine Calls.mono (deep_Box_calls (fun k => k ∉ B ∧ k < w.heap.size) n kid _ ww (fun k hk => Nat.lt_of_lt_of_le hk.2 hA2.size) (RepG.step hA2.below n kid _ (rep_keep2 (Q := fun k => k ∉ B) (fun _ _ _ => rfl) n kid _ HRp.out)) (HM.out kid (List.mem_of_getElem? HKid.out)).1 (HM.out kid (List.mem_of_getElem? HKid.out)).2) ?_; rintro e w1 ⟨cs', rfl, hr', hb'⟩))
      refine ⟨[], hS.step hb', ?_⟩
      clear hS
      intro hcl w3 hS hb3
      have hA3 := HA.out.chain hS
      have hm2 : ∀ k ∈ (bb :: b9 :: b8 :: X.map (·.1)), w.heap.size ≤ k ∧ k < ww.heap.size := fun k hk => by
        obtain ⟨x, hx, rfl⟩ : ∃ x, x ∈ ((bb, [c0, c1, c2, c3, c4, c5, c6, c7, c8, c9, c10] ) :: ([(b9, [.int .i64 3, .string ⟨#[]⟩, .int .i64 0, .int .i64 bw, .int .i64 bh, .int .i64 bd, .int .i64 0, .int .i64 0, v, .int .i64 0, .slice none 0 0]), (b8, [.int .i64 0, .string ⟨#[]⟩, .int .i64 0, .int .i64 0, .int .i64 0, .int .i64 0, .int .i64 0, .int .i64 0, .slice none 0 0, .int .i64 0, .slice none 0 0])] ++ X)) ∧ x.1 = k := by
          obtain ⟨x, hx, he⟩ := List.mem_map.1 (show k ∈ (((bb, [c0, c1, c2, c3, c4, c5, c6, c7, c8, c9, c10]) :: ([(b9, [.int .i64 3, .string ⟨#[]⟩, .int .i64 0, .int .i64 bw, .int .i64 bh, .int .i64 bd, .int .i64 0, .int .i64 0, v, .int .i64 0, .slice none 0 0]), (b8, [.int .i64 0, .string ⟨#[]⟩, .int .i64 0, .int .i64 0, .int .i64 0, .int .i64 0, .int .i64 0, .int .i64 0, .slice none 0 0, .int .i64 0, .slice none 0 0])] ++ X)).map (·.1)) from hk)
          exact ⟨x, hx, he⟩
        refine ⟨?_, (hA2.has x hx).lt⟩
        rcases hA2.ge x hx with h | h
        · cases h
        · exact h
      have hD3 : Done w3 n kids ((bb :: b9 :: b8 :: X.map (·.1)) ++ B) l := HDn.out.turn hS (fun k h => List.mem_append_left _ h) (fun k hk => by
        rcases List.mem_append.1 hk with hk | hk
        case inr => exact .inl (List.mem_append_right _ hk)
        obtain ⟨x, hx, he⟩ := List.mem_map.1 (show k ∈ (((bb, [c0, c1, c2, c3, c4, c5, c6, c7, c8, c9, c10]) :: ([(b9, [.int .i64 3, .string ⟨#[]⟩, .int .i64 0, .int .i64 bw, .int .i64 bh, .int .i64 bd, .int .i64 0, .int .i64 0, v, .int .i64 0, .slice none 0 0]), (b8, [.int .i64 0, .string ⟨#[]⟩, .int .i64 0, .int .i64 0, .int .i64 0, .int .i64 0, .int .i64 0, .int .i64 0, .slice none 0 0, .int .i64 0, .slice none 0 0])] ++ X)).map (·.1)) from hk)
        rw [← he]
        rcases hS.ge x hx with h | h
        · exact .inl (List.mem_append_left _ h)
        · exact .inr h)
      have hno : ∀ k, ((k ∉ B ∧ k < w.heap.size) ∨ ww.heap.size ≤ k) → k ∉ ((bb :: b9 :: b8 :: X.map (·.1)) ++ B) := fun k hk hm => by
        rcases List.mem_append.1 hm with hm | hm
        · have := hm2 k hm; rcases hk with ⟨_, h⟩ | h <;> omega
        · have := HB.out k hm; have := hA2.size; rcases hk with ⟨h, _⟩ | h
          · exact h hm
          · omega
      have hr3 : RepG (fun k _ => k ∉ ((bb :: b9 :: b8 :: X.map (·.1)) ++ B)) (fun k => k ∉ ((bb :: b9 :: b8 :: X.map (·.1)) ++ B)) w3 n kid cs' := RepG.step hb3 n kid cs' (hr'.mono (fun k _ hk => hno k hk) (fun k hk => hno k hk))
      have h11 := hr3.len
      have hall3 := rep_all hr3
      obtain ⟨e0, e1, e2, e3, e4, e5, e6, e7, e8, e9, e10, rfl⟩ := eleven h11
      obtain ⟨DD, hDD, hS4⟩ : ∃ DD, Hid (DD = bb :: b9 :: b8 :: X.map (·.1)) ∧ Own DD w3 ((bb, [c0, c1, c2, c3, c4, c5, c6, c7, c8, c9, c10]) :: ([(b9, [.int .i64 3, .string ⟨#[]⟩, .int .i64 0, .int .i64 bw, .int .i64 bh, .int .i64 bd, .int .i64 0, .int .i64 0, v, .int .i64 0, .slice none 0 0]), (b8, [.int .i64 0, .string ⟨#[]⟩, .int .i64 0, .int .i64 0, .int .i64 0, .int .i64 0, .int .i64 0, .int .i64 0, .slice none 0 0, .int .i64 0, .slice none 0 0])] ++ X)) w3 := ⟨_, rfl, hA3.rebase⟩
      clear hS
      have hS := hS4
      have HA3 := Lib.hid hA3
      have HD3 := Lib.hid hD3
      have HR3 := Lib.hid hr3
      clear hS4 hA3 hD3 hr3 hO hr' hb' hb3 hm2 hno hA2
      refine own_soft hS 4 hcl rfl (by kernel_rfl) ?_
      have hO := hS
      clear hS
      intro hS
      refine own_buildSlice rfl _ _ 1 _ rfl [e0, e1, e2, e3, e4, e5, e6, e7, e8, e9, e10] hS Try.underlying30 (by kernel_rfl) ?_
      clear hS
      intro b1 w4 hS
      refine wpList_nil ⟨rfl, _, hS, ?_⟩
      clear hS hO hcl
      intro hcl w5 hS
      refine own_hard (D := DD) (W := w3) 5 hcl rfl (by kernel_rfl) (by kernel_rfl) ?_
      refine own_append_new (b := b1) rfl _ _ _ rfl HX.out rfl rfl (show Own DD w3 (((b1, [e0, e1, e2, e3, e4, e5, e6, e7, e8, e9, e10]) :: [_, _, _]) ++ X) w5 from hS) rfl hall3 el_box (by decide) (by simp only [maxLen]; omega) (by omega) ?_
      clear hS
      intro v' X' w6 hS hX'
      refine wpList_nil ⟨rfl, _, hS, ?_⟩
      clear hS hcl
      intro hcl w7 hS
      refine own_batch hS [6] 1 rfl hcl (by kernel_rfl) ?_
      (try simp only); repeat (first | (simp only [List.filterMap_cons]) | (simp only [List.filterMap_nil]) | (simp only [List.getElem?_toArray]) | (simp only [List.getElem?_cons_succ]) | (simp only [List.getElem?_cons_zero]) | (simp only [List.reverse_cons]) | (simp only [List.reverse_nil]) | (simp only [List.nil_append]) | (simp only [List.cons_append]))
      repeat (first
          | (first | (refine g_plain rfl ?_) | (refine g_yes rfl rfl rfl (by simp only [List.getElem?_toArray, List.getElem?_cons_succ, List.getElem?_cons_zero]; rfl) (by with_reducible constructor) ?_)
             apply Exists.intro; refine ⟨?_, ?_⟩
             focus (intro wq hq0; (first | have hq : Own _ _ _ wq := hq0 | have hq : Own _ _ _ wq := hq0.1 | skip); first | ((with_reducible show givesAt _ ({ dst := _, op := Op.load _ _, type := _, pos := _, after := _, guard := _ } : Oper) _ _ _); first | (exact givesAt_rd rfl (by rfl) (by first | exact rd_1 (by repeat constructor) (by first | rfl | assumption) | exact rd_w (by repeat constructor) (by rfl) | exact rd_o (by assumption) (by rfl) (by first | exact nmn | assumption | simp) | exact rd_h (by assumption) (by rfl) (by first | exact nmn | assumption | simp) | exact rd_1o (by assumption) (by first | exact nmn | assumption | simp) | exact rd_1h (by assumption) (by first | rfl | assumption) (by first | exact nmn | assumption | simp)) hq)) | (go_simp; first | (with_reducible rfl)))
             simp only [Act.put, List.setIfInBounds_toArray]; (try simp only [List.set_cons_succ]); (try simp only [List.set_cons_zero]))
          | (refine g_no rfl rfl rfl (by simp only [List.getElem?_toArray, List.getElem?_cons_succ, List.getElem?_cons_zero]; rfl) (by with_reducible constructor) ?_; simp only [Act.put, List.setIfInBounds_toArray]; (try simp only [List.set_cons_succ]); (try simp only [List.set_cons_zero])))
      refine g_nil ?_
      clear hS hcl
      intro hcl ww hS
      refine own_hard (D := DD) (W := w3) 7 hcl rfl (by kernel_rfl) (by kernel_rfl) ?_
      refine own_store1 (v := v') rfl _ _ _ rfl rfl rfl hX'.one hS at1 ot_boxs (by simp) ?_
      clear hS
      intro w8 hS
      refine wpList_nil ⟨rfl, _, hS, ?_⟩
      clear hS hcl
      intro hcl w9 hS
      refine own_done (by kernel_rfl) ?_
      have HX' := Lib.hid hX'
      clear hX'
      go_wp2_with (first | (refine own_unguard (by rfl) ?_) | (refine w_ld rfl _ rfl (by rfl) (by first | exact rd_1 (by repeat constructor) (by first | rfl | assumption) | exact rd_w (by repeat constructor) (by rfl) | exact rd_o (by assumption) (by rfl) (by first | exact nmn | assumption | simp) | exact rd_h (by assumption) (by rfl) (by first | exact nmn | assumption | simp) | exact rd_1o (by assumption) (by first | exact nmn | assumption | simp) | exact rd_1h (by assumption) (by first | rfl | assumption) (by first | exact nmn | assumption | simp)) hS ?_) | (refine own_box rfl _ _ rfl (by rfl) hS ?_; clear hS; (try clear ww); intro bb ww hS) | (refine w_al rfl rfl hS ?_; clear hS; (try clear ww); intro bb ww hS) | (refine w_st rfl _ _ rfl (by rfl) (by rfl) (by repeat constructor) (by rfl) (by rfl) (by first | rfl | assumption) hS ?_; clear hS; (try clear ww); intro ww hS) | (refine w_s1 rfl _ _ rfl (by rfl) (by repeat constructor) (by first | exact .c | exact .t rfl) (by rfl) (by repeat constructor) hS ?_; clear hS; (try clear ww); intro ww hS))
      obtain rfl := hDD.out
      have hD9 := (HD3.out.next (css := ⟨[e0, e1, e2, e3, e4, e5, e6, e7, e8, e9, e10], rfl⟩) (by rw [hlj]; exact HKid.out) HR3.out).turn (B' := (b9 :: b8 :: X'.map (·.1)) ++ B) hS (fun k h => List.mem_append_left _ h) (fun k hk => by
        rcases List.mem_append.1 hk with hk | hk
        case inr => exact .inl (List.mem_append_right _ hk)
        obtain ⟨x, hx, he⟩ := List.mem_map.1 (show k ∈ (([(b9, [.int .i64 3, .string ⟨#[]⟩, .int .i64 0, .int .i64 bw, .int .i64 bh, .int .i64 bd, .int .i64 0, .int .i64 0, v', .int .i64 0, .slice none 0 0]), (b8, [.int .i64 0, .string ⟨#[]⟩, .int .i64 0, .int .i64 0, .int .i64 0, .int .i64 0, .int .i64 0, .int .i64 0, .slice none 0 0, .int .i64 0, .slice none 0 0])] ++ X').map (·.1)) from hk)
        rw [← he]
        rcases hS.ge x (List.mem_cons_of_mem _ hx) with h | h
        · exact .inl (List.mem_append_left _ h)
        · exact .inr h)
      have HD9 := Lib.hid hD9
      have HA9 := Lib.hid ((HA3.out.chain hS).forget (List.sublist_cons_self _ _))
      clear hD9
      go_roundw
      case rel => exact ⟨j + 1, v', X', l ++ [⟨[e0, e1, e2, e3, e4, e5, e6, e7, e8, e9, e10], rfl⟩], hlt, by go_num, by simp [hlj], by simpa using HX'.out, HD9.out, HA9.out⟩
      case measure => exact loop_meas hlt
    · obtain rfl : j = kids.length := by omega
      obtain ⟨y, c, hv⟩ := hX.slice
      subst hv
      have HA := Lib.hid hA
      have HX := Lib.hid hX
      have HDn := Lib.hid hD
      clear hA hX hD
      go_wp2_with (first | (refine own_unguard (by rfl) ?_) | (refine own_load rfl _ _ rfl rfl hS at0 rt_box ?_) | (refine own_store rfl _ _ _ rfl rfl rfl hS at1 rt_box (by rfl) (by rfl) ?_; clear hS; intro ww hS; simp only [List.set_cons_zero, List.set_cons_succ] at hS) | (refine w_ld rfl _ rfl (by rfl) (by first | exact rd_1 (by repeat constructor) (by first | rfl | assumption) | exact rd_w (by repeat constructor) (by rfl) | exact rd_o (by assumption) (by rfl) (by first | exact nmn | assumption | simp) | exact rd_h (by assumption) (by rfl) (by first | exact nmn | assumption | simp) | exact rd_1o (by assumption) (by first | exact nmn | assumption | simp) | exact rd_1h (by assumption) (by first | rfl | assumption) (by first | exact nmn | assumption | simp)) hS ?_) | (refine own_box rfl _ _ rfl (by rfl) hS ?_; clear hS; (try clear ww); intro bb ww hS) | (refine w_al rfl rfl hS ?_; clear hS; (try clear ww); intro bb ww hS) | (refine w_st rfl _ _ rfl (by rfl) (by rfl) (by repeat constructor) (by rfl) (by rfl) (by first | rfl | assumption) hS ?_; clear hS; (try clear ww); intro ww hS) | (refine w_s1 rfl _ _ rfl (by rfl) (by repeat constructor) (by first | exact .c | exact .t rfl) (by rfl) (by repeat constructor) hS ?_; clear hS; (try clear ww); intro ww hS))
      have hc := (hS.get at1).cell
      obtain ⟨y', c', he, hrow, _, _⟩ := Sl.rowAt hS (fun x hx => by simp [hx]) HX.out (fun a => a.2) (by decide)
      obtain ⟨rfl, _, rfl⟩ : y = y' ∧ kids.length = l.length ∧ c = c' := by simpa using he
      have hDf := HDn.out.turn (B' := B) hS (fun k h => List.mem_append_left _ h) (fun k hk => .inl (List.mem_append_right _ hk))
      have hyB : l ≠ [] → ∀ k o, y = some ⟨k, o, none⟩ → k ∉ B := fun hne k o hx hm => by
        obtain ⟨z, hz⟩ := sl_where HX.out (by rw [← hlj]; intro h0; exact hne (List.eq_nil_of_length_eq_zero h0)) hx
        have h1 := HB.out k hm
        rcases HA.out.ge (k, z) (by simp [hz]) with h2 | h2
        · cases h2
        · simp only at h2; omega
      refine bodyPost_ret (v := .agg #[.int .i64 3, .string ⟨#[]⟩, .int .i64 0, .int .i64 bw, .int .i64 bh, .int .i64 bd, .int .i64 0, .int .i64 0, .slice y kids.length c, .int .i64 0, .slice none 0 0]) (by simp [results, Try.results49, go_sem, hc]) rfl ⟨_, rfl, rep_mkA (sx := none) (sc := 0) HH.out (by simp only [maxLen]; omega) (.inl rfl) (fun h => absurd rfl h) (repLA_of hrow hDf hlj hyB), (HA.out.chain hS).below⟩

end Go.Proofs.Ytgpabckipmhobaa
namespace Go.Proofs.Ytgpabckipmhobaa
open Go.RowKit

attribute [local irreducible] wpQuiet wpG wpP wpK wpList Code.wp Calls

end Go.Proofs.Ytgpabckipmhobaa
