/- Texts Sty, Slot, Ext, Sfp, Scb, Mkb. -/
import Derived.Test.YtgpabckipmhobaaJ00
import Derived.Test.YtgpabckipmhobaaJ14
import Derived.Test.YtgpabckipmhobaaJ15
import Derived.Test.YtgpabckipmhobaaJ10
namespace Go.Proofs.Ytgpabckipmhobaa
open Go.RowKit

set_option maxHeartbeats 400000 in
theorem style_Valid_calls (a : Int) (c : Bool) (w : World) :
    Calls Try.prog 69 #[.agg #[.int .i64 a, .bool c]] w fun e w' => e = .returned (.bool (decide (0 ≤ a) && decide (a ≤ 3))) ∧ w.alloc (.cells #[.int .i64 a, .bool c] 29) = w' := by
  go_enter Try.func69, Try.ntmps69
  go_wp2
  all_goals go_ret
  all_goals (refine ⟨ret_bool ?_, rfl⟩; first | omega | (simp; omega))

set_option maxHeartbeats 400000 in
theorem style_script_calls (a : Int) (w : World) (h0 : 0 ≤ a) (h3 : a ≤ 3) :
    Calls Try.prog 83 #[.int .i64 a] w fun e w' => e = .returned (.int .i64 (2 + a / 2)) ∧ w = w' := by
  go_enter Try.func83, Try.ntmps83
  go_wp2
  go_ret
  exact ⟨rfl, rfl⟩

/-- The value that style.rules returns, where the heap had n blocks. -/
def rulesVal (n : Nat) : Value := .agg #[.slice none 0 0, .slice none 0 0, .slice none 0 0, .slice none 0 0, .slice none 0 0, .slice (some ⟨n + 1, 0, none⟩) 2 2, .slice (some ⟨n + 1 + 1, 0, none⟩) 2 2, .slice (some ⟨n + 1 + 1 + 1, 0, none⟩) 2 2, .slice (some ⟨n + 1 + 1 + 1 + 1, 0, none⟩) 2 2, .slice (some ⟨n + 1 + 1 + 1 + 1 + 1, 0, none⟩) 3 3, .slice (some ⟨n + 1 + 1 + 1 + 1 + 1 + 1, 0, none⟩) 1 1, .slice (some ⟨n + 1 + 1 + 1 + 1 + 1 + 1 + 1, 0, none⟩) 1 1, .slice (some ⟨n + 1 + 1 + 1 + 1 + 1 + 1 + 1 + 1, 0, none⟩) 1 1]
/-- The blocks that style.rules makes. -/
def rulesWorld (w : World) : World :=
  (((((((((w.alloc (.cells #[.slice none 0 0, .slice none 0 0, .slice none 0 0, .slice none 0 0, .slice none 0 0, .slice (some ⟨w.heap.size + 1, 0, none⟩) 2 2, .slice (some ⟨w.heap.size + 1 + 1, 0, none⟩) 2 2, .slice (some ⟨w.heap.size + 1 + 1 + 1, 0, none⟩) 2 2, .slice (some ⟨w.heap.size + 1 + 1 + 1 + 1, 0, none⟩) 2 2, .slice (some ⟨w.heap.size + 1 + 1 + 1 + 1 + 1, 0, none⟩) 3 3, .slice (some ⟨w.heap.size + 1 + 1 + 1 + 1 + 1 + 1, 0, none⟩) 1 1, .slice (some ⟨w.heap.size + 1 + 1 + 1 + 1 + 1 + 1 + 1, 0, none⟩) 1 1, .slice (some ⟨w.heap.size + 1 + 1 + 1 + 1 + 1 + 1 + 1 + 1, 0, none⟩) 1 1] 108)).alloc (.cells #[.func (.func 80) #[] #[], .bool false, .func (.func 80) #[] #[], .bool true] 111)).alloc (.cells #[.func (.func 81) #[] #[], .bool false, .func (.func 82) #[] #[], .bool true] 111)).alloc (.cells #[.func (.func 82) #[] #[], .bool false, .func (.func 83) #[] #[], .bool true] 111)).alloc (.cells #[.func (.func 82) #[] #[], .bool false, .func (.func 83) #[] #[], .bool false] 111)).alloc (.cells #[.func (.func 82) #[] #[], .bool false, .func (.func 83) #[] #[], .bool true, .func (.func 83) #[] #[], .bool false] 111)).alloc (.cells #[.func (.func 82) #[] #[], .bool true] 111)).alloc (.cells #[.func (.func 82) #[] #[], .bool false] 111)).alloc (.cells #[.func (.func 84) #[] #[], .bool false] 111))

set_option maxHeartbeats 1000000 in
theorem style_rules_calls (w : World) :
    Calls Try.prog 77 #[] w fun e w' => e = .returned (rulesVal w.heap.size) ∧ rulesWorld w = w' := by
  go_enter Try.func77, Try.ntmps77
  go_wp2
  refine bodyPost_ret (v := rulesVal w.heap.size) (by simp [results, Try.results77, rulesVal, go_sem]) rfl ⟨rfl, rfl⟩

theorem rulesWorld_below (w : World) : Below w.heap.size w (rulesWorld w) := by
  unfold rulesWorld
  exact (((((((((Below.refl _ _).alloc (by go_size) _).alloc (by go_size) _).alloc (by go_size) _).alloc (by go_size) _).alloc (by go_size) _).alloc (by go_size) _).alloc (by go_size) _).alloc (by go_size) _).alloc (by go_size) _

theorem rulesWorld_8 (w : World) : (rulesWorld w).cell? ⟨w.heap.size + 1 + 1 + 1 + 1, 0, none⟩ = some (.func (.func 82) #[] #[]) ∧ (rulesWorld w).cell? ⟨w.heap.size + 1 + 1 + 1 + 1, 1, none⟩ = some (.bool false) ∧ (rulesWorld w).cell? ⟨w.heap.size + 1 + 1 + 1 + 1, 2, none⟩ = some (.func (.func 83) #[] #[]) ∧ (rulesWorld w).cell? ⟨w.heap.size + 1 + 1 + 1 + 1, 3, none⟩ = some (.bool false) := by
  unfold rulesWorld
  refine ⟨?_, ?_, ?_, ?_⟩ <;> simp [go_sem]

theorem rules_index_8 (n : Nat) (w : World) : (Instr.index 108 (rulesVal n) (.int .i64 8)).run Try.prog w = .ok (.slice (some ⟨n + 1 + 1 + 1 + 1, 0, none⟩) 2 2) w := by kernel_rfl
end Go.Proofs.Ytgpabckipmhobaa
namespace Go.Proofs.Ytgpabckipmhobaa
open Go.RowKit

theorem style_rules_calls_8 (w : World) : Calls Try.prog 77 #[] w fun e w' => e = .returned (rulesVal w.heap.size) ∧ Below w.heap.size w w' ∧ w'.cell? ⟨w.heap.size + 1 + 1 + 1 + 1, 0, none⟩ = some (.func (.func 82) #[] #[]) ∧ w'.cell? ⟨w.heap.size + 1 + 1 + 1 + 1, 1, none⟩ = some (.bool false) ∧ w'.cell? ⟨w.heap.size + 1 + 1 + 1 + 1, 2, none⟩ = some (.func (.func 83) #[] #[]) ∧ w'.cell? ⟨w.heap.size + 1 + 1 + 1 + 1, 3, none⟩ = some (.bool false) :=
  (style_rules_calls w).mono fun _ _ ⟨he, hw⟩ => hw ▸ ⟨he, rulesWorld_below w, rulesWorld_8 w⟩

set_option maxHeartbeats 1000000 in
theorem slot_8_1_true (l : Int) (w : World) (h0 : 0 ≤ l) (h3 : l ≤ 3) :
    Calls Try.prog 71 #[.int .i64 8, .int .i64 1, .agg #[.int .i64 l, .bool true]] w (Gives (.tuple #[.agg #[.int .i64 (2 + l / 2), .bool true], .int .i64 0]) w) := by
  have hv : (decide (0 ≤ l) && decide (l ≤ 3)) = true := by simp; omega
  go_enter Try.func71, Try.ntmps71
  go_wp2_with fail
  refine (style_Valid_calls _ _ _).mono ?_
  rintro e w' ⟨rfl, rfl⟩
  go_wp2_with fail
  refine (style_rules_calls_8 _).mono ?_
  rintro e w1 ⟨rfl, hb, c0, c1, c2, c3⟩
  simp only [World.size_alloc] at hb c0 c1 c2 c3
  have d0 := hb.cell (p := ⟨w.heap.size, 0, none⟩) (by simp; omega)
  have d1 := hb.cell (p := ⟨w.heap.size, 1, none⟩) (by simp; omega)
  have d2 := hb.cell (p := ⟨w.heap.size + 1, 0, none⟩) (by simp)
  have d3 := hb.cell (p := ⟨w.heap.size + 1, 1, none⟩) (by simp)
  have f2 := hb.frozen (p := ⟨w.heap.size + 1, 0, none⟩) (by simp)
  have f3 := hb.frozen (p := ⟨w.heap.size + 1, 1, none⟩) (by simp)
  simp [go_sem] at d0 d1 d2 d3 f2 f3
  have hz : w.heap.size + 1 + 1 + 1 ≤ w1.heap.size := by simpa using hb.size
  have hbb : Below w.heap.size w w1 := ((((Below.refl _ _).alloc (Nat.le_refl _) _).alloc (by go_size) _).alloc (by go_size) _).trans (hb.mono (by go_size))
  have hz0 : w.heap.size < w1.heap.size := by omega
  have hz1 : w.heap.size + 1 < w1.heap.size := by omega
  have i5 := rules_index_8
  go_wp2_with fail
  refine wp_region_steady (fun w' => ∃ n, w' = World.drewN _ n) 12 (by kernel_rfl) (by kernel_rfl) ⟨1, rfl⟩ ?_
  simp only [List.take_succ_cons, List.take_zero, List.drop_succ_cons, List.drop_zero]
  repeat (quiet_step ((go_at_call 83; exact Calls.quiet_of_same ((style_script_calls _ _ h0 h3).mono fun _ _ ⟨he, hw⟩ => ⟨he, hw.symm⟩))))
  refine wpQuiet_nil ?_
  intro _ hw'
  obtain ⟨nq, hw''⟩ := hw'
  subst hw''
  go_wp2
  refine bodyPost_ret (v := .tuple #[.agg #[.int .i64 (2 + l / 2), .bool true], .int .i64 0]) (by simp [results, Try.results71, go_sem, *]) rfl ⟨rfl, ?_⟩
  refine Below.setCell (Below.setCell (Go.below_drewN (Below.alloc hbb ?_ _) _) ?_ _) ?_ _ <;> go_size

set_option maxHeartbeats 1000000 in
theorem slot_8_1_false (l : Int) (w : World) (h0 : 0 ≤ l) (h3 : l ≤ 3) :
    Calls Try.prog 71 #[.int .i64 8, .int .i64 1, .agg #[.int .i64 l, .bool false]] w (Gives (.tuple #[.agg #[.int .i64 (2 + l / 2), .bool false], .int .i64 0]) w) := by
  have hv : (decide (0 ≤ l) && decide (l ≤ 3)) = true := by simp; omega
  go_enter Try.func71, Try.ntmps71
  go_wp2_with fail
  refine (style_Valid_calls _ _ _).mono ?_
  rintro e w' ⟨rfl, rfl⟩
  go_wp2_with fail
  refine (style_rules_calls_8 _).mono ?_
  rintro e w1 ⟨rfl, hb, c0, c1, c2, c3⟩
  simp only [World.size_alloc] at hb c0 c1 c2 c3
  have d0 := hb.cell (p := ⟨w.heap.size, 0, none⟩) (by simp; omega)
  have d1 := hb.cell (p := ⟨w.heap.size, 1, none⟩) (by simp; omega)
  have d2 := hb.cell (p := ⟨w.heap.size + 1, 0, none⟩) (by simp)
  have d3 := hb.cell (p := ⟨w.heap.size + 1, 1, none⟩) (by simp)
  have f2 := hb.frozen (p := ⟨w.heap.size + 1, 0, none⟩) (by simp)
  have f3 := hb.frozen (p := ⟨w.heap.size + 1, 1, none⟩) (by simp)
  simp [go_sem] at d0 d1 d2 d3 f2 f3
  have hz : w.heap.size + 1 + 1 + 1 ≤ w1.heap.size := by simpa using hb.size
  have hbb : Below w.heap.size w w1 := ((((Below.refl _ _).alloc (Nat.le_refl _) _).alloc (by go_size) _).alloc (by go_size) _).trans (hb.mono (by go_size))
  have hz0 : w.heap.size < w1.heap.size := by omega
  have hz1 : w.heap.size + 1 < w1.heap.size := by omega
  have i5 := rules_index_8
  go_wp2_with fail
  refine wp_region_steady (fun w' => ∃ n, w' = World.drewN _ n) 12 (by kernel_rfl) (by kernel_rfl) ⟨1, rfl⟩ ?_
  simp only [List.take_succ_cons, List.take_zero, List.drop_succ_cons, List.drop_zero]
  repeat (quiet_step ((go_at_call 83; exact Calls.quiet_of_same ((style_script_calls _ _ h0 h3).mono fun _ _ ⟨he, hw⟩ => ⟨he, hw.symm⟩))))
  refine wpQuiet_nil ?_
  intro _ hw'
  obtain ⟨nq, hw''⟩ := hw'
  subst hw''
  go_wp2
  refine bodyPost_ret (v := .tuple #[.agg #[.int .i64 (2 + l / 2), .bool false], .int .i64 0]) (by simp [results, Try.results71, go_sem, *]) rfl ⟨rfl, ?_⟩
  refine Below.setCell (Below.setCell (Go.below_drewN (Below.alloc hbb ?_ _) _) ?_ _) ?_ _ <;> go_size

end Go.Proofs.Ytgpabckipmhobaa
namespace Go.Proofs.Ytgpabckipmhobaa
open Go.RowKit

attribute [local irreducible] wpQuiet wpG wpP wpK wpList Code.wp Calls

/-- An extent: left, right, height, depth. -/
structure E4 where
  l : Int
  r : Int
  h : Int
  d : Int
def ext1 (a : Hd) : E4 := ⟨a.x, a.x + a.w, a.y + a.h, a.d - a.y⟩
def extStep (e : E4) (a : Hd) : E4 := ⟨min e.l a.x, max e.r (a.x + a.w), max e.h (a.y + a.h), max e.d (a.d - a.y)⟩
/-- The extent of some boxes. -/
def extL : List Hd → E4
  | [] => ⟨0, 0, 0, 0⟩
  | a :: l => l.foldl extStep (ext1 a)
theorem extL_next {l : List Hd} {a : Hd} (h : l ≠ []) : extL (l ++ [a]) = extStep (extL l) a := by
  cases l with
  | nil => exact absurd rfl h
  | cons b l => simp [extL, List.foldl_append]
/-- The lengths of a box are not great. -/
def Mild (a : Hd) : Prop := (-4294967296 ≤ a.x ∧ a.x ≤ 4294967296) ∧ (-4294967296 ≤ a.y ∧ a.y ≤ 4294967296) ∧ (-4294967296 ≤ a.w ∧ a.w ≤ 4294967296) ∧ (-4294967296 ≤ a.h ∧ a.h ≤ 4294967296) ∧ (-4294967296 ≤ a.d ∧ a.d ≤ 4294967296)

set_option maxHeartbeats 16000000 in
set_option maxRecDepth 100000 in
theorem box_Extent_calls (n : Nat) (kids : List (Bx (n + 1))) (x : Option Addr) (c : Nat) (w : World) (hk : RepL w (n + 1) x kids) (hm : ∀ k ∈ kids, Mild k.1) (hl : kids.length ≤ 1000000) :
    Calls Try.prog 48 #[.slice x kids.length c] w (Gives (.tuple #[.int .i64 (extL (kids.map (·.1))).l, .int .i64 (extL (kids.map (·.1))).r, .int .i64 (extL (kids.map (·.1))).h, .int .i64 (extL (kids.map (·.1))).d]) w) := by
  have HK := Lib.hid hk
  have HM := Lib.hid hm
  clear hk hm
  go_enter Try.func48, Try.ntmps48
  have hS := own_start w
  go_wp2_with (first | (refine own_unguard (by rfl) ?_) | (refine w_ld rfl _ rfl (by rfl) (by first | exact rd_1 (by repeat constructor) (by first | rfl | assumption) | exact rd_w (by repeat constructor) (by rfl) | exact rd_o (by assumption) (by rfl) (by first | exact nmn | assumption | simp) | exact rd_h (by assumption) (by rfl) (by first | exact nmn | assumption | simp) | exact rd_1o (by assumption) (by first | exact nmn | assumption | simp) | exact rd_1h (by assumption) (by first | rfl | assumption) (by first | exact nmn | assumption | simp)) hS ?_) | (refine own_box rfl _ _ rfl (by rfl) hS ?_; clear hS; (try clear ww); intro bb ww hS) | (refine w_al rfl rfl hS ?_; clear hS; (try clear ww); intro bb ww hS) | (refine w_st rfl _ _ rfl (by rfl) (by rfl) (by repeat constructor) (by rfl) (by rfl) (by first | rfl | assumption) hS ?_; clear hS; (try clear ww); intro ww hS) | (refine w_s1 rfl _ _ rfl (by rfl) (by repeat constructor) (by first | exact .c | exact .t rfl) (by rfl) (by repeat constructor) hS ?_; clear hS; (try clear ww); intro ww hS))
  go_loopw [2, 3, 4, 5, 10] (fun v2 v3 v4 v5 i wr => ∃ (k : Nat) (e : E4), k ≤ kids.length ∧ i = .int .i64 k ∧ v2 = .int .i64 e.l ∧ v3 = .int .i64 e.r ∧ v4 = .int .i64 e.h ∧ v5 = .int .i64 e.d ∧ e = extL ((kids.take k).map (·.1)) ∧ Own [] w [] wr) (fun _ _ _ _ i _ => kids.length - (intOf i).toNat)
  case atStart => exact ⟨0, ⟨0, 0, 0, 0⟩, Nat.zero_le _, rfl, rfl, rfl, rfl, rfl, rfl, hS⟩
  case round =>
    clear hS
    obtain ⟨k, ⟨e2, e3, e4, e5⟩, hkl, rfl, rfl, rfl, rfl, rfl, he, hS⟩ := hrel
    have HE := Lib.hid he
    clear he
    by_cases hlt : k < kids.length
    · obtain ⟨kid, hkid⟩ : ∃ q, kids[k]? = some q := ⟨kids[k], by simp [hlt]⟩
      obtain ⟨kb, ko, css, rfl, hr, hp⟩ := HK.out k kid hkid
      have hmd := HM.out kid (List.mem_of_getElem? hkid)
      have htk : kids.take (k + 1) = kids.take k ++ [kid] := by rw [List.take_add_one, hkid]; rfl
      obtain ⟨⟨kk, kn, kz, kw, kh, kd, kxx, kyy, kof, ksrc⟩, kks⟩ := kid
      obtain ⟨_, _, _, _, rfl, _⟩ := rep_out hp
      unfold Mild at hmd
      simp only at hmd
      have i1 : IntKind.i64.wrap (kxx + kw) = kxx + kw := IntWalk.i64_in _ (by omega)
      have i2 : IntKind.i64.wrap (kyy + kh) = kyy + kh := IntWalk.i64_in _ (by omega)
      have i3 : IntKind.i64.wrap (kd - kyy) = kd - kyy := IntWalk.i64_in _ (by omega)
      have HT := Lib.hid htk
      clear hp hmd hkid htk
      cases k with
      | zero =>
        have HN := Lib.hid (show extL ((kids.take (0 + 1)).map (·.1)) = ⟨kxx, kxx + kw, kyy + kh, kd - kyy⟩ by rw [HT.out]; rfl)
        go_upto_region 5 with (first | (refine own_unguard (by rfl) ?_) | (refine w_ld rfl _ rfl (by rfl) (by first | exact rd_1 (by repeat constructor) (by first | rfl | assumption) | exact rd_w (by repeat constructor) (by rfl) | exact rd_o (by assumption) (by rfl) (by first | exact nmn | assumption | simp) | exact rd_h (by assumption) (by rfl) (by first | exact nmn | assumption | simp) | exact rd_1o (by assumption) (by first | exact nmn | assumption | simp) | exact rd_1h (by assumption) (by first | rfl | assumption) (by first | exact nmn | assumption | simp)) hS ?_) | (refine own_box rfl _ _ rfl (by rfl) hS ?_; clear hS; (try clear ww); intro bb ww hS) | (refine w_al rfl rfl hS ?_; clear hS; (try clear ww); intro bb ww hS) | (refine w_st rfl _ _ rfl (by rfl) (by rfl) (by repeat constructor) (by rfl) (by rfl) (by first | rfl | assumption) hS ?_; clear hS; (try clear ww); intro ww hS) | (refine w_s1 rfl _ _ rfl (by rfl) (by repeat constructor) (by first | exact .c | exact .t rfl) (by rfl) (by repeat constructor) hS ?_; clear hS; (try clear ww); intro ww hS))
        (try simp only [Act.put]); (try simp only [List.setIfInBounds_toArray]); (try simp only [List.set_cons_succ]); (try simp only [List.set_cons_zero])
        refine own_region hS (by kernel_rfl) (by kernel_rfl) ?_
        (try simp only [List.append])
        (try simp only); (try simp only [List.drop_succ_cons]); (try simp only [List.drop_zero]); (try simp only [List.take_succ_cons]); (try simp only [List.take_zero])
        repeat (first
            | (first | (refine quiet_plain rfl ?_) | (refine quiet_yes rfl rfl rfl (by simp only [List.getElem?_toArray, List.getElem?_cons_succ, List.getElem?_cons_zero]; rfl) (by with_reducible constructor) ?_)
               apply Exists.intro; refine ⟨?_, ?_⟩
               focus (intro wq hq0; have hq : Own _ _ _ wq := hq0; first | (exact quietAt_rd rfl (by rfl) (by first | exact rd_1 (by repeat constructor) (by first | rfl | assumption) | exact rd_w (by repeat constructor) (by rfl) | exact rd_o (by assumption) (by rfl) (by first | exact nmn | assumption | simp) | exact rd_h (by assumption) (by rfl) (by first | exact nmn | assumption | simp) | exact rd_1o (by assumption) (by first | exact nmn | assumption | simp) | exact rd_1h (by assumption) (by first | rfl | assumption) (by first | exact nmn | assumption | simp)) hq) | (go_simp; first | (with_reducible rfl)))
               simp only [Act.put, List.setIfInBounds_toArray, List.set_cons_zero, List.set_cons_succ])
            | (refine quiet_no rfl rfl rfl (by simp only [List.getElem?_toArray, List.getElem?_cons_succ, List.getElem?_cons_zero]; rfl) (by with_reducible constructor) ?_; simp only [Act.put, List.setIfInBounds_toArray, List.set_cons_zero, List.set_cons_succ]))
        refine wpQuiet_nil ?_
        clear hS
        intro ww hS
        go_wp2_with (first | (refine own_unguard (by rfl) ?_) | (refine w_ld rfl _ rfl (by rfl) (by first | exact rd_1 (by repeat constructor) (by first | rfl | assumption) | exact rd_w (by repeat constructor) (by rfl) | exact rd_o (by assumption) (by rfl) (by first | exact nmn | assumption | simp) | exact rd_h (by assumption) (by rfl) (by first | exact nmn | assumption | simp) | exact rd_1o (by assumption) (by first | exact nmn | assumption | simp) | exact rd_1h (by assumption) (by first | rfl | assumption) (by first | exact nmn | assumption | simp)) hS ?_) | (refine own_box rfl _ _ rfl (by rfl) hS ?_; clear hS; (try clear ww); intro bb ww hS) | (refine w_al rfl rfl hS ?_; clear hS; (try clear ww); intro bb ww hS) | (refine w_st rfl _ _ rfl (by rfl) (by rfl) (by repeat constructor) (by rfl) (by rfl) (by first | rfl | assumption) hS ?_; clear hS; (try clear ww); intro ww hS) | (refine w_s1 rfl _ _ rfl (by rfl) (by repeat constructor) (by first | exact .c | exact .t rfl) (by rfl) (by repeat constructor) hS ?_; clear hS; (try clear ww); intro ww hS))
        go_roundw
        case rel => exact ⟨0 + 1, _, hlt, by go_num, rfl, rfl, rfl, rfl, HN.out.symm, hS.forget (List.nil_sublist _)⟩
        case measure => exact loop_meas hlt
      | succ k =>
        have HN := Lib.hid (show extL ((kids.take (k + 1 + 1)).map (·.1)) = ⟨min e2 kxx, max e3 (kxx + kw), max e4 (kyy + kh), max e5 (kd - kyy)⟩ by
          rw [HT.out, List.map_append, List.map_cons, List.map_nil, extL_next (fun h => by simp at h; rw [h] at hlt; simp at hlt), ← HE.out]
          rfl)
        have m2 : ∀ (w : World) (ts : Array TypeId) (t : TypeId), (Builtin.min_ ts t #[.int .i64 e2, .int .i64 kxx]).run Try.prog w = .ok (.int .i64 (min e2 kxx)) w := fun w ts t => by rw [run_min_int2]; congr 2; split <;> omega
        have m3 : ∀ (w : World) (ts : Array TypeId) (t : TypeId), (Builtin.max_ ts t #[.int .i64 e3, .int .i64 (kxx + kw)]).run Try.prog w = .ok (.int .i64 (max e3 (kxx + kw))) w := fun w ts t => by rw [run_max_int2]; congr 2; split <;> omega
        have m4 : ∀ (w : World) (ts : Array TypeId) (t : TypeId), (Builtin.max_ ts t #[.int .i64 e4, .int .i64 (kyy + kh)]).run Try.prog w = .ok (.int .i64 (max e4 (kyy + kh))) w := fun w ts t => by rw [run_max_int2]; congr 2; split <;> omega
        have m5 : ∀ (w : World) (ts : Array TypeId) (t : TypeId), (Builtin.max_ ts t #[.int .i64 e5, .int .i64 (kd - kyy)]).run Try.prog w = .ok (.int .i64 (max e5 (kd - kyy))) w := fun w ts t => by rw [run_max_int2]; congr 2; split <;> omega
        have z0 : (((k + 1 : Nat) : Int) == 0) = false := by simp; omega
        go_upto_region 6 with (first | (refine own_unguard (by rfl) ?_) | (refine w_ld rfl _ rfl (by rfl) (by first | exact rd_1 (by repeat constructor) (by first | rfl | assumption) | exact rd_w (by repeat constructor) (by rfl) | exact rd_o (by assumption) (by rfl) (by first | exact nmn | assumption | simp) | exact rd_h (by assumption) (by rfl) (by first | exact nmn | assumption | simp) | exact rd_1o (by assumption) (by first | exact nmn | assumption | simp) | exact rd_1h (by assumption) (by first | rfl | assumption) (by first | exact nmn | assumption | simp)) hS ?_) | (refine own_box rfl _ _ rfl (by rfl) hS ?_; clear hS; (try clear ww); intro bb ww hS) | (refine w_al rfl rfl hS ?_; clear hS; (try clear ww); intro bb ww hS) | (refine w_st rfl _ _ rfl (by rfl) (by rfl) (by repeat constructor) (by rfl) (by rfl) (by first | rfl | assumption) hS ?_; clear hS; (try clear ww); intro ww hS) | (refine w_s1 rfl _ _ rfl (by rfl) (by repeat constructor) (by first | exact .c | exact .t rfl) (by rfl) (by repeat constructor) hS ?_; clear hS; (try clear ww); intro ww hS))
        (try simp only [Act.put]); (try simp only [List.setIfInBounds_toArray]); (try simp only [List.set_cons_succ]); (try simp only [List.set_cons_zero])
        refine own_region hS (by kernel_rfl) (by kernel_rfl) ?_
        (try simp only [List.append])
        (try simp only); (try simp only [List.drop_succ_cons]); (try simp only [List.drop_zero]); (try simp only [List.take_succ_cons]); (try simp only [List.take_zero])
        repeat (first
            | (first | (refine quiet_plain rfl ?_) | (refine quiet_yes rfl rfl rfl (by simp only [List.getElem?_toArray, List.getElem?_cons_succ, List.getElem?_cons_zero]; rfl) (by with_reducible constructor) ?_)
               apply Exists.intro; refine ⟨?_, ?_⟩
               focus (intro wq hq0; have hq : Own _ _ _ wq := hq0; first | (exact quietAt_rd rfl (by rfl) (by first | exact rd_1 (by repeat constructor) (by first | rfl | assumption) | exact rd_w (by repeat constructor) (by rfl) | exact rd_o (by assumption) (by rfl) (by first | exact nmn | assumption | simp) | exact rd_h (by assumption) (by rfl) (by first | exact nmn | assumption | simp) | exact rd_1o (by assumption) (by first | exact nmn | assumption | simp) | exact rd_1h (by assumption) (by first | rfl | assumption) (by first | exact nmn | assumption | simp)) hq) | (go_simp; first | (with_reducible rfl)))
               simp only [Act.put, List.setIfInBounds_toArray, List.set_cons_zero, List.set_cons_succ])
            | (refine quiet_no rfl rfl rfl (by simp only [List.getElem?_toArray, List.getElem?_cons_succ, List.getElem?_cons_zero]; rfl) (by with_reducible constructor) ?_; simp only [Act.put, List.setIfInBounds_toArray, List.set_cons_zero, List.set_cons_succ]))
        refine wpQuiet_nil ?_
        clear hS
        intro ww hS
        go_upto_region 7 with (first | (refine own_unguard (by rfl) ?_) | (refine w_ld rfl _ rfl (by rfl) (by first | exact rd_1 (by repeat constructor) (by first | rfl | assumption) | exact rd_w (by repeat constructor) (by rfl) | exact rd_o (by assumption) (by rfl) (by first | exact nmn | assumption | simp) | exact rd_h (by assumption) (by rfl) (by first | exact nmn | assumption | simp) | exact rd_1o (by assumption) (by first | exact nmn | assumption | simp) | exact rd_1h (by assumption) (by first | rfl | assumption) (by first | exact nmn | assumption | simp)) hS ?_) | (refine own_box rfl _ _ rfl (by rfl) hS ?_; clear hS; (try clear ww); intro bb ww hS) | (refine w_al rfl rfl hS ?_; clear hS; (try clear ww); intro bb ww hS) | (refine w_st rfl _ _ rfl (by rfl) (by rfl) (by repeat constructor) (by rfl) (by rfl) (by first | rfl | assumption) hS ?_; clear hS; (try clear ww); intro ww hS) | (refine w_s1 rfl _ _ rfl (by rfl) (by repeat constructor) (by first | exact .c | exact .t rfl) (by rfl) (by repeat constructor) hS ?_; clear hS; (try clear ww); intro ww hS))
        (try simp only [Act.put]); (try simp only [List.setIfInBounds_toArray]); (try simp only [List.set_cons_succ]); (try simp only [List.set_cons_zero])
        refine own_region hS (by kernel_rfl) (by kernel_rfl) ?_
        (try simp only [List.append])
        (try simp only); (try simp only [List.drop_succ_cons]); (try simp only [List.drop_zero]); (try simp only [List.take_succ_cons]); (try simp only [List.take_zero])
        repeat (first
            | (first | (refine quiet_plain rfl ?_) | (refine quiet_yes rfl rfl rfl (by simp only [List.getElem?_toArray, List.getElem?_cons_succ, List.getElem?_cons_zero]; rfl) (by with_reducible constructor) ?_)
               apply Exists.intro; refine ⟨?_, ?_⟩
               focus (intro wq hq0; have hq : Own _ _ _ wq := hq0; first | (exact quietAt_rd rfl (by rfl) (by first | exact rd_1 (by repeat constructor) (by first | rfl | assumption) | exact rd_w (by repeat constructor) (by rfl) | exact rd_o (by assumption) (by rfl) (by first | exact nmn | assumption | simp) | exact rd_h (by assumption) (by rfl) (by first | exact nmn | assumption | simp) | exact rd_1o (by assumption) (by first | exact nmn | assumption | simp) | exact rd_1h (by assumption) (by first | rfl | assumption) (by first | exact nmn | assumption | simp)) hq) | (go_simp; first | (with_reducible rfl)))
               simp only [Act.put, List.setIfInBounds_toArray, List.set_cons_zero, List.set_cons_succ])
            | (refine quiet_no rfl rfl rfl (by simp only [List.getElem?_toArray, List.getElem?_cons_succ, List.getElem?_cons_zero]; rfl) (by with_reducible constructor) ?_; simp only [Act.put, List.setIfInBounds_toArray, List.set_cons_zero, List.set_cons_succ]))
        refine wpQuiet_nil ?_
        clear hS
        intro ww hS
        go_wp2_with (first | (refine own_unguard (by rfl) ?_) | (refine w_ld rfl _ rfl (by rfl) (by first | exact rd_1 (by repeat constructor) (by first | rfl | assumption) | exact rd_w (by repeat constructor) (by rfl) | exact rd_o (by assumption) (by rfl) (by first | exact nmn | assumption | simp) | exact rd_h (by assumption) (by rfl) (by first | exact nmn | assumption | simp) | exact rd_1o (by assumption) (by first | exact nmn | assumption | simp) | exact rd_1h (by assumption) (by first | rfl | assumption) (by first | exact nmn | assumption | simp)) hS ?_) | (refine own_box rfl _ _ rfl (by rfl) hS ?_; clear hS; (try clear ww); intro bb ww hS) | (refine w_al rfl rfl hS ?_; clear hS; (try clear ww); intro bb ww hS) | (refine w_st rfl _ _ rfl (by rfl) (by rfl) (by repeat constructor) (by rfl) (by rfl) (by first | rfl | assumption) hS ?_; clear hS; (try clear ww); intro ww hS) | (refine w_s1 rfl _ _ rfl (by rfl) (by repeat constructor) (by first | exact .c | exact .t rfl) (by rfl) (by repeat constructor) hS ?_; clear hS; (try clear ww); intro ww hS))
        go_roundw
        case rel => exact ⟨k + 1 + 1, _, hlt, by go_num, rfl, rfl, rfl, rfl, HN.out.symm, hS.forget (List.nil_sublist _)⟩
        case measure => exact loop_meas hlt
    · obtain rfl : k = kids.length := by omega
      have HN := Lib.hid (show extL (kids.map (·.1)) = ⟨e2, e3, e4, e5⟩ by rw [HE.out, List.take_length])
      go_wp2_with (first | (refine own_unguard (by rfl) ?_) | (refine w_ld rfl _ rfl (by rfl) (by first | exact rd_1 (by repeat constructor) (by first | rfl | assumption) | exact rd_w (by repeat constructor) (by rfl) | exact rd_o (by assumption) (by rfl) (by first | exact nmn | assumption | simp) | exact rd_h (by assumption) (by rfl) (by first | exact nmn | assumption | simp) | exact rd_1o (by assumption) (by first | exact nmn | assumption | simp) | exact rd_1h (by assumption) (by first | rfl | assumption) (by first | exact nmn | assumption | simp)) hS ?_) | (refine own_box rfl _ _ rfl (by rfl) hS ?_; clear hS; (try clear ww); intro bb ww hS) | (refine w_al rfl rfl hS ?_; clear hS; (try clear ww); intro bb ww hS) | (refine w_st rfl _ _ rfl (by rfl) (by rfl) (by repeat constructor) (by rfl) (by rfl) (by first | rfl | assumption) hS ?_; clear hS; (try clear ww); intro ww hS) | (refine w_s1 rfl _ _ rfl (by rfl) (by repeat constructor) (by first | exact .c | exact .t rfl) (by rfl) (by repeat constructor) hS ?_; clear hS; (try clear ww); intro ww hS))
      refine bodyPost_ret (v := .tuple #[.int .i64 e2, .int .i64 e3, .int .i64 e4, .int .i64 e5]) (by simp [results, Try.results48, go_sem]) rfl ⟨by rw [HN.out], hS.below⟩

end Go.Proofs.Ytgpabckipmhobaa
namespace Go.Proofs.Ytgpabckipmhobaa
open Go.RowKit

/-- A parameter, scaled to the size of a superscript. -/
def shQ (F : Fnt) (l n : Int) : Int := scl n (sizeOf' F (2 + l / 2))
def shU0 (F : Fnt) (l : Int) (s : Bool) (h : Int) : Int := if s = true then 0 else h - shQ F l F.supdrop
def shV0 (F : Fnt) (l : Int) (s : Bool) (d : Int) : Int := if s = true then 0 else d + shQ F l F.subdrop
def shX (F : Fnt) (l p : Int) : Int := scl (par F l F.xheight) p
def shUp (F : Fnt) (l : Int) (c : Bool) (u ud : Int) : Int := max (max u (par F l (raiseP F l c))) (ud + shX F l 25)
def shLow (F : Fnt) (l v sh : Int) : Int := max (max v (par F l F.sub1)) (sh - shX F l 80)
/-- Both: how the gap is kept; m: 80% of the height of small letters, r4: the least gap. -/
def shGap (u v ud sh m r4 : Int) : Int × Int :=
  if (u - ud) - (sh - v) < r4 then (if 0 < m - (u - ud) then (u + (m - (u - ud)), v + (r4 - ((u - ud) - (sh - v))) - (m - (u - ud))) else (u, v + (r4 - ((u - ud) - (sh - v))))) else (u, v)
def shiftP (F : Fnt) (l : Int) (c s : Bool) (b : Hd) (subs sups : List Hd) : Int × Int :=
  match subs, sups with
  | [], [] => (shU0 F l s b.h, shV0 F l s b.d)
  | [], a :: _ => (shUp F l c (shU0 F l s b.h) a.d, shV0 F l s b.d)
  | e :: _, [] => (shU0 F l s b.h, shLow F l (shV0 F l s b.d) e.h)
  | e :: _, a :: _ => shGap (shUp F l c (shU0 F l s b.h) a.d) (max (shV0 F l s b.d) (par F l F.sub2)) a.d e.h (shX F l 80) (4 * par F l F.rule)

theorem scl_in {n p : Int} (h0 : 0 ≤ n) (h1 : n ≤ 20000) (hp : 0 ≤ p ∧ p ≤ 100) : 0 ≤ scl n p ∧ scl n p ≤ n := by
  rw [scl_ok (by omega) hp.1 (by omega)]
  have hm : 0 ≤ n * p := Int.mul_nonneg h0 hp.1
  have hk : n * p ≤ n * 100 := Int.mul_le_mul_of_nonneg_left hp.2 h0
  unfold rdiv
  rw [if_pos hm]
  omega
/-- The parameters of a valid font that scripts use. -/
theorem prm_scr {F : Fnt} (h : ValidF F) : (0 ≤ F.xheight ∧ F.xheight ≤ 20000) ∧ (0 ≤ F.rule ∧ F.rule ≤ 20000) ∧ (0 ≤ F.sup1 ∧ F.sup1 ≤ 20000) ∧ (0 ≤ F.sup2 ∧ F.sup2 ≤ 20000) ∧ (0 ≤ F.sup3 ∧ F.sup3 ≤ 20000) ∧ (0 ≤ F.sub1 ∧ F.sub1 ≤ 20000) ∧ (0 ≤ F.sub2 ∧ F.sub2 ≤ 20000) ∧ (0 ≤ F.supdrop ∧ F.supdrop ≤ 20000) ∧ (0 ≤ F.subdrop ∧ F.subdrop ≤ 20000) := by
  have := h.2.2.1
  simp [prmOk, allIn] at this
  omega
/-- Cells of a font. -/
theorem fnt_cells {w : World} {k : Nat} {F : Fnt} (h : w.rangeAt k 0 F.cells) : w.rangeAt k 2 F.prm ∧ w.cell? ⟨k, 3, none⟩ = some (.int .i64 F.xheight) ∧ w.cell? ⟨k, 5, none⟩ = some (.int .i64 F.rule) ∧ w.cell? ⟨k, 13, none⟩ = some (.int .i64 F.sub1) ∧ w.cell? ⟨k, 14, none⟩ = some (.int .i64 F.sub2) ∧ w.cell? ⟨k, 15, none⟩ = some (.int .i64 F.supdrop) ∧ w.cell? ⟨k, 16, none⟩ = some (.int .i64 F.subdrop) := by
  refine ⟨fun j v hj => ?_, h 3 _ rfl, h 5 _ rfl, h 13 _ rfl, h 14 _ rfl, h 15 _ rfl, h 16 _ rfl⟩
  have := h (2 + j) v (by rw [Nat.add_comm]; exact hj)
  rwa [Nat.zero_add] at this
theorem box_cells0 {w : World} {k : Nat} {c0 c1 c2 c3 c6 c7 c8 c9 c10 : Value} {h d : Int} (hr : w.rangeAt k 0 [c0, c1, c2, c3, .int .i64 h, .int .i64 d, c6, c7, c8, c9, c10]) : w.cell? ⟨k, 4, none⟩ = some (.int .i64 h) ∧ w.cell? ⟨k, 5, none⟩ = some (.int .i64 d) := ⟨hr 4 _ rfl, hr 5 _ rfl⟩
theorem run_max3 {P : Program} (a b c : Int) (w : World) (ts : Array TypeId) (t : TypeId) : (Builtin.max_ ts t #[.int .i64 a, .int .i64 b, .int .i64 c]).run P w = .ok (.int .i64 (max (max a b) c)) w := by
  rw [run_max_int3]
  have e : (if c > (if b > a then b else a) then c else (if b > a then b else a)) = max (max a b) c := by
    repeat' split
    all_goals omega
  rw [e]
theorem run_max2 {P : Program} (a b : Int) (w : World) (ts : Array TypeId) (t : TypeId) : (Builtin.max_ ts t #[.int .i64 a, .int .i64 b]).run P w = .ok (.int .i64 (max a b)) w := by
  rw [run_max_int2]
  congr 2
  split <;> omega

end Go.Proofs.Ytgpabckipmhobaa
namespace Go.Proofs.Ytgpabckipmhobaa
open Go.RowKit

theorem range_lt0 {w : World} {k o : Nat} {xs : List Value} (h : w.rangeAt k o xs) (hl : xs.length = 11) : k < w.heap.size := by
  obtain ⟨v, hv⟩ : ∃ v, xs[0]? = some v := ⟨xs[0]'(by omega), List.getElem?_eq_getElem _⟩
  exact World.block_lt_of_cell? w _ (h 0 v hv)
theorem perm_row {α : Type} (x y r : α) (L : List α) : (x :: y :: r :: L).Perm ((x :: y :: L) ++ [r]) :=
  .cons _ (.cons _ (List.perm_append_comm (l₁ := [r]) (l₂ := L)))
theorem ext_E {E : E4} {n : Nat} {kids : List (Bx (n + 1))} (hE : E = extL (kids.map (·.1))) (x : Option Addr) (c : Nat) (w : World) (hk : RepL w (n + 1) x kids) (hm : ∀ k ∈ kids, Mild k.1) (hl : kids.length ≤ 1000000) :
    Calls Try.prog 48 #[.slice x kids.length c] w (Gives (.tuple #[.int .i64 E.l, .int .i64 E.r, .int .i64 E.h, .int .i64 E.d]) w) := by
  subst hE
  exact box_Extent_calls n kids x c w hk hm hl

/-- An extent that is not great. -/
def E4in (e : E4) : Prop := (-17179869184 ≤ e.r ∧ e.r ≤ 17179869184) ∧ (-17179869184 ≤ e.h ∧ e.h ≤ 17179869184) ∧ (-17179869184 ≤ e.d ∧ e.d ≤ 17179869184)
theorem ext1_in {a : Hd} (h : Mild a) : E4in (ext1 a) := by
  unfold Mild at h
  unfold E4in ext1
  simp only
  omega
theorem extStep_in {e : E4} {a : Hd} (he : E4in e) (h : Mild a) : E4in (extStep e a) := by
  unfold Mild at h
  unfold E4in at he
  unfold E4in extStep
  simp only
  omega
theorem ext_fold {l : List Hd} : ∀ {e : E4}, E4in e → (∀ a ∈ l, Mild a) → E4in (l.foldl extStep e) := by
  induction l with
  | nil => intro e he _; exact he
  | cons a l ih => intro e he h; exact ih (extStep_in he (h a (by simp))) (fun b hb => h b (by simp [hb]))
theorem extL_in {l : List Hd} (h : ∀ a ∈ l, Mild a) : E4in (extL l) := by
  cases l with
  | nil => unfold E4in extL; simp only; omega
  | cons a l => exact ext_fold (ext1_in (h a (by simp))) (fun b hb => h b (by simp [hb]))
theorem extL_i64 {l : List Hd} (h : ∀ a ∈ l, Mild a) : I64 (extL l).r ∧ I64 (extL l).h ∧ I64 (extL l).d := by
  have := extL_in h
  unfold E4in at this
  unfold I64
  omega

theorem scl_size {n p : Int} (h : -20000 ≤ n ∧ n ≤ 20000) (hp : 1 ≤ p ∧ p ≤ 1000) : -200000 ≤ scl n p ∧ scl n p ≤ 200000 := by
  rw [scl_ok (by omega) (by omega) (by omega)]
  have h1 : n * p ≤ 20000 * p := Int.mul_le_mul_of_nonneg_right h.2 (by omega)
  have h2 : -20000 * p ≤ n * p := Int.mul_le_mul_of_nonneg_right h.1 (by omega)
  unfold rdiv
  split <;> omega
/-- The italic correction of a valid box in a valid font is not great. -/
theorem ital_in {F : Fnt} {n : Nat} {b : Bx n} (hf : ValidF F) (hb : validB n b) : 0 ≤ italB F n b ∧ italB F n b ≤ 200000 := by
  cases hi : innerS n b with
  | none => unfold italB; rw [hi]; simp
  | some g =>
    obtain ⟨m, g⟩ := g
    rw [ital_scl hf hi hb]
    have := scl_size (metricsOk_bd (pick_metrics hf g.1.name)).2.2.2.1 (inner_size hi hb)
    omega
theorem shQ_in {F : Fnt} {l n : Int} (h : ValidF F) (h0 : 0 ≤ n) (h1 : n ≤ 20000) : 0 ≤ shQ F l n ∧ shQ F l n ≤ 20000 := by
  have := par_in (l := 2 + l / 2) h h0 h1
  unfold par at this
  unfold shQ
  omega
theorem shX_in {F : Fnt} {l p : Int} (h : ValidF F) (hp : 0 ≤ p ∧ p ≤ 100) : 0 ≤ shX F l p ∧ shX F l p ≤ 20000 := by
  have hx := prm_scr h
  have h1 := par_in (l := l) h hx.1.1 hx.1.2
  have h2 := scl_in h1.1 (by omega) hp
  unfold shX
  omega
theorem shift_in {F : Fnt} {l : Int} {c s : Bool} {b : Hd} {subs sups : List Hd} (hv : ValidF F) (hb : (-1073741824 ≤ b.h ∧ b.h ≤ 1073741824) ∧ (-1073741824 ≤ b.d ∧ b.d ≤ 1073741824)) (hs : ∀ a ∈ subs, -1073741824 ≤ a.h ∧ a.h ≤ 1073741824) (hu : ∀ a ∈ sups, -1073741824 ≤ a.d ∧ a.d ≤ 1073741824) :
    (-4294967296 ≤ (shiftP F l c s b subs sups).1 ∧ (shiftP F l c s b subs sups).1 ≤ 4294967296) ∧ (-4294967296 ≤ (shiftP F l c s b subs sups).2 ∧ (shiftP F l c s b subs sups).2 ≤ 4294967296) := by
  have hp := prm_scr hv
  have q1 := shQ_in (l := l) hv hp.2.2.2.2.2.2.2.1.1 hp.2.2.2.2.2.2.2.1.2
  have q2 := shQ_in (l := l) hv hp.2.2.2.2.2.2.2.2.1 hp.2.2.2.2.2.2.2.2.2
  have x1 := shX_in (l := l) (p := 25) hv (by omega)
  have x2 := shX_in (l := l) (p := 80) hv (by omega)
  have r0 := par_in (l := l) hv hp.2.1.1 hp.2.1.2
  have r1 := par_in (l := l) hv hp.2.2.1.1 hp.2.2.1.2
  have r2 := par_in (l := l) hv hp.2.2.2.1.1 hp.2.2.2.1.2
  have r3 := par_in (l := l) hv hp.2.2.2.2.1.1 hp.2.2.2.2.1.2
  have s1 := par_in (l := l) hv hp.2.2.2.2.2.1.1 hp.2.2.2.2.2.1.2
  have s2 := par_in (l := l) hv hp.2.2.2.2.2.2.1.1 hp.2.2.2.2.2.2.1.2
  have hr : 0 ≤ par F l (raiseP F l c) ∧ par F l (raiseP F l c) ≤ 20000 := by
    unfold raiseP
    repeat' split
    all_goals omega
  have u0 : -1073761824 ≤ shU0 F l s b.h ∧ shU0 F l s b.h ≤ 1073741824 := by unfold shU0; split <;> omega
  have v0 : -1073741824 ≤ shV0 F l s b.d ∧ shV0 F l s b.d ≤ 1073761824 := by unfold shV0; split <;> omega
  cases subs with
  | nil =>
    cases sups with
    | nil => unfold shiftP; simp only; omega
    | cons a sups =>
      have := hu a (by simp)
      unfold shiftP shUp
      simp only
      omega
  | cons e subs =>
    have h1 := hs e (by simp)
    cases sups with
    | nil => unfold shiftP shLow; simp only; omega
    | cons a sups =>
      have h2 := hu a (by simp)
      unfold shiftP shUp shGap
      simp only
      repeat' split
      all_goals (simp only; omega)

/-- The shifts; the kids; the box. -/
def scrUV (F : Fnt) (l : Int) (c : Bool) (n : Nat) (base : Bx (n + 1)) (subs sups : List (Bx (n + 1))) : Int × Int := shiftP F l c (innerS (n + 1) base).isSome base.1 (subs.map (·.1)) (sups.map (·.1))
def scrK (F : Fnt) (l : Int) (c : Bool) (n : Nat) (base : Bx (n + 1)) (subs sups : List (Bx (n + 1))) : List (Bx (n + 1)) :=
  atXY (n + 1) base 0 0 :: (subs.map (fun b => atXY (n + 1) b (base.1.w - italB F (n + 1) base) (-(scrUV F l c n base subs sups).2)) ++ sups.map (fun b => atXY (n + 1) b base.1.w (scrUV F l c n base subs sups).1))
def scrB (F : Fnt) (l : Int) (c : Bool) (n : Nat) (base : Bx (n + 1)) (subs sups : List (Bx (n + 1))) : Bx (n + 2) :=
  listB (n + 1) (extL ((scrK F l c n base subs sups).map (·.1))).r (extL ((scrK F l c n base subs sups).map (·.1))).h (extL ((scrK F l c n base subs sups).map (·.1))).d (scrK F l c n base subs sups)
/-- What is asked of a font, a style and boxes. -/
def ScrOk (F : Fnt) (l : Int) (n : Nat) (base : Bx (n + 1)) (subs sups : List (Bx (n + 1))) : Prop := ValidF F ∧ lvlOk l = true ∧ validB (n + 1) base ∧ (subs.length ≤ 1 ∧ ∀ b ∈ subs, validB (n + 1) b) ∧ (sups.length ≤ 1 ∧ ∀ b ∈ sups, validB (n + 1) b)
theorem vlens {n : Nat} {b : Bx (n + 1)} (h : validB (n + 1) b) : (-1073741824 ≤ b.1.w ∧ b.1.w ≤ 1073741824) ∧ (-1073741824 ≤ b.1.h ∧ b.1.h ≤ 1073741824) ∧ (-1073741824 ≤ b.1.d ∧ b.1.d ≤ 1073741824) := by
  obtain ⟨a, ks⟩ := b
  exact valid_lens h
theorem scrUV_in {F : Fnt} {l : Int} {c : Bool} {n : Nat} {base : Bx (n + 1)} {subs sups : List (Bx (n + 1))} (h : ScrOk F l n base subs sups) :
    (-4294967296 ≤ (scrUV F l c n base subs sups).1 ∧ (scrUV F l c n base subs sups).1 ≤ 4294967296) ∧ (-4294967296 ≤ (scrUV F l c n base subs sups).2 ∧ (scrUV F l c n base subs sups).2 ≤ 4294967296) :=
  shift_in h.1 (vlens h.2.2.1).2 (fun a ha => by
    obtain ⟨b, hb, rfl⟩ := List.mem_map.1 ha
    exact (vlens (h.2.2.2.1.2 b hb)).2.1) (fun a ha => by
    obtain ⟨b, hb, rfl⟩ := List.mem_map.1 ha
    exact (vlens (h.2.2.2.2.2 b hb)).2.2)
theorem scrK_mild {F : Fnt} {l : Int} {c : Bool} {n : Nat} {base : Bx (n + 1)} {subs sups : List (Bx (n + 1))} (h : ScrOk F l n base subs sups) : ∀ k ∈ scrK F l c n base subs sups, Mild k.1 := by
  have huv := scrUV_in (c := c) h
  have hi := ital_in h.1 h.2.2.1
  have hb := vlens h.2.2.1
  intro k hk
  simp only [scrK, List.mem_cons, List.mem_append, List.mem_map] at hk
  rcases hk with rfl | ⟨b, hm, rfl⟩ | ⟨b, hm, rfl⟩
  · unfold Mild atXY; simp only; omega
  · have := vlens (h.2.2.2.1.2 b hm)
    unfold Mild atXY; simp only; omega
  · have := vlens (h.2.2.2.2.2 b hm)
    unfold Mild atXY; simp only; omega

end Go.Proofs.Ytgpabckipmhobaa
namespace Go.Proofs.Ytgpabckipmhobaa
open Go.RowKit

attribute [local irreducible] wpQuiet wpG wpP wpK wpList Code.wp Calls

/-- At most one box, which is valid. -/
def oneV (n : Nat) (l : List (Bx n)) : Prop := l.length ≤ 1 ∧ ∀ b ∈ l, validB n b
theorem script_valid_calls (n : Nat) (l : List (Bx n)) (x : Option Addr) (c : Nat) (w : World) (hl : RepL w n x l) (v : Bool) (hv : v = true ↔ oneV n l) : Calls Try.prog 45 #[.slice x l.length c] w (Gives (.bool v) w) := by
  match l with
  | [] =>
    obtain rfl : v = true := hv.2 ⟨Nat.zero_le _, fun b hb => by cases hb⟩
    exact script_valid_0 x c w
  | [b] =>
    obtain ⟨k, o, css, rfl, hr, hp⟩ := hl 0 b rfl
    rw [Nat.zero_mul, Nat.add_zero] at hr
    exact script_valid_1 n b css k o c w hr hp v (hv.trans ⟨fun h => h.2 b (by simp), fun h => ⟨Nat.le_refl _, fun b' hb => by obtain rfl := List.mem_singleton.1 hb; exact h⟩⟩)
  | a :: b :: l =>
    obtain rfl : v = false := by
      cases v
      · rfl
      · have := (hv.1 rfl).1
        simp at this
    exact script_valid_more x _ c w (by simp)

set_option maxHeartbeats 8000000 in
set_option maxRecDepth 100000 in
theorem scrMake_bad0 (F : Fnt) (l : Int) (c : Bool) (n m : Nat) (base : Bx (n + 1)) (subs sups : List (Bx (n + 1))) (cs : List Value) (sx ux : Option Addr) (sc uc : Nat) (w : World) (hF : FntOk w F) (hr : Rep w (n + 1) base cs) (_hs : RepL w (n + 1) sx subs) (_hu : RepL w (n + 1) ux sups) (hx : PctOk F l 0 1) : Calls Try.prog 23 #[F.val, .agg #[.int .i64 l, .bool c], .agg cs.toArray, .slice sx subs.length sc, .slice ux sups.length uc] w (GivesBE (m + 1) (zeroB m) 1 w) := by
  have HPc := Lib.hid (fun w' (h : Below w.heap.size w w') => style_Percent_calls F l 0 1 c w' (hF.below h) hx)
  obtain ⟨c0, c1, c2, c3, c4, c5, c6, c7, c8, c9, c10, rfl⟩ := eleven hr.len
  clear hr _hs _hu hF hx   
  go_enter Try.func23, Try.ntmps23
  have hS := own_start w
  go_wp2_with (first | (refine own_unguard (by rfl) ?_) | (go_at_call 44; refine own_calls hS (HPc.out _ hS.below) ?_; clear hS; (try clear ww); intro ww hS) | (refine w_ld rfl _ rfl (by rfl) (by first | exact rd_1 (by repeat constructor) (by first | rfl | assumption) | exact rd_w (by repeat constructor) (by rfl) | exact rd_o (by assumption) (by rfl) (by first | exact nmn | assumption | simp) | exact rd_h (by assumption) (by rfl) (by first | exact nmn | assumption | simp) | exact rd_1o (by assumption) (by first | exact nmn | assumption | simp) | exact rd_1h (by assumption) (by first | rfl | assumption) (by first | exact nmn | assumption | simp)) hS ?_) | (refine own_box rfl _ _ rfl (by rfl) hS ?_; clear hS; (try clear ww); intro bb ww hS) | (refine w_al rfl rfl hS ?_; clear hS; (try clear ww); intro bb ww hS) | (refine w_st rfl _ _ rfl (by rfl) (by rfl) (by repeat constructor) (by rfl) (by rfl) (by first | rfl | assumption) hS ?_; clear hS; (try clear ww); intro ww hS) | (refine w_s1 rfl _ _ rfl (by rfl) (by repeat constructor) (by first | exact .c | exact .t rfl) (by rfl) (by repeat constructor) hS ?_; clear hS; (try clear ww); intro ww hS))
  have hc := (hS.get at0).cell
  refine bodyPost_ret (v := .tuple #[.agg #[.int .i64 0, .string ⟨#[]⟩, .int .i64 0, .int .i64 0, .int .i64 0, .int .i64 0, .int .i64 0, .int .i64 0, .slice none 0 0, .int .i64 0, .slice none 0 0], .int .i64 1]) (by simp [results, Try.results23, go_sem, hc]) rfl ⟨_, rfl, rep_zero m _, hS.below⟩

set_option maxHeartbeats 8000000 in
set_option maxRecDepth 100000 in
theorem scrMake_bad1 (F : Fnt) (l : Int) (c : Bool) (n m : Nat) (base : Bx (n + 1)) (subs sups : List (Bx (n + 1))) (cs : List Value) (sx ux : Option Addr) (sc uc : Nat) (w : World) (hF : FntOk w F) (hr : Rep w (n + 1) base cs) (_hs : RepL w (n + 1) sx subs) (_hu : RepL w (n + 1) ux sups) (p : Int) (hx : PctOk F l p 0) (hb : ¬ validB (n + 1) base) : Calls Try.prog 23 #[F.val, .agg #[.int .i64 l, .bool c], .agg cs.toArray, .slice sx subs.length sc, .slice ux sups.length uc] w (GivesBE (m + 1) (zeroB m) 1 w) := by
  have HPc := Lib.hid (fun w' (h : Below w.heap.size w w') => style_Percent_calls F l p 0 c w' (hF.below h) hx)
  have HVb := Lib.hid (fun w' (h : Below w.heap.size w w') => box_Valid_calls (n + 1) base cs w' (hr.step h) hr.wide _ (iff_f hb))
  obtain ⟨c0, c1, c2, c3, c4, c5, c6, c7, c8, c9, c10, rfl⟩ := eleven hr.len
  clear hr _hs _hu hF hx hb  
  go_enter Try.func23, Try.ntmps23
  have hS := own_start w
  go_wp2_with (first | (refine own_unguard (by rfl) ?_) | (go_at_call 44; refine own_calls hS (HPc.out _ hS.below) ?_; clear hS; (try clear ww); intro ww hS) | (go_at_call 39; refine own_calls hS (HVb.out _ hS.below) ?_; clear hS; (try clear ww); intro ww hS) | (refine w_ld rfl _ rfl (by rfl) (by first | exact rd_1 (by repeat constructor) (by first | rfl | assumption) | exact rd_w (by repeat constructor) (by rfl) | exact rd_o (by assumption) (by rfl) (by first | exact nmn | assumption | simp) | exact rd_h (by assumption) (by rfl) (by first | exact nmn | assumption | simp) | exact rd_1o (by assumption) (by first | exact nmn | assumption | simp) | exact rd_1h (by assumption) (by first | rfl | assumption) (by first | exact nmn | assumption | simp)) hS ?_) | (refine own_box rfl _ _ rfl (by rfl) hS ?_; clear hS; (try clear ww); intro bb ww hS) | (refine w_al rfl rfl hS ?_; clear hS; (try clear ww); intro bb ww hS) | (refine w_st rfl _ _ rfl (by rfl) (by rfl) (by repeat constructor) (by rfl) (by rfl) (by first | rfl | assumption) hS ?_; clear hS; (try clear ww); intro ww hS) | (refine w_s1 rfl _ _ rfl (by rfl) (by repeat constructor) (by first | exact .c | exact .t rfl) (by rfl) (by repeat constructor) hS ?_; clear hS; (try clear ww); intro ww hS))
  have hc := (hS.get at0).cell
  refine bodyPost_ret (v := .tuple #[.agg #[.int .i64 0, .string ⟨#[]⟩, .int .i64 0, .int .i64 0, .int .i64 0, .int .i64 0, .int .i64 0, .int .i64 0, .slice none 0 0, .int .i64 0, .slice none 0 0], .int .i64 1]) (by simp [results, Try.results23, go_sem, hc]) rfl ⟨_, rfl, rep_zero m _, hS.below⟩

set_option maxHeartbeats 8000000 in
set_option maxRecDepth 100000 in
theorem scrMake_bad2 (F : Fnt) (l : Int) (c : Bool) (n m : Nat) (base : Bx (n + 1)) (subs sups : List (Bx (n + 1))) (cs : List Value) (sx ux : Option Addr) (sc uc : Nat) (w : World) (hF : FntOk w F) (hr : Rep w (n + 1) base cs) (hs : RepL w (n + 1) sx subs) (_hu : RepL w (n + 1) ux sups) (p : Int) (hx : PctOk F l p 0) (hb : validB (n + 1) base) (h1 : ¬ oneV (n + 1) subs) : Calls Try.prog 23 #[F.val, .agg #[.int .i64 l, .bool c], .agg cs.toArray, .slice sx subs.length sc, .slice ux sups.length uc] w (GivesBE (m + 1) (zeroB m) 1 w) := by
  have HPc := Lib.hid (fun w' (h : Below w.heap.size w w') => style_Percent_calls F l p 0 c w' (hF.below h) hx)
  have HVb := Lib.hid (fun w' (h : Below w.heap.size w w') => box_Valid_calls (n + 1) base cs w' (hr.step h) hr.wide _ (iff_t hb))
  have HVs := Lib.hid (fun w' (h : Below w.heap.size w w') => script_valid_calls (n + 1) subs sx sc w' (hs.step h) _ (iff_f h1))
  obtain ⟨c0, c1, c2, c3, c4, c5, c6, c7, c8, c9, c10, rfl⟩ := eleven hr.len
  clear hr hs _hu hF hx hb h1 
  go_enter Try.func23, Try.ntmps23
  have hS := own_start w
  go_wp2_with (first | (refine own_unguard (by rfl) ?_) | (go_at_call 44; refine own_calls hS (HPc.out _ hS.below) ?_; clear hS; (try clear ww); intro ww hS) | (go_at_call 39; refine own_calls hS (HVb.out _ hS.below) ?_; clear hS; (try clear ww); intro ww hS) | (go_at_call 45; refine own_calls hS (by first | exact HVs.out _ hS.below) ?_; clear hS; (try clear ww); intro ww hS) | (refine w_ld rfl _ rfl (by rfl) (by first | exact rd_1 (by repeat constructor) (by first | rfl | assumption) | exact rd_w (by repeat constructor) (by rfl) | exact rd_o (by assumption) (by rfl) (by first | exact nmn | assumption | simp) | exact rd_h (by assumption) (by rfl) (by first | exact nmn | assumption | simp) | exact rd_1o (by assumption) (by first | exact nmn | assumption | simp) | exact rd_1h (by assumption) (by first | rfl | assumption) (by first | exact nmn | assumption | simp)) hS ?_) | (refine own_box rfl _ _ rfl (by rfl) hS ?_; clear hS; (try clear ww); intro bb ww hS) | (refine w_al rfl rfl hS ?_; clear hS; (try clear ww); intro bb ww hS) | (refine w_st rfl _ _ rfl (by rfl) (by rfl) (by repeat constructor) (by rfl) (by rfl) (by first | rfl | assumption) hS ?_; clear hS; (try clear ww); intro ww hS) | (refine w_s1 rfl _ _ rfl (by rfl) (by repeat constructor) (by first | exact .c | exact .t rfl) (by rfl) (by repeat constructor) hS ?_; clear hS; (try clear ww); intro ww hS))
  have hc := (hS.get at0).cell
  refine bodyPost_ret (v := .tuple #[.agg #[.int .i64 0, .string ⟨#[]⟩, .int .i64 0, .int .i64 0, .int .i64 0, .int .i64 0, .int .i64 0, .int .i64 0, .slice none 0 0, .int .i64 0, .slice none 0 0], .int .i64 1]) (by simp [results, Try.results23, go_sem, hc]) rfl ⟨_, rfl, rep_zero m _, hS.below⟩

set_option maxHeartbeats 8000000 in
set_option maxRecDepth 100000 in
theorem scrMake_bad3 (F : Fnt) (l : Int) (c : Bool) (n m : Nat) (base : Bx (n + 1)) (subs sups : List (Bx (n + 1))) (cs : List Value) (sx ux : Option Addr) (sc uc : Nat) (w : World) (hF : FntOk w F) (hr : Rep w (n + 1) base cs) (hs : RepL w (n + 1) sx subs) (hu : RepL w (n + 1) ux sups) (p : Int) (hx : PctOk F l p 0) (hb : validB (n + 1) base) (h1 : oneV (n + 1) subs) (h2 : ¬ oneV (n + 1) sups) : Calls Try.prog 23 #[F.val, .agg #[.int .i64 l, .bool c], .agg cs.toArray, .slice sx subs.length sc, .slice ux sups.length uc] w (GivesBE (m + 1) (zeroB m) 1 w) := by
  have HPc := Lib.hid (fun w' (h : Below w.heap.size w w') => style_Percent_calls F l p 0 c w' (hF.below h) hx)
  have HVb := Lib.hid (fun w' (h : Below w.heap.size w w') => box_Valid_calls (n + 1) base cs w' (hr.step h) hr.wide _ (iff_t hb))
  have HVs := Lib.hid (fun w' (h : Below w.heap.size w w') => script_valid_calls (n + 1) subs sx sc w' (hs.step h) _ (iff_t h1))
  have HVu := Lib.hid (fun w' (h : Below w.heap.size w w') => script_valid_calls (n + 1) sups ux uc w' (hu.step h) _ (iff_f h2))
  obtain ⟨c0, c1, c2, c3, c4, c5, c6, c7, c8, c9, c10, rfl⟩ := eleven hr.len
  clear hr hs hu hF hx hb h1 h2
  go_enter Try.func23, Try.ntmps23
  have hS := own_start w
  go_wp2_with (first | (refine own_unguard (by rfl) ?_) | (go_at_call 44; refine own_calls hS (HPc.out _ hS.below) ?_; clear hS; (try clear ww); intro ww hS) | (go_at_call 39; refine own_calls hS (HVb.out _ hS.below) ?_; clear hS; (try clear ww); intro ww hS) | (go_at_call 45; refine own_calls hS (by first | exact HVs.out _ hS.below | exact HVu.out _ hS.below) ?_; clear hS; (try clear ww); intro ww hS) | (refine w_ld rfl _ rfl (by rfl) (by first | exact rd_1 (by repeat constructor) (by first | rfl | assumption) | exact rd_w (by repeat constructor) (by rfl) | exact rd_o (by assumption) (by rfl) (by first | exact nmn | assumption | simp) | exact rd_h (by assumption) (by rfl) (by first | exact nmn | assumption | simp) | exact rd_1o (by assumption) (by first | exact nmn | assumption | simp) | exact rd_1h (by assumption) (by first | rfl | assumption) (by first | exact nmn | assumption | simp)) hS ?_) | (refine own_box rfl _ _ rfl (by rfl) hS ?_; clear hS; (try clear ww); intro bb ww hS) | (refine w_al rfl rfl hS ?_; clear hS; (try clear ww); intro bb ww hS) | (refine w_st rfl _ _ rfl (by rfl) (by rfl) (by repeat constructor) (by rfl) (by rfl) (by first | rfl | assumption) hS ?_; clear hS; (try clear ww); intro ww hS) | (refine w_s1 rfl _ _ rfl (by rfl) (by repeat constructor) (by first | exact .c | exact .t rfl) (by rfl) (by repeat constructor) hS ?_; clear hS; (try clear ww); intro ww hS))
  have hc := (hS.get at0).cell
  refine bodyPost_ret (v := .tuple #[.agg #[.int .i64 0, .string ⟨#[]⟩, .int .i64 0, .int .i64 0, .int .i64 0, .int .i64 0, .int .i64 0, .int .i64 0, .slice none 0 0, .int .i64 0, .slice none 0 0], .int .i64 1]) (by simp [results, Try.results23, go_sem, hc]) rfl ⟨_, rfl, rep_zero m _, hS.below⟩

theorem scrMake_bad (F : Fnt) (l : Int) (c : Bool) (n m : Nat) (base : Bx (n + 1)) (subs sups : List (Bx (n + 1))) (cs : List Value) (sx ux : Option Addr) (sc uc : Nat) (w : World) (hF : FntOk w F) (hr : Rep w (n + 1) base cs) (hs : RepL w (n + 1) sx subs) (hu : RepL w (n + 1) ux sups) (hb : ¬ ScrOk F l n base subs sups) : Calls Try.prog 23 #[F.val, .agg #[.int .i64 l, .bool c], .agg cs.toArray, .slice sx subs.length sc, .slice ux sups.length uc] w (GivesBE (m + 1) (zeroB m) 1 w) := by
  cases hl : lvlOk l
  · exact scrMake_bad0 F l c n m base subs sups cs sx ux sc uc w hF hr hs hu ⟨fun h => absurd (hl.symm.trans h.1) (by simp), fun _ => ⟨rfl, rfl⟩⟩
  · by_cases hv : ValidF F
    · have hx : PctOk F l (sizeOf' F l) 0 := ⟨fun _ => ⟨rfl, rfl⟩, fun h => by
        rcases h with h | h
        · rw [hl] at h; cases h
        · exact absurd hv h⟩
      by_cases h0 : validB (n + 1) base
      · by_cases h1 : oneV (n + 1) subs
        · by_cases h2 : oneV (n + 1) sups
          · exact absurd ⟨hv, hl, h0, h1, h2⟩ hb
          · exact scrMake_bad3 F l c n m base subs sups cs sx ux sc uc w hF hr hs hu _ hx h0 h1 h2
        · exact scrMake_bad2 F l c n m base subs sups cs sx ux sc uc w hF hr hs hu _ hx h0 h1
      · exact scrMake_bad1 F l c n m base subs sups cs sx ux sc uc w hF hr hs hu _ hx h0
    · exact scrMake_bad0 F l c n m base subs sups cs sx ux sc uc w hF hr hs hu ⟨fun h => absurd h.2 hv, fun _ => ⟨rfl, rfl⟩⟩

end Go.Proofs.Ytgpabckipmhobaa
