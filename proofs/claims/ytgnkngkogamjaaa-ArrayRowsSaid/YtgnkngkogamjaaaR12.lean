/- Texts Lin, Cey. -/
import Derived.Test.YtgnkngkogamjaaaR11
import Derived.Test.YtgnkngkogamjaaaR05
namespace Go.Proofs.Ytgnkngkogamjaaa
open Go.RowKit
attribute [local irreducible] wpQuiet wpG wpP wpK wpList Code.wp Calls
attribute [local go_sem] Oper.semAt_some
instance rt_line : RowTy Try.prog 58 2 := ⟨⟨_, Try.underlying58, rfl⟩, by kernel_rfl⟩
instance ot_lines : OneTy Try.prog 55 := ⟨⟨_, Try.underlying55, rfl⟩, by kernel_rfl⟩
instance zt_lines : ZeroTy Try.prog 55 [.slice none 0 0] := ⟨.slice none 0 0, by kernel_rfl, rfl⟩
theorem el_line : ElTy Try.prog 55 58 2 16 := ElTy.mk' (.agg #[.int .i64 0, .int .i64 0]) Try.underlying55 (by kernel_rfl) rfl

def lineC (p : Int × Int) : List Value := [.int .i64 p.1, .int .i64 p.2]
/-- The greatest of a row. -/
def rowM (b : Int) (C : Nat) (f : Nat → Int) (r : Nat) : Int := mxs b ((List.range C).map fun j => f (r * C + j))
theorem own_fresh {w W : World} {L : List (Nat × List Value)} {mb : Nat} {cs : List Value} (hA : Own [] w L W) (hm : Has w mb cs) : mb ∉ L.map (·.1) := fun h => by
  obtain ⟨y, hy, he⟩ := List.mem_map.1 h
  have := hm.lt
  rcases hA.ge y hy with h | h
  · cases h
  · omega
theorem loop_keeps {D : List Nat} {V W w : World} {L L' : List (Nat × List Value)} {l : Nat} (hA : Own D V L W) (hS : Own (L.map (·.1)) W L' w) (h : ∃ r, W.heap[l]? = some (.loop r)) : ∃ r, w.heap[l]? = some (.loop r) := by
  obtain ⟨r, h⟩ := h
  exact ⟨r, (hS.block l (Array.getElem?_eq_some_iff.1 h).1 (hA.notCells h rfl)).trans h⟩
theorem mem6 {α : Type} {x a b c d e f : α} {l : List α} (h : x ∈ l) : x ∈ a :: b :: c :: d :: e :: f :: l := by simp [h]
theorem fin_flat (R : Nat) (f : Nat → List Value) : (List.finRange R).flatMap (fun x => f x.1) = (List.range R).flatMap f := by
  have h : (List.finRange R).map (fun x => f x.1) = (List.range R).map f := by
    apply List.ext_getElem?
    intro i
    by_cases h : i < R
    · rw [List.getElem?_map, List.getElem?_map, List.getElem?_eq_getElem (by simpa using h), List.getElem?_eq_getElem (by simpa using h)]
      simp
    · rw [List.getElem?_eq_none (by simpa using h), List.getElem?_eq_none (by simpa using h)]
  rw [List.flatMap_def, List.flatMap_def, h]
theorem row_cells {C r : Nat} (f : Nat → Int) : (List.finRange C).flatMap (fun x => [Value.int .i64 (f (r * C + x.1))]) = ((List.range C).map fun j => f (r * C + j)).flatMap intCells := fin_cells (fun j => f (r * C + j))
theorem greatest_row {C r : Nat} {b : Int} {f : Nat → Int} {y : Option Addr} {cp : Nat} {w : World} (hr : RowAt w y 1 intCells ((List.range C).map fun j => f (r * C + j))) (hC : C ≤ 256) : Calls Try.prog 45 #[.int .i64 b, .slice y C cp] w (Gives (.int .i64 (rowM b C f r)) w) := by
  have h := greatest_calls b y cp _ w hr (by simp; omega)
  rw [List.length_map, List.length_range] at h
  exact h

set_option maxHeartbeats 16000000 in
set_option maxRecDepth 100000 in
theorem lines_calls (R C N : Nat) (ks : List El) (junk : List Value) (mb cp : Nat) (q : Int) (ht dt : Nat → Int) (w : World) (hm : Has w mb (ks.flatMap elC ++ junk)) (hN : N = R * C) (hkl : ks.length = N) (hC : 1 ≤ C) (hC' : C ≤ 16) (hRC : N ≤ 256)
    (hht : ∀ i e, ks[i]? = some e → ht i = e.1.h) (hdt : ∀ i e, ks[i]? = some e → dt i = e.1.d) :
    Calls Try.prog 23 #[.slice (some ⟨mb, 0, none⟩) N cp, .int .i64 C, .int .i64 q] w (fun e w' => ∃ y c X, e = .returned (.slice y R c) ∧ Sl 2 R (.slice y R c) (((List.range R).map fun r => (rowM (scl q 70) C ht r, rowM (scl q 30) C dt r)).flatMap lineC) X ∧ Own [] w X w') := by
  have hR256 : R ≤ 256 := by
    have := Nat.le_mul_of_pos_right R (Nat.lt_of_lt_of_le Nat.zero_lt_one hC)
    omega
  have HM := Lib.hid hm
  have HN := Lib.hid hN
  have HHt := Lib.hid hht
  have HDt := Lib.hid hdt
  clear hN hm hht hdt
  have tokhb : True := trivial
  have tokxb : True := trivial
  have hS := own_start w
  refine calls_of_marks Try.func23 rfl ?_
  simp only [Try.ntmps23, List.size_toArray, List.length_cons, List.length_nil, Nat.reduceAdd, Nat.reduceSub, Array.replicate_succ, Array.replicate_zero, List.push_toArray, List.append_toArray, List.nil_append, List.cons_append]
  go_wp2_with (first | (refine own_unguard (by rfl) ?_) | (refine own_box1 (v := .slice (some ⟨mb, 0, none⟩) N cp) rfl _ _ rfl rfl rfl hS ?_; clear hS; (try clear ww); intro cb ww hS) | (refine own_box1 (v := .int .i64 C) rfl _ _ rfl rfl rfl hS ?_; clear hS; (try clear ww); intro nb ww hS) | (refine own_box1 (v := .int .i64 q) rfl _ _ rfl rfl rfl hS ?_; clear hS; (try clear ww); intro qb ww hS) | (refine own_alloc rfl _ rfl hS zt_lines ?_; clear hS; (try clear ww); intro lb ww hS) | (go_at_call 26; refine Calls.mono (every_calls _ _ _ _) ?_; rintro e w1 ⟨k0, k1, k2, rfl, hE⟩; have HQ := Lib.hid (And.intro hS hE); have hS1 := hS.step hE.below; clear hS hE; have hS := hS1; clear hS1) | (refine w_ld rfl _ rfl (by rfl) (by first | exact rd_1 (by repeat constructor) (by first | rfl | assumption) | exact rd_w (by repeat constructor) (by rfl) | exact rd_o (by assumption) (by rfl) (by first | exact nmn | assumption | simp) | exact rd_h (by assumption) (by rfl) (by first | exact nmn | assumption | simp) | exact rd_1o (by assumption) (by first | exact nmn | assumption | simp) | exact rd_1h (by assumption) (by first | rfl | assumption) (by first | exact nmn | assumption | simp)) hS ?_) | (refine own_box rfl _ _ rfl (by rfl) hS ?_; clear hS; (try clear ww); intro bb ww hS) | (refine w_al rfl rfl hS ?_; clear hS; (try clear ww); intro bb ww hS) | (refine w_st rfl _ _ rfl (by rfl) (by rfl) (by repeat constructor) (by rfl) (by rfl) (by first | rfl | assumption) hS ?_; clear hS; (try clear ww); intro ww hS) | (refine w_s1 rfl _ _ rfl (by rfl) (by repeat constructor) (by first | exact .c | exact .t rfl) (by rfl) (by repeat constructor) hS ?_; clear hS; (try clear ww); intro ww hS))
  refine wp_range (α := Fin R) (KB := [k2, k1, k0]) (Rl := fun pre L' => ∃ v X, Sl 2 pre.length v (pre.flatMap fun x => lineC (rowM (scl q 70) C ht x.1, rowM (scl q 30) C dt x.1)) X ∧ L' = (lb, [v]) :: (qb, [.int .i64 q]) :: (nb, [.int .i64 C]) :: (cb, [.slice (some ⟨mb, 0, none⟩) N cp]) :: X) (Rx := fun _ _ _ => False) hS ⟨_, [], sl_nil 2, rfl⟩ (own_off HQ.out.1 HQ.out.2) (fun k hk => own_keys HQ.out.2 k hk) rfl (enters_of Try.func46 (by kernel_rfl) rfl)
    (every_stops k0 k1 k2 0 N C R 8 w1 (HQ.out.2.get at2) (HQ.out.2.get at1) (HQ.out.2.get at0) hC (fun j => by rw [HN.out]; exact every_rounds (by omega) j) (by omega) (by decide)) (fun _ => rfl) ?a1 ?assign ?body ?done ?stop
  case assign =>
    intro l x W K hK
    gi_wp2
    exact hK
  case stop =>
    rintro M c' pre W L' hM _ h _
    exact h.elim
  case done =>
    rintro M xs W L' hM rfl hS' ⟨v, X, hX, rfl⟩ hd
    have hS1 := hS.chainR hS'
    have hM1 : Marks w W [{ target := .collected M, args := #[] }] := .cons (Nat.le_trans hS.size hM) hd (fun d h => by cases h) .nil
    obtain ⟨y, c, rfl⟩ := hX.slice
    rw [List.length_finRange] at hX
    have hxs : (List.finRange R).flatMap (fun x => lineC (rowM (scl q 70) C ht x.1, rowM (scl q 30) C dt x.1)) = ((List.range R).map fun r => (rowM (scl q 70) C ht r, rowM (scl q 30) C dt r)).flatMap lineC := by
      rw [List.flatMap_map]
      have := fin_flat R (fun r => lineC (rowM (scl q 70) C ht r, rowM (scl q 30) C dt r))
      exact this
    rw [hxs] at hX
    have HX := Lib.hid hX
    have HS1 := Lib.hid hS1
    have HM1 := Lib.hid hM1
    obtain ⟨D4, HD4, hS⟩ := hS1.rebaseN
    clear hX hxs hS' hd hS1 hM1
    go_wp2_with (first | (refine own_unguard (by rfl) ?_) | (refine w_ld rfl _ rfl (by rfl) (by first | exact rd_1 (by repeat constructor) (by first | rfl | assumption) | exact rd_w (by repeat constructor) (by rfl) | exact rd_o (by assumption) (by rfl) (by first | exact nmn | assumption | simp) | exact rd_h (by assumption) (by rfl) (by first | exact nmn | assumption | simp) | exact rd_1o (by assumption) (by first | exact nmn | assumption | simp) | exact rd_1h (by assumption) (by first | rfl | assumption) (by first | exact nmn | assumption | simp)) hS ?_) | (refine own_box rfl _ _ rfl (by rfl) hS ?_; clear hS; (try clear ww); intro bb ww hS) | (refine w_al rfl rfl hS ?_; clear hS; (try clear ww); intro bb ww hS) | (refine w_st rfl _ _ rfl (by rfl) (by rfl) (by repeat constructor) (by rfl) (by rfl) (by first | rfl | assumption) hS ?_; clear hS; (try clear ww); intro ww hS) | (refine w_s1 rfl _ _ rfl (by rfl) (by repeat constructor) (by first | exact .c | exact .t rfl) (by rfl) (by repeat constructor) hS ?_; clear hS; (try clear ww); intro ww hS))
    rw [HD4.out] at hS
    refine leaves_marks (D := []) (W := w) (fun w' hS' => ?_) _ _ (HS1.out.chainR hS) (HM1.out.own HS1.out hS)
    exact ⟨.slice y R c, by simp [results, Try.results23, go_sem], y, c, X, rfl, HX.out, hS'.forget (.cons _ (.cons _ (.cons _ (.cons _ (List.Sublist.refl _)))))⟩
  case body =>
    rintro l pre x W L' hl hr hS' ⟨v, X, hX, rfl⟩ hlen
    have hG := hS.chainR hS'
    obtain ⟨D2, HD2, hS2⟩ := hG.rebaseN
    obtain ⟨r, hr_⟩ : ∃ r : Nat, r = x.1 := ⟨_, rfl⟩
    have hrR : r < R := by rw [hr_]; exact x.2
    obtain ⟨f, hf⟩ : ∃ f : Nat, f = r * C := ⟨_, rfl⟩
    have hcast : ((0 : Nat) : Int) + (x.1 : Int) * (C : Int) = (f : Int) := by rw [hf, hr_]; push_cast; omega
    have hcast2 : (0 : Int) + (x.1 : Int) * (C : Int) = (f : Int) := by rw [hf, hr_]; push_cast; omega
    have hcast3 : (x.1 : Int) * (C : Int) = (f : Int) := by rw [hf, hr_]; push_cast; omega
    have hfN : f + C ≤ N := by
      have := Nat.mul_le_mul_right C (Nat.succ_le_of_lt hrR)
      rw [HN.out, hf]
      rw [Nat.succ_mul] at this
      exact this
    have HX := Lib.hid hX
    have HG := Lib.hid hG
    have HS0 := Lib.hid hS
    have HR := Lib.hid hr_
    have HF := Lib.hid hf
    have HRec := Lib.hid hr
    clear hX hG hS hS' hr_ hf hr
    have hS := hS2
    clear hS2
    simp only [hcast3]
    have i1 : IntKind.i64.wrap ((f : Int) + (C : Int)) = ((f + C : Nat) : Int) := by rw [IntWalk.i64_in _ (by omega)]; push_cast; rfl
    clear hcast hcast2 hcast3
    refine wpIn_block ?_
    refine wpIn_seq ?_
    refine region_round (by repeat (first | exact roundPostO_stays | refine then_stays ?_ | refine block_stays ?_)) (by kernel_rfl) ?_
    go_wp2_with (first | (refine own_unguard (by rfl) ?_) | (have _t := tokhb; refine own_alloc rfl _ rfl hS zt_ints ?_; clear hS tokhb; (try clear ww); intro hb ww hS) | (have _t := tokxb; refine own_alloc rfl _ rfl hS zt_ints ?_; clear hS tokxb; (try clear ww); intro xb ww hS) | (refine w_ld rfl _ rfl (by rfl) (by first | exact rd_1 (by repeat constructor) (by first | rfl | assumption) | exact rd_w (by repeat constructor) (by rfl) | exact rd_o (by assumption) (by rfl) (by first | exact nmn | assumption | simp) | exact rd_h (by assumption) (by rfl) (by first | exact nmn | assumption | simp) | exact rd_1o (by assumption) (by first | exact nmn | assumption | simp) | exact rd_1h (by assumption) (by first | rfl | assumption) (by first | exact nmn | assumption | simp)) hS ?_) | (refine own_box rfl _ _ rfl (by rfl) hS ?_; clear hS; (try clear ww); intro bb ww hS) | (refine w_al rfl rfl hS ?_; clear hS; (try clear ww); intro bb ww hS) | (refine w_st rfl _ _ rfl (by rfl) (by rfl) (by repeat constructor) (by rfl) (by rfl) (by first | rfl | assumption) hS ?_; clear hS; (try clear ww); intro ww hS) | (refine w_s1 rfl _ _ rfl (by rfl) (by repeat constructor) (by first | exact .c | exact .t rfl) (by rfl) (by repeat constructor) hS ?_; clear hS; (try clear ww); intro ww hS))
    refine wpIn_seq ?_
    refine wpIn_seq ?_
    refine region_round (by repeat (first | exact roundPostO_stays | refine then_stays ?_ | refine block_stays ?_)) (by kernel_rfl) ?_
    go_wp2_with (first | (refine own_unguard (by rfl) ?_) | (go_at_call 26; refine Calls.mono (every_calls _ _ _ _) ?_; rintro e w1 ⟨k3, k4, k5, rfl, hE⟩; have HQ := Lib.hid (And.intro hS hE); have hS1 := hS.step hE.below; clear hS hE; have hS := hS1; clear hS1) | (refine w_ld rfl _ rfl (by rfl) (by first | exact rd_1 (by repeat constructor) (by first | rfl | assumption) | exact rd_w (by repeat constructor) (by rfl) | exact rd_o (by assumption) (by rfl) (by first | exact nmn | assumption | simp) | exact rd_h (by assumption) (by rfl) (by first | exact nmn | assumption | simp) | exact rd_1o (by assumption) (by first | exact nmn | assumption | simp) | exact rd_1h (by assumption) (by first | rfl | assumption) (by first | exact nmn | assumption | simp)) hS ?_) | (refine own_box rfl _ _ rfl (by rfl) hS ?_; clear hS; (try clear ww); intro bb ww hS) | (refine w_al rfl rfl hS ?_; clear hS; (try clear ww); intro bb ww hS) | (refine w_st rfl _ _ rfl (by rfl) (by rfl) (by repeat constructor) (by rfl) (by rfl) (by first | rfl | assumption) hS ?_; clear hS; (try clear ww); intro ww hS) | (refine w_s1 rfl _ _ rfl (by rfl) (by repeat constructor) (by first | exact .c | exact .t rfl) (by rfl) (by repeat constructor) hS ?_; clear hS; (try clear ww); intro ww hS))
    have hG1 := HG.out.chainR (by rw [HD2.out] at hS; exact hS)
    have hrec := loop_keeps (w := w1) HG.out (by rw [HD2.out] at hS; exact hS) HRec.out
    have HG1 := Lib.hid hG1
    clear hG1
    refine wpIn_block ?_
    refine wp_rangeIn (α := Fin C) (KB := [k5, k4, k3]) (Rl := fun pre L' => ∃ vh vd Xh Xd, Sl 1 pre.length vh (pre.flatMap fun j => [.int .i64 (ht (r * C + j.1))]) Xh ∧ Sl 1 pre.length vd (pre.flatMap fun j => [.int .i64 (dt (r * C + j.1))]) Xd ∧ L' = (xb, [vd]) :: (hb, [vh]) :: (lb, [v]) :: (qb, [.int .i64 q]) :: (nb, [.int .i64 C]) :: (cb, [.slice (some ⟨mb, 0, none⟩) N cp]) :: (X ++ Xd ++ Xh)) hS hrec ⟨_, _, [], [], sl_nil 1, sl_nil 1, by simp⟩ (own_off HQ.out.1 HQ.out.2) (fun k hk => own_keys HQ.out.2 k hk) rfl (enters_of Try.func46 (by kernel_rfl) rfl)
      (every_stops k3 k4 k5 f (f + C) 1 C 6 w1 (HQ.out.2.get at2) (HQ.out.2.get at1) (HQ.out.2.get at0) (by decide) (fun j => by omega) (by omega) (by decide)) (fun _ => rfl) ?a2 ?assign2 ?body2 ?done2
    case assign2 =>
      intro l x W K hK
      gi_wp2
      exact hK
    case body2 =>
      rintro l2 pre2 j W3 L3 hS3 ⟨vh, vd, Xh, Xd, hXh, hXd, rfl⟩ hlen2
      have hG3 := HG1.out.chainR hS3
      obtain ⟨D3, HD3, hS4⟩ := hG3.rebaseN
      obtain ⟨i, hi⟩ : ∃ i : Nat, i = f + j.1 := ⟨_, rfl⟩
      have hcast : (f : Int) + (j.1 : Int) * ((1 : Nat) : Int) = (i : Int) := by rw [hi]; push_cast; omega
      have hcast2 : (f : Int) + (j.1 : Int) * 1 = (i : Int) := by rw [hi]; push_cast; omega
      have hcast3 : (f : Int) + (j.1 : Int) = (i : Int) := by rw [hi]; push_cast; omega
      have hiN : i < N := by have := j.2; omega
      obtain ⟨e, he⟩ : ∃ e, ks[i]? = some e := ⟨ks[i]'(by omega), by rw [List.getElem?_eq_getElem]⟩
      have f0 : (ks.flatMap elC ++ junk)[i * 11 + 4]? = some (.int .i64 (ht i)) := by rw [HHt.out i e he]; exact flat_get he rfl
      have f1 : (ks.flatMap elC ++ junk)[i * 11 + 5]? = some (.int .i64 (dt i)) := by rw [HDt.out i e he]; exact flat_get he rfl
      have hm3 := HM.out.below hG3.below
      have hmD : mb ∉ D3 := by rw [HD3.out]; exact own_fresh hG3 HM.out
      have hif : i = r * C + j.1 := by rw [hi, HF.out]
      have HXh := Lib.hid hXh
      have HXd := Lib.hid hXd
      have HIf := Lib.hid hif
      clear hXh hXd he hi hS hG3 hS3 hif
      have hS := hS4
      clear hS4
      simp only [hcast3]
      clear hcast hcast2 hcast3
      refine wpIn_block ?_
      refine wpIn_seq ?_
      refine RegionAny.round (by repeat (first | exact roundPostO_stays | refine then_stays ?_ | refine block_stays ?_)) (by kernel_rfl) ?_
      refine own_anyR hS [7, 8] 9 (by kernel_rfl) (by kernel_rfl) ?_
      clear hS
      intro hcl ww hS
      refine own_batch hS [0, 1, 2, 3, 4, 5] 3 rfl hcl (by kernel_rfl) ?_
      (try simp only); repeat (first | (simp only [List.filterMap_cons]) | (simp only [List.filterMap_nil]) | (simp only [List.getElem?_toArray]) | (simp only [List.getElem?_cons_succ]) | (simp only [List.getElem?_cons_zero]) | (simp only [List.reverse_cons]) | (simp only [List.reverse_nil]) | (simp only [List.nil_append]) | (simp only [List.cons_append]))
      repeat (first
          | (first | (refine g_plain rfl ?_) | (refine g_yes rfl rfl rfl (by simp only [List.getElem?_toArray, List.getElem?_cons_succ, List.getElem?_cons_zero]; rfl) (by with_reducible constructor) ?_)
             apply Exists.intro; refine ⟨?_, ?_⟩
             focus (intro wq hq0; (first | have hq : Own _ _ _ wq := hq0 | have hq : Own _ _ _ wq := hq0.1 | skip); first | (exact givesAt_rd rfl (by rfl) (rd_1h hm3 f0 hmD) hq) | ((with_reducible show givesAt _ ({ dst := _, op := Op.load _ _, type := _, pos := _, after := _, guard := _ } : Oper) _ _ _); first | (exact givesAt_rd rfl (by rfl) (by first | exact rd_1 (by repeat constructor) (by first | rfl | assumption) | exact rd_w (by repeat constructor) (by rfl) | exact rd_o (by assumption) (by rfl) (by first | exact nmn | assumption | simp) | exact rd_h (by assumption) (by rfl) (by first | exact nmn | assumption | simp) | exact rd_1o (by assumption) (by first | exact nmn | assumption | simp) | exact rd_1h (by assumption) (by first | rfl | assumption) (by first | exact nmn | assumption | simp)) hq)) | (go_simp; first | (with_reducible rfl)))
             simp only [Act.put, List.setIfInBounds_toArray]; (try simp only [List.set_cons_succ]); (try simp only [List.set_cons_zero]))
          | (refine g_no rfl rfl rfl (by simp only [List.getElem?_toArray, List.getElem?_cons_succ, List.getElem?_cons_zero]; rfl) (by with_reducible constructor) ?_; simp only [Act.put, List.setIfInBounds_toArray]; (try simp only [List.set_cons_succ]); (try simp only [List.set_cons_zero])))
      refine g_nil ?_
      clear hS hcl
      intro hcl ww hS
      (try simp only [Act.put]); (try simp only [List.setIfInBounds_toArray]); (try simp only [List.set_cons_succ]); (try simp only [List.set_cons_zero])
      refine own_soft hS 6 hcl (by simp only [List.getElem?_toArray, List.getElem?_cons_succ, List.getElem?_cons_zero]; rfl) (by kernel_rfl) ?_
      have hO := hS
      clear hS
      intro hS
      refine own_buildSlice rfl _ _ 1 _ rfl [.int .i64 (ht i)] hS Try.underlying35 (by kernel_rfl) ?_
      clear hS
      intro b1 w4 hS
      refine wpList_nil ⟨rfl, _, hS, ?_⟩
      clear hS hO hcl
      intro hcl w5 hS
      (try simp only [Act.put]); (try simp only [List.setIfInBounds_toArray]); (try simp only [List.set_cons_succ]); (try simp only [List.set_cons_zero])
      refine own_hard (D := D3) (W := W3) 7 hcl (by simp only [List.getElem?_toArray, List.getElem?_cons_succ, List.getElem?_cons_zero]; rfl) (by kernel_rfl) (by kernel_rfl) ?_
      refine own_append_new (b := b1) rfl _ _ _ rfl HXh.out rfl rfl (show Own D3 W3 (((b1, [.int .i64 (ht i)]) :: _ :: _ :: _ :: _ :: _ :: _ :: (X ++ Xd)) ++ Xh) w5 from hS) rfl (by rfl) el_int (by decide) (by simp only [maxLen]; omega) (by omega) ?_
      clear hS
      intro vh2 Xh2 w6 hS hXh2
      refine wpList_nil ⟨rfl, _, hS, ?_⟩
      clear hS hcl
      intro hcl w7 hS
      (try simp only [Act.put]); (try simp only [List.setIfInBounds_toArray]); (try simp only [List.set_cons_succ]); (try simp only [List.set_cons_zero])
      refine own_hard (D := D3) (W := W3) 8 hcl (by simp only [List.getElem?_toArray, List.getElem?_cons_succ, List.getElem?_cons_zero]; rfl) (by kernel_rfl) (by kernel_rfl) ?_
      refine own_store1 (v := vh2) rfl _ _ _ rfl rfl rfl hXh2.one hS at1 ot_ints (by simp) ?_
      clear hS
      intro w8 hS
      refine wpList_nil ⟨rfl, _, hS, ?_⟩
      clear hS hcl
      intro hcl w9 hS
      refine own_done (by kernel_rfl) ?_
      simp only [List.set_cons_succ, List.set_cons_zero, List.cons_append] at hS
      simp only [Exit.then]
      have hS1 := hS.perm (L' := (xb, [vd]) :: (hb, [vh2]) :: (lb, [v]) :: (qb, [.int .i64 q]) :: (nb, [.int .i64 C]) :: (cb, [.slice (some ⟨mb, 0, none⟩) N cp]) :: (X ++ Xh2 ++ Xd)) (by
        refine .cons _ (.cons _ (.cons _ (.cons _ (.cons _ (.cons _ ?_)))))
        rw [List.append_assoc, List.append_assoc]
        exact List.Perm.append_left _ List.perm_append_comm)
      clear hS
      have hS := hS1
      clear hS1
      refine RegionAny.round (by repeat (first | exact roundPostO_stays | refine then_stays ?_ | refine block_stays ?_)) (by kernel_rfl) ?_
      refine own_anyR hS [7, 8] 9 (by kernel_rfl) (by kernel_rfl) ?_
      clear hS
      intro hcl ww hS
      refine own_batch hS [0, 1, 2, 3, 4, 5] 3 rfl hcl (by kernel_rfl) ?_
      (try simp only); repeat (first | (simp only [List.filterMap_cons]) | (simp only [List.filterMap_nil]) | (simp only [List.getElem?_toArray]) | (simp only [List.getElem?_cons_succ]) | (simp only [List.getElem?_cons_zero]) | (simp only [List.reverse_cons]) | (simp only [List.reverse_nil]) | (simp only [List.nil_append]) | (simp only [List.cons_append]))
      repeat (first
          | (first | (refine g_plain rfl ?_) | (refine g_yes rfl rfl rfl (by simp only [List.getElem?_toArray, List.getElem?_cons_succ, List.getElem?_cons_zero]; rfl) (by with_reducible constructor) ?_)
             apply Exists.intro; refine ⟨?_, ?_⟩
             focus (intro wq hq0; (first | have hq : Own _ _ _ wq := hq0 | have hq : Own _ _ _ wq := hq0.1 | skip); first | (exact givesAt_rd rfl (by rfl) (rd_1h hm3 f1 hmD) hq) | ((with_reducible show givesAt _ ({ dst := _, op := Op.load _ _, type := _, pos := _, after := _, guard := _ } : Oper) _ _ _); first | (exact givesAt_rd rfl (by rfl) (by first | exact rd_1 (by repeat constructor) (by first | rfl | assumption) | exact rd_w (by repeat constructor) (by rfl) | exact rd_o (by assumption) (by rfl) (by first | exact nmn | assumption | simp) | exact rd_h (by assumption) (by rfl) (by first | exact nmn | assumption | simp) | exact rd_1o (by assumption) (by first | exact nmn | assumption | simp) | exact rd_1h (by assumption) (by first | rfl | assumption) (by first | exact nmn | assumption | simp)) hq)) | (go_simp; first | (with_reducible rfl)))
             simp only [Act.put, List.setIfInBounds_toArray]; (try simp only [List.set_cons_succ]); (try simp only [List.set_cons_zero]))
          | (refine g_no rfl rfl rfl (by simp only [List.getElem?_toArray, List.getElem?_cons_succ, List.getElem?_cons_zero]; rfl) (by with_reducible constructor) ?_; simp only [Act.put, List.setIfInBounds_toArray]; (try simp only [List.set_cons_succ]); (try simp only [List.set_cons_zero])))
      refine g_nil ?_
      clear hS hcl
      intro hcl ww hS
      (try simp only [Act.put]); (try simp only [List.setIfInBounds_toArray]); (try simp only [List.set_cons_succ]); (try simp only [List.set_cons_zero])
      refine own_soft hS 6 hcl (by simp only [List.getElem?_toArray, List.getElem?_cons_succ, List.getElem?_cons_zero]; rfl) (by kernel_rfl) ?_
      have hO := hS
      clear hS
      intro hS
      refine own_buildSlice rfl _ _ 1 _ rfl [.int .i64 (dt i)] hS Try.underlying35 (by kernel_rfl) ?_
      clear hS
      intro b1 w4 hS
      refine wpList_nil ⟨rfl, _, hS, ?_⟩
      clear hS hO hcl
      intro hcl w5 hS
      (try simp only [Act.put]); (try simp only [List.setIfInBounds_toArray]); (try simp only [List.set_cons_succ]); (try simp only [List.set_cons_zero])
      refine own_hard (D := D3) (W := W3) 7 hcl (by simp only [List.getElem?_toArray, List.getElem?_cons_succ, List.getElem?_cons_zero]; rfl) (by kernel_rfl) (by kernel_rfl) ?_
      refine own_append_new (b := b1) rfl _ _ _ rfl HXd.out rfl rfl (show Own D3 W3 (((b1, [.int .i64 (dt i)]) :: _ :: _ :: _ :: _ :: _ :: _ :: (X ++ Xh2)) ++ Xd) w5 from hS) rfl (by rfl) el_int (by decide) (by simp only [maxLen]; omega) (by omega) ?_
      clear hS
      intro vd2 Xd2 w6 hS hXd2
      refine wpList_nil ⟨rfl, _, hS, ?_⟩
      clear hS hcl
      intro hcl w7 hS
      (try simp only [Act.put]); (try simp only [List.setIfInBounds_toArray]); (try simp only [List.set_cons_succ]); (try simp only [List.set_cons_zero])
      refine own_hard (D := D3) (W := W3) 8 hcl (by simp only [List.getElem?_toArray, List.getElem?_cons_succ, List.getElem?_cons_zero]; rfl) (by kernel_rfl) (by kernel_rfl) ?_
      refine own_store1 (v := vd2) rfl _ _ _ rfl rfl rfl hXd2.one hS at0 ot_ints (by simp) ?_
      clear hS
      intro w8 hS
      refine wpList_nil ⟨rfl, _, hS, ?_⟩
      clear hS hcl
      intro hcl w9 hS
      refine own_done (by kernel_rfl) ?_
      simp only [List.set_cons_zero, List.cons_append] at hS
      have hS1 := hS.perm (L' := (xb, [vd2]) :: (hb, [vh2]) :: (lb, [v]) :: (qb, [.int .i64 q]) :: (nb, [.int .i64 C]) :: (cb, [.slice (some ⟨mb, 0, none⟩) N cp]) :: (X ++ Xd2 ++ Xh2)) (by
        refine .cons _ (.cons _ (.cons _ (.cons _ (.cons _ (.cons _ ?_)))))
        rw [List.append_assoc, List.append_assoc]
        exact List.Perm.append_left _ List.perm_append_comm)
      clear hS
      have hS := hS1
      clear hS1
      rw [HD3.out] at hS
      refine ⟨_, hS, vh2, vd2, Xh2, Xd2, ?_, ?_, rfl⟩
      · rw [List.flatMap_append, List.flatMap_cons, List.flatMap_nil, List.append_nil, List.length_append, ← HIf.out]
        exact hXh2
      · rw [List.flatMap_append, List.flatMap_cons, List.flatMap_nil, List.append_nil, List.length_append, ← HIf.out]
        exact hXd2
    case done2 =>
      rintro xs W3 L3 rfl hS3 ⟨vh, vd, Xh, Xd, hXh, hXd, rfl⟩
      have hS4 := hS.chainR hS3
      clear hS hS3
      have hS := hS4
      clear hS4
      rw [List.length_finRange, row_cells ht] at hXh
      rw [List.length_finRange, row_cells dt] at hXd
      obtain ⟨yh, ch, rfl⟩ := hXh.slice
      obtain ⟨yd, cd, rfl⟩ := hXd.slice
      obtain ⟨mh, hmh⟩ : ∃ z, z = rowM (scl q 70) C ht r := ⟨_, rfl⟩
      obtain ⟨md, hmd⟩ : ∃ z, z = rowM (scl q 30) C dt r := ⟨_, rfl⟩
      have hc256 : C ≤ 256 := by omega
      have HC1 := Lib.hid (fun (V : World) (hq : Own D2 W ((xb, [.slice yd C cd]) :: (hb, [.slice yh C ch]) :: (lb, [v]) :: (qb, [.int .i64 q]) :: (nb, [.int .i64 C]) :: (cb, [.slice (some ⟨mb, 0, none⟩) N cp]) :: (X ++ Xd ++ Xh)) V) => (show Calls Try.prog 45 #[.int .i64 (scl q 70), .slice yh C ch] V (Gives (.int .i64 mh) V) from by
        rw [hmh]
        exact greatest_row (f := ht) (sl_row (l := (List.range C).map fun j => ht (r * C + j)) hq (fun x hx => mem6 (List.mem_append_right _ hx)) (by simpa using hXh)) hc256))
      have HC2 := Lib.hid (fun (V : World) (hq : Own D2 W ((xb, [.slice yd C cd]) :: (hb, [.slice yh C ch]) :: (lb, [v]) :: (qb, [.int .i64 q]) :: (nb, [.int .i64 C]) :: (cb, [.slice (some ⟨mb, 0, none⟩) N cp]) :: (X ++ Xd ++ Xh)) V) => (show Calls Try.prog 45 #[.int .i64 (scl q 30), .slice yd C cd] V (Gives (.int .i64 md) V) from by
        rw [hmd]
        exact greatest_row (f := dt) (sl_row (l := (List.range C).map fun j => dt (r * C + j)) hq (fun x hx => mem6 (List.mem_append_left _ (List.mem_append_right _ hx))) (by simpa using hXd)) hc256))
      have HMh := Lib.hid (And.intro hmh hmd)
      clear hmh hmd hXh hXd
      simp only [Exit.then, Exit.inBlock]
      refine RegionAny.round (by repeat (first | exact roundPostO_stays | refine then_stays ?_ | refine block_stays ?_)) (by kernel_rfl) ?_
      refine own_anyR hS [11, 12] 13 (by kernel_rfl) (by kernel_rfl) ?_
      clear hS
      intro hcl ww hS
      refine own_batch hS [0, 1, 2, 3, 4, 5, 6, 7, 8, 9] 3 rfl hcl (by kernel_rfl) ?_
      (try simp only); repeat (first | (simp only [List.filterMap_cons]) | (simp only [List.filterMap_nil]) | (simp only [List.getElem?_toArray]) | (simp only [List.getElem?_cons_succ]) | (simp only [List.getElem?_cons_zero]) | (simp only [List.reverse_cons]) | (simp only [List.reverse_nil]) | (simp only [List.nil_append]) | (simp only [List.cons_append]))
      repeat (first
          | (first | (refine g_plain rfl ?_) | (refine g_yes rfl rfl rfl (by simp only [List.getElem?_toArray, List.getElem?_cons_succ, List.getElem?_cons_zero]; rfl) (by with_reducible constructor) ?_)
             apply Exists.intro; refine ⟨?_, ?_⟩
             focus (intro wq hq0; (first | have hq : Own _ _ _ wq := hq0 | have hq : Own _ _ _ wq := hq0.1 | skip); first | ((with_reducible show givesAt _ ({ dst := _, op := Op.load _ _, type := _, pos := _, after := _, guard := _ } : Oper) _ _ _); first | (exact givesAt_rd rfl (by rfl) (by first | exact rd_1 (by repeat constructor) (by first | rfl | assumption) | exact rd_w (by repeat constructor) (by rfl) | exact rd_o (by assumption) (by rfl) (by first | exact nmn | assumption | simp) | exact rd_h (by assumption) (by rfl) (by first | exact nmn | assumption | simp) | exact rd_1o (by assumption) (by first | exact nmn | assumption | simp) | exact rd_1h (by assumption) (by first | rfl | assumption) (by first | exact nmn | assumption | simp)) hq)) | (go_simp; first | (go_at_call 21; exact length_Scale_gives q _ _) | (go_at_call 45; exact HC1.out _ hq) | (go_at_call 45; exact HC2.out _ hq) | (with_reducible rfl)))
             simp only [Act.put, List.setIfInBounds_toArray]; (try simp only [List.set_cons_succ]); (try simp only [List.set_cons_zero]))
          | (refine g_no rfl rfl rfl (by simp only [List.getElem?_toArray, List.getElem?_cons_succ, List.getElem?_cons_zero]; rfl) (by with_reducible constructor) ?_; simp only [Act.put, List.setIfInBounds_toArray]; (try simp only [List.set_cons_succ]); (try simp only [List.set_cons_zero])))
      refine g_nil ?_
      clear hS hcl
      intro hcl ww hS
      (try simp only [Act.put]); (try simp only [List.setIfInBounds_toArray]); (try simp only [List.set_cons_succ]); (try simp only [List.set_cons_zero])
      refine own_soft hS 10 hcl (by simp only [List.getElem?_toArray, List.getElem?_cons_succ, List.getElem?_cons_zero]; rfl) (by kernel_rfl) ?_
      have hO := hS
      clear hS
      intro hS
      refine own_buildSlice rfl _ _ 1 _ rfl [.int .i64 mh, .int .i64 md] hS Try.underlying55 (by kernel_rfl) ?_
      clear hS
      intro b1 w4 hS
      refine wpList_nil ⟨rfl, _, hS, ?_⟩
      clear hS hO hcl
      intro hcl w5 hS
      (try simp only [Act.put]); (try simp only [List.setIfInBounds_toArray]); (try simp only [List.set_cons_succ]); (try simp only [List.set_cons_zero])
      have hS1 := hS.perm (L' := (b1, [.int .i64 mh, .int .i64 md]) :: (xb, [.slice yd C cd]) :: (hb, [.slice yh C ch]) :: (lb, [v]) :: (qb, [.int .i64 q]) :: (nb, [.int .i64 C]) :: (cb, [.slice (some ⟨mb, 0, none⟩) N cp]) :: (Xd ++ Xh ++ X)) (by
        refine .cons _ (.cons _ (.cons _ (.cons _ (.cons _ (.cons _ (.cons _ ?_))))))
        rw [List.append_assoc]
        exact List.perm_append_comm)
      clear hS
      have hS := hS1
      clear hS1
      refine own_hard (D := D2) (W := W) 11 hcl (by simp only [List.getElem?_toArray, List.getElem?_cons_succ, List.getElem?_cons_zero]; rfl) (by kernel_rfl) (by kernel_rfl) ?_
      refine own_append_new (b := b1) rfl _ _ _ rfl HX.out rfl rfl (show Own D2 W (((b1, [.int .i64 mh, .int .i64 md]) :: _ :: _ :: _ :: _ :: _ :: _ :: (Xd ++ Xh)) ++ X) w5 from hS) rfl (by rfl) el_line (by decide) (by simp only [maxLen]; omega) (by omega) ?_
      clear hS
      intro v2 X2 w6 hS hX2
      refine wpList_nil ⟨rfl, _, hS, ?_⟩
      clear hS hcl
      intro hcl w7 hS
      (try simp only [Act.put]); (try simp only [List.setIfInBounds_toArray]); (try simp only [List.set_cons_succ]); (try simp only [List.set_cons_zero])
      refine own_hard (D := D2) (W := W) 12 hcl (by simp only [List.getElem?_toArray, List.getElem?_cons_succ, List.getElem?_cons_zero]; rfl) (by kernel_rfl) (by kernel_rfl) ?_
      refine own_store1 (v := v2) rfl _ _ _ rfl rfl rfl hX2.one hS at2 ot_lines (by simp) ?_
      clear hS
      intro w8 hS
      refine wpList_nil ⟨rfl, _, hS, ?_⟩
      clear hS hcl
      intro hcl w9 hS
      refine own_done (by kernel_rfl) ?_
      simp only [List.set_cons_succ, List.set_cons_zero, List.cons_append] at hS
      have hS1 := hS.forget (L' := (lb, [v2]) :: (qb, [.int .i64 q]) :: (nb, [.int .i64 C]) :: (cb, [.slice (some ⟨mb, 0, none⟩) N cp]) :: X2) (.cons _ (.cons _ (.cons_cons _ (.cons_cons _ (.cons_cons _ (.cons_cons _ (List.sublist_append_right _ _)))))))
      clear hS
      rw [HD2.out] at hS1
      refine ⟨_, hS1, v2, X2, ?_, rfl⟩
      rw [List.flatMap_append, List.flatMap_cons, List.flatMap_nil, List.append_nil, List.length_append, ← HR.out, ← HMh.out.1, ← HMh.out.2]
      exact hX2

end Go.Proofs.Ytgnkngkogamjaaa
namespace Go.Proofs.Ytgnkngkogamjaaa
open Go.RowKit

/-- The elements for which P holds have got the Y that f says. -/
def PlY (ks cur : List El) (P : Nat → Prop) (f : Nat → Int) : Prop := cur.length = ks.length ∧ ∀ i e, ks[i]? = some e → (P i → cur[i]? = some (elY (f i) e)) ∧ (¬ P i → cur[i]? = some e)
theorem plY_start {ks : List El} {P : Nat → Prop} {f : Nat → Int} (h : ∀ i, ¬ P i) : PlY ks ks P f := ⟨rfl, fun i _e he => ⟨fun hp => (h i hp).elim, fun _ => he⟩⟩
theorem PlY.iff {ks cur : List El} {P P' : Nat → Prop} {f : Nat → Int} (h : PlY ks cur P f) (hp : ∀ i, i < ks.length → (P i ↔ P' i)) : PlY ks cur P' f :=
  ⟨h.1, fun i e he => by
    have hi := (List.getElem?_eq_some_iff.1 he).1
    exact ⟨fun hq => (h.2 i e he).1 ((hp i hi).2 hq), fun hq => (h.2 i e he).2 (fun h' => hq ((hp i hi).1 h'))⟩⟩
/-- What an element holds meanwhile: only its Y may have turned. -/
theorem PlY.at {ks cur : List El} {P : Nat → Prop} {f : Nat → Int} {i : Nat} {e : El} (h : PlY ks cur P f) (he : ks[i]? = some e) : ∃ x, cur[i]? = some (elY x e) := by
  by_cases hp : P i
  · exact ⟨_, (h.2 i e he).1 hp⟩
  · exact ⟨e.1.y, (h.2 i e he).2 hp⟩
theorem PlY.next {ks cur : List El} {P P' : Nat → Prop} {f : Nat → Int} {i : Nat} {e : El} (h : PlY ks cur P f) (he : ks[i]? = some e) (hp : ∀ j, P' j ↔ P j ∨ j = i) : PlY ks (cur.set i (elY (f i) e)) P' f := by
  have hi : i < cur.length := by rw [h.1]; exact (List.getElem?_eq_some_iff.1 he).1
  refine ⟨by simpa using h.1, fun j e' he' => ?_⟩
  by_cases hj : i = j
  · subst hj
    obtain rfl : e = e' := by rw [he] at he'; exact Option.some.inj he'
    exact ⟨fun _ => by rw [List.getElem?_set_self hi], fun hn => (hn ((hp i).2 (.inr rfl))).elim⟩
  · rw [List.getElem?_set_ne hj]
    exact ⟨fun hq => (h.2 j e' he').1 (((hp j).1 hq).elim id (fun h => (hj h.symm).elim)), fun hq => (h.2 j e' he').2 (fun h' => hq ((hp j).2 (.inl h')))⟩

end Go.Proofs.Ytgnkngkogamjaaa
