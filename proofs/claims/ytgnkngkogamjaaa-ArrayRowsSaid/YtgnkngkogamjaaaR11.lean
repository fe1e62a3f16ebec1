/- array.columns: the cells get their columns. -/
import Derived.Test.YtgnkngkogamjaaaR05
import Derived.Test.YtgnkngkogamjaaaR06
import Derived.Test.YtgnkngkogamjaaaR07
import Derived.Test.YtgnkngkogamjaaaR10
namespace Go.Proofs.Ytgnkngkogamjaaa
open Go.RowKit
attribute [local irreducible] wpQuiet wpG wpP wpK wpList Code.wp Calls
attribute [local go_sem] Oper.semAt_some
instance zt_bool : ZeroTy Try.prog 4 [.bool false] := ⟨.bool false, by kernel_rfl, rfl⟩
instance zt_ints : ZeroTy Try.prog 35 [.slice none 0 0] := ⟨.slice none 0 0, by kernel_rfl, rfl⟩

theorem every_rounds {R C c : Nat} (h : c < C) : ∀ j, j < R ↔ c + j * C < R * C := fun j => by
  constructor
  · intro hj
    have := Nat.mul_le_mul_right C (Nat.succ_le_of_lt hj)
    rw [Nat.succ_mul] at this
    omega
  · intro hj
    apply Nat.lt_of_not_le
    intro hR
    have := Nat.mul_le_mul_right C hR
    omega

/-- All differences are lengths. -/
def ColsOk (R C : Nat) (wd : Nat → Int) : Prop := ∀ c, c < C → ∀ r, r < R → lenOk (colW R C wd c - wd (c + r * C)) = true
/-- Where a cell lies. -/
def colX (R C : Nat) (wd : Nat → Int) (sp : Int) (i : Nat) : Int := colB R C wd sp (i % C) + hlf (colW R C wd (i % C) - wd i)

theorem own_off {D : List Nat} {V w w' : World} {L K : List (Nat × List Value)} (hA : Own D V L w) (hE : Own [] w K w') : ∀ x ∈ L, x.1 ∉ K.map (·.1) := fun x hx h => by
  obtain ⟨y, hy, he⟩ := List.mem_map.1 h
  have h1 := (hA.has x hx).lt
  rcases hE.ge y hy with h | h
  · cases h
  · omega
theorem own_keys {D : List Nat} {V w : World} {L : List (Nat × List Value)} (hE : Own D V L w) : ∀ k ∈ L.map (·.1), k < w.heap.size := fun k h => by
  obtain ⟨y, hy, rfl⟩ := List.mem_map.1 h
  exact (hE.has y hy).lt

theorem marks_next {D : List Nat} {W wr w1 W' : World} {ds : List Deferred} {L L1 : List (Nat × List Value)} {M : Nat} (hM : Marks W wr ds) (hA : Own D W L wr) (h1 : Own (L.map (·.1)) wr L1 W') (hs : wr.heap.size ≤ w1.heap.size) (hm : w1.heap.size ≤ M) (hd : W'.heap[M]? = some (.deferred (some []))) :
    Marks W W' ({ target := .collected M, args := #[] } :: ds) := by
  refine .cons ?_ hd (fun d hd' he => ?_) (hM.own hA h1)
  · have := hA.size
    omega
  · have := hM.lt d hd' _ he
    omega
theorem fin_cells {R : Nat} (f : Nat → Int) : (List.finRange R).flatMap (fun x => [Value.int .i64 (f x.1)]) = ((List.range R).map f).flatMap intCells := by
  rw [← finRange_vals, List.flatMap_map]
  rfl
theorem greatest_col {R C c : Nat} {wd : Nat → Int} {y : Option Addr} {cp : Nat} {w : World} (hr : RowAt w y 1 intCells ((List.range R).map fun r => wd (c + r * C))) (hR : R ≤ 256) : Calls Try.prog 45 #[.int .i64 0, .slice y R cp] w (Gives (.int .i64 (colW R C wd c)) w) := by
  have h := greatest_calls 0 y cp _ w hr (by simp; omega)
  rw [List.length_map, List.length_range] at h
  exact h
theorem length_Valid_gives (a : Int) (w : World) : Calls Try.prog 24 #[.int .i64 a] w (Gives (.bool (lenOk a)) w) := (length_Valid_calls a w).mono fun _ _ h => ⟨h.1, h.2 ▸ bself w⟩
theorem hlf_abs {n : Int} : -1073741824 ≤ hlf n ∧ hlf n ≤ 1073741824 := by
  by_cases h : lenOk n = true
  · have h' := lenOk_iff.1 h
    rw [hlf_ok h']
    unfold rdiv
    split <;> omega
  · unfold hlf
    rw [if_neg h]
    omega
theorem mod_of {c x C : Nat} (h : c < C) : (c + x * C) % C = c := by rw [Nat.add_mul_mod_self_right, Nat.mod_eq_of_lt h]
theorem col_all {R C c i : Nat} (h : c < C) (hi : i < R * C) : (∃ x ∈ List.finRange R, i = c + x.1 * C) ↔ i % C = c := by
  constructor
  · rintro ⟨x, _, rfl⟩
    exact mod_of h
  · intro hm
    have hd := Nat.div_add_mod i C
    have hx : i / C < R := Nat.div_lt_of_lt_mul (by rw [Nat.mul_comm]; exact hi)
    refine ⟨⟨i / C, hx⟩, List.mem_finRange _, ?_⟩
    rw [hm, Nat.mul_comm] at hd
    simp only
    omega

set_option maxHeartbeats 16000000 in
set_option maxRecDepth 100000 in
theorem columns_calls (R C N : Nat) (ks : List El) (junk : List Value) (mb cp : Nat) (q : Int) (wd : Nat → Int) (w : World) (hm : Has w mb (ks.flatMap elC ++ junk)) (hN : N = R * C) (hkl : ks.length = N) (hC : 1 ≤ C) (hC' : C ≤ 16) (hR : 1 ≤ R) (hRC : N ≤ 256)
    (hwd : ∀ i e, ks[i]? = some e → wd i = e.1.w) (hw : ∀ i, -1073741824 ≤ wd i ∧ wd i ≤ 1073741824) (hq : 0 ≤ q ∧ q ≤ 20000) :
    Calls Try.prog 22 #[.slice (some ⟨mb, 0, none⟩) N cp, .int .i64 C, .int .i64 q] w (fun r w' => ∃ cur P f b E, r = .returned (.tuple #[.int .i64 E, .bool b]) ∧ PlX ks cur P f ∧ Own [mb] w [(mb, cur.flatMap elC ++ junk)] w' ∧
      (b = true → ColsOk R C wd ∧ E = colB R C wd q (C - 1) + colW R C wd (C - 1) ∧ (∀ i, i < ks.length → P i) ∧ f = colX R C wd q) ∧ (b = false → ¬ ColsOk R C wd)) := by
  have hS : Own [mb] w [(mb, ks.flatMap elC ++ junk)] w := ⟨rfl, rfl, rfl, Nat.le_refl _, fun _ _ _ => rfl, fun x hx => by obtain rfl := List.mem_singleton.1 hx; exact hm, fun x hx => by obtain rfl := List.mem_singleton.1 hx; exact .inl (List.mem_singleton.2 rfl), by simp⟩
  have hR256 : R ≤ 256 := by
    have := Nat.le_mul_of_pos_right R (Nat.lt_of_lt_of_le Nat.zero_lt_one hC)
    omega
  have HWD := Lib.hid hwd
  clear hwd
  have HN := Lib.hid hN
  clear hN hm
  have tokwb : True := trivial
  have tokdb : True := trivial
  have tokeb : True := trivial
  have tokob : True := trivial
  have tokgb : True := trivial
  refine calls_of_marks Try.func22 rfl ?_
  simp only [Try.ntmps22, List.size_toArray, List.length_cons, List.length_nil, Nat.reduceAdd, Nat.reduceSub, Array.replicate_succ, Array.replicate_zero, List.push_toArray, List.append_toArray, List.nil_append, List.cons_append]
  go_wp2_with (first | (refine own_unguard (by rfl) ?_) | (refine own_box1 (v := .slice (some ⟨mb, 0, none⟩) N cp) rfl _ _ rfl rfl rfl hS ?_; clear hS; (try clear ww); intro cb ww hS) | (have _t := tokeb; refine own_alloc rfl _ rfl hS zt_int ?_; clear hS tokeb; (try clear ww); intro eb ww hS) | (have _t := tokob; refine own_alloc rfl _ rfl hS zt_bool ?_; clear hS tokob; (try clear ww); intro ob ww hS) | (have _t := tokgb; refine own_alloc rfl _ rfl hS zt_int ?_; clear hS tokgb; (try clear ww); intro gb ww hS) | (refine w_ld rfl _ rfl (by rfl) (by first | exact rd_1 (by repeat constructor) (by first | rfl | assumption) | exact rd_w (by repeat constructor) (by rfl) | exact rd_o (by assumption) (by rfl) (by first | exact nmn | assumption | simp) | exact rd_h (by assumption) (by rfl) (by first | exact nmn | assumption | simp) | exact rd_1o (by assumption) (by first | exact nmn | assumption | simp) | exact rd_1h (by assumption) (by first | rfl | assumption) (by first | exact nmn | assumption | simp)) hS ?_) | (refine own_box rfl _ _ rfl (by rfl) hS ?_; clear hS; (try clear ww); intro bb ww hS) | (refine w_al rfl rfl hS ?_; clear hS; (try clear ww); intro bb ww hS) | (refine w_st rfl _ _ rfl (by rfl) (by rfl) (by repeat constructor) (by rfl) (by rfl) (by first | rfl | assumption) hS ?_; clear hS; (try clear ww); intro ww hS) | (refine w_s1 rfl _ _ rfl (by rfl) (by repeat constructor) (by first | exact .c | exact .t rfl) (by rfl) (by repeat constructor) hS ?_; clear hS; (try clear ww); intro ww hS))
  refine wp_loop (fun a wr => ∃ (c : Nat) (cur : List El) (P : Nat → Prop) (E : Int) (us : Nat → Value) (ds : List Deferred), c ≤ C ∧ PlX ks cur P (colX R C wd q) ∧ Hid (∀ i, i < ks.length → (P i ↔ i % C < c)) ∧ Hid (∀ c', c' < c → ∀ r, r < R → lenOk (colW R C wd c' - wd (c' + r * C)) = true) ∧ Hid (0 < c → E = colB R C wd q (c - 1) + colW R C wd (c - 1)) ∧ Own [mb] w [(gb, [.int .i64 (colB R C wd q c)]), (ob, [.bool false]), (eb, [.int .i64 E]), (cb, [.slice (some ⟨mb, 0, none⟩) N cp]), (mb, cur.flatMap elC ++ junk)] wr ∧ Hid (Marks w wr ds) ∧ a = { tmps := List.toArray (α := Value) (.slice (some ⟨mb, 0, none⟩) N cp :: .int .i64 C :: .int .i64 q :: .pointer (some ⟨cb, 0, none⟩) :: us 4 :: us 5 :: .pointer (some ⟨eb, 0, none⟩) :: .pointer (some ⟨ob, 0, none⟩) :: .pointer (some ⟨gb, 0, none⟩) :: us 9 :: us 10 :: us 11 :: us 12 :: us 13 :: .int .i64 C :: .int .i64 c :: us 16 :: us 17 :: us 18 :: us 19 :: us 20 :: us 21 :: us 22 :: us 23 :: us 24 :: us 25 :: us 26 :: us 27 :: us 28 :: us 29 :: us 30 :: us 31 :: us 32 :: us 33 :: us 34 :: us 35 :: us 36 :: us 37 :: us 38 :: us 39 :: us 40 :: us 41 :: us 42 :: us 43 :: us 44 :: us 45 :: us 46 :: us 47 :: us 48 :: us 49 :: us 50 :: us 51 :: us 52 :: us 53 :: us 54 :: us 55 :: us 56 :: us 57 :: us 58 :: us 59 :: us 60 :: us 61 :: us 62 :: us 63 :: us 64 :: us 65 :: us 66 :: us 67 :: us 68 :: us 69 :: us 70 :: []), defers := ds })
    (fun a _ => C - (intOf (a.tmps.getD 15 undef)).toNat) ?_ ?_
  · exact ⟨0, ks, fun _ => False, 0, fun _ => undef, [], Nat.zero_le _, plX_start (fun _ h => h), Lib.hid (fun i _ => by simp), Lib.hid (fun c' h => absurd h (Nat.not_lt_zero _)), Lib.hid (fun h => absurd h (Nat.lt_irrefl _)), hS, Lib.hid .nil, rfl⟩
  · clear hS
    rintro a wr ⟨c, cur, P, E, us, ds, hc, hPl, HP, HV, HE, hA, HM, rfl⟩
    obtain ⟨DD, HDD, hS⟩ := hA.rebaseN
    have HA := Lib.hid hA
    clear hA
    by_cases hlt : c < C
    · have d1 : decide ((c : Int) < (C : Int)) = true := decide_eq_true (by omega)
      go_wp2_with (first | (refine own_unguard (by rfl) ?_) | (have _t := tokwb; refine own_alloc rfl _ rfl hS zt_ints ?_; clear hS tokwb; (try clear ww); intro wb ww hS) | (go_at_call 26; refine Calls.mono (every_calls _ _ _ _) ?_; rintro e w1 ⟨k0, k1, k2, rfl, hE⟩; have HQ := Lib.hid (And.intro hS hE); have hS1 := hS.step hE.below; clear hS hE; have hS := hS1; clear hS1) | (refine w_ld rfl _ rfl (by rfl) (by first | exact rd_1 (by repeat constructor) (by first | rfl | assumption) | exact rd_w (by repeat constructor) (by rfl) | exact rd_o (by assumption) (by rfl) (by first | exact nmn | assumption | simp) | exact rd_h (by assumption) (by rfl) (by first | exact nmn | assumption | simp) | exact rd_1o (by assumption) (by first | exact nmn | assumption | simp) | exact rd_1h (by assumption) (by first | rfl | assumption) (by first | exact nmn | assumption | simp)) hS ?_) | (refine own_box rfl _ _ rfl (by rfl) hS ?_; clear hS; (try clear ww); intro bb ww hS) | (refine w_al rfl rfl hS ?_; clear hS; (try clear ww); intro bb ww hS) | (refine w_st rfl _ _ rfl (by rfl) (by rfl) (by repeat constructor) (by rfl) (by rfl) (by first | rfl | assumption) hS ?_; clear hS; (try clear ww); intro ww hS) | (refine w_s1 rfl _ _ rfl (by rfl) (by repeat constructor) (by first | exact .c | exact .t rfl) (by rfl) (by repeat constructor) hS ?_; clear hS; (try clear ww); intro ww hS))
      refine wp_range (α := Fin R) (KB := [k2, k1, k0]) (Rl := fun pre L' => ∃ v X, Sl 1 pre.length v (pre.flatMap fun x => [.int .i64 (wd (c + x.1 * C))]) X ∧ L' = (wb, [v]) :: [(gb, [.int .i64 (colB R C wd q c)]), (ob, [.bool false]), (eb, [.int .i64 E]), (cb, [.slice (some ⟨mb, 0, none⟩) N cp]), (mb, cur.flatMap elC ++ junk)] ++ X) (Rx := fun _ _ _ => False) hS ⟨_, [], sl_nil 1, rfl⟩ (own_off HQ.out.1 HQ.out.2) (fun k hk => own_keys HQ.out.2 k hk) rfl (enters_of Try.func46 (by kernel_rfl) rfl)
        (every_stops k0 k1 k2 c N C R 8 w1 (HQ.out.2.get at2) (HQ.out.2.get at1) (HQ.out.2.get at0) hC (fun j => by rw [HN.out]; exact every_rounds hlt j) (by omega) (by decide)) (fun _ => rfl) ?a1 ?assign ?body ?done ?stop
      case assign =>
        intro l x W K hK
        gi_wp2
        exact hK
      case stop =>
        rintro M c' pre W L' hM _ h _
        exact h.elim
      case body =>
        rintro l pre x W L' hl hr hS' ⟨v, X, hX, rfl⟩ hlen
        obtain ⟨D2, HD2, hS⟩ := hS'.rebaseN
        obtain ⟨i, hi⟩ : ∃ i : Nat, i = c + x.1 * C := ⟨_, rfl⟩
        have hcast : (c : Int) + (x.1 : Int) * (C : Int) = (i : Int) := by rw [hi]; push_cast; rfl
        have hiN : i < N := by rw [hi, HN.out]; exact (every_rounds hlt x.1).1 x.2
        obtain ⟨e, he⟩ : ∃ e, ks[i]? = some e := ⟨ks[i]'(by omega), by rw [List.getElem?_eq_getElem]⟩
        obtain ⟨x0, hx0⟩ := hPl.at he
        have f0 : (cur.flatMap elC ++ junk)[i * 11 + 3]? = some (.int .i64 (wd i)) := by rw [HWD.out i e he]; exact flat_get hx0 rfl
        have HX := Lib.hid hX
        have HI := Lib.hid hi
        clear hX he hx0 hi
        simp only [hcast]
        clear hcast
        refine wpIn_block ?_
        refine RegionAny.round (by repeat (first | exact roundPostO_stays | refine then_stays ?_ | refine block_stays ?_)) (by kernel_rfl) ?_
        refine own_anyR hS [7, 8] 9 (by kernel_rfl) (by kernel_rfl) ?_
        clear hS
        intro hcl ww hS
        refine own_batch hS [0, 1, 2, 3, 4, 5] 3 rfl hcl (by kernel_rfl) ?_
        (try simp only); repeat (first | (simp only [List.filterMap_cons]) | (simp only [List.filterMap_nil]) | (simp only [List.getElem?_toArray]) | (simp only [List.getElem?_cons_succ]) | (simp only [List.getElem?_cons_zero]) | (simp only [List.reverse_cons]) | (simp only [List.reverse_nil]) | (simp only [List.nil_append]) | (simp only [List.cons_append]))
        repeat (first
            | (first | (refine g_plain rfl ?_) | (refine g_yes rfl rfl rfl (by simp only [List.getElem?_toArray, List.getElem?_cons_succ, List.getElem?_cons_zero]; rfl) (by with_reducible constructor) ?_)
               apply Exists.intro; refine ⟨?_, ?_⟩
               focus (intro wq hq0; (first | have hq : Own _ _ _ wq := hq0 | have hq : Own _ _ _ wq := hq0.1 | skip); first | ((with_reducible show givesAt _ ({ dst := _, op := Op.load _ _, type := _, pos := _, after := _, guard := _ } : Oper) _ _ _); first | (exact givesAt_rd rfl (by rfl) (by first | exact rd_1 (by repeat constructor) (by first | rfl | assumption) | exact rd_w (by repeat constructor) (by rfl) | exact rd_o (by assumption) (by rfl) (by first | exact nmn | assumption | simp) | exact rd_h (by assumption) (by rfl) (by first | exact nmn | assumption | simp) | exact rd_1o (by assumption) (by first | exact nmn | assumption | simp) | exact rd_1h (by assumption) (by first | rfl | assumption) (by first | exact nmn | assumption | simp)) hq)) | (go_simp; first | (with_reducible rfl)))
               simp only [Act.put, List.setIfInBounds_toArray]; (try simp only [List.set_cons_succ]); (try simp only [List.set_cons_zero]))
            | (refine g_no rfl rfl rfl (by simp only [List.getElem?_toArray, List.getElem?_cons_succ, List.getElem?_cons_zero]; rfl) (by with_reducible constructor) ?_; simp only [Act.put, List.setIfInBounds_toArray]; (try simp only [List.set_cons_succ]); (try simp only [List.set_cons_zero])))
        refine g_nil ?_
        clear hS hcl
        intro hcl ww hS
        (try simp only [Act.put]); (try simp only [List.setIfInBounds_toArray]); (try simp only [List.set_cons_succ]); (try simp only [List.set_cons_zero])
        refine own_soft hS 6 hcl (by simp only [List.getElem?_toArray, List.getElem?_cons_succ, List.getElem?_cons_zero]; rfl) (by kernel_rfl) ?_
        have hO := hS
        clear hS
        intro hS
        refine own_buildSlice rfl _ _ 1 _ rfl [.int .i64 (wd i)] hS Try.underlying35 (by kernel_rfl) ?_
        clear hS
        intro b1 w4 hS
        refine wpList_nil ⟨rfl, _, hS, ?_⟩
        clear hS hO hcl
        intro hcl w5 hS
        (try simp only [Act.put]); (try simp only [List.setIfInBounds_toArray]); (try simp only [List.set_cons_succ]); (try simp only [List.set_cons_zero])
        refine own_hard (D := D2) (W := W) 7 hcl (by simp only [List.getElem?_toArray, List.getElem?_cons_succ, List.getElem?_cons_zero]; rfl) (by kernel_rfl) (by kernel_rfl) ?_
        refine own_append_new (b := b1) rfl _ _ _ rfl HX.out rfl rfl (show Own D2 W (((b1, [.int .i64 (wd i)]) :: [_, _, _, _, _, _]) ++ X) w5 from hS) rfl (by rfl) el_int (by decide) (by simp only [maxLen]; omega) (by omega) ?_
        clear hS
        intro v' X' w6 hS hX'
        refine wpList_nil ⟨rfl, _, hS, ?_⟩
        clear hS hcl
        intro hcl w7 hS
        (try simp only [Act.put]); (try simp only [List.setIfInBounds_toArray]); (try simp only [List.set_cons_succ]); (try simp only [List.set_cons_zero])
        refine own_hard (D := D2) (W := W) 8 hcl (by simp only [List.getElem?_toArray, List.getElem?_cons_succ, List.getElem?_cons_zero]; rfl) (by kernel_rfl) (by kernel_rfl) ?_
        refine own_store1 (v := v') rfl _ _ _ rfl rfl rfl hX'.one hS at0 ot_ints (by simp) ?_
        clear hS
        intro w8 hS
        refine wpList_nil ⟨rfl, _, hS, ?_⟩
        clear hS hcl
        intro hcl w9 hS
        refine own_done (by kernel_rfl) ?_
        rw [HD2.out] at hS
        refine ⟨_, hS, v', X', ?_, rfl⟩
        rw [List.flatMap_append, List.flatMap_cons, List.flatMap_nil, List.append_nil, List.length_append, ← HI.out]
        exact hX'
      case done =>
        rintro M xs W L' hM rfl hS' ⟨v, X, hX, rfl⟩ hd
        have hS1 := hS.chainR hS'
        rw [HDD.out] at hS1
        have HM1 := Lib.hid (marks_next HM.out HA.out hS1 hS.size hM hd)
        have HA1 := Lib.hid (HA.out.chainR hS1)
        obtain ⟨D1, HD1, hS⟩ := HA1.out.rebaseN
        rw [List.length_finRange, fin_cells (fun r => wd (c + r * C))] at hX
        obtain ⟨y, cv, rfl⟩ := hX.slice
        have hrow := sl_row (l := (List.range R).map fun r => wd (c + r * C)) HA1.out (fun x hx => List.mem_append_right _ hx) (by simpa using hX)
        have HRw := Lib.hid hrow
        have HX := Lib.hid hX
        obtain ⟨cw, hcw⟩ : ∃ cw, cw = colW R C wd c := ⟨_, rfl⟩
        have hgr := fun w' (hb : Below W.heap.size W w') => greatest_col (cp := cv) (HRw.out.below hb) hR256
        rw [← hcw] at hgr
        have HG := Lib.hid hgr
        have HW := Lib.hid hcw
        clear hX hrow hgr hS1 hd hS' hM hcw
        go_wp2_with (first | (refine own_unguard (by rfl) ?_) | (go_at_call 45; refine own_calls hS (HG.out _ (bself _)) ?_; clear hS; (try clear ww); intro ww hS) | (have _t := tokdb; refine own_alloc rfl _ rfl hS zt_int ?_; clear hS tokdb; (try clear ww); intro db ww hS) | (go_at_call 26; refine Calls.mono (every_calls _ _ _ _) ?_; rintro e w1 ⟨k3, k4, k5, rfl, hE⟩; have HQ := Lib.hid (And.intro hS hE); have hS1 := hS.step hE.below; clear hS hE; have hS := hS1; clear hS1) | (refine w_ld rfl _ rfl (by rfl) (by first | exact rd_1 (by repeat constructor) (by first | rfl | assumption) | exact rd_w (by repeat constructor) (by rfl) | exact rd_o (by assumption) (by rfl) (by first | exact nmn | assumption | simp) | exact rd_h (by assumption) (by rfl) (by first | exact nmn | assumption | simp) | exact rd_1o (by assumption) (by first | exact nmn | assumption | simp) | exact rd_1h (by assumption) (by first | rfl | assumption) (by first | exact nmn | assumption | simp)) hS ?_) | (refine own_box rfl _ _ rfl (by rfl) hS ?_; clear hS; (try clear ww); intro bb ww hS) | (refine w_al rfl rfl hS ?_; clear hS; (try clear ww); intro bb ww hS) | (refine w_st rfl _ _ rfl (by rfl) (by rfl) (by repeat constructor) (by rfl) (by rfl) (by first | rfl | assumption) hS ?_; clear hS; (try clear ww); intro ww hS) | (refine w_s1 rfl _ _ rfl (by rfl) (by repeat constructor) (by first | exact .c | exact .t rfl) (by rfl) (by repeat constructor) hS ?_; clear hS; (try clear ww); intro ww hS))
        refine wp_range (α := Fin R) (KB := [k5, k4, k3]) (Rl := fun pre L' => ∃ cur', PlX ks cur' (fun i => P i ∨ ∃ x ∈ pre, i = c + x.1 * C) (colX R C wd q) ∧ (∀ x ∈ pre, lenOk (cw - wd (c + x.1 * C)) = true) ∧ L' = [(db, [.int .i64 cw]), (wb, [.slice y R cv]), (gb, [.int .i64 (colB R C wd q c)]), (ob, [.bool false]), (eb, [.int .i64 E]), (cb, [.slice (some ⟨mb, 0, none⟩) N cp]), (mb, cur'.flatMap elC ++ junk)] ++ X)
          (Rx := fun c' _ L' => c' = .ret ∧ ∃ cur' P', PlX ks cur' P' (colX R C wd q) ∧ ¬ ColsOk R C wd ∧ L' = [(db, [.int .i64 cw]), (wb, [.slice y R cv]), (gb, [.int .i64 (colB R C wd q c)]), (ob, [.bool false]), (eb, [.int .i64 0]), (cb, [.slice (some ⟨mb, 0, none⟩) N cp]), (mb, cur'.flatMap elC ++ junk)] ++ X) hS ⟨cur, hPl.iff (fun i _ => by simp), by simp, rfl⟩ (own_off HQ.out.1 HQ.out.2) (fun k hk => own_keys HQ.out.2 k hk) rfl (enters_of Try.func46 (by kernel_rfl) rfl)
          (every_stops k3 k4 k5 c N C R 8 w1 (HQ.out.2.get at2) (HQ.out.2.get at1) (HQ.out.2.get at0) hC (fun j => by rw [HN.out]; exact every_rounds hlt j) (by omega) (by decide)) (fun _ => rfl) ?a2 ?assign2 ?body2 ?done2 ?stop2
        case assign2 =>
          intro l x W K hK
          gi_wp2
          exact hK
        case body2 =>
          rintro l pre x W L' hl hr hS' ⟨cur', hPl', hvs, rfl⟩ hlen
          obtain ⟨D2, HD2, hS⟩ := hS'.rebaseN
          obtain ⟨i, hi⟩ : ∃ i : Nat, i = c + x.1 * C := ⟨_, rfl⟩
          have hcast : (c : Int) + (x.1 : Int) * (C : Int) = (i : Int) := by rw [hi]; push_cast; rfl
          have hiN : i < N := by rw [hi, HN.out]; exact (every_rounds hlt x.1).1 x.2
          obtain ⟨e, he⟩ : ∃ e, ks[i]? = some e := ⟨ks[i]'(by omega), by rw [List.getElem?_eq_getElem]⟩
          obtain ⟨x0, hx0⟩ := hPl'.at he
          have f0 : (cur'.flatMap elC ++ junk)[i * 11 + 3]? = some (.int .i64 (wd i)) := by rw [HWD.out i e he]; exact flat_get hx0 rfl
          have hcwb := colW_in (R := R) (C := C) (fun i => (hw i).2) c
          rw [← HW.out] at hcwb
          have hwi := hw i
          obtain ⟨dv, hdv⟩ : ∃ dv, dv = cw - wd i := ⟨_, rfl⟩
          have i1 : IntKind.i64.wrap (cw - wd i) = dv := by rw [hdv]; exact IntWalk.i64_in _ (by omega)
          have hbb := colB_in (R := R) (C := C) (fun i => (hw i).2) hq c
          have hh := hlf_abs (n := dv)
          have i2 : IntKind.i64.wrap (colB R C wd q c + hlf dv) = colX R C wd q i := by
            rw [show colX R C wd q i = colB R C wd q c + hlf dv by rw [hdv, HW.out, hi]; unfold colX; rw [mod_of hlt]]
            exact IntWalk.i64_in _ (by omega)
          have HDv := Lib.hid hdv
          have hlen6 : i * 11 + 6 < (cur'.flatMap elC ++ junk).length := by
            have := hPl'.1
            rw [List.length_append, flat_size]
            omega
          have HPl' := Lib.hid hPl'
          have HVs := Lib.hid hvs
          have HE0 := Lib.hid (And.intro he hx0)
          have HI := Lib.hid hi
          clear hPl' he hx0 hi hcwb hwi hbb hh hvs hdv
          simp only [hcast]
          clear hcast
          refine wpIn_block ?_
          refine wpIn_seq ?_
          refine wpIn_seq ?_
          refine RegionAny.round (by repeat (first | exact roundPostO_stays | refine then_stays ?_ | refine block_stays ?_)) (by kernel_rfl) ?_
          refine own_anyR hS [] 9 (by kernel_rfl) (by kernel_rfl) ?_
          clear hS
          intro hcl ww hS
          refine own_batch hS [0, 1, 2, 3, 4, 5, 6, 7, 8] 0 rfl hcl (by kernel_rfl) ?_
          (try simp only); repeat (first | (simp only [List.filterMap_cons]) | (simp only [List.filterMap_nil]) | (simp only [List.getElem?_toArray]) | (simp only [List.getElem?_cons_succ]) | (simp only [List.getElem?_cons_zero]) | (simp only [List.reverse_cons]) | (simp only [List.reverse_nil]) | (simp only [List.nil_append]) | (simp only [List.cons_append]))
          repeat (first
              | (first | (refine g_plain rfl ?_) | (refine g_yes rfl rfl rfl (by simp only [List.getElem?_toArray, List.getElem?_cons_succ, List.getElem?_cons_zero]; rfl) (by with_reducible constructor) ?_)
                 apply Exists.intro; refine ⟨?_, ?_⟩
                 focus (intro wq hq0; (first | have hq : Own _ _ _ wq := hq0 | have hq : Own _ _ _ wq := hq0.1 | skip); first | ((with_reducible show givesAt _ ({ dst := _, op := Op.load _ _, type := _, pos := _, after := _, guard := _ } : Oper) _ _ _); first | (exact givesAt_rd rfl (by rfl) (by first | exact rd_1 (by repeat constructor) (by first | rfl | assumption) | exact rd_w (by repeat constructor) (by rfl) | exact rd_o (by assumption) (by rfl) (by first | exact nmn | assumption | simp) | exact rd_h (by assumption) (by rfl) (by first | exact nmn | assumption | simp) | exact rd_1o (by assumption) (by first | exact nmn | assumption | simp) | exact rd_1h (by assumption) (by first | rfl | assumption) (by first | exact nmn | assumption | simp)) hq)) | (go_simp; first | (go_at_call 24; exact (length_Valid_gives dv _)) | (with_reducible rfl)))
                 simp only [Act.put, List.setIfInBounds_toArray]; (try simp only [List.set_cons_succ]); (try simp only [List.set_cons_zero]))
              | (refine g_no rfl rfl rfl (by simp only [List.getElem?_toArray, List.getElem?_cons_succ, List.getElem?_cons_zero]; rfl) (by with_reducible constructor) ?_; simp only [Act.put, List.setIfInBounds_toArray]; (try simp only [List.set_cons_succ]); (try simp only [List.set_cons_zero])))
          refine g_nil ?_
          clear hS hcl
          intro hcl ww hS
          (try simp only [Act.put]); (try simp only [List.setIfInBounds_toArray]); (try simp only [List.set_cons_succ]); (try simp only [List.set_cons_zero])
          refine own_done (by kernel_rfl) ?_
          refine wpIn_cond (t := !lenOk dv) rfl ?_
          by_cases hv : lenOk dv = true
          · rw [hv]
            simp only [Bool.not_true, Bool.false_eq_true, if_false]
            refine wpIn_skip ?_
            simp only [Exit.then]
            refine RegionAny.round (by repeat (first | exact roundPostO_stays | refine then_stays ?_ | refine block_stays ?_)) (by kernel_rfl) ?_
            refine own_anyR hS [14] 15 (by kernel_rfl) (by kernel_rfl) ?_
            clear hS
            intro hcl ww hS
            refine own_batch hS [0, 1, 2, 3, 4, 5, 6, 7, 8, 9, 10, 11, 12, 13] 1 rfl hcl (by kernel_rfl) ?_
            (try simp only); repeat (first | (simp only [List.filterMap_cons]) | (simp only [List.filterMap_nil]) | (simp only [List.getElem?_toArray]) | (simp only [List.getElem?_cons_succ]) | (simp only [List.getElem?_cons_zero]) | (simp only [List.reverse_cons]) | (simp only [List.reverse_nil]) | (simp only [List.nil_append]) | (simp only [List.cons_append]))
            repeat (first
                | (first | (refine g_plain rfl ?_) | (refine g_yes rfl rfl rfl (by simp only [List.getElem?_toArray, List.getElem?_cons_succ, List.getElem?_cons_zero]; rfl) (by with_reducible constructor) ?_)
                   apply Exists.intro; refine ⟨?_, ?_⟩
                   focus (intro wq hq0; (first | have hq : Own _ _ _ wq := hq0 | have hq : Own _ _ _ wq := hq0.1 | skip); first | ((with_reducible show givesAt _ ({ dst := _, op := Op.load _ _, type := _, pos := _, after := _, guard := _ } : Oper) _ _ _); first | (exact givesAt_rd rfl (by rfl) (by first | exact rd_1 (by repeat constructor) (by first | rfl | assumption) | exact rd_w (by repeat constructor) (by rfl) | exact rd_o (by assumption) (by rfl) (by first | exact nmn | assumption | simp) | exact rd_h (by assumption) (by rfl) (by first | exact nmn | assumption | simp) | exact rd_1o (by assumption) (by first | exact nmn | assumption | simp) | exact rd_1h (by assumption) (by first | rfl | assumption) (by first | exact nmn | assumption | simp)) hq)) | (go_simp; first | (go_at_call 25; exact (length_Half_gives dv _)) | (with_reducible rfl)))
                   simp only [Act.put, List.setIfInBounds_toArray]; (try simp only [List.set_cons_succ]); (try simp only [List.set_cons_zero]))
                | (refine g_no rfl rfl rfl (by simp only [List.getElem?_toArray, List.getElem?_cons_succ, List.getElem?_cons_zero]; rfl) (by with_reducible constructor) ?_; simp only [Act.put, List.setIfInBounds_toArray]; (try simp only [List.set_cons_succ]); (try simp only [List.set_cons_zero])))
            refine g_nil ?_
            clear hS hcl
            intro hcl ww hS
            (try simp only [Act.put]); (try simp only [List.setIfInBounds_toArray]); (try simp only [List.set_cons_succ]); (try simp only [List.set_cons_zero])
            refine own_hard (D := D2) (W := W) 14 hcl (by simp only [List.getElem?_toArray, List.getElem?_cons_succ, List.getElem?_cons_zero]; rfl) (by kernel_rfl) (by kernel_rfl) ?_
            refine own_store1 (i := i * 11 + 6) (v := .int .i64 (colX R C wd q i)) rfl _ _ _ rfl rfl rfl rfl hS at6 ot_int hlen6 ?_
            clear hS
            intro w8 hS
            refine wpList_nil ⟨rfl, _, hS, ?_⟩
            clear hS hcl
            intro hcl w9 hS
            refine own_done (by kernel_rfl) ?_
            simp only [List.set_cons_succ, List.set_cons_zero] at hS
            rw [flat_set (e' := elX (colX R C wd q i) e) HE0.out.2 (by decide) rfl, HD2.out] at hS
            refine ⟨_, hS, cur'.set i (elX (colX R C wd q i) e), HPl'.out.next HE0.out.1 (fun j => ?_), fun z hz => ?_, rfl⟩
            · rw [HI.out]
              simp only [List.mem_append, List.mem_singleton, or_assoc]
              constructor
              · rintro (h | ⟨z, h | rfl, rfl⟩)
                · exact .inl h
                · exact .inr (.inl ⟨z, h, rfl⟩)
                · exact .inr (.inr rfl)
              · rintro (h | ⟨z, h, rfl⟩ | rfl)
                · exact .inl h
                · exact .inr ⟨z, .inl h, rfl⟩
                · exact .inr ⟨x, .inr rfl, rfl⟩
            · rcases List.mem_append.1 hz with h | h
              · exact HVs.out z h
              · obtain rfl := List.mem_singleton.1 h
                rw [← HI.out, ← HDv.out]
                exact hv
          · rw [Bool.not_eq_true] at hv
            rw [hv]
            simp only [Bool.not_false, if_true]
            refine wpIn_seq ?_
            refine region_round (by repeat (first | exact roundPostO_stays | refine then_stays ?_ | refine block_stays ?_)) (by kernel_rfl) ?_
            go_wp2_with (first | (refine own_unguard (by rfl) ?_) | (refine w_ld rfl _ rfl (by rfl) (by first | exact rd_1 (by repeat constructor) (by first | rfl | assumption) | exact rd_w (by repeat constructor) (by rfl) | exact rd_o (by assumption) (by rfl) (by first | exact nmn | assumption | simp) | exact rd_h (by assumption) (by rfl) (by first | exact nmn | assumption | simp) | exact rd_1o (by assumption) (by first | exact nmn | assumption | simp) | exact rd_1h (by assumption) (by first | rfl | assumption) (by first | exact nmn | assumption | simp)) hS ?_) | (refine own_box rfl _ _ rfl (by rfl) hS ?_; clear hS; (try clear ww); intro bb ww hS) | (refine w_al rfl rfl hS ?_; clear hS; (try clear ww); intro bb ww hS) | (refine w_st rfl _ _ rfl (by rfl) (by rfl) (by repeat constructor) (by rfl) (by rfl) (by first | rfl | assumption) hS ?_; clear hS; (try clear ww); intro ww hS) | (refine w_s1 rfl _ _ rfl (by rfl) (by repeat constructor) (by first | exact .c | exact .t rfl) (by rfl) (by repeat constructor) hS ?_; clear hS; (try clear ww); intro ww hS))
            refine wpIn_ret ?_
            rw [HD2.out] at hS
            refine ⟨_, hS, rfl, cur', _, HPl'.out, fun hok => ?_, rfl⟩
            have h1 := hok c hlt x.1 x.2
            rw [← HI.out, ← HW.out, ← HDv.out, hv] at h1
            cases h1
        case done2 =>
          rintro M2 xs W2 L' hM rfl hS' ⟨cur', hPl', hvs, rfl⟩ hd
          have hS1 := hS.chainR hS'
          rw [HD1.out] at hS1
          have HM2 := Lib.hid (marks_next HM1.out HA1.out hS1 hS.size hM hd)
          have HA2 := Lib.hid (HA1.out.chainR hS1)
          clear hS
          obtain ⟨D3, HD3, hS⟩ := HA2.out.rebaseN
          have hcwb := colW_in (R := R) (C := C) (fun i => (hw i).2) c
          rw [← HW.out] at hcwb
          have hbb := colB_in (R := R) (C := C) (fun i => (hw i).2) hq c
          obtain ⟨En, hEn⟩ : ∃ En, En = colB R C wd q c + cw := ⟨_, rfl⟩
          have i1 : IntKind.i64.wrap (colB R C wd q c + cw) = En := by rw [hEn]; exact IntWalk.i64_in _ (by omega)
          have i2 : IntKind.i64.wrap (En + q) = colB R C wd q (c + 1) := by
            rw [show colB R C wd q (c + 1) = En + q by rw [hEn, HW.out]; rfl]
            exact IntWalk.i64_in _ (by omega)
          have HEn := Lib.hid (show En = colB R C wd q c + colW R C wd c by rw [hEn, HW.out])
          have HPl2 := Lib.hid hPl'
          have HVs := Lib.hid hvs
          clear hPl' hvs hS1 hS' hM hd hcwb hbb hEn
          go_wp2_with (first | (refine own_unguard (by rfl) ?_) | (refine w_ld rfl _ rfl (by rfl) (by first | exact rd_1 (by repeat constructor) (by first | rfl | assumption) | exact rd_w (by repeat constructor) (by rfl) | exact rd_o (by assumption) (by rfl) (by first | exact nmn | assumption | simp) | exact rd_h (by assumption) (by rfl) (by first | exact nmn | assumption | simp) | exact rd_1o (by assumption) (by first | exact nmn | assumption | simp) | exact rd_1h (by assumption) (by first | rfl | assumption) (by first | exact nmn | assumption | simp)) hS ?_) | (refine own_box rfl _ _ rfl (by rfl) hS ?_; clear hS; (try clear ww); intro bb ww hS) | (refine w_al rfl rfl hS ?_; clear hS; (try clear ww); intro bb ww hS) | (refine w_st rfl _ _ rfl (by rfl) (by rfl) (by repeat constructor) (by rfl) (by rfl) (by first | rfl | assumption) hS ?_; clear hS; (try clear ww); intro ww hS) | (refine w_s1 rfl _ _ rfl (by rfl) (by repeat constructor) (by first | exact .c | exact .t rfl) (by rfl) (by repeat constructor) hS ?_; clear hS; (try clear ww); intro ww hS))
          rw [HD3.out] at hS
          have HA3 := Lib.hid (HA2.out.chainR hS)
          have HM3 := Lib.hid (HM2.out.own HA2.out hS)
          generalize hA : Act.mk _ _ = a'
          refine ⟨⟨c + 1, cur', _, En, fun i => a'.tmps.getD i undef, _, hlt, HPl2.out, Lib.hid fun i hi => ?_, Lib.hid fun c' hc' r hr => ?_, Lib.hid fun _ => HEn.out, HA3.out.forget (by simp), HM3, ?_⟩, ?_⟩
          · have h1 := HP.out i hi
            rw [h1, col_all hlt (by rw [← HN.out, ← hkl]; exact hi)]
            omega
          · by_cases h1 : c' < c
            · exact HV.out c' h1 r hr
            · obtain rfl : c' = c := by omega
              have h2 := HVs.out ⟨r, hr⟩ (List.mem_finRange _)
              rw [HW.out] at h2
              exact h2
          · subst hA
            rfl
          · subst hA
            simp [intOf]
            omega
        case stop2 =>
          rintro M2 c' pre W2 L' hM hS' ⟨rfl, cur', P', hPl', hno, rfl⟩ hd
          have hS1 := hS.chainR hS'
          rw [HD1.out] at hS1
          have hM2 := marks_next HM1.out HA1.out hS1 hS.size hM hd
          have hA2 := HA1.out.chainR hS1
          refine wp_ret ?_
          refine leaves_marks (D := [mb]) (W := w) (fun w' hS' => ?_) _ _ hA2 hM2
          have hc1 := (hS'.get at3).cell
          have hc2 := (hS'.get at4).cell
          refine ⟨.tuple #[.int .i64 0, .bool false], by simp [results, Try.results22, go_sem, hc1, hc2], cur', P', _, false, 0, rfl, hPl', hS'.forget (by simp), (fun h => nomatch h), fun _ => hno⟩
    · obtain rfl : c = C := by omega
      have d1 : decide ((c : Int) < (c : Int)) = false := decide_eq_false (by omega)
      go_wp2_with (first | (refine own_unguard (by rfl) ?_) | (refine w_ld rfl _ rfl (by rfl) (by first | exact rd_1 (by repeat constructor) (by first | rfl | assumption) | exact rd_w (by repeat constructor) (by rfl) | exact rd_o (by assumption) (by rfl) (by first | exact nmn | assumption | simp) | exact rd_h (by assumption) (by rfl) (by first | exact nmn | assumption | simp) | exact rd_1o (by assumption) (by first | exact nmn | assumption | simp) | exact rd_1h (by assumption) (by first | rfl | assumption) (by first | exact nmn | assumption | simp)) hS ?_) | (refine own_box rfl _ _ rfl (by rfl) hS ?_; clear hS; (try clear ww); intro bb ww hS) | (refine w_al rfl rfl hS ?_; clear hS; (try clear ww); intro bb ww hS) | (refine w_st rfl _ _ rfl (by rfl) (by rfl) (by repeat constructor) (by rfl) (by rfl) (by first | rfl | assumption) hS ?_; clear hS; (try clear ww); intro ww hS) | (refine w_s1 rfl _ _ rfl (by rfl) (by repeat constructor) (by first | exact .c | exact .t rfl) (by rfl) (by repeat constructor) hS ?_; clear hS; (try clear ww); intro ww hS))
      rw [HDD.out] at hS
      refine leaves_marks (D := [mb]) (W := w) (fun w' hS' => ?_) _ _ (HA.out.chainR hS) (HM.out.own HA.out hS)
      have hc1 := (hS'.get at1).cell
      have hc2 := (hS'.get at2).cell
      exact ⟨.tuple #[.int .i64 E, .bool true], by simp [results, Try.results22, go_sem, hc1, hc2], cur, P, _, true, E, rfl, hPl, hS'.forget (by simp), (fun _ => ⟨HV.out, HE.out (by omega), fun i hi => (HP.out i hi).2 (Nat.mod_lt _ (by omega)), rfl⟩), fun h => nomatch h⟩

end Go.Proofs.Ytgnkngkogamjaaa
