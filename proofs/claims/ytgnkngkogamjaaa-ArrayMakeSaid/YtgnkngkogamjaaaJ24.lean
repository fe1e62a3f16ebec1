/- Texts Rm7, Aj7. -/
import Derived.Test.YtgnkngkogamjaaaJ23
import Derived.Test.YtgnkngkogamjaaaJ20
namespace Go.Proofs.Ytgnkngkogamjaaa
open Go.RowKit
attribute [local irreducible] wpQuiet wpG wpP wpK wpList Code.wp Calls

theorem ref01_Valid_gives (a : Int) (w : World) : Calls Try.prog 30 #[.int .i64 a] w (Gives (.bool (lenOk a)) w) := (ref01_Valid_calls a w).mono fun _ _ h => ⟨h.1, h.2 ▸ bself w⟩

set_option maxHeartbeats 8000000 in
set_option maxRecDepth 100000 in
theorem refArr_bad (F : Fnt) (l : Int) (c : Bool) (n m : Nat) (C : Int) (kids : List (Bx (n + 1))) (kx : Option Addr) (kc : Nat) (w : World) (_hF : FntOk w F) (_hk : RepL w (n + 1) kx kids) (_hl : kids.length ≤ 400) (e : Int) (he : e ≠ 0) (hck : ∀ w', Below w.heap.size w w' → Calls Try.prog 28 #[F.val, .agg #[.int .i64 l, .bool c], .int .i64 C, .slice kx kids.length kc] w' (Gives (.int .i64 e) w')) : Calls Try.prog 11 #[F.val, .agg #[.int .i64 l, .bool c], .int .i64 C, .slice kx kids.length kc] w (GivesBE (m + 1) (zeroB m) e w) := by
  have HC := Lib.hid hck
  have hne : (e == 0) = false := by simpa using he
  clear _hk _hF hck he
  go_enter Try.func11, Try.ntmps11
  have hS := own_start w
  go_wp2_with (first | (refine own_unguard (by rfl) ?_) | (go_at_call 28; refine own_calls hS (HC.out _ hS.below) ?_; clear hS; (try clear ww); intro ww hS) | (refine w_ld rfl _ rfl (by rfl) (by first | exact rd_1 (by repeat constructor) (by first | rfl | assumption) | exact rd_w (by repeat constructor) (by rfl) | exact rd_o (by assumption) (by rfl) (by first | exact nmn | assumption | simp) | exact rd_h (by assumption) (by rfl) (by first | exact nmn | assumption | simp) | exact rd_1o (by assumption) (by first | exact nmn | assumption | simp) | exact rd_1h (by assumption) (by first | rfl | assumption) (by first | exact nmn | assumption | simp)) hS ?_) | (refine own_box rfl _ _ rfl (by rfl) hS ?_; clear hS; (try clear ww); intro bb ww hS) | (refine w_al rfl rfl hS ?_; clear hS; (try clear ww); intro bb ww hS) | (refine w_st rfl _ _ rfl (by rfl) (by rfl) (by repeat constructor) (by rfl) (by rfl) (by first | rfl | assumption) hS ?_; clear hS; (try clear ww); intro ww hS) | (refine w_s1 rfl _ _ rfl (by rfl) (by repeat constructor) (by first | exact .c | exact .t rfl) (by rfl) (by repeat constructor) hS ?_; clear hS; (try clear ww); intro ww hS))
  have hc := (hS.get at0).cell
  refine bodyPost_ret (v := .tuple #[.agg #[.int .i64 0, .string ⟨#[]⟩, .int .i64 0, .int .i64 0, .int .i64 0, .int .i64 0, .int .i64 0, .int .i64 0, .slice none 0 0, .int .i64 0, .slice none 0 0], .int .i64 e]) (by simp [results, Try.results11, go_sem, hc]) rfl ⟨_, rfl, rep_zero m _, hS.below⟩

/-- The placed elements. -/
def elsOf (xf yf : Nat → Int) (ks : List El) : List El := ks.mapIdx fun i e => elY (yf i) (elX (xf i) e)
theorem els_at {xf yf : Nat → Int} {ks : List El} {i : Nat} {e : El} (h : ks[i]? = some e) : (elsOf xf yf ks)[i]? = some (elY (yf i) (elX (xf i) e)) := by
  unfold elsOf
  rw [List.getElem?_mapIdx, h]
  rfl
theorem els_next {xf yf : Nat → Int} {ks : List El} {i : Nat} {e : El} (h : ks[i]? = some e) : ((elsOf xf yf ks).take (i + 1)).flatMap elC = ((elsOf xf yf ks).take i).flatMap elC ++ elC (elY (yf i) (elX (xf i) e)) := by
  rw [List.take_add_one, els_at h, List.flatMap_append]
  simp
theorem cnt_sum {n : Nat} {l : List (Bx (n + 1))} {m : Nat} (h : ∀ k ∈ l, bCount (n + 1) k ≤ m) : (l.map (bCount (n + 1))).sum ≤ l.length * m := by
  induction l with
  | nil => simp
  | cons a l ih =>
    have h1 := h a (List.mem_cons_self ..)
    have h2 := ih (fun k hk => h k (List.mem_cons_of_mem _ hk))
    rw [List.map_cons, List.sum_cons, List.length_cons, Nat.succ_mul]
    omega
/-- The matrix lies there. -/
theorem rep_matrix {w V : World} {n N cv : Nat} {y : Option Addr} {kids : List (Bx (n + 1))} {ks : List El} {xf yf xa ya : Nat → Int} {Wf top dT : Int} (hb : Below w.heap.size w V) (hrow : RowAt V y 11 elC (elsOf xf yf ks)) (hl : ks.length = N) (hkl : kids.length = N) (hN : N ≤ 256)
    (hks : ∀ (i : Nat) (e : El) (kid : Bx (n + 1)), ks[i]? = some e → kids[i]? = some kid → e.1 = kid.1 ∧ Rep w (n + 1) kid (elC e)) (hx : ∀ i, i < N → I64 (xf i) ∧ I64 (yf i)) (hxa : ∀ i, xa i = xf i) (hya : ∀ i, ya i = yf i) (h1 : I64 Wf) (h2 : I64 top) (h3 : I64 dT) :
    Rep V (n + 2) (listB (n + 1) Wf top dT (kids.mapIdx fun i k => atXY (n + 1) k (xa i) (ya i))) [.int .i64 3, .string ⟨#[]⟩, .int .i64 0, .int .i64 Wf, .int .i64 top, .int .i64 dT, .int .i64 0, .int .i64 0, .slice y N cv, .int .i64 0, .slice none 0 0] := by
  have hlen : (kids.mapIdx fun i k => atXY (n + 1) k (xa i) (ya i)).length = N := by rw [List.length_mapIdx, hkl]
  have hr : RepL V (n + 1) y (kids.mapIdx fun i k => atXY (n + 1) k (xa i) (ya i)) := fun i kid' hi => by
    rw [List.getElem?_mapIdx] at hi
    obtain ⟨kid, hkid, rfl⟩ := Option.map_eq_some_iff.1 hi
    have hiN : i < N := by rw [← hkl]; exact (List.getElem?_eq_some_iff.1 hkid).1
    obtain ⟨e0, he0⟩ : ∃ e0, ks[i]? = some e0 := ⟨ks[i]'(by rw [hl]; exact hiN), by rw [List.getElem?_eq_getElem]⟩
    obtain ⟨b, o, hy, hrg⟩ := hrow.get (els_at (xf := xf) (yf := yf) he0)
    have hk1 := hks i e0 kid he0 hkid
    refine ⟨b, o, _, hy, hrg, ?_⟩
    rw [hxa, hya]
    exact (rep_placed hk1.1 (repP_step (repP_old hk1.2) hb) (hx i hiN).1 (hx i hiN).2).rep
  have h := rep_mk (n := n + 1) (kc := cv) (sx := none) (sc := 0) (hdOk_new (k := 3) (by unfold I64; omega) h1 h2 h3) (by rw [hlen]; simp only [maxLen]; omega) (.inl rfl) hr
  rw [hlen] at h
  exact h
theorem flat_range {w : World} {k o : Nat} {ks : List El} {i : Nat} {e : El} (h : w.rangeAt k o (ks.flatMap elC)) (he : ks[i]? = some e) : w.rangeAt k (o + i * 11) (elC e) := fun j v hj => by
  have := flat_get (junk := []) he hj
  rw [List.append_nil] at this
  rw [Nat.add_assoc]
  exact h _ v this

set_option maxHeartbeats 32000000 in
set_option maxRecDepth 100000 in
theorem refArr_main (F : Fnt) (l : Int) (c : Bool) (n R C N : Nat) (kids : List (Bx (n + 1))) (kx : Option Addr) (kc : Nat) (w : World) (hF : FntOk w F) (hqf : F.gs.length ≤ 500 ∧ F.ss.length ≤ 50) (hk : RepL w (n + 1) kx kids) (hcn : ∀ k ∈ kids, bCount (n + 1) k ≤ 1000) (hv : ValidF F) (hlv : lvlOk l = true) (hvs : ∀ k ∈ kids, validB (n + 1) k) (hN : N = R * C) (hkl : kids.length = N) (hC : 1 ≤ C) (hC' : C ≤ 16) (hR : 1 ≤ R) (hRC : N ≤ 256) :
    Calls Try.prog 11 #[F.val, .agg #[.int .i64 l, .bool c], .int .i64 C, .slice kx N kc] w (ArrPost F l n C kids w) := by
  have hpos : 0 < N := by rw [hN]; exact Nat.mul_pos hR hC
  have hmod : (kids.length : Int) % (C : Int) = 0 := by rw [hkl, hN]; push_cast; simp
  have HCk := Lib.hid (fun w' (h : Below w.heap.size w w') => (show Calls Try.prog 28 #[F.val, .agg #[.int .i64 l, .bool c], .int .i64 C, .slice kx N kc] w' (Gives (.int .i64 0) w') from by
    have h1 := ref37_check_range F l c n (C : Int) kids kx kc w' (hF.below h) hqf (hk.step h) (fun k hk => Nat.le_trans (hcn k hk) (by omega)) (by omega) hv hlv hvs 0 (.inl ⟨rfl, by unfold ArrRange; omega⟩)
    rw [hkl] at h1
    exact h1))
  have hp := prm_quad hv
  obtain ⟨q, hqe⟩ : ∃ q, q = par F l F.quad := ⟨_, rfl⟩
  have hq : 0 ≤ q ∧ q ≤ 20000 := by have := par_in (l := l) hv hp.1.1 hp.1.2; omega
  obtain ⟨ax, hax⟩ : ∃ q, q = par F l F.axis := ⟨_, rfl⟩
  have haxb : 0 ≤ ax ∧ ax ≤ 20000 := by have := par_in (l := l) hv hp.2.1 hp.2.2; omega
  have HSq := Lib.hid (fun w' => (show Calls Try.prog 14 #[F.val, .agg #[.int .i64 l, .bool c], .int .i64 F.quad] w' (Gives (.int .i64 q) w') by rw [hqe]; exact ref37_Scaled_calls F l F.quad c w' hlv hv hp.1))
  have HSa := Lib.hid (fun w' => (show Calls Try.prog 14 #[F.val, .agg #[.int .i64 l, .bool c], .int .i64 F.axis] w' (Gives (.int .i64 ax) w') by rw [hax]; exact ref37_Scaled_calls F l F.axis c w' hlv hv hp.2))
  obtain ⟨g, hg⟩ : ∃ g, g = scl q 20 := ⟨_, rfl⟩
  have hgb := scl_small (p := 20) hq (by omega)
  rw [← hg] at hgb
  have HSg := Lib.hid (fun w' => (show Calls Try.prog 15 #[.int .i64 q, .int .i64 20] w' (Gives (.int .i64 g) w') by rw [hg]; exact ref01_Scale_gives q 20 w' (by omega) (by omega) (by omega)))
  obtain ⟨kb, ko, ks, rfl, hksl, hfl, hone, hks⟩ := repL_els hk (fun h => by rw [h] at hkl; simp at hkl; omega)
  obtain ⟨wd, hwd⟩ : ∃ wd, wd = kW kids := ⟨_, rfl⟩
  have hww : ∀ i, -1073741824 ≤ wd i ∧ wd i ≤ 1073741824 := fun i => by
    rw [hwd]
    unfold kW
    cases hki : kids[i]? with
    | none => simp
    | some k => have := (validB_nums (hvs k (List.mem_of_getElem? hki))).1; simpa using this
  obtain ⟨hh, hhh⟩ : ∃ hh, hh = fun r => rowM (scl q 70) C (kH kids) r := ⟨_, rfl⟩
  obtain ⟨dd, hdd⟩ : ∃ dd, dd = fun r => rowM (scl q 30) C (kD kids) r := ⟨_, rfl⟩
  have hhi : ∀ r, 0 ≤ hh r ∧ hh r ≤ 1073741824 := fun r => by
    rw [hhh]
    refine rowM_in (scl_small hq (by omega)) (fun i => ?_)
    unfold kH
    cases hki : kids[i]? with
    | none => simp
    | some k => have := (validB_nums (hvs k (List.mem_of_getElem? hki))).2.1; simpa using this.2
  have hdi : ∀ r, 0 ≤ dd r ∧ dd r ≤ 1073741824 := fun r => by
    rw [hdd]
    refine rowM_in (scl_small hq (by omega)) (fun i => ?_)
    unfold kD
    cases hki : kids[i]? with
    | none => simp
    | some k => have := (validB_nums (hvs k (List.mem_of_getElem? hki))).2.2.1; simpa using this.2
  have HRow := Lib.hid (fun j (hj : j < R) w' (h : Below w.heap.size w w') => (show Calls Try.prog 29 #[.int .i64 C, .slice (some ⟨kb, ko, none⟩) N kc, .int .i64 j, .int .i64 q] w' (Gives (.tuple #[.int .i64 (hh j), .int .i64 (dd j)]) w') from by
    rw [hhh, hdd]
    exact ref37_row_calls n R C N j kids _ kc q w' (hk.step h) hN hkl hC hC' hRC hj hq))
  have HColA := Lib.hid (fun i (hi : i < C) w' (h : Below w.heap.size w w') => (show Calls Try.prog 32 #[.int .i64 C, .slice (some ⟨kb, ko, none⟩) N kc, .int .i64 i] w' (Gives (.int .i64 (colW R C wd i)) w') from by
    rw [hwd]
    exact ref37_column_calls n R C N i kids _ kc w' (hk.step h) hN hkl hC hC' hRC hi))
  have hR256 : R ≤ 256 := by
    have := Nat.le_mul_of_pos_right R (Nat.lt_of_lt_of_le Nat.zero_lt_one hC)
    omega
  obtain ⟨rm, hrm⟩ : ∃ z : Int, z = (R : Int) - 1 := ⟨_, rfl⟩
  obtain ⟨t0, ht0⟩ : ∃ z : Int, z = g * rm := ⟨_, rfl⟩
  have ht0b : 0 ≤ t0 ∧ t0 ≤ 1000000000 := by
    have h1 : 0 ≤ rm := by omega
    have h2 := Int.mul_nonneg hgb.1 h1
    have h3 := Int.mul_le_mul hgb.2 (show rm ≤ 256 by omega) h1 (by omega : (0 : Int) ≤ 2000000)
    omega
  have i1 : IntKind.i64.wrap ((R : Int) - 1) = rm := by rw [hrm]; exact IntWalk.i64_in _ (by omega)
  have i2 : IntKind.i64.wrap (g * rm) = t0 := by rw [ht0]; exact IntWalk.i64_in _ (by omega)
  have iR : IntKind.i64.wrap (R : Int) = (R : Int) := IntWalk.i64_in _ (by omega)
  have q1 : (N : Int) / (C : Int) = (R : Int) := by
    rw [hN]
    push_cast
    exact Int.mul_ediv_cancel _ (by omega)
  have q2 : (N : Int).tdiv (C : Int) = (R : Int) := by rw [Int.tdiv_eq_ediv_of_nonneg (by omega)]; exact q1
  have d6 : (C : Int) ≠ 0 := by omega
  have hdiv : kids.length / C = R := by rw [hkl, hN, Nat.mul_div_cancel _ (by omega)]
  obtain ⟨T, hT⟩ : ∃ z, z = t0 + rowsS hh dd R := ⟨_, rfl⟩
  have HRb := Lib.hid (rowsS_in hhi hdi)
  have htb : 0 ≤ T ∧ T ≤ 600000000000 := by have := HRb.out R; omega
  have e1 : arrQ F l = q := by rw [hqe]; rfl
  have eH : arrH F l n C kids = hh := by rw [hhh]; funext r; unfold arrH rowH; rw [e1]
  have eD : arrD F l n C kids = dd := by rw [hdd]; funext r; unfold arrD rowD; rw [e1]
  have HArr := Lib.hid (show arrT F l n C kids = T by unfold arrT; rw [hdiv, hT, ht0, hrm, hg, e1, eH, eD])
  obtain ⟨th, hth⟩ : ∃ z, z = hlf T := ⟨_, rfl⟩
  have HTh := Lib.hid (fun w' => (show Calls Try.prog 31 #[.int .i64 T] w' (Gives (.int .i64 th) w') by rw [hth]; exact ref01_Half_gives T w'))
  have HTv := Lib.hid (fun w' => ref01_Valid_gives T w')
  have hthb := hlf_abs (n := T)
  rw [← hth] at hthb
  obtain ⟨top, htop⟩ : ∃ z, z = ax + th := ⟨_, rfl⟩
  have htpb : -1073741824 ≤ top ∧ top ≤ 1073761824 := by omega
  have i5 : IntKind.i64.wrap (ax + th) = top := by rw [htop]; exact IntWalk.i64_in _ (by omega)
  obtain ⟨dT, hdT⟩ : ∃ z, z = T - top := ⟨_, rfl⟩
  have hdTb : -2000000000 ≤ dT ∧ dT ≤ 700000000000 := by omega
  have i6 : IntKind.i64.wrap (T - top) = dT := by rw [hdT]; exact IntWalk.i64_in _ (by omega)
  have eT : arrTop F l n C kids = top := by unfold arrTop; rw [HArr.out, htop, hax, hth]
  obtain ⟨xf, hxf⟩ : ∃ xf, xf = colX R C wd q := ⟨_, rfl⟩
  obtain ⟨yf, hyf⟩ : ∃ yf : Nat → Int, yf = fun i => yAt top g hh dd (i / C) - hh (i / C) := ⟨_, rfl⟩
  have HYb := Lib.hid (yAt_in (top := top) (g := g) hhi hdi hgb)
  have HX := Lib.hid (show (∀ i, arrX F l n C kids i = xf i) ∧ (∀ i, arrY F l n C kids i = yf i) ∧ arrW F l n C kids = colB R C wd q (C - 1) + colW R C wd (C - 1) from
    ⟨fun i => by unfold arrX; rw [hdiv, e1, ← hwd, hxf], fun i => by unfold arrY; rw [eT, eH, eD, e1, hyf, hg], by unfold arrW; rw [hdiv, e1, ← hwd]⟩)
  have HFt := Lib.hid (show ArrFits F l n C kids ↔ (ColsOk R C wd ∧ lenOk T = true) by unfold ArrFits; rw [hdiv, HArr.out, ← hwd])
  have HB := Lib.hid (show arrB F l n C kids = listB (n + 1) (arrW F l n C kids) top dT (kids.mapIdx fun i k => atXY (n + 1) k (arrX F l n C kids i) (arrY F l n C kids i)) by unfold arrB; rw [eT, HArr.out, hdT])
  have HXf := Lib.hid hxf
  have HYf := Lib.hid hyf
  have HN := Lib.hid hN
  have HKs := Lib.hid (And.intro (hksl.trans hkl) hks)
  have HFl := Lib.hid hfl
  have HVs := Lib.hid hvs
  have HKL := Lib.hid hkl
  have HWd := Lib.hid hwd
  have HK := Lib.hid hk
  have HHi := Lib.hid (And.intro hhi hdi)
  have HOne := Lib.hid hone
  have HCn := Lib.hid hcn
  have HT := Lib.hid hT
  have tokfb : True := trivial
  have toksb : True := trivial
  have tokrb : True := trivial
  have tokob : True := trivial
  have tokkv : True := trivial
  clear hN hks hfl hvs hv hlv hkl hwd hF hk hone hksl hp hqe hhh hdd hhi hdi hax hg hrm ht0 hT hth htop hdT hxf hyf e1 eH eD eT hdiv hmod hcn hqf haxb hthb
  go_enter Try.func11, Try.ntmps11
  have hS := own_start w
  go_wp2_with (first | (refine own_unguard (by rfl) ?_) | (have _t := tokfb; refine own_box rfl _ _ rfl rfl hS ?_; clear hS tokfb; (try clear ww); intro fb ww hS) | (have _t := toksb; refine own_box rfl _ _ rfl rfl hS ?_; clear hS toksb; (try clear ww); intro sb ww hS) | (have _t := tokrb; refine own_alloc rfl _ rfl hS zt_box ?_; clear hS tokrb; (try clear ww); intro rb ww hS) | (go_at_call 28; refine own_calls hS (HCk.out _ hS.below) ?_; clear hS; (try clear ww); intro ww hS) | (go_at_call 14; refine own_calls hS (by first | exact HSq.out _ | exact HSa.out _) ?_; clear hS; (try clear ww); intro ww hS) | (go_at_call 15; refine own_calls hS (HSg.out _) ?_; clear hS; (try clear ww); intro ww hS) | (refine w_ld rfl _ rfl (by rfl) (by first | exact rd_1 (by repeat constructor) (by first | rfl | assumption) | exact rd_w (by repeat constructor) (by rfl) | exact rd_o (by assumption) (by rfl) (by first | exact nmn | assumption | simp) | exact rd_h (by assumption) (by rfl) (by first | exact nmn | assumption | simp) | exact rd_1o (by assumption) (by first | exact nmn | assumption | simp) | exact rd_1h (by assumption) (by first | rfl | assumption) (by first | exact nmn | assumption | simp)) hS ?_) | (refine own_box rfl _ _ rfl (by rfl) hS ?_; clear hS; (try clear ww); intro bb ww hS) | (refine w_al rfl rfl hS ?_; clear hS; (try clear ww); intro bb ww hS) | (refine w_st rfl _ _ rfl (by rfl) (by rfl) (by repeat constructor) (by rfl) (by rfl) (by first | rfl | assumption) hS ?_; clear hS; (try clear ww); intro ww hS) | (refine w_s1 rfl _ _ rfl (by rfl) (by repeat constructor) (by first | exact .c | exact .t rfl) (by rfl) (by repeat constructor) hS ?_; clear hS; (try clear ww); intro ww hS))
  go_loopw [14, 15] (fun t i wr => ∃ j : Nat, j ≤ R ∧ i = .int .i64 j ∧ t = .int .i64 (t0 + rowsS hh dd j) ∧ Own [] w [(rb, [.int .i64 0, .string ⟨#[]⟩, .int .i64 0, .int .i64 0, .int .i64 0, .int .i64 0, .int .i64 0, .int .i64 0, .slice none 0 0, .int .i64 0, .slice none 0 0]), (sb, [.int .i64 l, .bool c]), (fb, F.cells)] wr) (fun _ i _ => R - (intOf i).toNat)
  case atStart => exact ⟨0, Nat.zero_le _, rfl, by simp [rowsS], hS⟩
  case round =>
    clear hS
    obtain ⟨j, hj, rfl, rfl, hS⟩ := hrel
    have hrb := HRb.out j
    by_cases hjl : j < R
    · have h1 := HHi.out.1 j
      have h2 := HHi.out.2 j
      obtain ⟨hd, hhd⟩ : ∃ z, z = hh j + dd j := ⟨_, rfl⟩
      have i3 : IntKind.i64.wrap (hh j + dd j) = hd := by rw [hhd]; exact IntWalk.i64_in _ (by omega)
      have i4 : IntKind.i64.wrap (t0 + rowsS hh dd j + hd) = t0 + rowsS hh dd (j + 1) := by
        rw [show t0 + rowsS hh dd (j + 1) = t0 + rowsS hh dd j + hd by rw [rowsS, hhd]; omega]
        exact IntWalk.i64_in _ (by omega)
      clear hhd hrb h1 h2
      go_wp2_with (first | (refine own_unguard (by rfl) ?_) | (go_at_call 29; refine own_calls hS (HRow.out j (by omega) _ hS.below) ?_; clear hS; (try clear ww); intro ww hS) | (refine w_ld rfl _ rfl (by rfl) (by first | exact rd_1 (by repeat constructor) (by first | rfl | assumption) | exact rd_w (by repeat constructor) (by rfl) | exact rd_o (by assumption) (by rfl) (by first | exact nmn | assumption | simp) | exact rd_h (by assumption) (by rfl) (by first | exact nmn | assumption | simp) | exact rd_1o (by assumption) (by first | exact nmn | assumption | simp) | exact rd_1h (by assumption) (by first | rfl | assumption) (by first | exact nmn | assumption | simp)) hS ?_) | (refine own_box rfl _ _ rfl (by rfl) hS ?_; clear hS; (try clear ww); intro bb ww hS) | (refine w_al rfl rfl hS ?_; clear hS; (try clear ww); intro bb ww hS) | (refine w_st rfl _ _ rfl (by rfl) (by rfl) (by repeat constructor) (by rfl) (by rfl) (by first | rfl | assumption) hS ?_; clear hS; (try clear ww); intro ww hS) | (refine w_s1 rfl _ _ rfl (by rfl) (by repeat constructor) (by first | exact .c | exact .t rfl) (by rfl) (by repeat constructor) hS ?_; clear hS; (try clear ww); intro ww hS))
      go_roundw
      case rel => exact ⟨j + 1, hjl, by go_num, rfl, hS⟩
      case measure => exact loop_meas hjl
    · obtain rfl : R = j := by omega
      have hTe : t0 + rowsS hh dd R = T := HT.out.symm
      rw [hTe]
      clear hTe hrb
      by_cases hlT : lenOk T = true
      · have HlT := Lib.hid hlT
        go_wp2_with (first | (refine own_unguard (by rfl) ?_) | (go_at_call 30; refine own_calls hS (HTv.out _) ?_; clear hS; (try clear ww); intro ww hS) | (go_at_call 14; refine own_calls hS (by first | exact HSq.out _ | exact HSa.out _) ?_; clear hS; (try clear ww); intro ww hS) | (go_at_call 31; refine own_calls hS (HTh.out _) ?_; clear hS; (try clear ww); intro ww hS) | (have _t := tokob; refine own_alloc rfl _ rfl hS zt_box ?_; clear hS tokob; (try clear ww); intro ob ww hS) | (refine w_ld rfl _ rfl (by rfl) (by first | exact rd_1 (by repeat constructor) (by first | rfl | assumption) | exact rd_w (by repeat constructor) (by rfl) | exact rd_o (by assumption) (by rfl) (by first | exact nmn | assumption | simp) | exact rd_h (by assumption) (by rfl) (by first | exact nmn | assumption | simp) | exact rd_1o (by assumption) (by first | exact nmn | assumption | simp) | exact rd_1h (by assumption) (by first | rfl | assumption) (by first | exact nmn | assumption | simp)) hS ?_) | (refine own_box rfl _ _ rfl (by rfl) hS ?_; clear hS; (try clear ww); intro bb ww hS) | (refine w_al rfl rfl hS ?_; clear hS; (try clear ww); intro bb ww hS) | (refine w_st rfl _ _ rfl (by rfl) (by rfl) (by repeat constructor) (by rfl) (by rfl) (by first | rfl | assumption) hS ?_; clear hS; (try clear ww); intro ww hS) | (refine w_s1 rfl _ _ rfl (by rfl) (by repeat constructor) (by first | exact .c | exact .t rfl) (by rfl) (by repeat constructor) hS ?_; clear hS; (try clear ww); intro ww hS))
        go_loopw [20, 21] (fun yv r wr => ∃ (j : Nat) (v : Value) (X : List (Nat × List Value)) (Wc : Int), j ≤ R ∧ r = .int .i64 j ∧ yv = .int .i64 (yAt top g hh dd j) ∧ Hid (∀ r', r' < j → ∀ c', c' < C → lenOk (colW R C wd c' - wd (c' + r' * C)) = true) ∧ Hid (0 < j → Wc = colB R C wd q (C - 1) + colW R C wd (C - 1)) ∧ Hid (Sl 11 (j * C) v (((elsOf xf yf ks).take (j * C)).flatMap elC) X) ∧ Own [] w ((ob, [.int .i64 3, .string ⟨#[]⟩, .int .i64 0, .int .i64 Wc, .int .i64 top, .int .i64 dT, .int .i64 0, .int .i64 0, v, .int .i64 0, .slice none 0 0]) :: (rb, [.int .i64 0, .string ⟨#[]⟩, .int .i64 0, .int .i64 0, .int .i64 0, .int .i64 0, .int .i64 0, .int .i64 0, .slice none 0 0, .int .i64 0, .slice none 0 0]) :: (sb, [.int .i64 l, .bool c]) :: (fb, F.cells) :: X) wr) (fun _ i _ => R - (intOf i).toNat)
        case atStart => exact ⟨0, .slice none 0 0, [], 0, Nat.zero_le _, rfl, rfl, Lib.hid (fun r' h => absurd h (Nat.not_lt_zero _)), Lib.hid (fun h => absurd h (Nat.lt_irrefl _)), Lib.hid (by simpa using sl_nil 11), hS⟩
        case round =>
          clear hS
          obtain ⟨j, v, X, Wc, hj, rfl, rfl, HRs, HWc, HSl0, hS⟩ := hrel
          by_cases hjl : j < R
          · have hyb := HYb.out j
            have h1 := HHi.out.1 j
            have h2 := HHi.out.2 j
            obtain ⟨yv, hyv⟩ : ∃ z, z = yAt top g hh dd j - hh j := ⟨_, rfl⟩
            have i9 : IntKind.i64.wrap (yAt top g hh dd j - hh j) = yv := by rw [hyv]; exact IntWalk.i64_in _ (by omega)
            obtain ⟨hd, hhd⟩ : ∃ z, z = hh j + dd j := ⟨_, rfl⟩
            have i10 : IntKind.i64.wrap (hh j + dd j) = hd := by rw [hhd]; exact IntWalk.i64_in _ (by omega)
            obtain ⟨hg2, hhg⟩ : ∃ z, z = hd + g := ⟨_, rfl⟩
            have i11 : IntKind.i64.wrap (hd + g) = hg2 := by rw [hhg]; exact IntWalk.i64_in _ (by omega)
            have i12 : IntKind.i64.wrap (yAt top g hh dd j - hg2) = yAt top g hh dd (j + 1) := by
              rw [show yAt top g hh dd (j + 1) = yAt top g hh dd j - hg2 by rw [yAt, hhg, hhd]]
              exact IntWalk.i64_in _ (by omega)
            have HYv := Lib.hid (show ∀ i, i / C = j → yf i = yv from fun i hi => by rw [HYf.out]; simp only; rw [hi, hyv])
            obtain ⟨f, hf⟩ : ∃ f : Nat, f = j * C := ⟨_, rfl⟩
            have hfN : f + C ≤ N := by
              have := Nat.mul_le_mul_right C (Nat.succ_le_of_lt hjl)
              rw [HN.out, hf]
              rw [Nat.succ_mul] at this
              exact this
            have i13 : IntKind.i64.wrap ((j : Int) * (C : Int)) = (f : Int) := by
              rw [show (j : Int) * (C : Int) = (f : Int) by rw [hf]; push_cast; rfl]
              exact IntWalk.i64_in _ (by omega)
            have HF2 := Lib.hid hf
            rw [← hf] at HSl0
            clear hyb h1 h2 hyv hhd hhg hf
            go_wp2_with (first | (refine own_unguard (by rfl) ?_) | (go_at_call 29; refine own_calls hS (HRow.out j (by omega) _ hS.below) ?_; clear hS; (try clear ww); intro ww hS) | (refine w_ld rfl _ rfl (by rfl) (by first | exact rd_1 (by repeat constructor) (by first | rfl | assumption) | exact rd_w (by repeat constructor) (by rfl) | exact rd_o (by assumption) (by rfl) (by first | exact nmn | assumption | simp) | exact rd_h (by assumption) (by rfl) (by first | exact nmn | assumption | simp) | exact rd_1o (by assumption) (by first | exact nmn | assumption | simp) | exact rd_1h (by assumption) (by first | rfl | assumption) (by first | exact nmn | assumption | simp)) hS ?_) | (refine own_box rfl _ _ rfl (by rfl) hS ?_; clear hS; (try clear ww); intro bb ww hS) | (refine w_al rfl rfl hS ?_; clear hS; (try clear ww); intro bb ww hS) | (refine w_st rfl _ _ rfl (by rfl) (by rfl) (by repeat constructor) (by rfl) (by rfl) (by first | rfl | assumption) hS ?_; clear hS; (try clear ww); intro ww hS) | (refine w_s1 rfl _ _ rfl (by rfl) (by repeat constructor) (by first | exact .c | exact .t rfl) (by rfl) (by repeat constructor) hS ?_; clear hS; (try clear ww); intro ww hS))
            go_loopw [24, 25] (fun x cc wr => ∃ (i : Nat) (v : Value) (X : List (Nat × List Value)) (Wc : Int), i ≤ C ∧ cc = .int .i64 i ∧ x = .int .i64 (colB R C wd q i) ∧ Hid (∀ c', c' < i → lenOk (colW R C wd c' - wd (c' + j * C)) = true) ∧ Hid (0 < i → Wc = colB R C wd q (i - 1) + colW R C wd (i - 1)) ∧ Hid (Sl 11 (f + i) v (((elsOf xf yf ks).take (f + i)).flatMap elC) X) ∧ Own [] w ((ob, [.int .i64 3, .string ⟨#[]⟩, .int .i64 0, .int .i64 Wc, .int .i64 top, .int .i64 dT, .int .i64 0, .int .i64 0, v, .int .i64 0, .slice none 0 0]) :: (rb, [.int .i64 0, .string ⟨#[]⟩, .int .i64 0, .int .i64 0, .int .i64 0, .int .i64 0, .int .i64 0, .int .i64 0, .slice none 0 0, .int .i64 0, .slice none 0 0]) :: (sb, [.int .i64 l, .bool c]) :: (fb, F.cells) :: X) wr) (fun _ i _ => C - (intOf i).toNat)
            case atStart => exact ⟨0, v, X, Wc, Nat.zero_le _, rfl, rfl, Lib.hid (fun c' h => absurd h (Nat.not_lt_zero _)), Lib.hid (fun h => absurd h (Nat.lt_irrefl _)), HSl0, hS⟩
            case round =>
              clear hS HSl0 HWc
              obtain ⟨i, v, X, Wc, hi, rfl, rfl, HCs, HWc, HSl, hS⟩ := hrel
              by_cases hil : i < C
              · have hlt2 := hil
                have HCol := Lib.hid (HColA.out i hil)
                obtain ⟨m, hm⟩ : ∃ m : Nat, m = i + j * C := ⟨_, rfl⟩
                have hmf : m = f + i := by rw [hm, HF2.out]; omega
                have hmN : m < N := by omega
                obtain ⟨e, he⟩ : ∃ e, ks[m]? = some e := ⟨ks[m]'(by rw [HKs.out.1]; exact hmN), by rw [List.getElem?_eq_getElem]⟩
                obtain ⟨kid, hkid⟩ : ∃ kid, kids[m]? = some kid := ⟨kids[m]'(by rw [HKL.out]; exact hmN), by rw [List.getElem?_eq_getElem]⟩
                have hwm : wd m = e.1.w := by rw [HWd.out, kW_at hkid, (HKs.out.2 m e kid he hkid).1]
                have hrg := flat_range HFl.out he
                have hallv : ∀ v ∈ elC e, v.oneCell' = true := fun v hv => HOne.out v (List.mem_flatMap.2 ⟨e, List.mem_of_getElem? he, hv⟩)
                have hnx := els_next (xf := xf) (yf := yf) he
                obtain ⟨a, kv, sv⟩ := e
                have hall0 : ([.int .i64 a.kind, .string a.name, .int .i64 a.size, .int .i64 a.w, .int .i64 a.h, .int .i64 a.d, .int .i64 a.x, .int .i64 a.y, kv, .int .i64 a.of, sv] : List Value).all (·.oneCell') = true := List.all_eq_true.2 hallv
                have hall : ([.int .i64 a.kind, .string a.name, .int .i64 a.size, .int .i64 a.w, .int .i64 a.h, .int .i64 a.d, .int .i64 (xf m), .int .i64 (yf m), kv, .int .i64 a.of, sv] : List Value).all (·.oneCell') = true := by
                  simp only [List.all_cons, List.all_nil, Bool.and_true, Bool.and_eq_true] at hall0 ⊢
                  simp [Value.oneCell'] at hall0 ⊢
                  exact hall0
                have hcwb := colW_in (R := R) (C := C) (fun i => (hww i).2) i
                have hbb := colB_in (R := R) (C := C) (fun i => (hww i).2) hq i
                have hwi := hww m
                simp only at hwm
                obtain ⟨cw, hcw⟩ : ∃ z, z = colW R C wd i := ⟨_, rfl⟩
                rw [← hcw] at hcwb HCol
                obtain ⟨dv, hdv⟩ : ∃ z, z = cw - a.w := ⟨_, rfl⟩
                have i14 : IntKind.i64.wrap (cw - a.w) = dv := by rw [hdv]; exact IntWalk.i64_in _ (by omega)
                have hh2 := hlf_abs (n := dv)
                obtain ⟨hv2, hhv⟩ : ∃ z, z = hlf dv := ⟨_, rfl⟩
                rw [← hhv] at hh2
                have hxm : xf m = colB R C wd q i + hv2 := by rw [HXf.out, hhv, hdv, hcw]; unfold colX; rw [hm, mod_of hil, ← hm, hwm]
                have i15 : IntKind.i64.wrap (colB R C wd q i + hv2) = xf m := by rw [hxm]; exact IntWalk.i64_in _ (by omega)
                have hym : yv = yf m := (HYv.out m (by rw [hmf, HF2.out]; exact row_of hil)).symm
                rw [hym] at i9
                have i16 : IntKind.i64.wrap ((f : Int) + (i : Int)) = (m : Int) := by rw [show (f : Int) + (i : Int) = (m : Int) by rw [hmf]; push_cast; rfl]; exact IntWalk.i64_in _ (by omega)
                obtain ⟨Wn, hWn⟩ : ∃ z, z = colB R C wd q i + cw := ⟨_, rfl⟩
                have i17 : IntKind.i64.wrap (colB R C wd q i + cw) = Wn := by rw [hWn]; exact IntWalk.i64_in _ (by omega)
                obtain ⟨cq, hcq⟩ : ∃ z, z = cw + q := ⟨_, rfl⟩
                have i18 : IntKind.i64.wrap (cw + q) = cq := by rw [hcq]; exact IntWalk.i64_in _ (by omega)
                have i19 : IntKind.i64.wrap (colB R C wd q i + cq) = colB R C wd q (i + 1) := by
                  rw [show colB R C wd q (i + 1) = colB R C wd q i + cq by rw [colB, hcq, hcw]; omega]
                  exact IntWalk.i64_in _ (by omega)
                have HDh := Lib.hid (fun w' => (show Calls Try.prog 31 #[.int .i64 dv] w' (Gives (.int .i64 hv2) w') by rw [hhv]; exact ref01_Half_gives dv w'))
                have HDv := Lib.hid (fun w' => ref01_Valid_gives dv w')
                have HWn := Lib.hid (show Wn = colB R C wd q i + colW R C wd i by rw [hWn, hcw])
                have HNx := Lib.hid hnx
                have HMf := Lib.hid hmf
                have HLd := Lib.hid (show lenOk (colW R C wd i - wd (i + j * C)) = lenOk dv by rw [← hm, hwm, ← hcw, hdv])
                rw [← hmf] at HSl
                clear hm hmf he hkid hwm hallv hnx hcwb hbb hwi hcw hdv hh2 hhv hxm hym hWn hcq hil
                by_cases hlv2 : lenOk dv = true
                · have hv3 := hlv2
                  go_wp2_with (first | (refine own_unguard (by rfl) ?_) | (refine own_load_old rfl _ _ rfl (by rfl) hS hrg nmn rt_box ?_) | (have _t := tokkv; refine own_alloc rfl _ rfl hS zt_box ?_; clear hS tokkv; (try clear ww); intro kvb ww hS) | (go_at_call 32; refine own_calls hS (HCol.out _ hS.below) ?_; clear hS; (try clear ww); intro ww hS) | (go_at_call 30; refine own_calls hS (HDv.out _) ?_; clear hS; (try clear ww); intro ww hS) | (go_at_call 31; refine own_calls hS (HDh.out _) ?_; clear hS; (try clear ww); intro ww hS) | (refine own_buildSlice rfl _ _ 1 _ rfl [.int .i64 a.kind, .string a.name, .int .i64 a.size, .int .i64 a.w, .int .i64 a.h, .int .i64 a.d, .int .i64 (xf m), .int .i64 (yf m), kv, .int .i64 a.of, sv] hS Try.underlying32 (by kernel_rfl) ?_; clear hS; (try clear ww); intro b1 ww hS) | (refine own_append_new (b := b1) rfl _ _ _ rfl HSl.out rfl rfl (show Own [] w (((b1, [.int .i64 a.kind, .string a.name, .int .i64 a.size, .int .i64 a.w, .int .i64 a.h, .int .i64 a.d, .int .i64 (xf m), .int .i64 (yf m), kv, .int .i64 a.of, sv]) :: _ :: _ :: _ :: _ :: _ :: []) ++ X) ww from hS) rfl hall el_box (by decide) (by simp only [maxLen]; omega) (by omega) ?_; clear hS; (try clear ww); intro v' X' ww hS hX'; simp only [List.cons_append, List.nil_append] at hS) | (refine own_store1 (i := 8) (v := v') rfl _ _ _ rfl rfl rfl hX'.one hS at1 ot_boxs (by simp) ?_; clear hS; (try clear ww); intro ww hS; simp only [List.set_cons_succ, List.set_cons_zero] at hS) | (refine w_ld rfl _ rfl (by rfl) (by first | exact rd_1 (by repeat constructor) (by first | rfl | assumption) | exact rd_w (by repeat constructor) (by rfl) | exact rd_o (by assumption) (by rfl) (by first | exact nmn | assumption | simp) | exact rd_h (by assumption) (by rfl) (by first | exact nmn | assumption | simp) | exact rd_1o (by assumption) (by first | exact nmn | assumption | simp) | exact rd_1h (by assumption) (by first | rfl | assumption) (by first | exact nmn | assumption | simp)) hS ?_) | (refine own_box rfl _ _ rfl (by rfl) hS ?_; clear hS; (try clear ww); intro bb ww hS) | (refine w_al rfl rfl hS ?_; clear hS; (try clear ww); intro bb ww hS) | (refine w_st rfl _ _ rfl (by rfl) (by rfl) (by repeat constructor) (by rfl) (by rfl) (by first | rfl | assumption) hS ?_; clear hS; (try clear ww); intro ww hS) | (refine w_s1 rfl _ _ rfl (by rfl) (by repeat constructor) (by first | exact .c | exact .t rfl) (by rfl) (by repeat constructor) hS ?_; clear hS; (try clear ww); intro ww hS))
                  have HX2 := Lib.hid (show Sl 11 (f + (i + 1)) v' (((elsOf xf yf ks).take (f + (i + 1))).flatMap elC) X' from by
                    rw [show f + (i + 1) = m + 1 by rw [HMf.out]; omega, HNx.out]
                    exact hX')
                  clear hX'
                  go_roundw
                  case rel =>
                    refine ⟨i + 1, v', X', Wn, hlt2, by go_num, rfl, Lib.hid (fun c' hc' => ?_), Lib.hid (fun _ => HWn.out), HX2, hS.forget (.cons _ (List.Sublist.refl _))⟩
                    by_cases h : c' < i
                    · exact HCs.out c' h
                    · obtain rfl : c' = i := by omega
                      rw [HLd.out]
                      exact hlv2
                  case measure => exact loop_meas hlt2
                · have hv3 : lenOk dv = false := by simpa using hlv2
                  have hno : ¬ (ArrFits F l n C kids ∧ validB (n + 2) (arrB F l n C kids)) := fun h => by
                    have h1 := (HFt.out.1 h.1).1 i hlt2 j hjl
                    rw [HLd.out] at h1
                    exact hlv2 h1
                  have HNo := Lib.hid hno
                  clear hno hlv2
                  go_wp2_with (first | (refine own_unguard (by rfl) ?_) | (refine own_load_old rfl _ _ rfl (by rfl) hS hrg nmn rt_box ?_) | (have _t := tokkv; refine own_alloc rfl _ rfl hS zt_box ?_; clear hS tokkv; (try clear ww); intro kvb ww hS) | (go_at_call 32; refine own_calls hS (HCol.out _ hS.below) ?_; clear hS; (try clear ww); intro ww hS) | (go_at_call 30; refine own_calls hS (HDv.out _) ?_; clear hS; (try clear ww); intro ww hS) | (refine w_ld rfl _ rfl (by rfl) (by first | exact rd_1 (by repeat constructor) (by first | rfl | assumption) | exact rd_w (by repeat constructor) (by rfl) | exact rd_o (by assumption) (by rfl) (by first | exact nmn | assumption | simp) | exact rd_h (by assumption) (by rfl) (by first | exact nmn | assumption | simp) | exact rd_1o (by assumption) (by first | exact nmn | assumption | simp) | exact rd_1h (by assumption) (by first | rfl | assumption) (by first | exact nmn | assumption | simp)) hS ?_) | (refine own_box rfl _ _ rfl (by rfl) hS ?_; clear hS; (try clear ww); intro bb ww hS) | (refine w_al rfl rfl hS ?_; clear hS; (try clear ww); intro bb ww hS) | (refine w_st rfl _ _ rfl (by rfl) (by rfl) (by repeat constructor) (by rfl) (by rfl) (by first | rfl | assumption) hS ?_; clear hS; (try clear ww); intro ww hS) | (refine w_s1 rfl _ _ rfl (by rfl) (by repeat constructor) (by first | exact .c | exact .t rfl) (by rfl) (by repeat constructor) hS ?_; clear hS; (try clear ww); intro ww hS))
                  have hc := (hS.get at2).cell
                  refine bodyPost_ret (v := .tuple #[.agg #[.int .i64 0, .string ⟨#[]⟩, .int .i64 0, .int .i64 0, .int .i64 0, .int .i64 0, .int .i64 0, .int .i64 0, .slice none 0 0, .int .i64 0, .slice none 0 0], .int .i64 6]) (by simp [results, Try.results11, go_sem, hc]) rfl ⟨fun h => absurd h HNo.out, fun _ m => ⟨_, rfl, rep_zero m _, hS.below⟩⟩
              · obtain rfl : C = i := by omega
                go_wp2_with (first | (refine own_unguard (by rfl) ?_) | (refine w_ld rfl _ rfl (by rfl) (by first | exact rd_1 (by repeat constructor) (by first | rfl | assumption) | exact rd_w (by repeat constructor) (by rfl) | exact rd_o (by assumption) (by rfl) (by first | exact nmn | assumption | simp) | exact rd_h (by assumption) (by rfl) (by first | exact nmn | assumption | simp) | exact rd_1o (by assumption) (by first | exact nmn | assumption | simp) | exact rd_1h (by assumption) (by first | rfl | assumption) (by first | exact nmn | assumption | simp)) hS ?_) | (refine own_box rfl _ _ rfl (by rfl) hS ?_; clear hS; (try clear ww); intro bb ww hS) | (refine w_al rfl rfl hS ?_; clear hS; (try clear ww); intro bb ww hS) | (refine w_st rfl _ _ rfl (by rfl) (by rfl) (by repeat constructor) (by rfl) (by rfl) (by first | rfl | assumption) hS ?_; clear hS; (try clear ww); intro ww hS) | (refine w_s1 rfl _ _ rfl (by rfl) (by repeat constructor) (by first | exact .c | exact .t rfl) (by rfl) (by repeat constructor) hS ?_; clear hS; (try clear ww); intro ww hS))
                go_roundw
                case rel =>
                  refine ⟨j + 1, v, X, Wc, hjl, by go_num, rfl, Lib.hid (fun r' hr' c' hc' => ?_), Lib.hid (fun _ => HWc.out (by omega)), Lib.hid ?_, hS⟩
                  · by_cases h : r' < j
                    · exact HRs.out r' h c' hc'
                    · obtain rfl : r' = j := by omega
                      exact HCs.out c' hc'
                  · rw [show (j + 1) * C = f + C by rw [Nat.succ_mul, HF2.out]]
                    exact HSl.out
                case measure => exact loop_meas hjl
          · obtain rfl : R = j := by omega
            have hSl := HSl0.out
            have hel : (elsOf xf yf ks).length = N := by unfold elsOf; rw [List.length_mapIdx, HKs.out.1]
            rw [← HN.out, List.take_of_length_le (by rw [hel]; exact Nat.le_refl _)] at hSl
            obtain ⟨y, cv, rfl⟩ := hSl.slice
            have hWb1 := colB_in (R := R) (C := C) (fun i => (hww i).2) hq (C - 1)
            have hWb2 := colW_in (R := R) (C := C) (fun i => (hww i).2) (C - 1)
            have hWi : I64 Wc := by rw [HWc.out (by omega)]; unfold I64; omega
            have HRg := Lib.hid (show ∀ (V : World) (L : List (Nat × List Value)), Own [] w L V → (∀ x ∈ X, x ∈ L) → Rep V (n + 2) (listB (n + 1) Wc top dT (kids.mapIdx fun i k => atXY (n + 1) k (arrX F l n C kids i) (arrY F l n C kids i))) [.int .i64 3, .string ⟨#[]⟩, .int .i64 0, .int .i64 Wc, .int .i64 top, .int .i64 dT, .int .i64 0, .int .i64 0, .slice y N cv, .int .i64 0, .slice none 0 0] from fun V L hq2 hm => by
              obtain ⟨y', c', he, hrow, _, _⟩ := Sl.rowAt (size := 11) (f := elC) (l := elsOf xf yf ks) hq2 hm hSl (fun _ => rfl) (by decide)
              obtain ⟨rfl, _, rfl⟩ : y = y' ∧ N = (elsOf xf yf ks).length ∧ cv = c' := by simpa using he
              refine rep_matrix hq2.below hrow HKs.out.1 HKL.out hRC HKs.out.2 (fun i hi => ?_) HX.out.1 HX.out.2.1 hWi (by unfold I64; omega) (by unfold I64; omega)
              have b1 := colB_in (R := R) (C := C) (fun i => (hww i).2) hq (i % C)
              have b2 := hlf_abs (n := colW R C wd (i % C) - wd i)
              have b3 := HYb.out (i / C)
              have b4 := HHi.out.1 (i / C)
              have b5 := Nat.mod_lt i (show 0 < C by omega)
              have b6 : i / C < R := Nat.div_lt_of_lt_mul (by rw [Nat.mul_comm, ← HN.out]; exact hi)
              refine ⟨?_, ?_⟩
              · rw [HXf.out]
                unfold I64 colX
                omega
              · rw [HYf.out]
                unfold I64
                simp only
                omega)
            have HRp := Lib.hid (fun V (hq2 : Own [] w ((ob, [.int .i64 3, .string ⟨#[]⟩, .int .i64 0, .int .i64 Wc, .int .i64 top, .int .i64 dT, .int .i64 0, .int .i64 0, .slice y N cv, .int .i64 0, .slice none 0 0]) :: (rb, [.int .i64 0, .string ⟨#[]⟩, .int .i64 0, .int .i64 0, .int .i64 0, .int .i64 0, .int .i64 0, .int .i64 0, .slice none 0 0, .int .i64 0, .slice none 0 0]) :: (sb, [.int .i64 l, .bool c]) :: (fb, F.cells) :: X) V) => HRg.out V _ hq2 (fun x hx => by simp [hx]))
            have HCnt := Lib.hid (show bCount (n + 2) (listB (n + 1) Wc top dT (kids.mapIdx fun i k => atXY (n + 1) k (arrX F l n C kids i) (arrY F l n C kids i))) ≤ 1000000 from by
              have h1 : ∀ k ∈ (kids.mapIdx fun i k => atXY (n + 1) k (arrX F l n C kids i) (arrY F l n C kids i)), bCount (n + 1) k ≤ 1000 := fun k hk => by
                obtain ⟨i, hi⟩ := List.mem_iff_getElem?.1 hk
                rw [List.getElem?_mapIdx] at hi
                obtain ⟨kid, hkid, rfl⟩ := Option.map_eq_some_iff.1 hi
                exact HCn.out kid (List.mem_of_getElem? hkid)
              have h2 := cnt_sum h1
              rw [List.length_mapIdx, HKL.out] at h2
              have h3 : bCount (n + 2) (listB (n + 1) Wc top dT (kids.mapIdx fun i k => atXY (n + 1) k (arrX F l n C kids i) (arrY F l n C kids i))) = 1 + (((kids.mapIdx fun i k => atXY (n + 1) k (arrX F l n C kids i) (arrY F l n C kids i))).map (bCount (n + 1))).sum := rfl
              have h4 : N * 1000 ≤ 256 * 1000 := Nat.mul_le_mul_right _ hRC
              rw [h3]
              omega)
            have HEq := Lib.hid (show arrB F l n C kids = listB (n + 1) Wc top dT (kids.mapIdx fun i k => atXY (n + 1) k (arrX F l n C kids i) (arrY F l n C kids i)) by rw [HB.out, HX.out.2.2, HWc.out (by omega)])
            have HFi := Lib.hid (HFt.out.2 ⟨fun c' hc' r' hr' => HRs.out r' hr' c' hc', HlT.out⟩)
            clear hSl hel hWb1 hWb2 hWi
            by_cases hvB : validB (n + 2) (listB (n + 1) Wc top dT (kids.mapIdx fun i k => atXY (n + 1) k (arrX F l n C kids i) (arrY F l n C kids i)))
            · skip
              go_wp2_with (first | (refine own_unguard (by rfl) ?_) | (go_at_call 33; have hRv := HRp.out _ hS; refine own_calls hS (ref28_Valid_calls (n + 2) _ _ _ hRv hRv.wide HCnt.out _ (iff_t hvB)) ?_; clear hS hRv; (try clear ww); intro ww hS) | (refine w_ld rfl _ rfl (by rfl) (by first | exact rd_1 (by repeat constructor) (by first | rfl | assumption) | exact rd_w (by repeat constructor) (by rfl) | exact rd_o (by assumption) (by rfl) (by first | exact nmn | assumption | simp) | exact rd_h (by assumption) (by rfl) (by first | exact nmn | assumption | simp) | exact rd_1o (by assumption) (by first | exact nmn | assumption | simp) | exact rd_1h (by assumption) (by first | rfl | assumption) (by first | exact nmn | assumption | simp)) hS ?_) | (refine own_box rfl _ _ rfl (by rfl) hS ?_; clear hS; (try clear ww); intro bb ww hS) | (refine w_al rfl rfl hS ?_; clear hS; (try clear ww); intro bb ww hS) | (refine w_st rfl _ _ rfl (by rfl) (by rfl) (by repeat constructor) (by rfl) (by rfl) (by first | rfl | assumption) hS ?_; clear hS; (try clear ww); intro ww hS) | (refine w_s1 rfl _ _ rfl (by rfl) (by repeat constructor) (by first | exact .c | exact .t rfl) (by rfl) (by repeat constructor) hS ?_; clear hS; (try clear ww); intro ww hS))
              have hc := (hS.get at1).cell
              refine bodyPost_ret (v := .tuple #[.agg #[.int .i64 3, .string ⟨#[]⟩, .int .i64 0, .int .i64 Wc, .int .i64 top, .int .i64 dT, .int .i64 0, .int .i64 0, .slice y N cv, .int .i64 0, .slice none 0 0], .int .i64 0]) (by simp [results, Try.results11, go_sem, hc]) rfl ⟨fun _ => ⟨_, rfl, ?_, hS.below⟩, fun h => absurd ⟨HFi.out, by rw [HEq.out]; exact hvB⟩ h⟩
              rw [HEq.out]
              exact HRg.out _ _ hS (fun x hx => by simp [hx])
            · skip
              go_wp2_with (first | (refine own_unguard (by rfl) ?_) | (go_at_call 33; have hRv := HRp.out _ hS; refine own_calls hS (ref28_Valid_calls (n + 2) _ _ _ hRv hRv.wide HCnt.out _ (iff_f hvB)) ?_; clear hS hRv; (try clear ww); intro ww hS) | (refine w_ld rfl _ rfl (by rfl) (by first | exact rd_1 (by repeat constructor) (by first | rfl | assumption) | exact rd_w (by repeat constructor) (by rfl) | exact rd_o (by assumption) (by rfl) (by first | exact nmn | assumption | simp) | exact rd_h (by assumption) (by rfl) (by first | exact nmn | assumption | simp) | exact rd_1o (by assumption) (by first | exact nmn | assumption | simp) | exact rd_1h (by assumption) (by first | rfl | assumption) (by first | exact nmn | assumption | simp)) hS ?_) | (refine own_box rfl _ _ rfl (by rfl) hS ?_; clear hS; (try clear ww); intro bb ww hS) | (refine w_al rfl rfl hS ?_; clear hS; (try clear ww); intro bb ww hS) | (refine w_st rfl _ _ rfl (by rfl) (by rfl) (by repeat constructor) (by rfl) (by rfl) (by first | rfl | assumption) hS ?_; clear hS; (try clear ww); intro ww hS) | (refine w_s1 rfl _ _ rfl (by rfl) (by repeat constructor) (by first | exact .c | exact .t rfl) (by rfl) (by repeat constructor) hS ?_; clear hS; (try clear ww); intro ww hS))
              have hc := (hS.get at1).cell
              refine bodyPost_ret (v := .tuple #[.agg #[.int .i64 0, .string ⟨#[]⟩, .int .i64 0, .int .i64 0, .int .i64 0, .int .i64 0, .int .i64 0, .int .i64 0, .slice none 0 0, .int .i64 0, .slice none 0 0], .int .i64 6]) (by simp [results, Try.results11, go_sem, hc]) rfl ⟨fun h => absurd (by rw [← HEq.out]; exact h.2) hvB, fun _ m => ⟨_, rfl, rep_zero m _, hS.below⟩⟩
      · have hlF : lenOk T = false := by simpa using hlT
        have hno : ¬ (ArrFits F l n C kids ∧ validB (n + 2) (arrB F l n C kids)) := fun h => hlT (HFt.out.1 h.1).2
        have HNo := Lib.hid hno
        clear hno hlT
        go_wp2_with (first | (refine own_unguard (by rfl) ?_) | (go_at_call 30; refine own_calls hS (HTv.out _) ?_; clear hS; (try clear ww); intro ww hS) | (refine w_ld rfl _ rfl (by rfl) (by first | exact rd_1 (by repeat constructor) (by first | rfl | assumption) | exact rd_w (by repeat constructor) (by rfl) | exact rd_o (by assumption) (by rfl) (by first | exact nmn | assumption | simp) | exact rd_h (by assumption) (by rfl) (by first | exact nmn | assumption | simp) | exact rd_1o (by assumption) (by first | exact nmn | assumption | simp) | exact rd_1h (by assumption) (by first | rfl | assumption) (by first | exact nmn | assumption | simp)) hS ?_) | (refine own_box rfl _ _ rfl (by rfl) hS ?_; clear hS; (try clear ww); intro bb ww hS) | (refine w_al rfl rfl hS ?_; clear hS; (try clear ww); intro bb ww hS) | (refine w_st rfl _ _ rfl (by rfl) (by rfl) (by repeat constructor) (by rfl) (by rfl) (by first | rfl | assumption) hS ?_; clear hS; (try clear ww); intro ww hS) | (refine w_s1 rfl _ _ rfl (by rfl) (by repeat constructor) (by first | exact .c | exact .t rfl) (by rfl) (by repeat constructor) hS ?_; clear hS; (try clear ww); intro ww hS))
        have hc := (hS.get at0).cell
        refine bodyPost_ret (v := .tuple #[.agg #[.int .i64 0, .string ⟨#[]⟩, .int .i64 0, .int .i64 0, .int .i64 0, .int .i64 0, .int .i64 0, .int .i64 0, .slice none 0 0, .int .i64 0, .slice none 0 0], .int .i64 6]) (by simp [results, Try.results11, go_sem, hc]) rfl ⟨fun h => absurd h HNo.out, fun _ m => ⟨_, rfl, rep_zero m _, hS.below⟩⟩

end Go.Proofs.Ytgnkngkogamjaaa
namespace Go.Proofs.Ytgnkngkogamjaaa
open Go.RowKit
attribute [local irreducible] wpQuiet wpG wpP wpK wpList Code.wp Calls

theorem small_zero (m : Nat) : Small (m + 1) (zeroB m) := ⟨by simp [zeroB], by simp [zeroB], fun k hk => by simp [zeroB] at hk⟩
/-- The number of columns and rows of arguments that are in order. -/
theorem range_out {n : Nat} {kids : List (Bx (n + 1))} {C : Int} (h : ArrRange n kids C) : ∃ (R K : Nat), C = (K : Int) ∧ kids.length = R * K ∧ 1 ≤ K ∧ K ≤ 16 ∧ 1 ≤ R ∧ kids.length ≤ 256 := by
  unfold ArrRange at h
  obtain ⟨K, rfl⟩ : ∃ K : Nat, C = (K : Int) := ⟨C.toNat, by omega⟩
  have h1 : kids.length % K = 0 := by
    have := h.2.2.2.2
    omega
  have h2 := Nat.div_add_mod kids.length K
  rw [h1, Nat.add_zero, Nat.mul_comm] at h2
  have h3 : 1 ≤ kids.length / K := by
    rcases Nat.eq_zero_or_pos (kids.length / K) with h0 | h0
    · rw [h0] at h2
      omega
    · exact h0
  exact ⟨kids.length / K, K, rfl, h2.symm, by omega, by omega, h3, by omega⟩

theorem arr_both (F : Fnt) (l : Int) (c : Bool) (n : Nat) (C : Int) (kids : List (Bx (n + 1))) (kx : Option Addr) (kc : Nat) (w : World) (hF : FntOk w F) (hq : F.gs.length ≤ 500 ∧ F.ss.length ≤ 50) (hk : RepL w (n + 1) kx kids) (hcn : ∀ k ∈ kids, bCount (n + 1) k ≤ 399) (hl : kids.length ≤ 399) :
    ∃ (N : Nat) (R : Bx (N + 1)) (e : Int), Small (N + 1) R ∧ (∀ w', Below w.heap.size w w' → Calls Try.prog 10 #[F.val, .agg #[.int .i64 l, .bool c], .int .i64 C, .slice kx kids.length kc] w' (GivesBE (N + 1) R e w')) ∧ (∀ w', Below w.heap.size w w' → Calls Try.prog 11 #[F.val, .agg #[.int .i64 l, .bool c], .int .i64 C, .slice kx kids.length kc] w' (GivesBE (N + 1) R e w')) := by
  have hcn2 : ∀ k ∈ kids, bCount (n + 1) k ≤ 1000000 := fun k hk => Nat.le_trans (hcn k hk) (by omega)
  have hcn3 : ∀ k ∈ kids, bCount (n + 1) k ≤ 1000 := fun k hk => Nat.le_trans (hcn k hk) (by omega)
  have hl4 : kids.length ≤ 400 := by omega
  have hbad : ∀ e : Int, e ≠ 0 → (∀ w', Below w.heap.size w w' → Calls Try.prog 10 #[F.val, .agg #[.int .i64 l, .bool c], .int .i64 C, .slice kx kids.length kc] w' (GivesBE 1 (zeroB 0) e w')) → (∀ w', Below w.heap.size w w' → Calls Try.prog 28 #[F.val, .agg #[.int .i64 l, .bool c], .int .i64 C, .slice kx kids.length kc] w' (Gives (.int .i64 e) w')) → ∃ (N : Nat) (R : Bx (N + 1)) (e : Int), Small (N + 1) R ∧ (∀ w', Below w.heap.size w w' → Calls Try.prog 10 #[F.val, .agg #[.int .i64 l, .bool c], .int .i64 C, .slice kx kids.length kc] w' (GivesBE (N + 1) R e w')) ∧ (∀ w', Below w.heap.size w w' → Calls Try.prog 11 #[F.val, .agg #[.int .i64 l, .bool c], .int .i64 C, .slice kx kids.length kc] w' (GivesBE (N + 1) R e w')) := fun e he h1 h2 =>
    ⟨0, zeroB 0, e, small_zero 0, h1, fun w' hb => refArr_bad F l c n 0 C kids kx kc w' (hF.below hb) (hk.step hb) hl4 e he (fun w'' hb' => h2 w'' (bthen hb hb'))⟩
  by_cases hv : ValidF F
  · cases hlv : lvlOk l
    · exact hbad 1 (by decide) (fun w' hb => arrMake_bad1 F l c n 0 C kids kx kc w' (hF.below hb) (hk.step hb) hl4 ⟨fun h => absurd h.1 (by rw [hlv]; decide), fun _ => ⟨rfl, rfl⟩⟩) (fun w' hb => ref37_check_style F l c n C kids kx kc w' (hF.below hb) hq (hk.step hb) hcn2 hl4 hv hlv)
    · have hp : PctOk F l (sizeOf' F l) 0 := ⟨fun _ => ⟨rfl, rfl⟩, fun h => h.elim (fun h => by rw [hlv] at h; cases h) (fun h => absurd hv h)⟩
      by_cases hvs : ∀ k ∈ kids, validB (n + 1) k
      · by_cases hr : ArrRange n kids C
        · obtain ⟨R, K, rfl, hN, k1, k2, k3, k4⟩ := range_out hr
          by_cases hok : ArrFits F l n K kids ∧ validB (n + 2) (arrB F l n K kids)
          · refine ⟨n + 1, arrB F l n K kids, 0, (validB_small hok.2).1, fun w' hb => ?_, fun w' hb => ?_⟩
            · exact (arrMake_main F l c n R K kids.length kids kx kc w' (hF.below hb) (hk.step hb) hv hlv hvs hN rfl k1 k2 k3 k4).mono fun _ _ h => h.1 hok
            · exact (refArr_main F l c n R K kids.length kids kx kc w' (hF.below hb) hq (hk.step hb) hcn3 hv hlv hvs hN rfl k1 k2 k3 k4).mono fun _ _ h => h.1 hok
          · refine ⟨0, zeroB 0, 6, small_zero 0, fun w' hb => ?_, fun w' hb => ?_⟩
            · exact (arrMake_main F l c n R K kids.length kids kx kc w' (hF.below hb) (hk.step hb) hv hlv hvs hN rfl k1 k2 k3 k4).mono fun _ _ h => h.2 hok 0
            · exact (refArr_main F l c n R K kids.length kids kx kc w' (hF.below hb) hq (hk.step hb) hcn3 hv hlv hvs hN rfl k1 k2 k3 k4).mono fun _ _ h => h.2 hok 0
        · exact hbad 2 (by decide) (fun w' hb => arrMake_bad3 F l c n 0 C kids kx kc w' (hF.below hb) (hk.step hb) hl4 _ hp hvs hr) (fun w' hb => ref37_check_range F l c n C kids kx kc w' (hF.below hb) hq (hk.step hb) hcn2 hl4 hv hlv hvs 2 (.inr ⟨rfl, hr⟩))
      · exact hbad 1 (by decide) (fun w' hb => arrMake_bad2 F l c n 0 C kids kx kc w' (hF.below hb) (hk.step hb) hl4 _ hp hvs) (fun w' hb => ref37_check_list F l c n C kids kx kc w' (hF.below hb) hq (hk.step hb) hcn2 hl4 hv hlv hvs)
  · exact hbad 1 (by decide) (fun w' hb => arrMake_bad1 F l c n 0 C kids kx kc w' (hF.below hb) (hk.step hb) hl4 ⟨fun h => absurd h.2 hv, fun _ => ⟨rfl, rfl⟩⟩) (fun w' hb => ref37_check_font F l c n C kids kx kc w' (hF.below hb) hq (hk.step hb) hcn2 hl4 hv)

end Go.Proofs.Ytgnkngkogamjaaa
