/- Texts Aw7, OpenG, OpF. -/
import Derived.Test.YtgnkngkogamjaaaR19
import Derived.Test.YtgnkngkogamjaaaR08
import Derived.Test.YtgnkngkogamjaaaR03
import Derived.Test.YtgnkngkogamjaaaR01
namespace Go.Proofs.Ytgnkngkogamjaaa
open Go.RowKit
attribute [local irreducible] wpQuiet wpG wpP wpK wpList Code.wp Calls

instance zt_fnt : ZeroTy Try.prog 27 [.slice none 0 0, .slice none 0 0, .int .i64 0, .int .i64 0, .int .i64 0, .int .i64 0, .int .i64 0, .int .i64 0, .int .i64 0, .int .i64 0, .int .i64 0, .int .i64 0, .int .i64 0, .int .i64 0, .int .i64 0, .int .i64 0, .int .i64 0, .int .i64 0, .int .i64 0, .int .i64 0, .int .i64 0, .int .i64 0] := ⟨.agg #[.slice none 0 0, .slice none 0 0, .int .i64 0, .int .i64 0, .int .i64 0, .int .i64 0, .int .i64 0, .int .i64 0, .int .i64 0, .int .i64 0, .int .i64 0, .int .i64 0, .int .i64 0, .int .i64 0, .int .i64 0, .int .i64 0, .int .i64 0, .int .i64 0, .int .i64 0, .int .i64 0, .int .i64 0, .int .i64 0], by kernel_rfl, rfl⟩
/-- The font and the cells of the example. -/
def awX : Fnt := { gx := none, gc := 0, gs := [], sx := none, sc := 0, ss := [], quad := 1000, xheight := 0, axis := 250, rule := 0, num1 := 0, num2 := 0, den1 := 0, den2 := 0, sup1 := 0, sup2 := 0, sup3 := 0, sub1 := 0, sub2 := 0, supdrop := 0, subdrop := 0, script := 70, sscript := 50, dpercent := 90, dshort := 0, acc := 0 }
def awC1 : Bx 1 := (⟨2, ⟨#[]⟩, 0, 400, 500, 0, 0, 0, 0, []⟩, [])
def awC2 : Bx 1 := (⟨2, ⟨#[]⟩, 0, 200, 900, 100, 0, 0, 0, []⟩, [])
theorem awX_ok (w : World) : FntOk w awX where
  glys := .inl rfl
  strs := .inl rfl
  gok := fun g hg => by cases hg
  sok := fun s hs => by cases hs
  glen := Nat.zero_le _
  slen := Nat.zero_le _
  gcap := ⟨Nat.zero_le _, fun h => absurd rfl h⟩
  scap := ⟨Nat.zero_le _, fun h => absurd rfl h⟩
  prm := fun n hn => by
    simp only [Fnt.prm, awX, List.mem_cons, Value.int.injEq, true_and, List.not_mem_nil, or_false] at hn
    unfold I64
    omega
theorem awX_valid : ValidF awX := ⟨by decide, by decide, by rfl, by simp [awX, GlysOk], fun k s h => by simp [awX] at h⟩
theorem awC1_valid : validB 1 awC1 := ⟨by simp [allOwn, ownOk, lensOk, Hd.lens, kindOk, srcOk, srcEnd, awC1, Lib.toList_data], by decide, by decide⟩
theorem awC2_valid : validB 1 awC2 := ⟨by simp [allOwn, ownOk, lensOk, Hd.lens, kindOk, srcOk, srcEnd, awC2, Lib.toList_data], by decide, by decide⟩
def awM : Bx 2 := listB 1 1600 850 350 [atXY 1 awC1 0 (-50), atXY 1 awC2 1400 (-50)]
theorem awM_eq : arrB awX 1 0 2 [awC1, awC2] = awM := by rfl
theorem awM_fits : ArrFits awX 1 0 2 [awC1, awC2] := by
  refine ⟨fun c hc r hr => ?_, by rfl⟩
  have hr0 : r = 0 := by
    have : r < 1 := hr
    omega
  subst hr0
  rcases c with _ | _ | c
  · rfl
  · rfl
  · omega
theorem awM_valid : validB 2 awM := ⟨by simp [allOwn, ownOk, lensOk, Hd.lens, kindOk, srcOk, srcEnd, awC1, awC2, awM, listB, atXY, Lib.toList_data], by decide, by decide⟩
theorem awC1_rep (P : Nat → Prop) (w : World) : RepP P w 1 awC1 [.int .i64 2, .string ⟨#[]⟩, .int .i64 0, .int .i64 400, .int .i64 500, .int .i64 0, .int .i64 0, .int .i64 0, .slice none 0 0, .int .i64 0, .slice none 0 0] :=
  rep_bare (rep_mk (kx := none) (sx := none) (kc := 0) (sc := 0) (by constructor <;> first | (unfold I64; simp; done) | (intro n hn; cases hn; done) | (simp [maxLen, ByteArray.size]; done) | decide) (by simp) (.inl rfl) (fun i kid hi => by simp at hi)) rfl
theorem awC2_rep (P : Nat → Prop) (w : World) : RepP P w 1 awC2 [.int .i64 2, .string ⟨#[]⟩, .int .i64 0, .int .i64 200, .int .i64 900, .int .i64 100, .int .i64 0, .int .i64 0, .slice none 0 0, .int .i64 0, .slice none 0 0] :=
  rep_bare (rep_mk (kx := none) (sx := none) (kc := 0) (sc := 0) (by constructor <;> first | (unfold I64; simp; done) | (intro n hn; cases hn; done) | (simp [maxLen, ByteArray.size]; done) | decide) (by simp) (.inl rfl) (fun i kid hi => by simp at hi)) rfl
theorem awMake37 {w : World} {s : Nat} (hs : Has w s ([.int .i64 2, .string ⟨#[]⟩, .int .i64 0, .int .i64 400, .int .i64 500, .int .i64 0, .int .i64 0, .int .i64 0, .slice none 0 0, .int .i64 0, .slice none 0 0] ++ [.int .i64 2, .string ⟨#[]⟩, .int .i64 0, .int .i64 200, .int .i64 900, .int .i64 100, .int .i64 0, .int .i64 0, .slice none 0 0, .int .i64 0, .slice none 0 0])) :
    Calls Try.prog 10 #[awX.val, .agg #[.int .i64 1, .bool false], .int .i64 2, .slice (some ⟨s, 0, none⟩) 2 2] w (GivesBE 2 awM 0 w) := by
  have hk : RepLP (fun k => k < w.heap.size) w 1 (some ⟨s, 0, none⟩) [awC1, awC2] := has_kids hs ⟨_, [.int .i64 2, .string ⟨#[]⟩, .int .i64 0, .int .i64 200, .int .i64 900, .int .i64 100, .int .i64 0, .int .i64 0, .slice none 0 0, .int .i64 0, .slice none 0 0], rfl, awC1_rep _ w, _, [], by simp, awC2_rep _ w, rfl⟩
  have h := arrMake_main awX 1 false 0 1 2 2 [awC1, awC2] (some ⟨s, 0, none⟩) 2 w (awX_ok w) (repLP_L hk) awX_valid (by rfl) (fun k hk => by
    simp only [List.mem_cons, List.not_mem_nil, or_false] at hk
    rcases hk with rfl | rfl
    · exact awC1_valid
    · exact awC2_valid) rfl rfl (by decide) (by decide) (by decide) (by decide)
  refine h.mono fun _ _ h => ?_
  have := h.1 ⟨awM_fits, by rw [awM_eq]; exact awM_valid⟩
  rw [awM_eq] at this
  exact this
/-- The cells that the example looks at. -/
theorem awLook37 {w : World} {cs : List Value} (h : Rep w 2 awM cs) : ∃ c0 c1 c2 c6 c7 c9 c10 k o kc, cs = [c0, c1, c2, .int .i64 1600, .int .i64 850, .int .i64 350, c6, c7, .slice (some ⟨k, o, none⟩) 2 kc, c9, c10] ∧ w.cell? ⟨k, o + 11 + 6, none⟩ = some (.int .i64 1400) ∧ w.cell? ⟨k, o + 11 + 7, none⟩ = some (.int .i64 (-50)) ∧ cs.all (·.oneCell') = true := by
  have hall := rep_all h
  unfold awM at h
  obtain ⟨kx, kc, sx, sc, rfl, _, _, _, hk⟩ := rep_out h
  obtain ⟨k1, o1, css1, e1, hr1, hp1⟩ := hk 1 _ rfl
  subst e1
  obtain ⟨_, _, _, _, rfl, _⟩ := rep_out hp1
  rw [Nat.one_mul] at hr1
  exact ⟨_, _, _, _, _, _, _, k1, o1, kc, rfl, hr1 6 _ rfl, hr1 7 _ rfl, hall⟩
set_option maxHeartbeats 4000000 in
theorem ref28_Rule_lit (a b d : Int) (w : World) : Calls Try.prog 16 #[.int .i64 a, .int .i64 b, .int .i64 d] w (Gives (.agg #[.int .i64 2, .string ⟨#[]⟩, .int .i64 0, .int .i64 a, .int .i64 b, .int .i64 d, .int .i64 0, .int .i64 0, .slice none 0 0, .int .i64 0, .slice none 0 0]) w) := by
  go_enter Try.func16, Try.ntmps16
  have hS := own_start w
  go_wp2_with (first | (refine own_unguard (by rfl) ?_) | (refine w_ld rfl _ rfl (by rfl) (by first | exact rd_1 (by repeat constructor) (by first | rfl | assumption) | exact rd_w (by repeat constructor) (by rfl) | exact rd_o (by assumption) (by rfl) (by first | exact nmn | assumption | simp) | exact rd_h (by assumption) (by rfl) (by first | exact nmn | assumption | simp) | exact rd_1o (by assumption) (by first | exact nmn | assumption | simp) | exact rd_1h (by assumption) (by first | rfl | assumption) (by first | exact nmn | assumption | simp)) hS ?_) | (refine own_box rfl _ _ rfl (by rfl) hS ?_; clear hS; (try clear ww); intro bb ww hS) | (refine w_al rfl rfl hS ?_; clear hS; (try clear ww); intro bb ww hS) | (refine w_st rfl _ _ rfl (by rfl) (by rfl) (by repeat constructor) (by rfl) (by rfl) (by first | rfl | assumption) hS ?_; clear hS; (try clear ww); intro ww hS) | (refine w_s1 rfl _ _ rfl (by rfl) (by repeat constructor) (by first | exact .c | exact .t rfl) (by rfl) (by repeat constructor) hS ?_; clear hS; (try clear ww); intro ww hS))
  have hc := (hS.get at0).cell
  refine bodyPost_ret (v := .agg #[.int .i64 2, .string ⟨#[]⟩, .int .i64 0, .int .i64 a, .int .i64 b, .int .i64 d, .int .i64 0, .int .i64 0, .slice none 0 0, .int .i64 0, .slice none 0 0]) (by simp [results, Try.results16, go_sem, hc]) rfl ⟨rfl, hS.below⟩
theorem cell_below37 {w w' : World} {a : Addr} {v : Value} (h : w.cell? a = some v) (hb : Below w.heap.size w w') : w'.cell? a = some v := (hb.cell (World.block_lt_of_cell? w _ h)).trans h

section
variable {P : Program} {l : List Oper} {Q : Exit → Act → World → Prop} {D : List Nat} {W w : World} {L : List (Nat × List Value)} {a : Act} {B : Nat} {mid hard : List Nat} {m : Nat} {done : List Nat}
/-- Operations that do not look at the memory. -/
theorem own_pureB (hS : Own D W L w) (is : List Nat) (n : Nat) (hmn : n + is.length = m) (hcl : Closed l.toArray (mk l.toArray.size done)) (hB : (Region.noSelect l.toArray && batchB l.toArray (fun i => !hard.contains i && !mid.contains i) (fun _ => true) done is) = true)
    (h : wpG P l.toArray (fun _ => True) (fun a' => Closed l.toArray (mk l.toArray.size (is.reverse ++ done)) → ∀ w', Own D W L w' → Below w.heap.size w w' → wpK P l.toArray Q (relOf B mid hard) n (mk l.toArray.size (is.reverse ++ done)) a' w') (is.filterMap (fun i => l.toArray[i]?)) a) :
    wpK P l.toArray Q (relOf B mid hard) m (mk l.toArray.size done) a w := by
  subst hmn
  simp only [Bool.and_eq_true] at hB
  exact batch_go (C0 := fun _ => True) (C := fun w' => Own D W L w' ∧ Below w.heap.size w w') (fun _ _ _ _ => trivial) (fun _ _ => trivial) (fun _ _ h hb => ⟨h.1.step hb, bthen h.2 hb⟩) (fun i hi w w' hb => by rw [relOf_soft hi]; exact hb) (fun _ _ _ _ _ _ => trivial) hB.1 is done a hcl hB.2
    (wpG_mono _ _ _ _ (fun a' h' w' hw' => h' (batch_closed is done hcl hB.2) w' hw'.1 hw'.2) h) w ⟨hS, bself w⟩
/-- Two operations that can come. -/
theorem own_twoB (hS : Own D W L w) (i k : Nat) {oi ok : Oper} (hcl : Closed l.toArray (mk l.toArray.size done)) (hi : l.toArray[i]? = some oi) (hk : l.toArray[k]? = some ok) (hr : (decide (Region.ready .any l.toArray (mk l.toArray.size done) = [i, k]) && (!hard.contains i && !mid.contains i) && (!hard.contains k && !mid.contains k)) = true)
    (h1 : Own [] w [] w → wpList P l.toArray (fun e a' w' => e = .normal ∧ ∃ L1, Own [] w L1 w' ∧ (Closed l.toArray (mk l.toArray.size (i :: done)) → ∀ w'', Own D W (L1 ++ L) w'' → Below w'.heap.size w' w'' → wpK P l.toArray Q (relOf B mid hard) m (mk l.toArray.size (i :: done)) a' w'')) [oi] a w)
    (h2 : Own [] w [] w → wpList P l.toArray (fun e a' w' => e = .normal ∧ ∃ L1, Own [] w L1 w' ∧ (Closed l.toArray (mk l.toArray.size (k :: done)) → ∀ w'', Own D W (L1 ++ L) w'' → Below w'.heap.size w' w'' → wpK P l.toArray Q (relOf B mid hard) m (mk l.toArray.size (k :: done)) a' w'')) [ok] a w) :
    wpK P l.toArray Q (relOf B mid hard) (m + 1) (mk l.toArray.size done) a w := by
  rw [Bool.and_eq_true, Bool.and_eq_true, decide_eq_true_eq] at hr
  refine wpK_two i k hr.1.1 (point_go i hi (wpList_mono (fun e a' w' ⟨he, L1, h1, h2⟩ => ⟨he, by rw [relOf_soft hr.1.2]; exact h1.below, fun w'' hb => ?_⟩) _ _ _ (h1 (own_start w)))) (point_go k hk (wpList_mono (fun e a' w' ⟨he, L1, h1, h2⟩ => ⟨he, by rw [relOf_soft hr.2]; exact h1.below, fun w'' hb => ?_⟩) _ _ _ (h2 (own_start w))))
  · exact h2 (hcl.next (by rw [hr.1.1]; simp)) w'' ((hS.join h1).step hb) hb
  · exact h2 (hcl.next (by rw [hr.1.1]; simp)) w'' ((hS.join h1).step hb) hb
end

set_option maxHeartbeats 16000000 in
set_option maxRecDepth 100000 in
theorem awake37_calls (w : World) : Calls Try.prog 8 #[] w (Gives (.bool true) w) := by
  have HR1 := Lib.hid (fun w' => ref28_Rule_lit 400 500 0 w')
  have HR2 := Lib.hid (fun w' => ref28_Rule_lit 200 900 100 w')
  go_enter Try.func8, Try.ntmps8
  have hS := own_start w
  go_upto_region 2 with (first | (refine own_unguard (by rfl) ?_) | (refine w_ld rfl _ rfl (by rfl) (by first | exact rd_1 (by repeat constructor) (by first | rfl | assumption) | exact rd_w (by repeat constructor) (by rfl) | exact rd_o (by assumption) (by rfl) (by first | exact nmn | assumption | simp) | exact rd_h (by assumption) (by rfl) (by first | exact nmn | assumption | simp) | exact rd_1o (by assumption) (by first | exact nmn | assumption | simp) | exact rd_1h (by assumption) (by first | rfl | assumption) (by first | exact nmn | assumption | simp)) hS ?_) | (refine own_box rfl _ _ rfl (by rfl) hS ?_; clear hS; (try clear ww); intro bb ww hS) | (refine w_al rfl rfl hS ?_; clear hS; (try clear ww); intro bb ww hS) | (refine w_st rfl _ _ rfl (by rfl) (by rfl) (by repeat constructor) (by rfl) (by rfl) (by first | rfl | assumption) hS ?_; clear hS; (try clear ww); intro ww hS) | (refine w_s1 rfl _ _ rfl (by rfl) (by repeat constructor) (by first | exact .c | exact .t rfl) (by rfl) (by repeat constructor) hS ?_; clear hS; (try clear ww); intro ww hS))
  (try simp only [Act.put]); (try simp only [List.setIfInBounds_toArray]); (try simp only [List.set_cons_succ]); (try simp only [List.set_cons_zero])
  refine own_any hS [10] 12 (by kernel_rfl) (by kernel_rfl) ?_
  clear hS
  intro hcl ww hS
  refine own_batch hS [0, 1, 2, 3] 8 rfl hcl (by kernel_rfl) ?_
  (try simp only); repeat (first | (simp only [List.filterMap_cons]) | (simp only [List.filterMap_nil]) | (simp only [List.getElem?_toArray]) | (simp only [List.getElem?_cons_succ]) | (simp only [List.getElem?_cons_zero]) | (simp only [List.reverse_cons]) | (simp only [List.reverse_nil]) | (simp only [List.nil_append]) | (simp only [List.cons_append]))
  repeat (first
      | (first | (refine g_plain rfl ?_) | (refine g_yes rfl rfl rfl (by simp only [List.getElem?_toArray, List.getElem?_cons_succ, List.getElem?_cons_zero]; rfl) (by with_reducible constructor) ?_)
         apply Exists.intro; refine ⟨?_, ?_⟩
         focus (intro wq hq0; (first | have hq : Own _ _ _ wq := hq0 | have hq : Own _ _ _ wq := hq0.1 | skip); first | ((with_reducible show givesAt _ ({ dst := _, op := Op.load _ _, type := _, pos := _, after := _, guard := _ } : Oper) _ _ _); first | (exact givesAt_rd rfl (by rfl) (by first | exact rd_1 (by repeat constructor) (by first | rfl | assumption) | exact rd_w (by repeat constructor) (by rfl) | exact rd_o (by assumption) (by rfl) (by first | exact nmn | assumption | simp) | exact rd_h (by assumption) (by rfl) (by first | exact nmn | assumption | simp) | exact rd_1o (by assumption) (by first | exact nmn | assumption | simp) | exact rd_1h (by assumption) (by first | rfl | assumption) (by first | exact nmn | assumption | simp)) hq)) | (go_simp; first | (go_at_call 16; exact HR1.out _) | (go_at_call 16; exact HR2.out _) | (with_reducible rfl)))
         simp only [Act.put, List.setIfInBounds_toArray]; (try simp only [List.set_cons_succ]); (try simp only [List.set_cons_zero]))
      | (refine g_no rfl rfl rfl (by simp only [List.getElem?_toArray, List.getElem?_cons_succ, List.getElem?_cons_zero]; rfl) (by with_reducible constructor) ?_; simp only [Act.put, List.setIfInBounds_toArray]; (try simp only [List.set_cons_succ]); (try simp only [List.set_cons_zero])))
  refine g_nil ?_
  clear hS hcl
  intro hcl ww hS
  (try simp only [Act.put]); (try simp only [List.setIfInBounds_toArray]); (try simp only [List.set_cons_succ]); (try simp only [List.set_cons_zero])
  refine own_twoB hS 4 9 hcl (by simp only [List.getElem?_toArray, List.getElem?_cons_succ, List.getElem?_cons_zero]; rfl) (by simp only [List.getElem?_toArray, List.getElem?_cons_succ, List.getElem?_cons_zero]; rfl) (by kernel_rfl) ?_ ?_
  · skip
    have hO := hS
    clear hS
    intro hS
    refine own_buildSlice rfl _ _ 2 _ rfl ([.int .i64 2, .string ⟨#[]⟩, .int .i64 0, .int .i64 400, .int .i64 500, .int .i64 0, .int .i64 0, .int .i64 0, .slice none 0 0, .int .i64 0, .slice none 0 0] ++ [.int .i64 2, .string ⟨#[]⟩, .int .i64 0, .int .i64 200, .int .i64 900, .int .i64 100, .int .i64 0, .int .i64 0, .slice none 0 0, .int .i64 0, .slice none 0 0]) hS Try.underlying32 (by kernel_rfl) ?_
    clear hS
    intro bs w4 hS
    refine wpList_nil ⟨rfl, _, hS, ?_⟩
    clear hS hO hcl
    intro hcl ww hS hbA
    (try simp only [List.cons_append, List.nil_append] at hS)
    (try simp only [Act.put]); (try simp only [List.setIfInBounds_toArray]); (try simp only [List.set_cons_succ]); (try simp only [List.set_cons_zero])
    refine own_twoB hS 5 9 hcl (by simp only [List.getElem?_toArray, List.getElem?_cons_succ, List.getElem?_cons_zero]; rfl) (by simp only [List.getElem?_toArray, List.getElem?_cons_succ, List.getElem?_cons_zero]; rfl) (by kernel_rfl) ?_ ?_
    · skip
      have hs := hS.get at0
      have hO := hS
      clear hS
      intro hS
      go_wp2_with (first | (go_at_call 10; refine Calls.mono (awMake37 hs) ?_; rintro e w6 ⟨cs6, rfl, hr6, hb6⟩))
      refine ⟨[], hS.step hb6, ?_⟩
      clear hS hO hcl hs
      obtain ⟨c0, c1, c2, c6, c7, c9, c10, k, o, kc, rfl, g0, g1, hall⟩ := awLook37 hr6
      clear hr6 hb6
      intro hcl ww hS hbB
      have g0 := cell_below37 g0 hbB
      have g1 := cell_below37 g1 hbB
      (try simp only [List.nil_append] at hS)
      (try simp only [Act.put]); (try simp only [List.setIfInBounds_toArray]); (try simp only [List.set_cons_succ]); (try simp only [List.set_cons_zero])
      refine own_pureB hS [6, 7, 8] 3 rfl hcl (by kernel_rfl) ?_
      (try simp only); repeat (first | (simp only [List.filterMap_cons]) | (simp only [List.filterMap_nil]) | (simp only [List.getElem?_toArray]) | (simp only [List.getElem?_cons_succ]) | (simp only [List.getElem?_cons_zero]) | (simp only [List.reverse_cons]) | (simp only [List.reverse_nil]) | (simp only [List.nil_append]) | (simp only [List.cons_append]))
      repeat (first
          | (first | (refine g_plain rfl ?_) | (refine g_yes rfl rfl rfl (by simp only [List.getElem?_toArray, List.getElem?_cons_succ, List.getElem?_cons_zero]; rfl) (by with_reducible constructor) ?_)
             apply Exists.intro; refine ⟨?_, ?_⟩
             focus (intro wq hq0; (first | have hq : Own _ _ _ wq := hq0 | have hq : Own _ _ _ wq := hq0.1 | skip); first | ((with_reducible show givesAt _ ({ dst := _, op := Op.load _ _, type := _, pos := _, after := _, guard := _ } : Oper) _ _ _); first | (exact givesAt_rd rfl (by rfl) (by first | exact rd_1 (by repeat constructor) (by first | rfl | assumption) | exact rd_w (by repeat constructor) (by rfl) | exact rd_o (by assumption) (by rfl) (by first | exact nmn | assumption | simp) | exact rd_h (by assumption) (by rfl) (by first | exact nmn | assumption | simp) | exact rd_1o (by assumption) (by first | exact nmn | assumption | simp) | exact rd_1h (by assumption) (by first | rfl | assumption) (by first | exact nmn | assumption | simp)) hq)) | (go_simp; first | (with_reducible rfl)))
             simp only [Act.put, List.setIfInBounds_toArray]; (try simp only [List.set_cons_succ]); (try simp only [List.set_cons_zero]))
          | (refine g_no rfl rfl rfl (by simp only [List.getElem?_toArray, List.getElem?_cons_succ, List.getElem?_cons_zero]; rfl) (by with_reducible constructor) ?_; simp only [Act.put, List.setIfInBounds_toArray]; (try simp only [List.set_cons_succ]); (try simp only [List.set_cons_zero])))
      refine g_nil ?_
      clear hS hcl
      intro hcl ww hS
      intro hbD
      have g0 := cell_below37 g0 hbD
      have g1 := cell_below37 g1 hbD
      (try simp only [Act.put]); (try simp only [List.setIfInBounds_toArray]); (try simp only [List.set_cons_succ]); (try simp only [List.set_cons_zero])
      refine own_softB hS 9 hcl (by simp only [List.getElem?_toArray, List.getElem?_cons_succ, List.getElem?_cons_zero]; rfl) (by kernel_rfl) ?_
      have hO := hS
      clear hS
      intro hS
      refine own_alloc rfl _ rfl hS zt_box ?_
      clear hS
      intro b9 w4 hS
      have hbK := hS.below
      refine wpList_nil ⟨rfl, _, hS, ?_⟩
      clear hS hO hcl
      intro hcl ww hS hbC
      (try simp only [List.cons_append, List.nil_append] at hS)
      (try simp only [Act.put]); (try simp only [List.setIfInBounds_toArray]); (try simp only [List.set_cons_succ]); (try simp only [List.set_cons_zero])
      have g0 := cell_below37 g0 hbK
      have g1 := cell_below37 g1 hbK
      have g0 := cell_below37 g0 hbC
      have g1 := cell_below37 g1 hbC
      have hkb : k ∉ [b9] := fun h => by
        obtain rfl := List.mem_singleton.1 h
        have h1 := (hS.get at0).cell (o + 11 + 6)
        rw [g0] at h1
        have h2 := List.mem_of_getElem? h1.symm
        simp at h2
      have HA := Lib.hid (hS.forget (L' := [(b9, [.int .i64 0, .string ⟨#[]⟩, .int .i64 0, .int .i64 0, .int .i64 0, .int .i64 0, .int .i64 0, .int .i64 0, .slice none 0 0, .int .i64 0, .slice none 0 0])]) (by simp))
      clear hS
      obtain ⟨wd, hwd⟩ : ∃ wd, Hid (wd = ww) := ⟨_, rfl⟩
      obtain rfl := hwd.out
      have hS : Own [b9] wd [(b9, [.int .i64 0, .string ⟨#[]⟩, .int .i64 0, .int .i64 0, .int .i64 0, .int .i64 0, .int .i64 0, .int .i64 0, .slice none 0 0, .int .i64 0, .slice none 0 0])] wd := HA.out.rebase
      refine own_hard (D := [b9]) (W := wd) 10 hcl (by simp only [List.getElem?_toArray, List.getElem?_cons_succ, List.getElem?_cons_zero]; rfl) (by kernel_rfl) (by kernel_rfl) ?_
      refine own_store rfl _ _ _ rfl rfl rfl hS at0 rt_box (by rfl) hall ?_
      clear hS
      intro we hS
      (try simp only [List.set_cons_zero] at hS)
      refine wpList_nil ⟨rfl, _, hS, ?_⟩
      clear hS hcl
      intro hcl wf hS
      (try simp only [Act.put]); (try simp only [List.setIfInBounds_toArray]); (try simp only [List.set_cons_succ]); (try simp only [List.set_cons_zero])
      refine own_batch hS [11] 0 rfl hcl (by kernel_rfl) ?_
      (try simp only); repeat (first | (simp only [List.filterMap_cons]) | (simp only [List.filterMap_nil]) | (simp only [List.getElem?_toArray]) | (simp only [List.getElem?_cons_succ]) | (simp only [List.getElem?_cons_zero]) | (simp only [List.reverse_cons]) | (simp only [List.reverse_nil]) | (simp only [List.nil_append]) | (simp only [List.cons_append]))
      repeat (first
          | (first | (refine g_plain rfl ?_) | (refine g_yes rfl rfl rfl (by simp only [List.getElem?_toArray, List.getElem?_cons_succ, List.getElem?_cons_zero]; rfl) (by with_reducible constructor) ?_)
             apply Exists.intro; refine ⟨?_, ?_⟩
             focus (intro wq hq0; (first | have hq : Own _ _ _ wq := hq0 | have hq : Own _ _ _ wq := hq0.1 | skip); first | ((with_reducible show givesAt _ ({ dst := _, op := Op.load _ _, type := _, pos := _, after := _, guard := _ } : Oper) _ _ _); first | (exact givesAt_rd rfl (by rfl) (by first | exact rd_1 (by repeat constructor) (by first | rfl | assumption) | exact rd_w (by repeat constructor) (by rfl) | exact rd_o (by assumption) (by rfl) (by first | exact nmn | assumption | simp) | exact rd_h (by assumption) (by rfl) (by first | exact nmn | assumption | simp) | exact rd_1o (by assumption) (by first | exact nmn | assumption | simp) | exact rd_1h (by assumption) (by first | rfl | assumption) (by first | exact nmn | assumption | simp)) hq)) | (go_simp; first | (with_reducible rfl)))
             simp only [Act.put, List.setIfInBounds_toArray]; (try simp only [List.set_cons_succ]); (try simp only [List.set_cons_zero]))
          | (refine g_no rfl rfl rfl (by simp only [List.getElem?_toArray, List.getElem?_cons_succ, List.getElem?_cons_zero]; rfl) (by with_reducible constructor) ?_; simp only [Act.put, List.setIfInBounds_toArray]; (try simp only [List.set_cons_succ]); (try simp only [List.set_cons_zero])))
      refine g_nil ?_
      clear hS hcl
      intro hcl ww hS
      refine own_done (by kernel_rfl) ?_
      go_wp2_with (first | (refine own_unguard (by rfl) ?_) | (refine w_ld rfl _ rfl (by rfl) (by first | exact rd_1 (by repeat constructor) (by first | rfl | assumption) | exact rd_w (by repeat constructor) (by rfl) | exact rd_o (by assumption) (by rfl) (by first | exact nmn | assumption | simp) | exact rd_h (by assumption) (by rfl) (by first | exact nmn | assumption | simp) | exact rd_1o (by assumption) (by first | exact nmn | assumption | simp) | exact rd_1h (by assumption) (by first | rfl | assumption) (by first | exact nmn | assumption | simp)) hS ?_) | (refine own_box rfl _ _ rfl (by rfl) hS ?_; clear hS; (try clear ww); intro bb ww hS) | (refine w_al rfl rfl hS ?_; clear hS; (try clear ww); intro bb ww hS) | (refine w_st rfl _ _ rfl (by rfl) (by rfl) (by repeat constructor) (by rfl) (by rfl) (by first | rfl | assumption) hS ?_; clear hS; (try clear ww); intro ww hS) | (refine w_s1 rfl _ _ rfl (by rfl) (by repeat constructor) (by first | exact .c | exact .t rfl) (by rfl) (by repeat constructor) hS ?_; clear hS; (try clear ww); intro ww hS))
      go_ret
      exact ⟨rfl, (HA.out.chainR hS).below⟩
    · skip
      have hO := hS
      clear hS
      intro hS
      refine own_alloc rfl _ rfl hS zt_box ?_
      clear hS
      intro b9 w4 hS
      have hbK := hS.below
      refine wpList_nil ⟨rfl, _, hS, ?_⟩
      clear hS hO hcl
      intro hcl ww hS hbC
      (try simp only [List.cons_append, List.nil_append] at hS)
      (try simp only [Act.put]); (try simp only [List.setIfInBounds_toArray]); (try simp only [List.set_cons_succ]); (try simp only [List.set_cons_zero])
      refine own_softB hS 5 hcl (by simp only [List.getElem?_toArray, List.getElem?_cons_succ, List.getElem?_cons_zero]; rfl) (by kernel_rfl) ?_
      have hs := hS.get at1
      have hO := hS
      clear hS
      intro hS
      go_wp2_with (first | (go_at_call 10; refine Calls.mono (awMake37 hs) ?_; rintro e w6 ⟨cs6, rfl, hr6, hb6⟩))
      refine ⟨[], hS.step hb6, ?_⟩
      clear hS hO hcl hs
      obtain ⟨c0, c1, c2, c6, c7, c9, c10, k, o, kc, rfl, g0, g1, hall⟩ := awLook37 hr6
      clear hr6 hb6
      intro hcl ww hS hbB
      have g0 := cell_below37 g0 hbB
      have g1 := cell_below37 g1 hbB
      (try simp only [List.nil_append] at hS)
      (try simp only [Act.put]); (try simp only [List.setIfInBounds_toArray]); (try simp only [List.set_cons_succ]); (try simp only [List.set_cons_zero])
      refine own_pureB hS [6, 7, 8] 2 rfl hcl (by kernel_rfl) ?_
      (try simp only); repeat (first | (simp only [List.filterMap_cons]) | (simp only [List.filterMap_nil]) | (simp only [List.getElem?_toArray]) | (simp only [List.getElem?_cons_succ]) | (simp only [List.getElem?_cons_zero]) | (simp only [List.reverse_cons]) | (simp only [List.reverse_nil]) | (simp only [List.nil_append]) | (simp only [List.cons_append]))
      repeat (first
          | (first | (refine g_plain rfl ?_) | (refine g_yes rfl rfl rfl (by simp only [List.getElem?_toArray, List.getElem?_cons_succ, List.getElem?_cons_zero]; rfl) (by with_reducible constructor) ?_)
             apply Exists.intro; refine ⟨?_, ?_⟩
             focus (intro wq hq0; (first | have hq : Own _ _ _ wq := hq0 | have hq : Own _ _ _ wq := hq0.1 | skip); first | ((with_reducible show givesAt _ ({ dst := _, op := Op.load _ _, type := _, pos := _, after := _, guard := _ } : Oper) _ _ _); first | (exact givesAt_rd rfl (by rfl) (by first | exact rd_1 (by repeat constructor) (by first | rfl | assumption) | exact rd_w (by repeat constructor) (by rfl) | exact rd_o (by assumption) (by rfl) (by first | exact nmn | assumption | simp) | exact rd_h (by assumption) (by rfl) (by first | exact nmn | assumption | simp) | exact rd_1o (by assumption) (by first | exact nmn | assumption | simp) | exact rd_1h (by assumption) (by first | rfl | assumption) (by first | exact nmn | assumption | simp)) hq)) | (go_simp; first | (with_reducible rfl)))
             simp only [Act.put, List.setIfInBounds_toArray]; (try simp only [List.set_cons_succ]); (try simp only [List.set_cons_zero]))
          | (refine g_no rfl rfl rfl (by simp only [List.getElem?_toArray, List.getElem?_cons_succ, List.getElem?_cons_zero]; rfl) (by with_reducible constructor) ?_; simp only [Act.put, List.setIfInBounds_toArray]; (try simp only [List.set_cons_succ]); (try simp only [List.set_cons_zero])))
      refine g_nil ?_
      clear hS hcl
      intro hcl ww hS
      intro hbD
      have g0 := cell_below37 g0 hbD
      have g1 := cell_below37 g1 hbD
      (try simp only [Act.put]); (try simp only [List.setIfInBounds_toArray]); (try simp only [List.set_cons_succ]); (try simp only [List.set_cons_zero])
      have hkb : k ∉ [b9] := fun h => by
        obtain rfl := List.mem_singleton.1 h
        have h1 := (hS.get at0).cell (o + 11 + 6)
        rw [g0] at h1
        have h2 := List.mem_of_getElem? h1.symm
        simp at h2
      have HA := Lib.hid (hS.forget (L' := [(b9, [.int .i64 0, .string ⟨#[]⟩, .int .i64 0, .int .i64 0, .int .i64 0, .int .i64 0, .int .i64 0, .int .i64 0, .slice none 0 0, .int .i64 0, .slice none 0 0])]) (by simp))
      clear hS
      obtain ⟨wd, hwd⟩ : ∃ wd, Hid (wd = ww) := ⟨_, rfl⟩
      obtain rfl := hwd.out
      have hS : Own [b9] wd [(b9, [.int .i64 0, .string ⟨#[]⟩, .int .i64 0, .int .i64 0, .int .i64 0, .int .i64 0, .int .i64 0, .int .i64 0, .slice none 0 0, .int .i64 0, .slice none 0 0])] wd := HA.out.rebase
      refine own_hard (D := [b9]) (W := wd) 10 hcl (by simp only [List.getElem?_toArray, List.getElem?_cons_succ, List.getElem?_cons_zero]; rfl) (by kernel_rfl) (by kernel_rfl) ?_
      refine own_store rfl _ _ _ rfl rfl rfl hS at0 rt_box (by rfl) hall ?_
      clear hS
      intro we hS
      (try simp only [List.set_cons_zero] at hS)
      refine wpList_nil ⟨rfl, _, hS, ?_⟩
      clear hS hcl
      intro hcl wf hS
      (try simp only [Act.put]); (try simp only [List.setIfInBounds_toArray]); (try simp only [List.set_cons_succ]); (try simp only [List.set_cons_zero])
      refine own_batch hS [11] 0 rfl hcl (by kernel_rfl) ?_
      (try simp only); repeat (first | (simp only [List.filterMap_cons]) | (simp only [List.filterMap_nil]) | (simp only [List.getElem?_toArray]) | (simp only [List.getElem?_cons_succ]) | (simp only [List.getElem?_cons_zero]) | (simp only [List.reverse_cons]) | (simp only [List.reverse_nil]) | (simp only [List.nil_append]) | (simp only [List.cons_append]))
      repeat (first
          | (first | (refine g_plain rfl ?_) | (refine g_yes rfl rfl rfl (by simp only [List.getElem?_toArray, List.getElem?_cons_succ, List.getElem?_cons_zero]; rfl) (by with_reducible constructor) ?_)
             apply Exists.intro; refine ⟨?_, ?_⟩
             focus (intro wq hq0; (first | have hq : Own _ _ _ wq := hq0 | have hq : Own _ _ _ wq := hq0.1 | skip); first | ((with_reducible show givesAt _ ({ dst := _, op := Op.load _ _, type := _, pos := _, after := _, guard := _ } : Oper) _ _ _); first | (exact givesAt_rd rfl (by rfl) (by first | exact rd_1 (by repeat constructor) (by first | rfl | assumption) | exact rd_w (by repeat constructor) (by rfl) | exact rd_o (by assumption) (by rfl) (by first | exact nmn | assumption | simp) | exact rd_h (by assumption) (by rfl) (by first | exact nmn | assumption | simp) | exact rd_1o (by assumption) (by first | exact nmn | assumption | simp) | exact rd_1h (by assumption) (by first | rfl | assumption) (by first | exact nmn | assumption | simp)) hq)) | (go_simp; first | (with_reducible rfl)))
             simp only [Act.put, List.setIfInBounds_toArray]; (try simp only [List.set_cons_succ]); (try simp only [List.set_cons_zero]))
          | (refine g_no rfl rfl rfl (by simp only [List.getElem?_toArray, List.getElem?_cons_succ, List.getElem?_cons_zero]; rfl) (by with_reducible constructor) ?_; simp only [Act.put, List.setIfInBounds_toArray]; (try simp only [List.set_cons_succ]); (try simp only [List.set_cons_zero])))
      refine g_nil ?_
      clear hS hcl
      intro hcl ww hS
      refine own_done (by kernel_rfl) ?_
      go_wp2_with (first | (refine own_unguard (by rfl) ?_) | (refine w_ld rfl _ rfl (by rfl) (by first | exact rd_1 (by repeat constructor) (by first | rfl | assumption) | exact rd_w (by repeat constructor) (by rfl) | exact rd_o (by assumption) (by rfl) (by first | exact nmn | assumption | simp) | exact rd_h (by assumption) (by rfl) (by first | exact nmn | assumption | simp) | exact rd_1o (by assumption) (by first | exact nmn | assumption | simp) | exact rd_1h (by assumption) (by first | rfl | assumption) (by first | exact nmn | assumption | simp)) hS ?_) | (refine own_box rfl _ _ rfl (by rfl) hS ?_; clear hS; (try clear ww); intro bb ww hS) | (refine w_al rfl rfl hS ?_; clear hS; (try clear ww); intro bb ww hS) | (refine w_st rfl _ _ rfl (by rfl) (by rfl) (by repeat constructor) (by rfl) (by rfl) (by first | rfl | assumption) hS ?_; clear hS; (try clear ww); intro ww hS) | (refine w_s1 rfl _ _ rfl (by rfl) (by repeat constructor) (by first | exact .c | exact .t rfl) (by rfl) (by repeat constructor) hS ?_; clear hS; (try clear ww); intro ww hS))
      go_ret
      exact ⟨rfl, (HA.out.chainR hS).below⟩
  · skip
    have hO := hS
    clear hS
    intro hS
    refine own_alloc rfl _ rfl hS zt_box ?_
    clear hS
    intro b9 w4 hS
    have hbK := hS.below
    refine wpList_nil ⟨rfl, _, hS, ?_⟩
    clear hS hO hcl
    intro hcl ww hS hbC
    (try simp only [List.cons_append, List.nil_append] at hS)
    (try simp only [Act.put]); (try simp only [List.setIfInBounds_toArray]); (try simp only [List.set_cons_succ]); (try simp only [List.set_cons_zero])
    refine own_softB hS 4 hcl (by simp only [List.getElem?_toArray, List.getElem?_cons_succ, List.getElem?_cons_zero]; rfl) (by kernel_rfl) ?_
    have hO := hS
    clear hS
    intro hS
    refine own_buildSlice rfl _ _ 2 _ rfl ([.int .i64 2, .string ⟨#[]⟩, .int .i64 0, .int .i64 400, .int .i64 500, .int .i64 0, .int .i64 0, .int .i64 0, .slice none 0 0, .int .i64 0, .slice none 0 0] ++ [.int .i64 2, .string ⟨#[]⟩, .int .i64 0, .int .i64 200, .int .i64 900, .int .i64 100, .int .i64 0, .int .i64 0, .slice none 0 0, .int .i64 0, .slice none 0 0]) hS Try.underlying32 (by kernel_rfl) ?_
    clear hS
    intro bs w4 hS
    refine wpList_nil ⟨rfl, _, hS, ?_⟩
    clear hS hO hcl
    intro hcl ww hS hbA
    (try simp only [List.cons_append, List.nil_append] at hS)
    (try simp only [Act.put]); (try simp only [List.setIfInBounds_toArray]); (try simp only [List.set_cons_succ]); (try simp only [List.set_cons_zero])
    refine own_softB hS 5 hcl (by simp only [List.getElem?_toArray, List.getElem?_cons_succ, List.getElem?_cons_zero]; rfl) (by kernel_rfl) ?_
    have hs := hS.get at0
    have hO := hS
    clear hS
    intro hS
    go_wp2_with (first | (go_at_call 10; refine Calls.mono (awMake37 hs) ?_; rintro e w6 ⟨cs6, rfl, hr6, hb6⟩))
    refine ⟨[], hS.step hb6, ?_⟩
    clear hS hO hcl hs
    obtain ⟨c0, c1, c2, c6, c7, c9, c10, k, o, kc, rfl, g0, g1, hall⟩ := awLook37 hr6
    clear hr6 hb6
    intro hcl ww hS hbB
    have g0 := cell_below37 g0 hbB
    have g1 := cell_below37 g1 hbB
    (try simp only [List.nil_append] at hS)
    (try simp only [Act.put]); (try simp only [List.setIfInBounds_toArray]); (try simp only [List.set_cons_succ]); (try simp only [List.set_cons_zero])
    refine own_pureB hS [6, 7, 8] 2 rfl hcl (by kernel_rfl) ?_
    (try simp only); repeat (first | (simp only [List.filterMap_cons]) | (simp only [List.filterMap_nil]) | (simp only [List.getElem?_toArray]) | (simp only [List.getElem?_cons_succ]) | (simp only [List.getElem?_cons_zero]) | (simp only [List.reverse_cons]) | (simp only [List.reverse_nil]) | (simp only [List.nil_append]) | (simp only [List.cons_append]))
    repeat (first
        | (first | (refine g_plain rfl ?_) | (refine g_yes rfl rfl rfl (by simp only [List.getElem?_toArray, List.getElem?_cons_succ, List.getElem?_cons_zero]; rfl) (by with_reducible constructor) ?_)
           apply Exists.intro; refine ⟨?_, ?_⟩
           focus (intro wq hq0; (first | have hq : Own _ _ _ wq := hq0 | have hq : Own _ _ _ wq := hq0.1 | skip); first | ((with_reducible show givesAt _ ({ dst := _, op := Op.load _ _, type := _, pos := _, after := _, guard := _ } : Oper) _ _ _); first | (exact givesAt_rd rfl (by rfl) (by first | exact rd_1 (by repeat constructor) (by first | rfl | assumption) | exact rd_w (by repeat constructor) (by rfl) | exact rd_o (by assumption) (by rfl) (by first | exact nmn | assumption | simp) | exact rd_h (by assumption) (by rfl) (by first | exact nmn | assumption | simp) | exact rd_1o (by assumption) (by first | exact nmn | assumption | simp) | exact rd_1h (by assumption) (by first | rfl | assumption) (by first | exact nmn | assumption | simp)) hq)) | (go_simp; first | (with_reducible rfl)))
           simp only [Act.put, List.setIfInBounds_toArray]; (try simp only [List.set_cons_succ]); (try simp only [List.set_cons_zero]))
        | (refine g_no rfl rfl rfl (by simp only [List.getElem?_toArray, List.getElem?_cons_succ, List.getElem?_cons_zero]; rfl) (by with_reducible constructor) ?_; simp only [Act.put, List.setIfInBounds_toArray]; (try simp only [List.set_cons_succ]); (try simp only [List.set_cons_zero])))
    refine g_nil ?_
    clear hS hcl
    intro hcl ww hS
    intro hbD
    have g0 := cell_below37 g0 hbD
    have g1 := cell_below37 g1 hbD
    (try simp only [Act.put]); (try simp only [List.setIfInBounds_toArray]); (try simp only [List.set_cons_succ]); (try simp only [List.set_cons_zero])
    have hkb : k ∉ [b9] := fun h => by
      obtain rfl := List.mem_singleton.1 h
      have h1 := (hS.get at1).cell (o + 11 + 6)
      rw [g0] at h1
      have h2 := List.mem_of_getElem? h1.symm
      simp at h2
    have HA := Lib.hid (hS.forget (L' := [(b9, [.int .i64 0, .string ⟨#[]⟩, .int .i64 0, .int .i64 0, .int .i64 0, .int .i64 0, .int .i64 0, .int .i64 0, .slice none 0 0, .int .i64 0, .slice none 0 0])]) (by simp))
    clear hS
    obtain ⟨wd, hwd⟩ : ∃ wd, Hid (wd = ww) := ⟨_, rfl⟩
    obtain rfl := hwd.out
    have hS : Own [b9] wd [(b9, [.int .i64 0, .string ⟨#[]⟩, .int .i64 0, .int .i64 0, .int .i64 0, .int .i64 0, .int .i64 0, .int .i64 0, .slice none 0 0, .int .i64 0, .slice none 0 0])] wd := HA.out.rebase
    refine own_hard (D := [b9]) (W := wd) 10 hcl (by simp only [List.getElem?_toArray, List.getElem?_cons_succ, List.getElem?_cons_zero]; rfl) (by kernel_rfl) (by kernel_rfl) ?_
    refine own_store rfl _ _ _ rfl rfl rfl hS at0 rt_box (by rfl) hall ?_
    clear hS
    intro we hS
    (try simp only [List.set_cons_zero] at hS)
    refine wpList_nil ⟨rfl, _, hS, ?_⟩
    clear hS hcl
    intro hcl wf hS
    (try simp only [Act.put]); (try simp only [List.setIfInBounds_toArray]); (try simp only [List.set_cons_succ]); (try simp only [List.set_cons_zero])
    refine own_batch hS [11] 0 rfl hcl (by kernel_rfl) ?_
    (try simp only); repeat (first | (simp only [List.filterMap_cons]) | (simp only [List.filterMap_nil]) | (simp only [List.getElem?_toArray]) | (simp only [List.getElem?_cons_succ]) | (simp only [List.getElem?_cons_zero]) | (simp only [List.reverse_cons]) | (simp only [List.reverse_nil]) | (simp only [List.nil_append]) | (simp only [List.cons_append]))
    repeat (first
        | (first | (refine g_plain rfl ?_) | (refine g_yes rfl rfl rfl (by simp only [List.getElem?_toArray, List.getElem?_cons_succ, List.getElem?_cons_zero]; rfl) (by with_reducible constructor) ?_)
           apply Exists.intro; refine ⟨?_, ?_⟩
           focus (intro wq hq0; (first | have hq : Own _ _ _ wq := hq0 | have hq : Own _ _ _ wq := hq0.1 | skip); first | ((with_reducible show givesAt _ ({ dst := _, op := Op.load _ _, type := _, pos := _, after := _, guard := _ } : Oper) _ _ _); first | (exact givesAt_rd rfl (by rfl) (by first | exact rd_1 (by repeat constructor) (by first | rfl | assumption) | exact rd_w (by repeat constructor) (by rfl) | exact rd_o (by assumption) (by rfl) (by first | exact nmn | assumption | simp) | exact rd_h (by assumption) (by rfl) (by first | exact nmn | assumption | simp) | exact rd_1o (by assumption) (by first | exact nmn | assumption | simp) | exact rd_1h (by assumption) (by first | rfl | assumption) (by first | exact nmn | assumption | simp)) hq)) | (go_simp; first | (with_reducible rfl)))
           simp only [Act.put, List.setIfInBounds_toArray]; (try simp only [List.set_cons_succ]); (try simp only [List.set_cons_zero]))
        | (refine g_no rfl rfl rfl (by simp only [List.getElem?_toArray, List.getElem?_cons_succ, List.getElem?_cons_zero]; rfl) (by with_reducible constructor) ?_; simp only [Act.put, List.setIfInBounds_toArray]; (try simp only [List.set_cons_succ]); (try simp only [List.set_cons_zero])))
    refine g_nil ?_
    clear hS hcl
    intro hcl ww hS
    refine own_done (by kernel_rfl) ?_
    go_wp2_with (first | (refine own_unguard (by rfl) ?_) | (refine w_ld rfl _ rfl (by rfl) (by first | exact rd_1 (by repeat constructor) (by first | rfl | assumption) | exact rd_w (by repeat constructor) (by rfl) | exact rd_o (by assumption) (by rfl) (by first | exact nmn | assumption | simp) | exact rd_h (by assumption) (by rfl) (by first | exact nmn | assumption | simp) | exact rd_1o (by assumption) (by first | exact nmn | assumption | simp) | exact rd_1h (by assumption) (by first | rfl | assumption) (by first | exact nmn | assumption | simp)) hS ?_) | (refine own_box rfl _ _ rfl (by rfl) hS ?_; clear hS; (try clear ww); intro bb ww hS) | (refine w_al rfl rfl hS ?_; clear hS; (try clear ww); intro bb ww hS) | (refine w_st rfl _ _ rfl (by rfl) (by rfl) (by repeat constructor) (by rfl) (by rfl) (by first | rfl | assumption) hS ?_; clear hS; (try clear ww); intro ww hS) | (refine w_s1 rfl _ _ rfl (by rfl) (by repeat constructor) (by first | exact .c | exact .t rfl) (by rfl) (by repeat constructor) hS ?_; clear hS; (try clear ww); intro ww hS))
    go_ret
    exact ⟨rfl, (HA.out.chainR hS).below⟩

end Go.Proofs.Ytgnkngkogamjaaa
namespace Go.Proofs.Ytgnkngkogamjaaa
open Go.RowKit Go.ChangeShapes Go.WideShapes Go.Deep

theorem Try.cellsInt : Try.prog.cellsOf 3 = 1 := by kernel_rfl
theorem Try.cellsString : Try.prog.cellsOf 9 = 1 := by kernel_rfl
theorem Try.cellsBool : Try.prog.cellsOf 4 = 1 := by kernel_rfl
theorem Try.cellsGlyph : Try.prog.cellsOf 90 = 6 := by kernel_rfl

section
variable {H : Type} {enc : TypeId × Value → H} {w : World}

theorem field_int {n o : Nat} {cs : List Value} {y : DataW H × List MemPlace} (h : DataW.trod enc Try.prog w 0 (fun _ => true) true n 3 ((cs.drop o).take (Try.prog.cellsOf 3)) = some y) : ∃ z, cs[o]? = some (.int .i64 z) ∧ I64 z := by
  rw [Try.cellsInt] at h
  obtain ⟨z, hz, _, wz⟩ := DataW.trod_int Try.underlying3 h
  exact ⟨z, take_one hz, i64_of wz⟩
theorem field_string {n o : Nat} {cs : List Value} {y : DataW H × List MemPlace} (h : DataW.trod enc Try.prog w 0 (fun _ => true) true n 9 ((cs.drop o).take (Try.prog.cellsOf 9)) = some y) : ∃ s, cs[o]? = some (.string s) ∧ s.size ≤ maxLen := by
  rw [Try.cellsString] at h
  obtain ⟨s, hs, _, ws⟩ := DataW.trod_string Try.underlying9 h
  exact ⟨s, take_one hs, ws⟩
theorem field_bool {n o : Nat} {cs : List Value} {y : DataW H × List MemPlace} (h : DataW.trod enc Try.prog w 0 (fun _ => true) true n 4 ((cs.drop o).take (Try.prog.cellsOf 4)) = some y) : ∃ b, cs[o]? = some (.bool b) := by
  rw [Try.cellsBool] at h
  obtain ⟨b, hb, _⟩ := DataW.trod_bool Try.underlying4 h
  exact ⟨b, take_one hb⟩

set_option maxRecDepth 100000 in
/-- The cells of a glyph that reads. -/
theorem read_glyph {fuel : Nat} {cs : List Value} {x : DataW H × List MemPlace} (h : DataW.trod enc Try.prog w 0 (fun _ => true) true fuel 90 cs = some x) :
    ∃ g : Gly, cs = [.string g.name, .int .i64 g.w, .int .i64 g.h, .int .i64 g.d, .int .i64 g.it, .int .i64 g.at_] ∧ g.wf ∧ g.name.size ≤ maxLen := by
  obtain ⟨hl, n, hf⟩ := read_struct Try.underlying90 h
  rw [Try.cellsGlyph] at hl
  obtain ⟨_, f0⟩ := hf 0 _ rfl
  obtain ⟨_, f1⟩ := hf 1 _ rfl
  obtain ⟨_, f2⟩ := hf 2 _ rfl
  obtain ⟨_, f3⟩ := hf 3 _ rfl
  obtain ⟨_, f4⟩ := hf 4 _ rfl
  obtain ⟨_, f5⟩ := hf 5 _ rfl
  obtain ⟨s, e0, hs⟩ := field_string f0
  obtain ⟨n1, e1, h1⟩ := field_int f1
  obtain ⟨n2, e2, h2⟩ := field_int f2
  obtain ⟨n3, e3, h3⟩ := field_int f3
  obtain ⟨n4, e4, h4⟩ := field_int f4
  obtain ⟨n5, e5, h5⟩ := field_int f5
  refine ⟨{ name := s, w := n1, h := n2, d := n3, it := n4, at_ := n5 }, ?_, ⟨h1, h2, h3, h4, h5⟩, hs⟩
  match cs, hl with
  | [c0, c1, c2, c3, c4, c5], _ =>
    simp at e0 e1 e2 e3 e4 e5
    subst e0 e1 e2 e3 e4 e5
    rfl

end
end Go.Proofs.Ytgnkngkogamjaaa
namespace Go.Proofs.Ytgnkngkogamjaaa
open Go.RowKit Go.ChangeShapes Go.WideShapes Go.Deep

theorem Try.cellsPart : Try.prog.cellsOf 104 = 2 := by kernel_rfl
theorem Try.cellsStretch : Try.prog.cellsOf 76 = 4 := by kernel_rfl
theorem Try.cellsParams : Try.prog.cellsOf 25 = 20 := by kernel_rfl
theorem Try.cellsFont : Try.prog.cellsOf 27 = 22 := by kernel_rfl
theorem Try.cellsStrings : Try.prog.cellsOf 73 = 1 := by kernel_rfl
theorem Try.cellsParts : Try.prog.cellsOf 74 = 1 := by kernel_rfl
theorem Try.cellsGlyphs : Try.prog.cellsOf 22 = 1 := by kernel_rfl
theorem Try.cellsStretches : Try.prog.cellsOf 23 = 1 := by kernel_rfl

section
variable {H : Type} {enc : TypeId × Value → H} {w : World}

set_option maxRecDepth 100000 in
/-- A slice each of whose elements reads as f of something. -/
theorem read_row {P : Program} {α : Type} {f : α → List Value} {R : α → Prop} {t e : TypeId} {fuel size : Nat} {cs : List Value} {x : DataW H × List MemPlace} (ht : P.underlying t = some (.slice e)) (hC : P.cellsOf e = size) (h0 : 0 < size)
    (he : ∀ {fuel : Nat} {cs : List Value} {x : DataW H × List MemPlace}, DataW.trod enc P w 0 (fun _ => true) true fuel e cs = some x → ∃ a, cs = f a ∧ R a)
    (h : DataW.trod enc P w 0 (fun _ => true) true fuel t cs = some x) :
    ∃ (y : Option Addr) (c : Nat) (l : List α), cs = [.slice y l.length c] ∧ RowAt w y size f l ∧ (∀ a ∈ l, R a) ∧ l.length ≤ maxLen ∧ l.length ≤ c ∧ (l ≠ [] → c ≤ maxLen) := by
  subst hC
  rcases read_slice ht h0 h with ⟨y, c, rfl⟩ | ⟨b, o, len, c, n, hlen, rfl, hl, hm, hi⟩
  · exact ⟨y, c, [], rfl, .inl rfl, by simp, Nat.zero_le _, Nat.zero_le _, fun h => absurd rfl h⟩
  · obtain ⟨l, hll, hr⟩ := list_of (fun i a => w.rangeAt b (o + i * P.cellsOf e) (f a) ∧ R a) len fun i hlt => by
      obtain ⟨cs', y, hcl, hc, htr⟩ := hi i hlt
      obtain ⟨a, rfl, hR⟩ := he htr
      refine ⟨a, fun j v hj => ?_, hR⟩
      have hjl : j < P.cellsOf e := by rw [← hcl]; exact (List.getElem?_eq_some_iff.1 hj).1
      rw [hc j hjl, hj]
    subst hll
    refine ⟨some ⟨b, o, none⟩, c, l, rfl, .inr ⟨b, o, rfl, fun i a hia => (hr i a hia).1⟩, fun a ha => ?_, by omega, hl, fun _ => hm⟩
    obtain ⟨i, hi⟩ := List.mem_iff_getElem?.1 ha
    exact (hr i a hi).2

set_option maxRecDepth 100000 in
theorem read_string {fuel : Nat} {cs : List Value} {x : DataW H × List MemPlace} (h : DataW.trod enc Try.prog w 0 (fun _ => true) true fuel 9 cs = some x) : ∃ s, cs = strCells s ∧ s.size ≤ maxLen := by
  obtain ⟨s, hs, _, ws⟩ := DataW.trod_string Try.underlying9 h
  exact ⟨s, hs, ws⟩

set_option maxRecDepth 100000 in
theorem read_part {fuel : Nat} {cs : List Value} {x : DataW H × List MemPlace} (h : DataW.trod enc Try.prog w 0 (fun _ => true) true fuel 104 cs = some x) : ∃ p : Prt, cs = p.cells ∧ p.name.size ≤ maxLen := by
  obtain ⟨hl, n, hf⟩ := read_struct Try.underlying104 h
  rw [Try.cellsPart] at hl
  obtain ⟨_, f0⟩ := hf 0 _ rfl
  obtain ⟨_, f1⟩ := hf 1 _ rfl
  obtain ⟨s, e0, hs⟩ := field_string f0
  obtain ⟨b, e1⟩ := field_bool f1
  refine ⟨⟨s, b⟩, ?_, hs⟩
  match cs, hl with
  | [c0, c1], _ =>
    simp at e0 e1
    subst e0 e1
    rfl

set_option maxRecDepth 100000 in
/-- A field that is a slice. -/
theorem field_row {α : Type} {f : α → List Value} {R : α → Prop} {t e : TypeId} {n o size : Nat} {cs : List Value} {y : DataW H × List MemPlace} (ht : Try.prog.underlying t = some (.slice e)) (h1 : Try.prog.cellsOf t = 1) (hC : Try.prog.cellsOf e = size) (h0 : 0 < size)
    (he : ∀ {fuel : Nat} {cs : List Value} {x : DataW H × List MemPlace}, DataW.trod enc Try.prog w 0 (fun _ => true) true fuel e cs = some x → ∃ a, cs = f a ∧ R a)
    (h : DataW.trod enc Try.prog w 0 (fun _ => true) true n t ((cs.drop o).take (Try.prog.cellsOf t)) = some y) :
    ∃ (y : Option Addr) (c : Nat) (l : List α), cs[o]? = some (.slice y l.length c) ∧ RowAt w y size f l ∧ (∀ a ∈ l, R a) ∧ l.length ≤ maxLen ∧ l.length ≤ c ∧ (l ≠ [] → c ≤ maxLen) := by
  rw [h1] at h
  obtain ⟨y, c, l, hc, hr⟩ := read_row ht hC h0 he h
  exact ⟨y, c, l, take_one hc, hr⟩

set_option maxRecDepth 100000 in
theorem read_stretch {fuel : Nat} {cs : List Value} {x : DataW H × List MemPlace} (h : DataW.trod enc Try.prog w 0 (fun _ => true) true fuel 76 cs = some x) : ∃ s : Str, cs = s.cells ∧ StrOk w s := by
  obtain ⟨hl, n, hf⟩ := read_struct Try.underlying76 h
  rw [Try.cellsStretch] at hl
  obtain ⟨_, f0⟩ := hf 0 _ rfl
  obtain ⟨_, f1⟩ := hf 1 _ rfl
  obtain ⟨_, f2⟩ := hf 2 _ rfl
  obtain ⟨_, f3⟩ := hf 3 _ rfl
  obtain ⟨s, e0, hs⟩ := field_string f0
  obtain ⟨sx, sc, sz, e1, r1, q1, l1, _⟩ := field_row Try.underlying73 Try.cellsStrings Try.cellsString (by omega) (fun h => read_string h) f1
  obtain ⟨px, pc, ps, e2, r2, q2, l2, _⟩ := field_row Try.underlying74 Try.cellsParts Try.cellsPart (by omega) (fun h => read_part h) f2
  obtain ⟨n3, e3, h3⟩ := field_int f3
  refine ⟨{ name := s, sx := sx, sc := sc, sizes := sz, px := px, pc := pc, parts := ps, ov := n3 }, ?_, ⟨r1, r2, h3, l1, l2, hs, q1, q2⟩⟩
  match cs, hl with
  | [c0, c1, c2, c3], _ =>
    simp at e0 e1 e2 e3
    subst e0 e1 e2 e3
    rfl

set_option maxRecDepth 100000 in
theorem read_params {fuel : Nat} {cs : List Value} {x : DataW H × List MemPlace} (h : DataW.trod enc Try.prog w 0 (fun _ => true) true fuel 25 cs = some x) :
    ∃ ns : List Int, ns.length = 20 ∧ cs = ns.map (Value.int .i64) ∧ ∀ n ∈ ns, I64 n := by
  obtain ⟨hl, n, hf⟩ := read_struct Try.underlying25 h
  rw [Try.cellsParams] at hl
  obtain ⟨ns, hns, hr⟩ := list_of (fun i z => cs[i]? = some (.int .i64 z) ∧ I64 z) 20 fun i hi => by
    have hcase : i = 0 ∨ i = 1 ∨ i = 2 ∨ i = 3 ∨ i = 4 ∨ i = 5 ∨ i = 6 ∨ i = 7 ∨ i = 8 ∨ i = 9 ∨ i = 10 ∨ i = 11 ∨ i = 12 ∨ i = 13 ∨ i = 14 ∨ i = 15 ∨ i = 16 ∨ i = 17 ∨ i = 18 ∨ i = 19 := by omega
    rcases hcase with rfl | rfl | rfl | rfl | rfl | rfl | rfl | rfl | rfl | rfl | rfl | rfl | rfl | rfl | rfl | rfl | rfl | rfl | rfl | rfl
    · exact field_int (hf 0 _ rfl).choose_spec
    · exact field_int (hf 1 _ rfl).choose_spec
    · exact field_int (hf 2 _ rfl).choose_spec
    · exact field_int (hf 3 _ rfl).choose_spec
    · exact field_int (hf 4 _ rfl).choose_spec
    · exact field_int (hf 5 _ rfl).choose_spec
    · exact field_int (hf 6 _ rfl).choose_spec
    · exact field_int (hf 7 _ rfl).choose_spec
    · exact field_int (hf 8 _ rfl).choose_spec
    · exact field_int (hf 9 _ rfl).choose_spec
    · exact field_int (hf 10 _ rfl).choose_spec
    · exact field_int (hf 11 _ rfl).choose_spec
    · exact field_int (hf 12 _ rfl).choose_spec
    · exact field_int (hf 13 _ rfl).choose_spec
    · exact field_int (hf 14 _ rfl).choose_spec
    · exact field_int (hf 15 _ rfl).choose_spec
    · exact field_int (hf 16 _ rfl).choose_spec
    · exact field_int (hf 17 _ rfl).choose_spec
    · exact field_int (hf 18 _ rfl).choose_spec
    · exact field_int (hf 19 _ rfl).choose_spec
  refine ⟨ns, hns, ?_, fun z hz => ?_⟩
  · apply List.ext_getElem?
    intro i
    by_cases hi : i < 20
    · have h1 : ns[i]? = some ns[i] := List.getElem?_eq_getElem (by omega)
      rw [(hr i _ h1).1, List.getElem?_map, h1]
      rfl
    · rw [List.getElem?_eq_none (by omega), List.getElem?_eq_none (by simp; omega)]
  · obtain ⟨i, hi⟩ := List.mem_iff_getElem?.1 hz
    exact (hr i z hi).2

set_option maxRecDepth 100000 in
theorem read_font {fuel : Nat} {cs : List Value} {x : DataW H × List MemPlace} (h : DataW.trod enc Try.prog w 0 (fun _ => true) true fuel 27 cs = some x) : ∃ F : Fnt, cs = F.cells ∧ FntOk w F := by
  obtain ⟨hl, n, hf⟩ := read_struct Try.underlying27 h
  rw [Try.cellsFont] at hl
  obtain ⟨_, f0⟩ := hf 0 _ rfl
  obtain ⟨_, f1⟩ := hf 1 _ rfl
  obtain ⟨y2, f2⟩ := hf 2 _ rfl
  replace f2 : DataW.trod enc Try.prog w 0 (fun _ => true) true n 25 ((cs.drop 2).take (Try.prog.cellsOf 25)) = some y2 := f2
  obtain ⟨gx, gc, gs, e0, r0, q0, l0, p0⟩ := field_row (f := Gly.cells) (R := fun g => g.wf ∧ g.name.size ≤ maxLen) Try.underlying22 Try.cellsGlyphs Try.cellsGlyph (by omega) (fun h => read_glyph h) f0
  obtain ⟨sx, sc, ss, e1, r1, q1, l1, p1⟩ := field_row Try.underlying23 Try.cellsStretches Try.cellsStretch (by omega) (fun h => read_stretch h) f1
  rw [Try.cellsParams] at f2
  obtain ⟨ns, hns, hc, hw⟩ := read_params f2
  match ns, hns with
  | [n0, n1, n2, n3, n4, n5, n6, n7, n8, n9, n10, n11, n12, n13, n14, n15, n16, n17, n18, n19], _ =>
    refine ⟨{ gx := gx, gc := gc, gs := gs, sx := sx, sc := sc, ss := ss, quad := n0, xheight := n1, axis := n2, rule := n3, num1 := n4, num2 := n5, den1 := n6, den2 := n7, sup1 := n8, sup2 := n9, sup3 := n10, sub1 := n11, sub2 := n12, supdrop := n13, subdrop := n14, script := n15, sscript := n16, dpercent := n17, dshort := n18, acc := n19 }, ?_, ⟨r0, r1, q0, q1, l0, l1, p0, p1, fun z hz => ?_⟩⟩
    · match cs, hl with
      | c0 :: c1 :: rest, hl =>
        simp at e0 e1
        subst e0 e1
        simp only [List.length_cons] at hl
        have hr : (List.drop 2 (Value.slice gx gs.length gc :: Value.slice sx ss.length sc :: rest)).take 20 = rest := by
          show rest.take 20 = rest
          exact List.take_of_length_le (by omega)
        rw [hr] at hc
        rw [hc]
        rfl
    · apply hw
      simp [Fnt.prm] at hz ⊢
      exact hz

end
end Go.Proofs.Ytgnkngkogamjaaa
