/- Texts Avi, Fmk. -/
import Derived.Test.YtfmoghkffffmmaaJ23
namespace Go.Proofs.Ytfmoghkffffmmaa
open Go.RowKit

attribute [local irreducible] wpQuiet wpG wpP wpK wpList Code.wp Calls

/-- The cells are the box, whose lists lie where P says. -/
@[reducible] def RepP (P : Nat → Prop) (w : World) (n : Nat) (b : Bx n) (cs : List Value) : Prop := RepG (fun k _ => P k) P w n b cs
/-- The call gives a box whose lists lie where P says, or in blocks that it has made. -/
def GivesI (P : Nat → Prop) (n : Nat) (b : Bx n) (w : World) (e : Ending) (w' : World) : Prop :=
  ∃ cs, e = .returned (.agg cs.toArray) ∧ RepP (fun k => P k ∨ (w.heap.size ≤ k ∧ k < w'.heap.size)) w' n b cs ∧ Below w.heap.size w w'
theorem givesI_of {P : Nat → Prop} {Pr : Program} {f : FuncId} {args : Array Value} {n : Nat} {b : Bx n} {w : World} (h : ∀ B : List Nat, (∀ k ∈ B, k < w.heap.size) → (∀ k, P k → k ∉ B) → Calls Pr f args w (GivesA B n b w)) : Calls Pr f args w (GivesI P n b w) := by
  classical
  have hm : ∀ k, k ∈ (List.range w.heap.size).filter (fun k => decide (¬ P k)) ↔ k < w.heap.size ∧ ¬ P k := fun k => by simp
  refine (h ((List.range w.heap.size).filter fun k => decide (¬ P k)) (fun k hk => ((hm k).1 hk).1) (fun k hp hk => ((hm k).1 hk).2 hp)).mono ?_
  rintro e w' ⟨cs, he, hr, hb⟩
  have key : ∀ k, (k ∉ (List.range w.heap.size).filter fun k => decide (¬ P k)) ∧ k < w'.heap.size → P k ∨ (w.heap.size ≤ k ∧ k < w'.heap.size) := fun k hk => by
    by_cases h1 : P k
    · exact .inl h1
    · by_cases h2 : k < w.heap.size
      · exact absurd ((hm k).2 ⟨h2, h1⟩) hk.1
      · exact .inr ⟨by omega, hk.2⟩
  exact ⟨cs, he, (rep_keep2 (w := w') (w' := w') (fun _ _ _ => rfl) n b cs hr).mono (fun k _ hk => key k hk) (fun k hk => key k hk), hb⟩
theorem repP_A {P : Nat → Prop} {B : List Nat} {w : World} {n : Nat} {b : Bx n} {cs : List Value} (h : RepP P w n b cs) (hB : ∀ k, P k → k ∉ B) : RepA B w n b cs := h.mono (fun k _ hk => hB k hk) hB
theorem repP_old {w : World} {n : Nat} {b : Bx n} {cs : List Value} (h : Rep w n b cs) : RepP (fun k => k < w.heap.size) w n b cs := rep_old n b cs h
theorem repP_step {P : Nat → Prop} {w w' : World} {n : Nat} {b : Bx n} {cs : List Value} (h : RepP P w n b cs) (hb : Below w.heap.size w w') : RepP P w' n b cs := RepG.step hb n b cs h
theorem repP_mono {P P' : Nat → Prop} {w : World} {n : Nat} {b : Bx n} {cs : List Value} (h : RepP P w n b cs) (hP : ∀ k, P k → P' k) : RepP P' w n b cs := h.mono (fun k _ hk => hP k hk) hP
theorem rep_bare {ko : Nat → Nat → Prop} {so : Nat → Prop} {w : World} {n : Nat} {a : Hd} {cs : List Value} (h : Rep w (n + 1) (a, []) cs) (hs : a.src = []) : RepG ko so w (n + 1) (a, []) cs := by
  obtain ⟨kx, kc, sx, sc, h1, h2, h3, h4, h5, h6⟩ := h
  exact ⟨kx, kc, sx, sc, h1, h2, h3, h4, fun h0 => absurd hs h0, fun i kid hi => by simp at hi⟩
/-- A list of boxes, whose lists lie where P says. -/
def RepLP (P : Nat → Prop) (w : World) (n : Nat) (x : Option Addr) (kids : List (Bx n)) : Prop := ∀ i kid, kids[i]? = some kid → ∃ k o css, x = some ⟨k, o, none⟩ ∧ w.rangeAt k (o + i * 11) css ∧ RepP P w n kid css
theorem repLP_A {P : Nat → Prop} {B : List Nat} {w : World} {n : Nat} {x : Option Addr} {kids : List (Bx n)} (h : RepLP P w n x kids) (hB : ∀ k, P k → k ∉ B) : RepLA (fun _ => True) B w n x kids := fun i kid hi => by
  obtain ⟨k, o, css, e, hr, hp⟩ := h i kid hi
  exact ⟨k, o, css, e, trivial, hr, repP_A hp hB⟩
theorem box_Rule_I (P : Nat → Prop) (n : Nat) (bw bh bd : Int) (w : World) (h1 : I64 bw) (h2 : I64 bh) (h3 : I64 bd) : Calls Try.prog 26 #[.int .i64 bw, .int .i64 bh, .int .i64 bd] w (GivesI P (n + 1) (ruleB n bw bh bd) w) :=
  (box_Rule_calls n bw bh bd w h1 h2 h3).mono fun _ _ ⟨cs, he, hr, hb⟩ => ⟨cs, he, rep_bare hr rfl, hb⟩
theorem ref28_Rule_I (P : Nat → Prop) (n : Nat) (bw bh bd : Int) (w : World) (h1 : I64 bw) (h2 : I64 bh) (h3 : I64 bd) : Calls Try.prog 29 #[.int .i64 bw, .int .i64 bh, .int .i64 bd] w (GivesI P (n + 1) (ruleB n bw bh bd) w) :=
  (ref28_Rule_calls n bw bh bd w h1 h2 h3).mono fun _ _ ⟨cs, he, hr, hb⟩ => ⟨cs, he, rep_bare hr rfl, hb⟩
theorem box_At_I (P : Nat → Prop) (n : Nat) (b : Bx (n + 1)) (cs : List Value) (x y : Int) (w : World) (hr : RepP P w (n + 1) b cs) (hx : I64 x) (hy : I64 y) (hsl : b.1.src.length ≤ 1000000) : Calls Try.prog 24 #[.agg cs.toArray, .int .i64 x, .int .i64 y] w (GivesI P (n + 1) (atXY (n + 1) b x y) w) :=
  givesI_of fun B hB hP => box_At_A B n b cs x y w (repP_A hr hP) hB hx hy hsl
theorem ref28_At_I (P : Nat → Prop) (n : Nat) (b : Bx (n + 1)) (cs : List Value) (x y : Int) (w : World) (hr : RepP P w (n + 1) b cs) (hx : I64 x) (hy : I64 y) : Calls Try.prog 18 #[.agg cs.toArray, .int .i64 x, .int .i64 y] w (GivesI P (n + 1) (atXY (n + 1) b x y) w) :=
  givesI_of fun B _ hP => ref28_At_A B n b cs x y w (repP_A hr hP) hx hy
theorem box_List_I (P : Nat → Prop) (n : Nat) (kids : List (Bx n)) (kx : Option Addr) (kc : Nat) (bw bh bd : Int) (w : World) (hk : RepLP P w n kx kids) (hsm : ∀ k ∈ kids, Small n k ∧ bCount n k ≤ 1000000) (hl : kids.length ≤ 1000000) (h1 : I64 bw) (h2 : I64 bh) (h3 : I64 bd) :
    Calls Try.prog 27 #[.int .i64 bw, .int .i64 bh, .int .i64 bd, .slice kx kids.length kc] w (GivesI P (n + 1) (listB n bw bh bd kids) w) :=
  givesI_of fun B hB hP => box_List_A B n kids kx kc bw bh bd w (repLP_A hk hP) hB hsm hl h1 h2 h3
theorem ref28_List_I (P : Nat → Prop) (n : Nat) (kids : List (Bx n)) (kx : Option Addr) (kc : Nat) (bw bh bd : Int) (w : World) (hk : RepLP P w n kx kids) (hne : kids ≠ []) (hl : kids.length ≤ 1000000) (h1 : I64 bw) (h2 : I64 bh) (h3 : I64 bd) :
    Calls Try.prog 32 #[.int .i64 bw, .int .i64 bh, .int .i64 bd, .slice kx kids.length kc] w (GivesI P (n + 1) (listB n bw bh bd kids) w) :=
  givesI_of fun B hB hP => ref28_List_A B n kids kx kc bw bh bd w (repLP_A hk hP) hB hne hl h1 h2 h3

end Go.Proofs.Ytfmoghkffffmmaa
namespace Go.Proofs.Ytfmoghkffffmmaa
open Go.RowKit

attribute [local irreducible] wpQuiet wpG wpP wpK wpList Code.wp Calls

theorem place_I (P : Nat → Prop) (n : Nat) (b : Bx (n + 1)) (cs : List Value) (y W : Int) (a : Nat) (w : World) (hr : RepP P w (n + 1) b cs) (hy : I64 y) (hsl : b.1.src.length ≤ 1000000) (hW : w.cell? ⟨a, 0, none⟩ = some (.int .i64 W)) (bW : 0 ≤ W ∧ W ≤ 1073741824) (bw : -1073741824 ≤ b.1.w ∧ b.1.w ≤ 1073741824) :
    Calls Try.prog 23 #[.agg cs.toArray, .int .i64 y, .pointer (some ⟨a, 0, none⟩)] w (GivesI P (n + 1) (atXY (n + 1) b (hlf (W - b.1.w)) y) w) :=
  givesI_of fun B hB hP => place_A B n b cs y W a w (repP_A hr hP) hB hy hsl hW bW bw

/-- How high the numerator is, how low the denominator is, how wide the fraction is. -/
def fracUpY (F : Fnt) (l nd : Int) : Int := max (fracUp F l) (fracY F l + par F l F.rule + fracGap l (par F l F.rule) + nd)
def fracDnY (F : Fnt) (l dh : Int) : Int := max (fracDown F l) (dh + fracGap l (par F l F.rule) - fracY F l)
def fracW (nw dw : Int) : Int := max (max 0 nw) dw
/-- The fraction, if it is a box. -/
def fracB (F : Fnt) (l : Int) (n : Nat) (num den : Bx (n + 1)) : Bx (n + 2) :=
  listB (n + 1) (fracW num.1.w den.1.w) (max (fracUpY F l num.1.d + num.1.h) (fracY F l + par F l F.rule)) (max (den.1.d + fracDnY F l den.1.h) (-(fracY F l)))
    [atXY (n + 1) num (hlf (fracW num.1.w den.1.w - num.1.w)) (fracUpY F l num.1.d), atXY (n + 1) (ruleB n (fracW num.1.w den.1.w) (par F l F.rule) 0) 0 (fracY F l), atXY (n + 1) den (hlf (fracW num.1.w den.1.w - den.1.w)) (-(fracDnY F l den.1.h))]

set_option maxHeartbeats 8000000 in
set_option maxRecDepth 100000 in
theorem fracMake_bad1 (F : Fnt) (l : Int) (c : Bool) (n m : Nat) (num den : Bx (n + 1)) (cs ds : List Value) (w : World) (hF : FntOk w F)  (hx : PctOk F l 0 1) (hr : Rep w (n + 1) num cs) (hs : Rep w (n + 1) den ds)  :
    Calls Try.prog 11 #[F.val, .agg #[.int .i64 l, .bool c], .agg cs.toArray, .agg ds.toArray] w (GivesBE (m + 1) (zeroB m) 1 w) := by
  have HPc := Lib.hid (fun w' (h : Below w.heap.size w w') => style_Percent_calls F l 0 1 c w' (hF.below h) hx)
  have h11 := hr.len
  have h12 := hs.len
  obtain ⟨c0, c1, c2, c3, c4, c5, c6, c7, c8, c9, c10, rfl⟩ := eleven h11
  obtain ⟨d0, d1, d2, d3, d4, d5, d6, d7, d8, d9, d10, rfl⟩ := eleven h12
  clear hr hs hF hx h11 h12
  go_enter Try.func11, Try.ntmps11
  have hS := own_start w
  go_wp2_with (first | (refine own_unguard (by rfl) ?_) | (go_at_call 21; refine own_calls hS (HPc.out _ hS.below) ?_; clear hS; (try clear ww); intro ww hS) | (refine own_load1 rfl _ _ rfl rfl hS (atl (by repeat constructor)) (by first | exact ot_int | exact ot_bool | exact ot_boxs | exact ot_ints) (by first | rfl | assumption) ?_) | (refine own_load rfl _ _ rfl rfl hS (atl (by repeat constructor)) (by first | exact rt_font | exact rt_style | exact rt_box | exact rt_nums) ?_) | (refine own_load_old rfl _ _ rfl rfl hS (by assumption) (by first | exact List.not_mem_nil | assumption) (by first | exact rt_font | exact rt_style | exact rt_box | exact rt_nums) ?_) | (refine own_load_has rfl _ _ rfl rfl hS (by assumption) (by first | exact List.not_mem_nil | assumption) (by first | exact rt_font | exact rt_style | exact rt_box | exact rt_nums) ?_) | (refine own_load1_old rfl _ _ rfl rfl hS (by assumption) (by first | exact List.not_mem_nil | assumption) (by first | exact ot_int | exact ot_bool | exact ot_boxs | exact ot_ints) ?_) | (refine own_load1_has rfl _ _ rfl rfl hS (by assumption) (by first | exact List.not_mem_nil | assumption) (by first | exact ot_int | exact ot_bool | exact ot_boxs | exact ot_ints) (by first | rfl | assumption) ?_) | (refine own_box rfl _ _ rfl rfl hS ?_; clear hS; (try clear ww); intro bb ww hS) | (refine own_alloc rfl _ rfl hS (by first | exact zt_box | exact zt_nums) ?_; clear hS; (try clear ww); intro bb ww hS) | (refine own_store rfl _ _ _ rfl rfl rfl hS (atl (by repeat constructor)) (by first | exact rt_font | exact rt_style | exact rt_box | exact rt_nums) (by rfl) (by rfl) ?_; clear hS; (try clear ww); intro ww hS; (try simp only at hS); (try simp only [List.set_cons_succ] at hS); (try simp only [List.set_cons_zero] at hS)) | (refine own_store1 rfl _ _ _ rfl rfl rfl rfl hS (atl (by repeat constructor)) (by first | exact ot_int | exact ot_bool | exact ot_boxs | exact ot_ints) (by simp) ?_; clear hS; (try clear ww); intro ww hS; (try simp only at hS); (try simp only [List.set_cons_succ] at hS); (try simp only [List.set_cons_zero] at hS); (try simp only [Act.eval] at hS); (try simp only [Array.getD_eq_getD_getElem?] at hS); (try simp only [List.getElem?_toArray] at hS); (try simp only [List.getElem?_cons_succ] at hS); (try simp only [List.getElem?_cons_zero] at hS); (try simp only [Option.getD_some] at hS)))
  have hc := (hS.get at0).cell
  refine bodyPost_ret (v := .tuple #[.agg #[.int .i64 0, .string ⟨#[]⟩, .int .i64 0, .int .i64 0, .int .i64 0, .int .i64 0, .int .i64 0, .int .i64 0, .slice none 0 0, .int .i64 0, .slice none 0 0], .int .i64 1]) (by simp [results, Try.results11, go_sem, hc]) rfl ⟨_, rfl, rep_zero m _, hS.below⟩

set_option maxHeartbeats 8000000 in
set_option maxRecDepth 100000 in
theorem fracMake_bad2 (F : Fnt) (l : Int) (c : Bool) (n m : Nat) (num den : Bx (n + 1)) (cs ds : List Value) (w : World) (hF : FntOk w F) (p : Int) (hx : PctOk F l p 0) (hr : Rep w (n + 1) num cs) (hs : Rep w (n + 1) den ds) (hn : ¬ validB (n + 1) num) :
    Calls Try.prog 11 #[F.val, .agg #[.int .i64 l, .bool c], .agg cs.toArray, .agg ds.toArray] w (GivesBE (m + 1) (zeroB m) 1 w) := by
  have HPc := Lib.hid (fun w' (h : Below w.heap.size w w') => style_Percent_calls F l p 0 c w' (hF.below h) hx)
  have HVn := Lib.hid (fun w' (h : Below w.heap.size w w') => box_Valid_calls (n + 1) num cs w' (hr.step h) hr.wide _ (iff_f hn))
  clear hn
  have h11 := hr.len
  have h12 := hs.len
  obtain ⟨c0, c1, c2, c3, c4, c5, c6, c7, c8, c9, c10, rfl⟩ := eleven h11
  obtain ⟨d0, d1, d2, d3, d4, d5, d6, d7, d8, d9, d10, rfl⟩ := eleven h12
  clear hr hs hF hx h11 h12
  go_enter Try.func11, Try.ntmps11
  have hS := own_start w
  go_wp2_with (first | (refine own_unguard (by rfl) ?_) | (go_at_call 21; refine own_calls hS (HPc.out _ hS.below) ?_; clear hS; (try clear ww); intro ww hS) | (go_at_call 17; refine own_calls hS (by first | exact HVn.out _ hS.below) ?_; clear hS; (try clear ww); intro ww hS) | (refine own_load1 rfl _ _ rfl rfl hS (atl (by repeat constructor)) (by first | exact ot_int | exact ot_bool | exact ot_boxs | exact ot_ints) (by first | rfl | assumption) ?_) | (refine own_load rfl _ _ rfl rfl hS (atl (by repeat constructor)) (by first | exact rt_font | exact rt_style | exact rt_box | exact rt_nums) ?_) | (refine own_load_old rfl _ _ rfl rfl hS (by assumption) (by first | exact List.not_mem_nil | assumption) (by first | exact rt_font | exact rt_style | exact rt_box | exact rt_nums) ?_) | (refine own_load_has rfl _ _ rfl rfl hS (by assumption) (by first | exact List.not_mem_nil | assumption) (by first | exact rt_font | exact rt_style | exact rt_box | exact rt_nums) ?_) | (refine own_load1_old rfl _ _ rfl rfl hS (by assumption) (by first | exact List.not_mem_nil | assumption) (by first | exact ot_int | exact ot_bool | exact ot_boxs | exact ot_ints) ?_) | (refine own_load1_has rfl _ _ rfl rfl hS (by assumption) (by first | exact List.not_mem_nil | assumption) (by first | exact ot_int | exact ot_bool | exact ot_boxs | exact ot_ints) (by first | rfl | assumption) ?_) | (refine own_box rfl _ _ rfl rfl hS ?_; clear hS; (try clear ww); intro bb ww hS) | (refine own_alloc rfl _ rfl hS (by first | exact zt_box | exact zt_nums) ?_; clear hS; (try clear ww); intro bb ww hS) | (refine own_store rfl _ _ _ rfl rfl rfl hS (atl (by repeat constructor)) (by first | exact rt_font | exact rt_style | exact rt_box | exact rt_nums) (by rfl) (by rfl) ?_; clear hS; (try clear ww); intro ww hS; (try simp only at hS); (try simp only [List.set_cons_succ] at hS); (try simp only [List.set_cons_zero] at hS)) | (refine own_store1 rfl _ _ _ rfl rfl rfl rfl hS (atl (by repeat constructor)) (by first | exact ot_int | exact ot_bool | exact ot_boxs | exact ot_ints) (by simp) ?_; clear hS; (try clear ww); intro ww hS; (try simp only at hS); (try simp only [List.set_cons_succ] at hS); (try simp only [List.set_cons_zero] at hS); (try simp only [Act.eval] at hS); (try simp only [Array.getD_eq_getD_getElem?] at hS); (try simp only [List.getElem?_toArray] at hS); (try simp only [List.getElem?_cons_succ] at hS); (try simp only [List.getElem?_cons_zero] at hS); (try simp only [Option.getD_some] at hS)))
  have hc := (hS.get at0).cell
  refine bodyPost_ret (v := .tuple #[.agg #[.int .i64 0, .string ⟨#[]⟩, .int .i64 0, .int .i64 0, .int .i64 0, .int .i64 0, .int .i64 0, .int .i64 0, .slice none 0 0, .int .i64 0, .slice none 0 0], .int .i64 1]) (by simp [results, Try.results11, go_sem, hc]) rfl ⟨_, rfl, rep_zero m _, hS.below⟩

set_option maxHeartbeats 8000000 in
set_option maxRecDepth 100000 in
theorem fracMake_bad3 (F : Fnt) (l : Int) (c : Bool) (n m : Nat) (num den : Bx (n + 1)) (cs ds : List Value) (w : World) (hF : FntOk w F) (p : Int) (hx : PctOk F l p 0) (hr : Rep w (n + 1) num cs) (hs : Rep w (n + 1) den ds) (hn : validB (n + 1) num) (hd : ¬ validB (n + 1) den) :
    Calls Try.prog 11 #[F.val, .agg #[.int .i64 l, .bool c], .agg cs.toArray, .agg ds.toArray] w (GivesBE (m + 1) (zeroB m) 1 w) := by
  have HPc := Lib.hid (fun w' (h : Below w.heap.size w w') => style_Percent_calls F l p 0 c w' (hF.below h) hx)
  have HVn := Lib.hid (fun w' (h : Below w.heap.size w w') => box_Valid_calls (n + 1) num cs w' (hr.step h) hr.wide _ (iff_t hn))
  have HVd := Lib.hid (fun w' (h : Below w.heap.size w w') => box_Valid_calls (n + 1) den ds w' (hs.step h) hs.wide _ (iff_f hd))
  clear hn hd
  have h11 := hr.len
  have h12 := hs.len
  obtain ⟨c0, c1, c2, c3, c4, c5, c6, c7, c8, c9, c10, rfl⟩ := eleven h11
  obtain ⟨d0, d1, d2, d3, d4, d5, d6, d7, d8, d9, d10, rfl⟩ := eleven h12
  clear hr hs hF hx h11 h12
  go_enter Try.func11, Try.ntmps11
  have hS := own_start w
  go_wp2_with (first | (refine own_unguard (by rfl) ?_) | (go_at_call 21; refine own_calls hS (HPc.out _ hS.below) ?_; clear hS; (try clear ww); intro ww hS) | (go_at_call 17; refine own_calls hS (by first | exact HVn.out _ hS.below | exact HVd.out _ hS.below) ?_; clear hS; (try clear ww); intro ww hS) | (refine own_load1 rfl _ _ rfl rfl hS (atl (by repeat constructor)) (by first | exact ot_int | exact ot_bool | exact ot_boxs | exact ot_ints) (by first | rfl | assumption) ?_) | (refine own_load rfl _ _ rfl rfl hS (atl (by repeat constructor)) (by first | exact rt_font | exact rt_style | exact rt_box | exact rt_nums) ?_) | (refine own_load_old rfl _ _ rfl rfl hS (by assumption) (by first | exact List.not_mem_nil | assumption) (by first | exact rt_font | exact rt_style | exact rt_box | exact rt_nums) ?_) | (refine own_load_has rfl _ _ rfl rfl hS (by assumption) (by first | exact List.not_mem_nil | assumption) (by first | exact rt_font | exact rt_style | exact rt_box | exact rt_nums) ?_) | (refine own_load1_old rfl _ _ rfl rfl hS (by assumption) (by first | exact List.not_mem_nil | assumption) (by first | exact ot_int | exact ot_bool | exact ot_boxs | exact ot_ints) ?_) | (refine own_load1_has rfl _ _ rfl rfl hS (by assumption) (by first | exact List.not_mem_nil | assumption) (by first | exact ot_int | exact ot_bool | exact ot_boxs | exact ot_ints) (by first | rfl | assumption) ?_) | (refine own_box rfl _ _ rfl rfl hS ?_; clear hS; (try clear ww); intro bb ww hS) | (refine own_alloc rfl _ rfl hS (by first | exact zt_box | exact zt_nums) ?_; clear hS; (try clear ww); intro bb ww hS) | (refine own_store rfl _ _ _ rfl rfl rfl hS (atl (by repeat constructor)) (by first | exact rt_font | exact rt_style | exact rt_box | exact rt_nums) (by rfl) (by rfl) ?_; clear hS; (try clear ww); intro ww hS; (try simp only at hS); (try simp only [List.set_cons_succ] at hS); (try simp only [List.set_cons_zero] at hS)) | (refine own_store1 rfl _ _ _ rfl rfl rfl rfl hS (atl (by repeat constructor)) (by first | exact ot_int | exact ot_bool | exact ot_boxs | exact ot_ints) (by simp) ?_; clear hS; (try clear ww); intro ww hS; (try simp only at hS); (try simp only [List.set_cons_succ] at hS); (try simp only [List.set_cons_zero] at hS); (try simp only [Act.eval] at hS); (try simp only [Array.getD_eq_getD_getElem?] at hS); (try simp only [List.getElem?_toArray] at hS); (try simp only [List.getElem?_cons_succ] at hS); (try simp only [List.getElem?_cons_zero] at hS); (try simp only [Option.getD_some] at hS)))
  have hc := (hS.get at0).cell
  refine bodyPost_ret (v := .tuple #[.agg #[.int .i64 0, .string ⟨#[]⟩, .int .i64 0, .int .i64 0, .int .i64 0, .int .i64 0, .int .i64 0, .int .i64 0, .slice none 0 0, .int .i64 0, .slice none 0 0], .int .i64 1]) (by simp [results, Try.results11, go_sem, hc]) rfl ⟨_, rfl, rep_zero m _, hS.below⟩

end Go.Proofs.Ytfmoghkffffmmaa
