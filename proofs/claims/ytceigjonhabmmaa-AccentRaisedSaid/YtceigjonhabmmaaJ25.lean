/- Texts Md6, Atv, Rgp, Lwk, Grw. -/
import Derived.Test.YtceigjonhabmmaaJ24
import Derived.Test.YtceigjonhabmmaaJ23
import Derived.Test.YtceigjonhabmmaaJ05
import Derived.Test.YtceigjonhabmmaaJ19
namespace Go.Proofs.Ytceigjonhabmmaa
open Go.RowKit

attribute [local irreducible] wpQuiet wpG wpP wpK wpList Code.wp Calls

theorem list_out36 {w : World} {n N : Nat} {bw bh bd : Int} {kids : List (Bx n)} {cs : List Value} (h : Rep w (n + 1) (listB n bw bh bd kids) cs) (hN : kids.length = N) : ∃ kx kc sx sc, cs = [.int .i64 3, .string ⟨#[]⟩, .int .i64 0, .int .i64 bw, .int .i64 bh, .int .i64 bd, .int .i64 0, .int .i64 0, .slice kx N kc, .int .i64 0, .slice sx 0 sc] := by
  subst hN
  exact list_out h

set_option maxHeartbeats 8000000 in
set_option maxRecDepth 100000 in
theorem made36_no0 (F : Fnt) (l : Int) (c : Bool) (s : ByteArray) (n : Nat) (body : Bx (n + 1)) (cs : List Value) (w : World) (hF : FntOk w F) (hr : Rep w (n + 1) body cs) (m : Nat) (ht : tameA F n body = false) : Calls Try.prog 19 #[.agg (caseA F l c s cs).toArray] w (GivesMade (m + 1) (zeroB m) false w) := by
  have HT := Lib.hid (fun w' (h : Below w.heap.size w w') => tame36_calls F l c s n body cs w' (hF.below h) (hr.step h) false ht.symm)
  obtain ⟨c0, c1, c2, c3, c4, c5, c6, c7, c8, c9, c10, rfl⟩ := eleven hr.len
  clear hF hr ht 
  go_enter Try.func19, Try.ntmps19
  have hS := own_start w
  go_wp2_with (first | (refine own_unguard (by rfl) ?_) | (refine own_box rfl _ _ rfl rfl hS ?_; clear hS; intro kb w0 hS0; have hrC := (hS0.get at0).range; have HB0 := Lib.hid hS0.below; obtain ⟨hrF, hrS, cN, hrB⟩ := caseA_out hrC; have hS := own_start w0; clear hS0) | (refine own_load_old rfl _ _ rfl rfl hS hrC List.not_mem_nil rt_case36 ?_) | (refine own_load_old rfl _ _ rfl rfl hS hrF List.not_mem_nil rt_font ?_) | (refine own_load_old rfl _ _ rfl rfl hS hrS List.not_mem_nil rt_style ?_) | (refine own_load_old rfl _ _ rfl rfl hS hrB List.not_mem_nil rt_box ?_) | (go_at_call 9; refine own_calls hS (HT.out _ (bthen HB0.out hS.below)) ?_; clear hS; (try clear ww); intro ww hS) | (refine w_ld rfl _ rfl (by rfl) (by first | exact rd_1 (by repeat constructor) (by first | rfl | assumption) | exact rd_w (by repeat constructor) (by rfl) | exact rd_o (by assumption) (by rfl) (by first | exact nmn | assumption | simp) | exact rd_h (by assumption) (by rfl) (by first | exact nmn | assumption | simp) | exact rd_1o (by assumption) (by first | exact nmn | assumption | simp) | exact rd_1h (by assumption) (by first | rfl | assumption) (by first | exact nmn | assumption | simp)) hS ?_) | (refine own_box rfl _ _ rfl (by rfl) hS ?_; clear hS; (try clear ww); intro bb ww hS) | (refine w_al rfl rfl hS ?_; clear hS; (try clear ww); intro bb ww hS) | (refine w_st rfl _ _ rfl (by rfl) (by rfl) (by repeat constructor) (by rfl) (by rfl) (by first | rfl | assumption) hS ?_; clear hS; (try clear ww); intro ww hS) | (refine w_s1 rfl _ _ rfl (by rfl) (by repeat constructor) (by first | exact .c | exact .t rfl) (by rfl) (by repeat constructor) hS ?_; clear hS; (try clear ww); intro ww hS))
  have hc := (hS.get at0).cell
  refine bodyPost_ret (v := .tuple #[.agg #[.int .i64 0, .string ⟨#[]⟩, .int .i64 0, .int .i64 0, .int .i64 0, .int .i64 0, .int .i64 0, .int .i64 0, .slice none 0 0, .int .i64 0, .slice none 0 0], .bool false]) (by simp [results, Try.results19, go_sem, hc]) rfl ⟨_, rfl, rep_zero m _, bthen HB0.out hS.below⟩

set_option maxHeartbeats 8000000 in
set_option maxRecDepth 100000 in
theorem made36_no1 (F : Fnt) (l : Int) (c : Bool) (s : ByteArray) (n : Nat) (body : Bx (n + 1)) (cs : List Value) (w : World) (hF : FntOk w F) (hr : Rep w (n + 1) body cs) (m : Nat) (ht : tameA F n body = true) (m1 : modB n body = false) : Calls Try.prog 19 #[.agg (caseA F l c s cs).toArray] w (GivesMade (m + 1) (zeroB m) false w) := by
  have HT := Lib.hid (fun w' (h : Below w.heap.size w w') => tame36_calls F l c s n body cs w' (hF.below h) (hr.step h) true ht.symm)
  have HN := Lib.hid (fun w' (h : Below w.heap.size w w') => ref32_Modest_calls n body cs w' (hr.step h) _ m1.symm)
  obtain ⟨c0, c1, c2, c3, c4, c5, c6, c7, c8, c9, c10, rfl⟩ := eleven hr.len
  clear hF hr ht m1
  go_enter Try.func19, Try.ntmps19
  have hS := own_start w
  go_wp2_with (first | (refine own_unguard (by rfl) ?_) | (refine own_box rfl _ _ rfl rfl hS ?_; clear hS; intro kb w0 hS0; have hrC := (hS0.get at0).range; have HB0 := Lib.hid hS0.below; obtain ⟨hrF, hrS, cN, hrB⟩ := caseA_out hrC; have hS := own_start w0; clear hS0) | (refine own_load_old rfl _ _ rfl rfl hS hrC List.not_mem_nil rt_case36 ?_) | (refine own_load_old rfl _ _ rfl rfl hS hrF List.not_mem_nil rt_font ?_) | (refine own_load_old rfl _ _ rfl rfl hS hrS List.not_mem_nil rt_style ?_) | (refine own_load_old rfl _ _ rfl rfl hS hrB List.not_mem_nil rt_box ?_) | (go_at_call 9; refine own_calls hS (HT.out _ (bthen HB0.out hS.below)) ?_; clear hS; (try clear ww); intro ww hS) | (go_at_call 54; refine own_calls hS (HN.out _ (bthen HB0.out hS.below)) ?_; clear hS; (try clear ww); intro ww hS) | (refine w_ld rfl _ rfl (by rfl) (by first | exact rd_1 (by repeat constructor) (by first | rfl | assumption) | exact rd_w (by repeat constructor) (by rfl) | exact rd_o (by assumption) (by rfl) (by first | exact nmn | assumption | simp) | exact rd_h (by assumption) (by rfl) (by first | exact nmn | assumption | simp) | exact rd_1o (by assumption) (by first | exact nmn | assumption | simp) | exact rd_1h (by assumption) (by first | rfl | assumption) (by first | exact nmn | assumption | simp)) hS ?_) | (refine own_box rfl _ _ rfl (by rfl) hS ?_; clear hS; (try clear ww); intro bb ww hS) | (refine w_al rfl rfl hS ?_; clear hS; (try clear ww); intro bb ww hS) | (refine w_st rfl _ _ rfl (by rfl) (by rfl) (by repeat constructor) (by rfl) (by rfl) (by first | rfl | assumption) hS ?_; clear hS; (try clear ww); intro ww hS) | (refine w_s1 rfl _ _ rfl (by rfl) (by repeat constructor) (by first | exact .c | exact .t rfl) (by rfl) (by repeat constructor) hS ?_; clear hS; (try clear ww); intro ww hS))
  have hc := (hS.get at0).cell
  refine bodyPost_ret (v := .tuple #[.agg #[.int .i64 0, .string ⟨#[]⟩, .int .i64 0, .int .i64 0, .int .i64 0, .int .i64 0, .int .i64 0, .int .i64 0, .slice none 0 0, .int .i64 0, .slice none 0 0], .bool false]) (by simp [results, Try.results19, go_sem, hc]) rfl ⟨_, rfl, rep_zero m _, bthen HB0.out hS.below⟩

set_option maxHeartbeats 8000000 in
set_option maxRecDepth 100000 in
theorem made36_yes (F : Fnt) (l : Int) (c : Bool) (s : ByteArray) (n : Nat) (body : Bx (n + 1)) (cs : List Value) (w : World) (hF : FntOk w F) (hr : Rep w (n + 1) body cs) (ht : tameA F n body = true) (m1 : modB n body = true) (bw bh bd : Int) (kids : List (Bx (n + 1))) (hkl : kids.length = 2) (hM : ∀ w', Below w.heap.size w w' → Calls Try.prog 10 #[F.val, .agg #[.int .i64 l, .bool c], .string s, .agg cs.toArray] w' (GivesBEP (fun k => k < w.heap.size) (n + 2) (listB (n + 1) bw bh bd kids) 0 w')) : Calls Try.prog 19 #[.agg (caseA F l c s cs).toArray] w (GivesMade (n + 2) (listB (n + 1) bw bh bd kids) true w) := by
  have HT := Lib.hid (fun w' (h : Below w.heap.size w w') => tame36_calls F l c s n body cs w' (hF.below h) (hr.step h) true ht.symm)
  have HN := Lib.hid (fun w' (h : Below w.heap.size w w') => ref32_Modest_calls n body cs w' (hr.step h) _ m1.symm)
  have HM := Lib.hid hM

  obtain ⟨c0, c1, c2, c3, c4, c5, c6, c7, c8, c9, c10, rfl⟩ := eleven hr.len
  clear hF hr ht m1 hM 
  go_enter Try.func19, Try.ntmps19
  have hS := own_start w
  go_upto_region 4 with (first | (refine own_unguard (by rfl) ?_) | (refine own_box rfl _ _ rfl rfl hS ?_; clear hS; intro kb w0 hS0; have hrC := (hS0.get at0).range; have HB0 := Lib.hid hS0.below; obtain ⟨hrF, hrS, cN, hrB⟩ := caseA_out hrC; have hS := own_start w0; clear hS0) | (refine own_load_old rfl _ _ rfl rfl hS hrC List.not_mem_nil rt_case36 ?_) | (refine own_load_old rfl _ _ rfl rfl hS hrF List.not_mem_nil rt_font ?_) | (refine own_load_old rfl _ _ rfl rfl hS hrS List.not_mem_nil rt_style ?_) | (refine own_load_old rfl _ _ rfl rfl hS hrB List.not_mem_nil rt_box ?_) | (go_at_call 9; refine own_calls hS (HT.out _ (bthen HB0.out hS.below)) ?_; clear hS; (try clear ww); intro ww hS) | (go_at_call 54; refine own_calls hS (HN.out _ (bthen HB0.out hS.below)) ?_; clear hS; (try clear ww); intro ww hS) | (go_at_call 10; refine Calls.mono (HM.out _ (bthen HB0.out hS.below)) ?_; rintro e w1 ⟨cs1, rfl, hR1, hb1⟩; have hS1 := hS.step hb1; obtain ⟨b2, Hb2⟩ : ∃ b, Hid (b = bb) := ⟨_, rfl⟩; obtain rfl := Hb2.out; clear Hb2; have HO := Lib.hid (off_made HB0.out hS); have HS1 := Lib.hid hS1; have HR := Lib.hid hR1; obtain ⟨kx, kc, sx, sc, rfl⟩ := list_out36 hR1.rep hkl; clear hR1 hS hb1; obtain ⟨DD, HDD, hS⟩ := hS1.rebaseN; clear hS1) | (refine w_ld rfl _ rfl (by rfl) (by first | exact rd_1 (by repeat constructor) (by first | rfl | assumption) | exact rd_w (by repeat constructor) (by rfl) | exact rd_o (by assumption) (by rfl) (by first | exact nmn | assumption | simp) | exact rd_h (by assumption) (by rfl) (by first | exact nmn | assumption | simp) | exact rd_1o (by assumption) (by first | exact nmn | assumption | simp) | exact rd_1h (by assumption) (by first | rfl | assumption) (by first | exact nmn | assumption | simp)) hS ?_) | (refine own_box rfl _ _ rfl (by rfl) hS ?_; clear hS; (try clear ww); intro bb ww hS) | (refine w_al rfl rfl hS ?_; clear hS; (try clear ww); intro bb ww hS) | (refine w_st rfl _ _ rfl (by rfl) (by rfl) (by repeat constructor) (by rfl) (by rfl) (by first | rfl | assumption) hS ?_; clear hS; (try clear ww); intro ww hS) | (refine w_s1 rfl _ _ rfl (by rfl) (by repeat constructor) (by first | exact .c | exact .t rfl) (by rfl) (by repeat constructor) hS ?_; clear hS; (try clear ww); intro ww hS))
  (try simp only [Act.put]); (try simp only [List.setIfInBounds_toArray]); (try simp only [List.set_cons_succ]); (try simp only [List.set_cons_zero])
  have hne := hS.ne01
  refine own_anyT hS [b2] [9] 11 (by kernel_rfl) (by kernel_rfl) ?_
  clear hS
  intro hcl ww hS
  refine own_batchT hS [(_, _)] (List.Sublist.cons_cons _ (List.nil_sublist _)) (fun x hx => by obtain rfl := List.mem_singleton.1 hx; simpa using hne) [0, 1, 2, 3, 4, 5, 6, 7, 8] 2 rfl hcl (by kernel_rfl) ?_
  (try simp only); repeat (first | (simp only [List.filterMap_cons]) | (simp only [List.filterMap_nil]) | (simp only [List.getElem?_toArray]) | (simp only [List.getElem?_cons_succ]) | (simp only [List.getElem?_cons_zero]) | (simp only [List.reverse_cons]) | (simp only [List.reverse_nil]) | (simp only [List.nil_append]) | (simp only [List.cons_append]))
  repeat (first
      | (first | (refine g_plain rfl ?_) | (refine g_yes rfl rfl rfl (by simp only [List.getElem?_toArray, List.getElem?_cons_succ, List.getElem?_cons_zero]; rfl) (by with_reducible constructor) ?_)
         apply Exists.intro; refine ⟨?_, ?_⟩
         focus (intro wq hq0; (first | have hq : Own _ _ _ wq := hq0 | have hq : Own _ _ _ wq := hq0.1 | skip); first | ((with_reducible show givesAt _ ({ dst := _, op := Op.load _ _, type := _, pos := _, after := _, guard := _ } : Oper) _ _ _); first | (exact givesAt_rd rfl (by rfl) (by first | exact rd_1 (by repeat constructor) (by first | rfl | assumption) | exact rd_w (by repeat constructor) (by rfl) | exact rd_o (by assumption) (by rfl) (by first | exact nmn | assumption | simp) | exact rd_h (by assumption) (by rfl) (by first | exact nmn | assumption | simp) | exact rd_1o (by assumption) (by first | exact nmn | assumption | simp) | exact rd_1h (by assumption) (by first | rfl | assumption) (by first | exact nmn | assumption | simp)) hq)) | (go_simp; first | (with_reducible rfl)))
         simp only [Act.put, List.setIfInBounds_toArray]; (try simp only [List.set_cons_succ]); (try simp only [List.set_cons_zero]))
      | (refine g_no rfl rfl rfl (by simp only [List.getElem?_toArray, List.getElem?_cons_succ, List.getElem?_cons_zero]; rfl) (by with_reducible constructor) ?_; simp only [Act.put, List.setIfInBounds_toArray]; (try simp only [List.set_cons_succ]); (try simp only [List.set_cons_zero])))
  refine g_nil ?_
  clear hS hcl
  intro hcl ww hS
  (try simp only [Act.put]); (try simp only [List.setIfInBounds_toArray]); (try simp only [List.set_cons_succ]); (try simp only [List.set_cons_zero])
  refine own_lateT (K := [(b2, _)]) (L := [(_, _)]) (hS.perm (List.Perm.swap _ _ _)) (fun x hx => by obtain rfl := List.mem_singleton.1 hx; simp) 9 hcl (by simp only [List.getElem?_toArray, List.getElem?_cons_succ, List.getElem?_cons_zero]; rfl) (by kernel_rfl) ?_
  clear hS
  intro hS
  (refine w_st rfl _ _ rfl (by rfl) (by rfl) (by repeat constructor) (by rfl) (by rfl) (by first | rfl | assumption) hS ?_; clear hS; intro ww hS)
  refine wpList_nil ⟨rfl, _, hS, ?_⟩
  clear hS hcl
  intro hcl wf hS
  simp only [List.cons_append, List.nil_append] at hS
  (try simp only [Act.put]); (try simp only [List.setIfInBounds_toArray]); (try simp only [List.set_cons_succ]); (try simp only [List.set_cons_zero])
  refine own_batchT hS [] (List.nil_sublist _) (fun x hx => by cases hx) [10] 0 rfl hcl (by kernel_rfl) ?_
  (try simp only); repeat (first | (simp only [List.filterMap_cons]) | (simp only [List.filterMap_nil]) | (simp only [List.getElem?_toArray]) | (simp only [List.getElem?_cons_succ]) | (simp only [List.getElem?_cons_zero]) | (simp only [List.reverse_cons]) | (simp only [List.reverse_nil]) | (simp only [List.nil_append]) | (simp only [List.cons_append]))
  repeat (first
      | (first | (refine g_plain rfl ?_) | (refine g_yes rfl rfl rfl (by simp only [List.getElem?_toArray, List.getElem?_cons_succ, List.getElem?_cons_zero]; rfl) (by with_reducible constructor) ?_)
         apply Exists.intro; refine ⟨?_, ?_⟩
         focus (intro wq hq0; (first | have hq : Own _ _ _ wq := hq0 | have hq : Own _ _ _ wq := hq0.1 | skip); first | ((with_reducible show givesAt _ ({ dst := _, op := Op.load _ _, type := _, pos := _, after := _, guard := _ } : Oper) _ _ _); first | (exact givesAt_rd rfl (by rfl) (by first | exact rd_1 (by repeat constructor) (by first | rfl | assumption) | exact rd_w (by repeat constructor) (by rfl) | exact rd_o (by assumption) (by rfl) (by first | exact nmn | assumption | simp) | exact rd_h (by assumption) (by rfl) (by first | exact nmn | assumption | simp) | exact rd_1o (by assumption) (by first | exact nmn | assumption | simp) | exact rd_1h (by assumption) (by first | rfl | assumption) (by first | exact nmn | assumption | simp)) hq)) | (go_simp; first | (with_reducible rfl)))
         simp only [Act.put, List.setIfInBounds_toArray]; (try simp only [List.set_cons_succ]); (try simp only [List.set_cons_zero]))
      | (refine g_no rfl rfl rfl (by simp only [List.getElem?_toArray, List.getElem?_cons_succ, List.getElem?_cons_zero]; rfl) (by with_reducible constructor) ?_; simp only [Act.put, List.setIfInBounds_toArray]; (try simp only [List.set_cons_succ]); (try simp only [List.set_cons_zero])))
  refine g_nil ?_
  clear hS hcl
  intro hcl ww hS
  refine own_doneT (by kernel_rfl) ?_
  go_wp2_with (first | (refine own_unguard (by rfl) ?_) | (refine w_ld rfl _ rfl (by rfl) (by first | exact rd_1 (by repeat constructor) (by first | rfl | assumption) | exact rd_w (by repeat constructor) (by rfl) | exact rd_o (by assumption) (by rfl) (by first | exact nmn | assumption | simp) | exact rd_h (by assumption) (by rfl) (by first | exact nmn | assumption | simp) | exact rd_1o (by assumption) (by first | exact nmn | assumption | simp) | exact rd_1h (by assumption) (by first | rfl | assumption) (by first | exact nmn | assumption | simp)) hS ?_) | (refine own_box rfl _ _ rfl (by rfl) hS ?_; clear hS; (try clear ww); intro bb ww hS) | (refine w_al rfl rfl hS ?_; clear hS; (try clear ww); intro bb ww hS) | (refine w_st rfl _ _ rfl (by rfl) (by rfl) (by repeat constructor) (by rfl) (by rfl) (by first | rfl | assumption) hS ?_; clear hS; (try clear ww); intro ww hS) | (refine w_s1 rfl _ _ rfl (by rfl) (by repeat constructor) (by first | exact .c | exact .t rfl) (by rfl) (by repeat constructor) hS ?_; clear hS; (try clear ww); intro ww hS))
  obtain rfl := HDD.out
  have hc := (hS.get at0).cell
  refine bodyPost_ret (v := .tuple #[.agg #[.int .i64 3, .string ⟨#[]⟩, .int .i64 0, .int .i64 bw, .int .i64 bh, .int .i64 bd, .int .i64 0, .int .i64 0, .slice kx 2 kc, .int .i64 0, .slice sx 0 sc], .bool true]) (by simp [results, Try.results19, go_sem, hc]) rfl ⟨_, rfl, (repP_turn HR.out hS HO.out).rep, bthen HB0.out (HS1.out.chain hS).below⟩

set_option maxHeartbeats 8000000 in
set_option maxRecDepth 100000 in
theorem made36_err (F : Fnt) (l : Int) (c : Bool) (s : ByteArray) (n : Nat) (body : Bx (n + 1)) (cs : List Value) (w : World) (hF : FntOk w F) (hr : Rep w (n + 1) body cs) (ht : tameA F n body = true) (m1 : modB n body = true) (m : Nat) (err : Int) (he : err ≠ 0) (hM : ∀ w', Below w.heap.size w w' → Calls Try.prog 10 #[F.val, .agg #[.int .i64 l, .bool c], .string s, .agg cs.toArray] w' (GivesBE (m + 1) (zeroB m) err w')) : Calls Try.prog 19 #[.agg (caseA F l c s cs).toArray] w (GivesMade (m + 1) (zeroB m) false w) := by
  have HT := Lib.hid (fun w' (h : Below w.heap.size w w') => tame36_calls F l c s n body cs w' (hF.below h) (hr.step h) true ht.symm)
  have HN := Lib.hid (fun w' (h : Below w.heap.size w w') => ref32_Modest_calls n body cs w' (hr.step h) _ m1.symm)
  have HM := Lib.hid hM
  have hne0 : (err == 0) = false := by simpa using he
  obtain ⟨c0, c1, c2, c3, c4, c5, c6, c7, c8, c9, c10, rfl⟩ := eleven hr.len
  clear hF hr ht m1 hM he
  go_enter Try.func19, Try.ntmps19
  have hS := own_start w
  go_upto_region 4 with (first | (refine own_unguard (by rfl) ?_) | (refine own_box rfl _ _ rfl rfl hS ?_; clear hS; intro kb w0 hS0; have hrC := (hS0.get at0).range; have HB0 := Lib.hid hS0.below; obtain ⟨hrF, hrS, cN, hrB⟩ := caseA_out hrC; have hS := own_start w0; clear hS0) | (refine own_load_old rfl _ _ rfl rfl hS hrC List.not_mem_nil rt_case36 ?_) | (refine own_load_old rfl _ _ rfl rfl hS hrF List.not_mem_nil rt_font ?_) | (refine own_load_old rfl _ _ rfl rfl hS hrS List.not_mem_nil rt_style ?_) | (refine own_load_old rfl _ _ rfl rfl hS hrB List.not_mem_nil rt_box ?_) | (go_at_call 9; refine own_calls hS (HT.out _ (bthen HB0.out hS.below)) ?_; clear hS; (try clear ww); intro ww hS) | (go_at_call 54; refine own_calls hS (HN.out _ (bthen HB0.out hS.below)) ?_; clear hS; (try clear ww); intro ww hS) | (go_at_call 10; refine Calls.mono (HM.out _ (bthen HB0.out hS.below)) ?_; rintro e w1 ⟨cs1, rfl, hR1, hb1⟩; have hS1 := hS.step hb1; obtain ⟨b2, Hb2⟩ : ∃ b, Hid (b = bb) := ⟨_, rfl⟩; obtain rfl := Hb2.out; clear Hb2; have HO := Lib.hid (off_made HB0.out hS); have HS1 := Lib.hid hS1; have HR := Lib.hid hR1; obtain ⟨kx, kc, sx, sc, rfl⟩ := zero_out hR1; clear hR1 hS hb1; obtain ⟨DD, HDD, hS⟩ := hS1.rebaseN; clear hS1) | (refine w_ld rfl _ rfl (by rfl) (by first | exact rd_1 (by repeat constructor) (by first | rfl | assumption) | exact rd_w (by repeat constructor) (by rfl) | exact rd_o (by assumption) (by rfl) (by first | exact nmn | assumption | simp) | exact rd_h (by assumption) (by rfl) (by first | exact nmn | assumption | simp) | exact rd_1o (by assumption) (by first | exact nmn | assumption | simp) | exact rd_1h (by assumption) (by first | rfl | assumption) (by first | exact nmn | assumption | simp)) hS ?_) | (refine own_box rfl _ _ rfl (by rfl) hS ?_; clear hS; (try clear ww); intro bb ww hS) | (refine w_al rfl rfl hS ?_; clear hS; (try clear ww); intro bb ww hS) | (refine w_st rfl _ _ rfl (by rfl) (by rfl) (by repeat constructor) (by rfl) (by rfl) (by first | rfl | assumption) hS ?_; clear hS; (try clear ww); intro ww hS) | (refine w_s1 rfl _ _ rfl (by rfl) (by repeat constructor) (by first | exact .c | exact .t rfl) (by rfl) (by repeat constructor) hS ?_; clear hS; (try clear ww); intro ww hS))
  (try simp only [Act.put]); (try simp only [List.setIfInBounds_toArray]); (try simp only [List.set_cons_succ]); (try simp only [List.set_cons_zero])
  have hne := hS.ne01
  refine own_anyT hS [b2] [9] 11 (by kernel_rfl) (by kernel_rfl) ?_
  clear hS
  intro hcl ww hS
  refine own_batchT hS [(_, _)] (List.Sublist.cons_cons _ (List.nil_sublist _)) (fun x hx => by obtain rfl := List.mem_singleton.1 hx; simpa using hne) [0, 1, 2, 3, 4, 5, 6, 7, 8] 2 rfl hcl (by kernel_rfl) ?_
  (try simp only); repeat (first | (simp only [List.filterMap_cons]) | (simp only [List.filterMap_nil]) | (simp only [List.getElem?_toArray]) | (simp only [List.getElem?_cons_succ]) | (simp only [List.getElem?_cons_zero]) | (simp only [List.reverse_cons]) | (simp only [List.reverse_nil]) | (simp only [List.nil_append]) | (simp only [List.cons_append]))
  repeat (first
      | (first | (refine g_plain rfl ?_) | (refine g_yes rfl rfl rfl (by simp only [List.getElem?_toArray, List.getElem?_cons_succ, List.getElem?_cons_zero]; rfl) (by with_reducible constructor) ?_)
         apply Exists.intro; refine ⟨?_, ?_⟩
         focus (intro wq hq0; (first | have hq : Own _ _ _ wq := hq0 | have hq : Own _ _ _ wq := hq0.1 | skip); first | ((with_reducible show givesAt _ ({ dst := _, op := Op.load _ _, type := _, pos := _, after := _, guard := _ } : Oper) _ _ _); first | (exact givesAt_rd rfl (by rfl) (by first | exact rd_1 (by repeat constructor) (by first | rfl | assumption) | exact rd_w (by repeat constructor) (by rfl) | exact rd_o (by assumption) (by rfl) (by first | exact nmn | assumption | simp) | exact rd_h (by assumption) (by rfl) (by first | exact nmn | assumption | simp) | exact rd_1o (by assumption) (by first | exact nmn | assumption | simp) | exact rd_1h (by assumption) (by first | rfl | assumption) (by first | exact nmn | assumption | simp)) hq)) | (go_simp; first | (with_reducible rfl)))
         simp only [Act.put, List.setIfInBounds_toArray]; (try simp only [List.set_cons_succ]); (try simp only [List.set_cons_zero]))
      | (refine g_no rfl rfl rfl (by simp only [List.getElem?_toArray, List.getElem?_cons_succ, List.getElem?_cons_zero]; rfl) (by with_reducible constructor) ?_; simp only [Act.put, List.setIfInBounds_toArray]; (try simp only [List.set_cons_succ]); (try simp only [List.set_cons_zero])))
  refine g_nil ?_
  clear hS hcl
  intro hcl ww hS
  (try simp only [Act.put]); (try simp only [List.setIfInBounds_toArray]); (try simp only [List.set_cons_succ]); (try simp only [List.set_cons_zero])
  refine own_lateT (K := [(b2, _)]) (L := [(_, _)]) (hS.perm (List.Perm.swap _ _ _)) (fun x hx => by obtain rfl := List.mem_singleton.1 hx; simp) 9 hcl (by simp only [List.getElem?_toArray, List.getElem?_cons_succ, List.getElem?_cons_zero]; rfl) (by kernel_rfl) ?_
  clear hS
  intro hS
  (refine w_st rfl _ _ rfl (by rfl) (by rfl) (by repeat constructor) (by rfl) (by rfl) (by first | rfl | assumption) hS ?_; clear hS; intro ww hS)
  refine wpList_nil ⟨rfl, _, hS, ?_⟩
  clear hS hcl
  intro hcl wf hS
  simp only [List.cons_append, List.nil_append] at hS
  (try simp only [Act.put]); (try simp only [List.setIfInBounds_toArray]); (try simp only [List.set_cons_succ]); (try simp only [List.set_cons_zero])
  refine own_batchT hS [] (List.nil_sublist _) (fun x hx => by cases hx) [10] 0 rfl hcl (by kernel_rfl) ?_
  (try simp only); repeat (first | (simp only [List.filterMap_cons]) | (simp only [List.filterMap_nil]) | (simp only [List.getElem?_toArray]) | (simp only [List.getElem?_cons_succ]) | (simp only [List.getElem?_cons_zero]) | (simp only [List.reverse_cons]) | (simp only [List.reverse_nil]) | (simp only [List.nil_append]) | (simp only [List.cons_append]))
  repeat (first
      | (first | (refine g_plain rfl ?_) | (refine g_yes rfl rfl rfl (by simp only [List.getElem?_toArray, List.getElem?_cons_succ, List.getElem?_cons_zero]; rfl) (by with_reducible constructor) ?_)
         apply Exists.intro; refine ⟨?_, ?_⟩
         focus (intro wq hq0; (first | have hq : Own _ _ _ wq := hq0 | have hq : Own _ _ _ wq := hq0.1 | skip); first | ((with_reducible show givesAt _ ({ dst := _, op := Op.load _ _, type := _, pos := _, after := _, guard := _ } : Oper) _ _ _); first | (exact givesAt_rd rfl (by rfl) (by first | exact rd_1 (by repeat constructor) (by first | rfl | assumption) | exact rd_w (by repeat constructor) (by rfl) | exact rd_o (by assumption) (by rfl) (by first | exact nmn | assumption | simp) | exact rd_h (by assumption) (by rfl) (by first | exact nmn | assumption | simp) | exact rd_1o (by assumption) (by first | exact nmn | assumption | simp) | exact rd_1h (by assumption) (by first | rfl | assumption) (by first | exact nmn | assumption | simp)) hq)) | (go_simp; first | (with_reducible rfl)))
         simp only [Act.put, List.setIfInBounds_toArray]; (try simp only [List.set_cons_succ]); (try simp only [List.set_cons_zero]))
      | (refine g_no rfl rfl rfl (by simp only [List.getElem?_toArray, List.getElem?_cons_succ, List.getElem?_cons_zero]; rfl) (by with_reducible constructor) ?_; simp only [Act.put, List.setIfInBounds_toArray]; (try simp only [List.set_cons_succ]); (try simp only [List.set_cons_zero])))
  refine g_nil ?_
  clear hS hcl
  intro hcl ww hS
  refine own_doneT (by kernel_rfl) ?_
  go_wp2_with (first | (refine own_unguard (by rfl) ?_) | (refine w_ld rfl _ rfl (by rfl) (by first | exact rd_1 (by repeat constructor) (by first | rfl | assumption) | exact rd_w (by repeat constructor) (by rfl) | exact rd_o (by assumption) (by rfl) (by first | exact nmn | assumption | simp) | exact rd_h (by assumption) (by rfl) (by first | exact nmn | assumption | simp) | exact rd_1o (by assumption) (by first | exact nmn | assumption | simp) | exact rd_1h (by assumption) (by first | rfl | assumption) (by first | exact nmn | assumption | simp)) hS ?_) | (refine own_box rfl _ _ rfl (by rfl) hS ?_; clear hS; (try clear ww); intro bb ww hS) | (refine w_al rfl rfl hS ?_; clear hS; (try clear ww); intro bb ww hS) | (refine w_st rfl _ _ rfl (by rfl) (by rfl) (by repeat constructor) (by rfl) (by rfl) (by first | rfl | assumption) hS ?_; clear hS; (try clear ww); intro ww hS) | (refine w_s1 rfl _ _ rfl (by rfl) (by repeat constructor) (by first | exact .c | exact .t rfl) (by rfl) (by repeat constructor) hS ?_; clear hS; (try clear ww); intro ww hS))
  obtain rfl := HDD.out
  have hc := (hS.get at0).cell
  refine bodyPost_ret (v := .tuple #[.agg #[.int .i64 0, .string ⟨#[]⟩, .int .i64 0, .int .i64 0, .int .i64 0, .int .i64 0, .int .i64 0, .int .i64 0, .slice kx 0 kc, .int .i64 0, .slice sx 0 sc], .bool false]) (by simp [results, Try.results19, go_sem, hc]) rfl ⟨_, rfl, rep_bare_any (n := m) HR.out rfl, bthen HB0.out (HS1.out.chain hS).below⟩

/-- When there is a box. -/
def MadeA (F : Fnt) (l : Int) (n : Nat) (s : ByteArray) (body : Bx (n + 1)) : Prop := tameA F n body = true ∧ modB n body = true ∧ AccOk F l n s body ∧ validB (n + 2) (accB F l n s body)
theorem made36_ok (F : Fnt) (l : Int) (c : Bool) (s : ByteArray) (n : Nat) (body : Bx (n + 1)) (cs : List Value) (w : World) (hF : FntOk w F) (hr : Rep w (n + 1) body cs) (h : MadeA F l n s body) : Calls Try.prog 19 #[.agg (caseA F l c s cs).toArray] w (GivesMade (n + 2) (accB F l n s body) true w) :=
  made36_yes F l c s n body cs w hF hr h.1 h.2.1 _ _ _ (accK F l n s body) rfl (fun w' hb => accMake_ok (fun k => k < w.heap.size) F l c n 0 s body cs w' (hF.below hb) (fun _ hk => Nat.lt_of_lt_of_le hk hb.size) (repP_step (repP_old hr) hb) h.2.2.1 h.2.2.2)
theorem made36_bad (F : Fnt) (l : Int) (c : Bool) (s : ByteArray) (n : Nat) (body : Bx (n + 1)) (cs : List Value) (w : World) (hF : FntOk w F) (hr : Rep w (n + 1) body cs) (m : Nat) (hb : ¬ MadeA F l n s body) : Calls Try.prog 19 #[.agg (caseA F l c s cs).toArray] w (GivesMade (m + 1) (zeroB m) false w) := by
  cases ht : tameA F n body
  · exact made36_no0 F l c s n body cs w hF hr m ht
  · cases m1 : modB n body
    · exact made36_no1 F l c s n body cs w hF hr m ht m1
    · by_cases ho : AccOk F l n s body
      · by_cases hv : validB (n + 2) (accB F l n s body)
        · exact absurd ⟨ht, m1, ho, hv⟩ hb
        · exact made36_err F l c s n body cs w hF hr ht m1 m 6 (by omega) (fun w' hb => accMake_lim (fun k => k < w'.heap.size) F l c n m s body cs w' (hF.below hb) (fun _ h => h) (repP_old (hr.step hb)) ho hv)
      · exact made36_err F l c s n body cs w hF hr ht m1 m 1 (by omega) (fun w' hb => accMake_bad F l c n m s body cs w' (hF.below hb) (hr.step hb) ho)

end Go.Proofs.Ytceigjonhabmmaa
namespace Go.Proofs.Ytceigjonhabmmaa
open Go.RowKit

attribute [local irreducible] wpQuiet wpG wpP wpK wpList Code.wp Calls

set_option maxHeartbeats 4000000 in
set_option maxRecDepth 100000 in
theorem ref28_At_val (c0 c1 c2 c3 c4 c5 c6 c7 c8 c9 c10 : Value) (x y : Int) (w : World) (hall : [c0, c1, c2, c3, c4, c5, .int .i64 x, .int .i64 y, c8, c9, c10].all (·.oneCell') = true) : Calls Try.prog 21 #[.agg #[c0, c1, c2, c3, c4, c5, c6, c7, c8, c9, c10], .int .i64 x, .int .i64 y] w (Gives (.agg #[c0, c1, c2, c3, c4, c5, .int .i64 x, .int .i64 y, c8, c9, c10]) w) := by
  go_enter Try.func21, Try.ntmps21
  have hS := own_start w
  go_wp2_with (first | (refine own_unguard (by rfl) ?_) | (refine w_ld rfl _ rfl (by rfl) (by first | exact rd_1 (by repeat constructor) (by first | rfl | assumption) | exact rd_w (by repeat constructor) (by rfl) | exact rd_o (by assumption) (by rfl) (by first | exact nmn | assumption | simp) | exact rd_h (by assumption) (by rfl) (by first | exact nmn | assumption | simp) | exact rd_1o (by assumption) (by first | exact nmn | assumption | simp) | exact rd_1h (by assumption) (by first | rfl | assumption) (by first | exact nmn | assumption | simp)) hS ?_) | (refine own_box rfl _ _ rfl (by rfl) hS ?_; clear hS; (try clear ww); intro bb ww hS) | (refine w_al rfl rfl hS ?_; clear hS; (try clear ww); intro bb ww hS) | (refine w_st rfl _ _ rfl (by rfl) (by rfl) (by repeat constructor) (by rfl) (by rfl) (by first | rfl | assumption) hS ?_; clear hS; (try clear ww); intro ww hS) | (refine w_s1 rfl _ _ rfl (by rfl) (by repeat constructor) (by first | exact .c | exact .t rfl) (by rfl) (by repeat constructor) hS ?_; clear hS; (try clear ww); intro ww hS))
  (try simp only [List.getElem_toArray, List.getElem_cons_succ, List.getElem_cons_zero] at hS)
  have hc := (hS.get at0).cell
  refine bodyPost_ret (v := .agg #[c0, c1, c2, c3, c4, c5, .int .i64 x, .int .i64 y, c8, c9, c10]) (by simp [results, Try.results21, go_sem, hc]) rfl (own_gives hS)

/-- A box at another place: its cells, and the cells of the box itself. -/
theorem rep_place {w w0 : World} {n : Nat} {k sz bw bh bd x y o x' y' : Int} {nm : ByteArray} {src : List Int} {kids : List (Bx n)} {cs cs0 : List Value} (h0 : Rep w0 (n + 1) (⟨k, nm, sz, bw, bh, bd, x, y, o, src⟩, kids) cs0) (h : Rep w (n + 1) (atXY (n + 1) (⟨k, nm, sz, bw, bh, bd, x, y, o, src⟩, kids) x' y') cs) : ∃ kx kc sx sc, cs = [.int .i64 k, .string nm, .int .i64 sz, .int .i64 bw, .int .i64 bh, .int .i64 bd, .int .i64 x', .int .i64 y', .slice kx kids.length kc, .int .i64 o, .slice sx src.length sc] ∧
    Rep w (n + 1) (⟨k, nm, sz, bw, bh, bd, x, y, o, src⟩, kids) [.int .i64 k, .string nm, .int .i64 sz, .int .i64 bw, .int .i64 bh, .int .i64 bd, .int .i64 x, .int .i64 y, .slice kx kids.length kc, .int .i64 o, .slice sx src.length sc] := by
  obtain ⟨_, _, _, _, _, ha, _⟩ := rep_out h0
  obtain ⟨kx, kc, sx, sc, rfl, _, hl, hs, hk⟩ := rep_out h
  exact ⟨kx, kc, sx, sc, rfl, rep_mk ha hl hs hk⟩

end Go.Proofs.Ytceigjonhabmmaa
namespace Go.Proofs.Ytceigjonhabmmaa
open Go.RowKit

attribute [local irreducible] wpQuiet wpG wpP wpK wpList Code.wp Calls







end Go.Proofs.Ytceigjonhabmmaa
namespace Go.Proofs.Ytceigjonhabmmaa
open Go.RowKit

attribute [local irreducible] wpQuiet wpG wpP wpK wpList Code.wp Calls

theorem modB_out {n : Nat} {b : Bx (n + 1)} (h : modB n b = true) : (-100000000 ≤ b.1.w ∧ b.1.w ≤ 100000000) ∧ (-100000000 ≤ b.1.h ∧ b.1.h ≤ 100000000) ∧ (-100000000 ≤ b.1.d ∧ b.1.d ≤ 100000000) ∧ (-100000000 ≤ b.1.x ∧ b.1.x ≤ 100000000) ∧ (-100000000 ≤ b.1.y ∧ b.1.y ≤ 100000000) := by
  simp [modB, modL, Hd.lens] at h
  omega
/-- The cells of a box. -/
theorem kid_out {w : World} {n : Nat} {k sz bw bh bd x y o : Int} {nm : ByteArray} {src : List Int} {kids : List (Bx n)} {cs : List Value} (h : Rep w (n + 1) (⟨k, nm, sz, bw, bh, bd, x, y, o, src⟩, kids) cs) : ∃ kx kc sx sc, cs = [.int .i64 k, .string nm, .int .i64 sz, .int .i64 bw, .int .i64 bh, .int .i64 bd, .int .i64 x, .int .i64 y, .slice kx kids.length kc, .int .i64 o, .slice sx src.length sc] := by
  obtain ⟨kx, kc, sx, sc, rfl, _⟩ := rep_out h
  exact ⟨kx, kc, sx, sc, rfl⟩
end Go.Proofs.Ytceigjonhabmmaa
namespace Go.Proofs.Ytceigjonhabmmaa
open Go.RowKit

attribute [local irreducible] wpQuiet wpG wpP wpK wpList Code.wp Calls

/-- A box with another height and depth. -/
def dimB {n : Nat} (b : Bx (n + 1)) (h d : Int) : Bx (n + 1) := ({ b.1 with h := h, d := d }, b.2)
theorem lens5 {a b c d e : Int} : lensOk [a, b, c, d, e] = true ↔ (-1073741824 ≤ a ∧ a ≤ 1073741824) ∧ (-1073741824 ≤ b ∧ b ≤ 1073741824) ∧ (-1073741824 ≤ c ∧ c ≤ 1073741824) ∧ (-1073741824 ≤ d ∧ d ≤ 1073741824) ∧ (-1073741824 ≤ e ∧ e ≤ 1073741824) := by
  simp [lensOk]
/-- A box whose lengths alone are others. -/
theorem allOwn_head {n : Nat} {a a' : Hd} {ks : List (Bx n)} (h : allOwn (n + 1) (a, ks) = true) (hl : lensOk a'.lens = true) (hk : kindOk a' ks.length = kindOk a ks.length) (hs : srcOk a' = srcOk a) : allOwn (n + 1) (a', ks) = true := by
  simp only [allOwn, ownOk, Bool.and_eq_true] at h ⊢
  exact ⟨⟨⟨hl, hk ▸ h.1.1.2⟩, hs ▸ h.1.2⟩, h.2⟩
theorem validB_dim {n : Nat} {b : Bx (n + 1)} {h d : Int} (hv : validB (n + 1) b) (hm : modB n b = true) (h1 : -1073741824 ≤ h ∧ h ≤ 1073741824) (h2 : -1073741824 ≤ d ∧ d ≤ 1073741824) : validB (n + 1) (dimB b h d) := by
  obtain ⟨⟨k, nm, sz, bw, bh, bd, x, y, o, src⟩, ks⟩ := b
  have m := modB_out hm
  simp only at m
  exact ⟨allOwn_head (a' := ⟨k, nm, sz, bw, h, d, x, y, o, src⟩) hv.1 (lens5.2 (by dsimp only; omega)) rfl rfl, hv.2⟩
theorem rep_setH {w : World} {n : Nat} {k sz bw bh bd x y o : Int} {nm : ByteArray} {src : List Int} {kids : List (Bx n)} {c8 c10 : Value} {h' : Int} (h : Rep w (n + 1) (⟨k, nm, sz, bw, bh, bd, x, y, o, src⟩, kids) [.int .i64 k, .string nm, .int .i64 sz, .int .i64 bw, .int .i64 bh, .int .i64 bd, .int .i64 x, .int .i64 y, c8, .int .i64 o, c10]) (hd : I64 h') : Rep w (n + 1) (⟨k, nm, sz, bw, h', bd, x, y, o, src⟩, kids) [.int .i64 k, .string nm, .int .i64 sz, .int .i64 bw, .int .i64 h', .int .i64 bd, .int .i64 x, .int .i64 y, c8, .int .i64 o, c10] := by
  obtain ⟨kx, kc, sx, sc, e, ha, hl, hs, hk⟩ := rep_out h
  simp only [Hd.cells, List.cons.injEq, and_true, true_and] at e
  obtain ⟨rfl, rfl⟩ := e
  exact rep_mk (a := ⟨k, nm, sz, bw, h', bd, x, y, o, src⟩) ⟨ha.kind, ha.size, ha.w, hd, ha.d, ha.x, ha.y, ha.of, ha.src, ha.srcLen, ha.nameLen⟩ hl hs hk

end Go.Proofs.Ytceigjonhabmmaa
