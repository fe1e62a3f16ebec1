/- The law FontSpoiled: what its call returns. -/
import Derived.Test.YtgknameejoalnaaS04
import Derived.Test.YtgknameejoalnaaS05
import Derived.Test.YtgknameejoalnaaS06
namespace Go.Proofs.Ytgknameejoalnaa
open Go.RowKit

attribute [local irreducible] wpQuiet wpG wpP wpK wpList Code.wp Calls

theorem few_vo {F : Fnt} {w : World} {v : Bool} (hF : FntOk w F) (hv : Hid (fewB F = v)) : Calls Try.prog 14 #[F.val] w (Gives (.bool v) w) := by
  have := ref05_Few_calls F w hF
  rwa [hv.out] at this
theorem el_glyph : ElTy Try.prog 33 23 6 56 := ElTy.mk' (.agg #[.string ⟨#[]⟩, .int .i64 0, .int .i64 0, .int .i64 0, .int .i64 0, .int .i64 0]) Try.underlying33 (by kernel_rfl) rfl
instance zt_font : ZeroTy Try.prog 38 [.slice none 0 0, .slice none 0 0, .int .i64 0, .int .i64 0, .int .i64 0, .int .i64 0, .int .i64 0, .int .i64 0, .int .i64 0, .int .i64 0, .int .i64 0, .int .i64 0, .int .i64 0, .int .i64 0, .int .i64 0, .int .i64 0, .int .i64 0, .int .i64 0, .int .i64 0, .int .i64 0, .int .i64 0, .int .i64 0] := ⟨.agg #[.slice none 0 0, .slice none 0 0, .int .i64 0, .int .i64 0, .int .i64 0, .int .i64 0, .int .i64 0, .int .i64 0, .int .i64 0, .int .i64 0, .int .i64 0, .int .i64 0, .int .i64 0, .int .i64 0, .int .i64 0, .int .i64 0, .int .i64 0, .int .i64 0, .int .i64 0, .int .i64 0, .int .i64 0, .int .i64 0], by kernel_rfl, rfl⟩
theorem glys_cells {w : World} {b o : Nat} {gs : List Gly} (hr : RowAt w (some ⟨b, o, none⟩) 6 Gly.cells gs) : w.rangeAt b o (gs.flatMap Gly.cells) := by
  by_cases h : gs = []
  · subst h; exact fun j v hj => by simp at hj
  · obtain ⟨b', o', hx, hr2⟩ := hr.flat (fun _ _ => rfl) h
    obtain ⟨rfl, rfl⟩ : b = b' ∧ o = o' := by simpa using hx
    exact hr2
theorem glys_take {w : World} {b o : Nat} {gs : List Gly} (i : Nat) (h : w.rangeAt b o (gs.flatMap Gly.cells)) : w.rangeAt b o ((gs.take i).flatMap Gly.cells) := fun j v hj => by
  refine h j v ?_
  have e : gs = gs.take i ++ gs.drop i := by simp
  rw [e, List.flatMap_append, List.getElem?_append_left (List.getElem?_eq_some_iff.1 hj).1]
  exact hj
theorem glys_drop {w : World} {b o : Nat} {gs : List Gly} (i : Nat) (hi : i ≤ gs.length) (h : w.rangeAt b o (gs.flatMap Gly.cells)) : w.rangeAt b (o + i * 6) ((gs.drop i).flatMap Gly.cells) := fun j v hj => by
  have e : gs = gs.take i ++ gs.drop i := by simp
  have hl : ((gs.take i).flatMap Gly.cells).length = i * 6 := by rw [flat_len (f := Gly.cells) (size := 6) (fun _ => rfl), List.length_take, Nat.min_eq_left hi]
  have := h (i * 6 + j) v (by
    rw [e, List.flatMap_append, List.getElem?_append_right (by omega), hl, Nat.add_sub_cancel_left]
    exact hj)
  rwa [← Nat.add_assoc] at this
theorem glys_one (gs : List Gly) : ∀ u ∈ gs.flatMap Gly.cells, u.oneCell' = true := by
  intro u hu
  obtain ⟨n, _, h⟩ := List.mem_flatMap.1 hu
  simp [Gly.cells] at h
  rcases h with rfl | rfl | rfl | rfl | rfl | rfl <;> rfl

/-- A slice of a slice: to an index; from an index. -/
theorem givesAt_to {P : Program} {o : Oper} {a : Act} {w : World} {t : TypeId} {x y : Operand} {ad : Addr} {n c i : Nat} {h : Int} {e : TypeId} {size bytes : Nat} (T : ElTy P t e size bytes) (ho : o.op = .slice t x none (some y) none) (hx : a.eval x = .slice (some ad) n c) (hy : a.eval y = .int .i64 h) (hh : h = (i : Int)) (hi : i ≤ c) : givesAt P o a w (.slice (some ad) i c) := by
  obtain ⟨inf, z, hinf, hz, hsz, hby, hzz⟩ := T.inf
  have hel : P.elem t = e := by simp [Program.elem, T.und]
  have hu : P.underlying t = some (.slice (P.elem t)) := by rw [hel]; exact T.und
  have hsize : (sizeOf (P.elem t)).run P w = .ok size w := by rw [hel]; simp [sizeOf, typeInfo, program, Sem.run, hinf, hsz]
  subst hh
  unfold givesAt execOp
  have h1 : (Instr.slice t (.slice (some ad) n c) none (some (.int .i64 (i : Int))) none).run P w = .ok (.slice (some ad) i c) w := by
    rw [run_slice_h w t (some ad) n c hu .i64 (i : Int) (by omega) (by omega)]
    rw [hsize]
    simp [sliced, Result.andThen, Addr.add]
  simp [ho, hx, hy, run_sliceAt_slice _ _ _ _ _ _ hu, h1, givesUpon]
theorem givesAt_from {P : Program} {o : Oper} {a : Act} {w : World} {t : TypeId} {x y : Operand} {ad : Addr} {n c l : Nat} {h : Int} {e : TypeId} {size bytes : Nat} (T : ElTy P t e size bytes) (ho : o.op = .slice t x (some y) none none) (hx : a.eval x = .slice (some ad) n c) (hy : a.eval y = .int .i64 h) (hh : h = (l : Int)) (hl : l ≤ n) {ad' : Addr} (had : ad' = if c = l then ad else ad.add (l * size)) : givesAt P o a w (.slice (some ad') (n - l) (c - l)) := by
  subst had
  obtain ⟨inf, z, hinf, hz, hsz, hby, hzz⟩ := T.inf
  have hel : P.elem t = e := by simp [Program.elem, T.und]
  have hu : P.underlying t = some (.slice (P.elem t)) := by rw [hel]; exact T.und
  have hsize : (sizeOf (P.elem t)).run P w = .ok size w := by rw [hel]; simp [sizeOf, typeInfo, program, Sem.run, hinf, hsz]
  subst hh
  unfold givesAt execOp
  have h1 : (Instr.slice t (.slice (some ad) n c) (some (.int .i64 (l : Int))) none none).run P w = .ok (.slice (some (if c = l then ad else ad.add (l * size))) (n - l) (c - l)) w := by
    rw [run_slice_l w t (some ad) n c hu .i64 (l : Int) (by omega) (by omega)]
    rw [hsize]
    simp only [sliced, Result.andThen, Int.toNat_natCast]
    split <;> rfl
  simp [ho, hx, hy, run_sliceAt_slice _ _ _ _ _ _ hu, h1, givesUpon]

/-- Whether one of the first k stretches names a glyph. -/
def nd1 (n : ByteArray) (s : Str) : Bool := s.sizes.any (fun q => q.toList == n.toList) || s.parts.any (fun p => p.name.toList == n.toList)
def ndU (n : ByteArray) (ss : List Str) (k : Nat) : Bool := (ss.take k).any (nd1 n)
theorem any_next {α : Type} {f : α → Bool} {l : List α} {k : Nat} {x : α} (h : l[k]? = some x) : (l.take (k + 1)).any f = ((l.take k).any f || f x) := by
  rw [List.take_add_one, h]
  simp
theorem ndU_needed {n : ByteArray} {ss : List Str} : ndU n ss ss.length = true ↔ Needed ss n := by
  unfold ndU nd1 Needed
  rw [List.take_length]
  simp

set_option maxHeartbeats 16000000 in
set_option maxRecDepth 100000 in
theorem spoiled_ok (F : Fnt) (m : Int) (hm : 0 ≤ m ∧ m ≤ 65535) (w : World) (hF : FntOk w F) (hfew : fewB F = true) (h1 : 1 ≤ F.gs.length) (h2 : F.gs.length ≤ 100) (hv : ValidF F) : Calls Try.prog 7 #[F.val, .int .u16 m] w (Gives (.bool true) w) := by
  have HF := Lib.hid hF
  have HE := Lib.hid hfew
  have HV := Lib.hid hv
  clear hF hfew hv
  obtain ⟨gx, gc, gs, sx, sc, ss, q0, q1, q2, q3, q4, q5, q6, q7, q8, q9, q10, q11, q12, q13, q14, q15, q16, q17, q18, q19⟩ := F
  simp only at h1 h2
  have d1 : decide ((gs.length : Int) = 0) = false := decide_eq_false (by omega)
  have d2 : decide ((100 : Int) < (gs.length : Int)) = false := decide_eq_false (by omega)
  have d0 : (gs.length : Int) ≠ 0 := by omega
  have d3 : ¬ gs = [] := fun e => by rw [e] at h1; exact absurd h1 (by simp)
  have d4 : gs.isEmpty = false := by simpa using d3
  have d5 : ((gs.length : Int) == 0) = false := by simpa using d3
  obtain ⟨i, hi⟩ : ∃ i : Nat, i = m.toNat % gs.length := ⟨_, rfl⟩
  have hil : i < gs.length := by rw [hi]; exact Nat.mod_lt _ (by omega)
  have e1 : IntKind.i64.wrap m = m := IntWalk.i64_in _ (by omega)
  have e3 : IntKind.i64.wrap ((i : Int) + 1) = (i : Int) + 1 := IntWalk.i64_in _ (by omega)
  have e2 : Int.tmod m (gs.length : Int) = (i : Int) := by
    rw [Int.tmod_eq_emod_of_nonneg hm.1, hi, Int.natCast_emod, Int.toNat_of_nonneg hm.1]
  obtain ⟨g, hg⟩ : ∃ g, gs[i]? = some g := ⟨gs[i], by simp [hil]⟩
  obtain ⟨gb, go, hgx, hgr⟩ := HF.out.glys.get hg
  simp only at hgx
  subst hgx
  have HG := Lib.hid hg
  have HI := Lib.hid hi
  clear hg hi
  go_enter Try.func7, Try.ntmps7
  have hS := own_start w
  go_upto_region 6 with (first | (refine own_unguard (by rfl) ?_) | (go_at_call 10; refine own_calls hS (awake05_calls _) ?_; clear hS; (try clear ww); intro ww hS) | (go_at_call 14; refine own_calls hS (few_vo (F := ⟨some ⟨gb, go, none⟩, gc, gs, sx, sc, ss, q0, q1, q2, q3, q4, q5, q6, q7, q8, q9, q10, q11, q12, q13, q14, q15, q16, q17, q18, q19⟩) (HF.out.below hS.below) HE) ?_; clear hS; (try clear ww); intro ww hS) | (go_at_call 22; refine own_calls hS (font_Valid_calls ⟨some ⟨gb, go, none⟩, gc, gs, sx, sc, ss, q0, q1, q2, q3, q4, q5, q6, q7, q8, q9, q10, q11, q12, q13, q14, q15, q16, q17, q18, q19⟩ _ (HF.out.below hS.below) true (iff_t HV.out)) ?_; clear hS; (try clear ww); intro ww hS) | (refine w_ld rfl _ rfl (by rfl) (by first | exact rd_1 (by repeat constructor) (by first | rfl | assumption) | exact rd_w (by repeat constructor) (by rfl) | exact rd_o (by assumption) (by rfl) (by first | exact nmn | assumption | simp) | exact rd_h (by assumption) (by rfl) (by first | exact nmn | assumption | simp) | exact rd_1o (by assumption) (by first | exact nmn | assumption | simp) | exact rd_1h (by assumption) (by first | rfl | assumption) (by first | exact nmn | assumption | simp)) hS ?_) | (refine own_box rfl _ _ rfl (by rfl) hS ?_; clear hS; (try clear ww); intro bb ww hS) | (refine w_al rfl rfl hS ?_; clear hS; (try clear ww); intro bb ww hS) | (refine w_st rfl _ _ rfl (by rfl) (by rfl) (by repeat constructor) (by rfl) (by rfl) (by first | rfl | assumption) hS ?_; clear hS; (try clear ww); intro ww hS) | (refine w_s1 rfl _ _ rfl (by rfl) (by repeat constructor) (by first | exact .c | exact .t rfl) (by rfl) (by repeat constructor) hS ?_; clear hS; (try clear ww); intro ww hS))
  (try simp only [Act.put]); (try simp only [List.setIfInBounds_toArray]); (try simp only [List.set_cons_succ]); (try simp only [List.set_cons_zero])
  have HS0 := Lib.hid hS
  obtain ⟨DD, HDD, hS⟩ := hS.rebaseN
  have HSw := Lib.hid hS
  refine own_anyM hS [4, 5] [] 6 (by kernel_rfl) (by kernel_rfl) ?_
  clear hS
  intro hcl ww hS _
  refine own_batchN HSw.out [0, 1] 4 rfl hS hcl (by kernel_rfl) ?_
  (try simp only); repeat (first | (simp only [List.filterMap_cons]) | (simp only [List.filterMap_nil]) | (simp only [List.getElem?_toArray]) | (simp only [List.getElem?_cons_succ]) | (simp only [List.getElem?_cons_zero]) | (simp only [List.reverse_cons]) | (simp only [List.reverse_nil]) | (simp only [List.nil_append]) | (simp only [List.cons_append]))
  repeat (first
      | (first | (refine g_plain rfl ?_) | (refine g_yes rfl rfl rfl (by simp only [List.getElem?_toArray, List.getElem?_cons_succ, List.getElem?_cons_zero]; rfl) (by with_reducible constructor) ?_)
         apply Exists.intro; refine ⟨?_, ?_⟩
         focus (intro wq hq0; (first | have hq : Own _ _ _ wq := hq0 | have hq : Own _ _ _ wq := hq0.1 | skip); first | ((with_reducible show givesAt _ ({ dst := _, op := Op.load _ _, type := _, pos := _, after := _, guard := _ } : Oper) _ _ _); first | (exact givesAt_rd rfl (by rfl) (by first | exact rd_1 (by repeat constructor) (by first | rfl | assumption) | exact rd_w (by repeat constructor) (by rfl) | exact rd_o (by assumption) (by rfl) (by first | exact nmn | assumption | simp) | exact rd_h (by assumption) (by rfl) (by first | exact nmn | assumption | simp) | exact rd_1o (by assumption) (by first | exact nmn | assumption | simp) | exact rd_1h (by assumption) (by first | rfl | assumption) (by first | exact nmn | assumption | simp)) hq)) | (go_simp; first | (with_reducible rfl)))
         simp only [Act.put, List.setIfInBounds_toArray]; (try simp only [List.set_cons_succ]); (try simp only [List.set_cons_zero]))
      | (refine g_no rfl rfl rfl (by simp only [List.getElem?_toArray, List.getElem?_cons_succ, List.getElem?_cons_zero]; rfl) (by with_reducible constructor) ?_; simp only [Act.put, List.setIfInBounds_toArray]; (try simp only [List.set_cons_succ]); (try simp only [List.set_cons_zero])))
  refine g_nil ?_
  clear hS hcl
  intro hcl ww hS
  (try simp only [Act.put]); (try simp only [List.setIfInBounds_toArray]); (try simp only [List.set_cons_succ]); (try simp only [List.set_cons_zero])
  refine own_frees hS [(2, 6, [.slice none 0 0, .slice none 0 0, .int .i64 0, .int .i64 0, .int .i64 0, .int .i64 0, .int .i64 0, .int .i64 0, .int .i64 0, .int .i64 0, .int .i64 0, .int .i64 0, .int .i64 0, .int .i64 0, .int .i64 0, .int .i64 0, .int .i64 0, .int .i64 0, .int .i64 0, .int .i64 0, .int .i64 0, .int .i64 0]), (3, 7, [.slice none 0 0, .slice none 0 0, .int .i64 0, .int .i64 0, .int .i64 0, .int .i64 0, .int .i64 0, .int .i64 0, .int .i64 0, .int .i64 0, .int .i64 0, .int .i64 0, .int .i64 0, .int .i64 0, .int .i64 0, .int .i64 0, .int .i64 0, .int .i64 0, .int .i64 0, .int .i64 0, .int .i64 0, .int .i64 0])] 2 rfl (.cons (by simp only [List.getElem?_toArray, List.getElem?_cons_succ, List.getElem?_cons_zero]; rfl) rfl rfl rfl zt_font (.cons (by simp only [List.getElem?_toArray, List.getElem?_cons_succ, List.getElem?_cons_zero]; rfl) rfl rfl rfl zt_font .nil)) hcl (by kernel_rfl) ?_
  clear hS hcl
  intro f wf hcl hS
  have hK := hS.newer (by rw [HDD.out]; exact fun _ h => h)
  simp only [putF, ownF, List.map_cons, List.map_nil, List.foldr_cons, List.foldr_nil, List.cons_append, List.nil_append] at hS hcl hK ⊢
  generalize f 2 = b6 at *
  generalize f 3 = b7 at *
  have hb6 := hK _ (.head _)
  have hb7 := hK _ (.tail _ (.head _))
  clear hK
  (try simp only [Act.put]); (try simp only [List.setIfInBounds_toArray]); (try simp only [List.set_cons_succ]); (try simp only [List.set_cons_zero])
  refine own_mid (K := [(_, _), (_, _)]) (L := [(_, _)]) hS (fun x hx => by simp only [List.mem_cons, List.not_mem_nil, or_false] at hx; rcases hx with rfl | rfl <;> assumption) 4 hcl (by simp only [List.getElem?_toArray, List.getElem?_cons_succ, List.getElem?_cons_zero]; rfl) (by kernel_rfl) ?_
  clear hS
  intro hS
  (refine w_st rfl _ _ rfl (by rfl) (by rfl) (by repeat constructor) (by rfl) (by rfl) (by first | rfl | assumption) hS ?_; clear hS; intro ww hS)
  refine wpList_nil ⟨rfl, _, hS, ?_⟩
  clear hS hcl
  intro hcl wf hS
  simp only [List.cons_append, List.nil_append] at hS
  (try simp only [Act.put]); (try simp only [List.setIfInBounds_toArray]); (try simp only [List.set_cons_succ]); (try simp only [List.set_cons_zero])
  refine own_mid (K := [(_, _), (_, _)]) (L := [(_, _)]) hS (fun x hx => by simp only [List.mem_cons, List.not_mem_nil, or_false] at hx; rcases hx with rfl | rfl <;> assumption) 5 hcl (by simp only [List.getElem?_toArray, List.getElem?_cons_succ, List.getElem?_cons_zero]; rfl) (by kernel_rfl) ?_
  clear hS
  intro hS
  (refine w_st rfl _ _ rfl (by rfl) (by rfl) (by repeat constructor) (by rfl) (by rfl) (by first | rfl | assumption) hS ?_; clear hS; intro ww hS)
  refine wpList_nil ⟨rfl, _, hS, ?_⟩
  clear hS hcl
  intro hcl wf hS
  simp only [List.cons_append, List.nil_append] at hS
  (try simp only [Act.put]); (try simp only [List.setIfInBounds_toArray]); (try simp only [List.set_cons_succ]); (try simp only [List.set_cons_zero])
  refine own_done (by kernel_rfl) ?_
  clear hb6 hb7 HSw
  obtain rfl := HDD.out
  have hS1 := HS0.out.chain hS
  clear hS HDD HS0
  have hS := hS1
  clear hS1
  go_upto_region 7 with (first | (refine own_unguard (by rfl) ?_) | (refine w_ld rfl _ rfl (by rfl) (by first | exact rd_1 (by repeat constructor) (by first | rfl | assumption) | exact rd_w (by repeat constructor) (by rfl) | exact rd_o (by assumption) (by rfl) (by first | exact nmn | assumption | simp) | exact rd_h (by assumption) (by rfl) (by first | exact nmn | assumption | simp) | exact rd_1o (by assumption) (by first | exact nmn | assumption | simp) | exact rd_1h (by assumption) (by first | rfl | assumption) (by first | exact nmn | assumption | simp)) hS ?_) | (refine own_box rfl _ _ rfl (by rfl) hS ?_; clear hS; (try clear ww); intro bb ww hS) | (refine w_al rfl rfl hS ?_; clear hS; (try clear ww); intro bb ww hS) | (refine w_st rfl _ _ rfl (by rfl) (by rfl) (by repeat constructor) (by rfl) (by rfl) (by first | rfl | assumption) hS ?_; clear hS; (try clear ww); intro ww hS) | (refine w_s1 rfl _ _ rfl (by rfl) (by repeat constructor) (by first | exact .c | exact .t rfl) (by rfl) (by repeat constructor) hS ?_; clear hS; (try clear ww); intro ww hS))
  (try simp only [Act.put]); (try simp only [List.setIfInBounds_toArray]); (try simp only [List.set_cons_succ]); (try simp only [List.set_cons_zero])
  have hgc := HF.out.gcap
  simp only at hgc
  refine own_any hS [10, 12] 13 (by kernel_rfl) (by kernel_rfl) ?_
  clear hS
  intro hcl ww hS
  refine own_batch hS [1, 2, 4, 5, 6, 7, 8] 6 rfl hcl (by kernel_rfl) ?_
  (try simp only); repeat (first | (simp only [List.filterMap_cons]) | (simp only [List.filterMap_nil]) | (simp only [List.getElem?_toArray]) | (simp only [List.getElem?_cons_succ]) | (simp only [List.getElem?_cons_zero]) | (simp only [List.reverse_cons]) | (simp only [List.reverse_nil]) | (simp only [List.nil_append]) | (simp only [List.cons_append]))
  repeat (first
      | (first | (refine g_plain rfl ?_) | (refine g_yes rfl rfl rfl (by simp only [List.getElem?_toArray, List.getElem?_cons_succ, List.getElem?_cons_zero]; rfl) (by with_reducible constructor) ?_)
         apply Exists.intro; refine ⟨?_, ?_⟩
         focus (intro wq hq0; (first | have hq : Own _ _ _ wq := hq0 | have hq : Own _ _ _ wq := hq0.1 | skip); first | ((with_reducible show givesAt _ ({ dst := _, op := Op.load _ _, type := _, pos := _, after := _, guard := _ } : Oper) _ _ _); first | (exact givesAt_rd rfl (by rfl) (by first | exact rd_1 (by repeat constructor) (by first | rfl | assumption) | exact rd_w (by repeat constructor) (by rfl) | exact rd_o (by assumption) (by rfl) (by first | exact nmn | assumption | simp) | exact rd_h (by assumption) (by rfl) (by first | exact nmn | assumption | simp) | exact rd_1o (by assumption) (by first | exact nmn | assumption | simp) | exact rd_1h (by assumption) (by first | rfl | assumption) (by first | exact nmn | assumption | simp)) hq)) | (go_simp; first | (with_reducible rfl)))
         simp only [Act.put, List.setIfInBounds_toArray]; (try simp only [List.set_cons_succ]); (try simp only [List.set_cons_zero]))
      | (refine g_no rfl rfl rfl (by simp only [List.getElem?_toArray, List.getElem?_cons_succ, List.getElem?_cons_zero]; rfl) (by with_reducible constructor) ?_; simp only [Act.put, List.setIfInBounds_toArray]; (try simp only [List.set_cons_succ]); (try simp only [List.set_cons_zero])))
  refine g_nil ?_
  clear hS hcl
  intro hcl ww hS
  (try simp only [Act.put]); (try simp only [List.setIfInBounds_toArray]); (try simp only [List.set_cons_succ]); (try simp only [List.set_cons_zero])
  refine own_lateF (zs := g.cells) hS 9 [0, 3] 3 rfl (fun b => .slice (some ⟨b, 0, none⟩) 1 1) (by simp only [List.getElem?_toArray, List.getElem?_cons_succ, List.getElem?_cons_zero]; rfl) hcl (by kernel_rfl) ?_ ?_
  · intro wz
    refine own_buildSlice rfl _ _ 1 _ rfl (g.cells) (own_start wz) Try.underlying33 (by kernel_rfl) ?_
    intro b w1 hO
    exact wpList_nil ⟨rfl, b, rfl, hO⟩
  clear hS hcl
  intro wa hS
  refine chf_soft 0 (by simp only [List.getElem?_toArray, List.getElem?_cons_succ, List.getElem?_cons_zero]; rfl) ?_
  clear hS
  intro hS
  refine own_buildEmpty rfl 33 23 rfl hS Try.underlying33 (by kernel_rfl) ?_
  clear hS
  intro b0 wb hS
  refine wpList_nil ⟨rfl, ⟨_, rfl⟩, _, hS, ?_⟩
  clear hS
  intro wc hS
  have hC := glys_cells (HF.out.glys.own hS)
  refine chf_soft 3 (by simp only [List.getElem?_toArray, List.getElem?_cons_succ, List.getElem?_cons_zero]; rfl) ?_
  clear hS
  intro hS
  refine own_append rfl _ _ _ rfl (size := 6) (n := 0) (xs := []) (X := []) (L := []) ⟨rfl, .inl ⟨_, .inr ⟨b0, 0, rfl⟩, rfl, rfl, rfl⟩⟩ rfl (news := gs.flatMap Gly.cells) rfl hS (fun j u hj => by rw [Addr.add_lit]; exact hC j u hj) (flat_len (f := Gly.cells) (size := 6) (fun _ => rfl) gs) (glys_one gs) el_glyph (by decide) (by simp only [maxLen]; omega) (by omega) ?_
  clear hS hC
  intro v1 X1 wd hS hX1
  refine wpList_nil ⟨rfl, ⟨_, rfl⟩, _, hS, ?_⟩
  clear hS
  intro we _ hcl b9 wf hS
  have hX1 := (show Sl 6 gs.length v1 (gs.flatMap Gly.cells) X1 by simpa using hX1)
  have hS := hS.perm (List.Perm.cons _ (List.perm_append_comm (l₁ := X1)))
  (try simp only [List.nil_append, List.cons_append] at hS)
  (try simp only [Act.put]); (try simp only [List.setIfInBounds_toArray]); (try simp only [List.set_cons_succ]); (try simp only [List.set_cons_zero])
  refine own_hard (D := []) (W := w) 10 hcl (by simp only [List.getElem?_toArray, List.getElem?_cons_succ, List.getElem?_cons_zero]; rfl) (by kernel_rfl) (by kernel_rfl) ?_
  refine own_append_new (b := b9) rfl _ _ _ rfl hX1 rfl rfl (show Own [] w (((b9, g.cells) :: [_, _, _, _]) ++ X1) wf from hS) rfl rfl el_glyph (by decide) (by simp only [maxLen]; omega) (by omega) ?_
  clear hS hX1
  intro v2 X2 wg hS hX2
  refine wpList_nil ⟨rfl, _, hS, ?_⟩
  clear hS hcl
  intro hcl wh hS
  (try simp only [List.nil_append, List.cons_append] at hS)
  have hS := hS.forget (List.sublist_cons_self _ _)
  (try simp only [Act.put]); (try simp only [List.setIfInBounds_toArray]); (try simp only [List.set_cons_succ]); (try simp only [List.set_cons_zero])
  refine own_batch hS [11] 1 rfl hcl (by kernel_rfl) ?_
  (try simp only); repeat (first | (simp only [List.filterMap_cons]) | (simp only [List.filterMap_nil]) | (simp only [List.getElem?_toArray]) | (simp only [List.getElem?_cons_succ]) | (simp only [List.getElem?_cons_zero]) | (simp only [List.reverse_cons]) | (simp only [List.reverse_nil]) | (simp only [List.nil_append]) | (simp only [List.cons_append]))
  repeat (first
      | (first | (refine g_plain rfl ?_) | (refine g_yes rfl rfl rfl (by simp only [List.getElem?_toArray, List.getElem?_cons_succ, List.getElem?_cons_zero]; rfl) (by with_reducible constructor) ?_)
         apply Exists.intro; refine ⟨?_, ?_⟩
         focus (intro wq hq0; (first | have hq : Own _ _ _ wq := hq0 | have hq : Own _ _ _ wq := hq0.1 | skip); first | ((with_reducible show givesAt _ ({ dst := _, op := Op.load _ _, type := _, pos := _, after := _, guard := _ } : Oper) _ _ _); first | (exact givesAt_rd rfl (by rfl) (by first | exact rd_1 (by repeat constructor) (by first | rfl | assumption) | exact rd_w (by repeat constructor) (by rfl) | exact rd_o (by assumption) (by rfl) (by first | exact nmn | assumption | simp) | exact rd_h (by assumption) (by rfl) (by first | exact nmn | assumption | simp) | exact rd_1o (by assumption) (by first | exact nmn | assumption | simp) | exact rd_1h (by assumption) (by first | rfl | assumption) (by first | exact nmn | assumption | simp)) hq)) | (go_simp; first | (with_reducible rfl)))
         simp only [Act.put, List.setIfInBounds_toArray]; (try simp only [List.set_cons_succ]); (try simp only [List.set_cons_zero]))
      | (refine g_no rfl rfl rfl (by simp only [List.getElem?_toArray, List.getElem?_cons_succ, List.getElem?_cons_zero]; rfl) (by with_reducible constructor) ?_; simp only [Act.put, List.setIfInBounds_toArray]; (try simp only [List.set_cons_succ]); (try simp only [List.set_cons_zero])))
  refine g_nil ?_
  clear hS hcl
  intro hcl ww hS
  (try simp only [Act.put]); (try simp only [List.setIfInBounds_toArray]); (try simp only [List.set_cons_succ]); (try simp only [List.set_cons_zero])
  refine own_hard (D := []) (W := w) 12 hcl (by simp only [List.getElem?_toArray, List.getElem?_cons_succ, List.getElem?_cons_zero]; rfl) (by kernel_rfl) (by kernel_rfl) ?_
  refine own_store1 (v := v2) rfl _ _ _ rfl rfl rfl hX2.one hS at0 ot_glyphs (by simp) ?_
  clear hS
  intro wi hS
  (try simp only [List.set_cons_zero] at hS)
  refine wpList_nil ⟨rfl, _, hS, ?_⟩
  clear hS hcl
  intro hcl wj hS
  refine own_done (by kernel_rfl) ?_
  go_upto_region 8 with (first | (refine own_unguard (by rfl) ?_) | (refine w_ld rfl _ rfl (by rfl) (by first | exact rd_1 (by repeat constructor) (by first | rfl | assumption) | exact rd_w (by repeat constructor) (by rfl) | exact rd_o (by assumption) (by rfl) (by first | exact nmn | assumption | simp) | exact rd_h (by assumption) (by rfl) (by first | exact nmn | assumption | simp) | exact rd_1o (by assumption) (by first | exact nmn | assumption | simp) | exact rd_1h (by assumption) (by first | rfl | assumption) (by first | exact nmn | assumption | simp)) hS ?_) | (refine own_box rfl _ _ rfl (by rfl) hS ?_; clear hS; (try clear ww); intro bb ww hS) | (refine w_al rfl rfl hS ?_; clear hS; (try clear ww); intro bb ww hS) | (refine w_st rfl _ _ rfl (by rfl) (by rfl) (by repeat constructor) (by rfl) (by rfl) (by first | rfl | assumption) hS ?_; clear hS; (try clear ww); intro ww hS) | (refine w_s1 rfl _ _ rfl (by rfl) (by repeat constructor) (by first | exact .c | exact .t rfl) (by rfl) (by repeat constructor) hS ?_; clear hS; (try clear ww); intro ww hS))
  have HX2 := Lib.hid hX2
  clear hX2
  (try simp only [Act.put]); (try simp only [List.setIfInBounds_toArray]); (try simp only [List.set_cons_succ]); (try simp only [List.set_cons_zero])
  obtain ⟨adx, hadx⟩ : ∃ ad' : Addr, ad' = if gc = i + 1 then (⟨gb, go, none⟩ : Addr) else Addr.add ⟨gb, go, none⟩ ((i + 1) * 6) := ⟨_, rfl⟩
  refine own_any hS [11, 13] 14 (by kernel_rfl) (by kernel_rfl) ?_
  clear hS
  intro hcl ww hS
  refine own_batch hS [1, 2, 3, 4, 6, 7, 8, 9, 10] 5 rfl hcl (by kernel_rfl) ?_
  (try simp only); repeat (first | (simp only [List.filterMap_cons]) | (simp only [List.filterMap_nil]) | (simp only [List.getElem?_toArray]) | (simp only [List.getElem?_cons_succ]) | (simp only [List.getElem?_cons_zero]) | (simp only [List.reverse_cons]) | (simp only [List.reverse_nil]) | (simp only [List.nil_append]) | (simp only [List.cons_append]))
  repeat (first
      | (first | (refine g_plain rfl ?_) | (refine g_yes rfl rfl rfl (by simp only [List.getElem?_toArray, List.getElem?_cons_succ, List.getElem?_cons_zero]; rfl) (by with_reducible constructor) ?_)
         apply Exists.intro; refine ⟨?_, ?_⟩
         focus (intro wq hq0; (first | have hq : Own _ _ _ wq := hq0 | have hq : Own _ _ _ wq := hq0.1 | skip); first | ((with_reducible show givesAt _ ({ dst := _, op := Op.load _ _, type := _, pos := _, after := _, guard := _ } : Oper) _ _ _); first | (exact givesAt_rd rfl (by rfl) (by first | exact rd_1 (by repeat constructor) (by first | rfl | assumption) | exact rd_w (by repeat constructor) (by rfl) | exact rd_o (by assumption) (by rfl) (by first | exact nmn | assumption | simp) | exact rd_h (by assumption) (by rfl) (by first | exact nmn | assumption | simp) | exact rd_1o (by assumption) (by first | exact nmn | assumption | simp) | exact rd_1h (by assumption) (by first | rfl | assumption) (by first | exact nmn | assumption | simp)) hq)) | (exact givesAt_to (i := i) el_glyph rfl (by rfl) (by rfl) rfl (by omega)) | (exact givesAt_from (l := i + 1) el_glyph rfl (by rfl) (by rfl) (by omega) (by omega) hadx) | (go_simp; first | (with_reducible rfl)))
         simp only [Act.put, List.setIfInBounds_toArray]; (try simp only [List.set_cons_succ]); (try simp only [List.set_cons_zero]))
      | (refine g_no rfl rfl rfl (by simp only [List.getElem?_toArray, List.getElem?_cons_succ, List.getElem?_cons_zero]; rfl) (by with_reducible constructor) ?_; simp only [Act.put, List.setIfInBounds_toArray]; (try simp only [List.set_cons_succ]); (try simp only [List.set_cons_zero])))
  refine g_nil ?_
  clear hS hcl
  intro hcl ww hS
  (try simp only [Act.put]); (try simp only [List.setIfInBounds_toArray]); (try simp only [List.set_cons_succ]); (try simp only [List.set_cons_zero])
  refine own_soft hS 0 hcl (by simp only [List.getElem?_toArray, List.getElem?_cons_succ, List.getElem?_cons_zero]; rfl) (by kernel_rfl) ?_
  have hO := hS
  clear hS
  intro hS
  refine own_buildEmpty rfl 33 23 rfl hS Try.underlying33 (by kernel_rfl) ?_
  clear hS
  intro b0 wb hS
  refine wpList_nil ⟨rfl, _, hS, ?_⟩
  clear hS hO hcl
  intro hcl wc hS
  (try simp only [Act.put]); (try simp only [List.setIfInBounds_toArray]); (try simp only [List.set_cons_succ]); (try simp only [List.set_cons_zero])
  have hC := glys_cells (HF.out.glys.own hS)
  refine own_soft hS 5 hcl (by simp only [List.getElem?_toArray, List.getElem?_cons_succ, List.getElem?_cons_zero]; rfl) (by kernel_rfl) ?_
  have hO := hS
  clear hS
  intro hS
  refine own_append rfl _ _ _ rfl (size := 6) (n := 0) (xs := []) (X := []) (L := []) ⟨rfl, .inl ⟨_, .inr ⟨b0, 0, rfl⟩, rfl, rfl, rfl⟩⟩ rfl (news := (gs.take i).flatMap Gly.cells) rfl hS (fun j u hj => by rw [Addr.add_lit]; exact glys_take i hC j u hj) (by rw [flat_len (f := Gly.cells) (size := 6) (fun _ => rfl), List.length_take, Nat.min_eq_left (by omega)]) (glys_one _) el_glyph (by decide) (by simp only [maxLen]; omega) (by omega) ?_
  clear hS hC
  intro v1 X1 wd hS hX1
  refine wpList_nil ⟨rfl, _, hS, ?_⟩
  clear hS hO hcl
  intro hcl we hS
  have hX1 := (show Sl 6 i v1 ((gs.take i).flatMap Gly.cells) X1 by simpa using hX1)
  have hC := glys_drop (i + 1) (show i + 1 ≤ gs.length by omega) (glys_cells (HF.out.glys.own hS))
  have hS := hS.perm (List.perm_append_comm (l₁ := X1))
  (try simp only [List.nil_append, List.cons_append] at hS)
  (try simp only [Act.put]); (try simp only [List.setIfInBounds_toArray]); (try simp only [List.set_cons_succ]); (try simp only [List.set_cons_zero])
  refine own_hard (D := []) (W := w) 11 hcl (by simp only [List.getElem?_toArray, List.getElem?_cons_succ, List.getElem?_cons_zero]; rfl) (by kernel_rfl) (by kernel_rfl) ?_
  refine own_append rfl _ _ _ rfl (m := gs.length - (i + 1)) (news := (gs.drop (i + 1)).flatMap Gly.cells) hX1 rfl rfl (show Own [] w ((_ :: _ :: _ :: _ :: X2) ++ X1) we from hS) (fun j u hj => ?_) (by rw [flat_len (f := Gly.cells) (size := 6) (fun _ => rfl), List.length_drop]) (glys_one _) el_glyph (by decide) (by simp only [maxLen]; omega) (by omega) ?_
  · by_cases hce : gc = i + 1
    · have : gs.drop (i + 1) = [] := List.drop_eq_nil_of_le (by omega)
      rw [this] at hj
      simp at hj
    · rw [hadx, if_neg hce, Addr.add_lit, Addr.add_lit]
      exact hC j u hj
  clear hS hX1 hC
  intro v3 X3 wg hS hX3
  refine wpList_nil ⟨rfl, _, hS, ?_⟩
  clear hS hcl
  intro hcl wh hS
  (try simp only [List.nil_append, List.cons_append] at hS)
  have hS := hS.forget (List.sublist_cons_self _ _)
  (try simp only [Act.put]); (try simp only [List.setIfInBounds_toArray]); (try simp only [List.set_cons_succ]); (try simp only [List.set_cons_zero])
  refine own_batch hS [12] 1 rfl hcl (by kernel_rfl) ?_
  (try simp only); repeat (first | (simp only [List.filterMap_cons]) | (simp only [List.filterMap_nil]) | (simp only [List.getElem?_toArray]) | (simp only [List.getElem?_cons_succ]) | (simp only [List.getElem?_cons_zero]) | (simp only [List.reverse_cons]) | (simp only [List.reverse_nil]) | (simp only [List.nil_append]) | (simp only [List.cons_append]))
  repeat (first
      | (first | (refine g_plain rfl ?_) | (refine g_yes rfl rfl rfl (by simp only [List.getElem?_toArray, List.getElem?_cons_succ, List.getElem?_cons_zero]; rfl) (by with_reducible constructor) ?_)
         apply Exists.intro; refine ⟨?_, ?_⟩
         focus (intro wq hq0; (first | have hq : Own _ _ _ wq := hq0 | have hq : Own _ _ _ wq := hq0.1 | skip); first | ((with_reducible show givesAt _ ({ dst := _, op := Op.load _ _, type := _, pos := _, after := _, guard := _ } : Oper) _ _ _); first | (exact givesAt_rd rfl (by rfl) (by first | exact rd_1 (by repeat constructor) (by first | rfl | assumption) | exact rd_w (by repeat constructor) (by rfl) | exact rd_o (by assumption) (by rfl) (by first | exact nmn | assumption | simp) | exact rd_h (by assumption) (by rfl) (by first | exact nmn | assumption | simp) | exact rd_1o (by assumption) (by first | exact nmn | assumption | simp) | exact rd_1h (by assumption) (by first | rfl | assumption) (by first | exact nmn | assumption | simp)) hq)) | (go_simp; first | (with_reducible rfl)))
         simp only [Act.put, List.setIfInBounds_toArray]; (try simp only [List.set_cons_succ]); (try simp only [List.set_cons_zero]))
      | (refine g_no rfl rfl rfl (by simp only [List.getElem?_toArray, List.getElem?_cons_succ, List.getElem?_cons_zero]; rfl) (by with_reducible constructor) ?_; simp only [Act.put, List.setIfInBounds_toArray]; (try simp only [List.set_cons_succ]); (try simp only [List.set_cons_zero])))
  refine g_nil ?_
  clear hS hcl
  intro hcl ww hS
  (try simp only [Act.put]); (try simp only [List.setIfInBounds_toArray]); (try simp only [List.set_cons_succ]); (try simp only [List.set_cons_zero])
  refine own_hard (D := []) (W := w) 13 hcl (by simp only [List.getElem?_toArray, List.getElem?_cons_succ, List.getElem?_cons_zero]; rfl) (by kernel_rfl) (by kernel_rfl) ?_
  refine own_store1 (v := v3) rfl _ _ _ rfl rfl rfl hX3.one hS at1 ot_glyphs (by simp) ?_
  clear hS
  intro wi hS
  (try simp only [List.set_cons_succ, List.set_cons_zero] at hS)
  refine wpList_nil ⟨rfl, _, hS, ?_⟩
  clear hS hcl
  intro hcl wj hS
  refine own_done (by kernel_rfl) ?_
  have HX3 := Lib.hid hX3
  clear hX3
  (try simp only [Act.put]); (try simp only [List.setIfInBounds_toArray]); (try simp only [List.set_cons_succ]); (try simp only [List.set_cons_zero])
  go_wp2_with (first | (refine own_unguard (by rfl) ?_) | (refine w_ld rfl _ rfl (by rfl) (by first | exact rd_1 (by repeat constructor) (by first | rfl | assumption) | exact rd_w (by repeat constructor) (by rfl) | exact rd_o (by assumption) (by rfl) (by first | exact nmn | assumption | simp) | exact rd_h (by assumption) (by rfl) (by first | exact nmn | assumption | simp) | exact rd_1o (by assumption) (by first | exact nmn | assumption | simp) | exact rd_1h (by assumption) (by first | rfl | assumption) (by first | exact nmn | assumption | simp)) hS ?_) | (refine own_box rfl _ _ rfl (by rfl) hS ?_; clear hS; (try clear ww); intro bb ww hS) | (refine w_al rfl rfl hS ?_; clear hS; (try clear ww); intro bb ww hS) | (refine w_st rfl _ _ rfl (by rfl) (by rfl) (by repeat constructor) (by rfl) (by rfl) (by first | rfl | assumption) hS ?_; clear hS; (try clear ww); intro ww hS) | (refine w_s1 rfl _ _ rfl (by rfl) (by repeat constructor) (by first | exact .c | exact .t rfl) (by rfl) (by repeat constructor) hS ?_; clear hS; (try clear ww); intro ww hS))
  have hN := fewB_iff.1 HE.out
  simp only at hN
  have hss := hN.2.1
  have HN := Lib.hid hN.2.2
  have hgn : w.cell? ⟨gb, go + i * 6, none⟩ = some (.string g.name) := hgr 0 _ rfl
  clear hN hgr d0 d1 d2 d4 d5 e1 e2 e3 hadx
  obtain ⟨L0, HL, hS⟩ := hS.named
  go_loopw [8, 9] (fun v z wr => ∃ (k : Nat) (B : Bool), k ≤ ss.length ∧ z = .int .i64 k ∧ v = .bool B ∧ B = ndU g.name ss k ∧ Own [] w L0 wr) (fun _ z _ => ss.length - (intOf z).toNat)
  case atStart => exact ⟨0, _, Nat.zero_le _, rfl, rfl, rfl, hS⟩
  case round =>
    clear hS
    obtain ⟨k, B0, hk, rfl, rfl, hB0, hS⟩ := hrel
    obtain rfl := HL.out
    clear HL
    by_cases hlt : k < ss.length
    · obtain ⟨t, ht⟩ : ∃ t, ss[k]? = some t := ⟨ss[k], by simp [hlt]⟩
      obtain ⟨sb, so, hx, hr0⟩ := HF.out.strs.get ht
      obtain rfl : sx = some ⟨sb, so, none⟩ := hx
      have hT := HF.out.sok t (List.mem_of_getElem? ht)
      have hl := HN.out t (List.mem_of_getElem? ht)
      obtain ⟨n1, x1, c3, z1, p1, d1, l1, o1⟩ := t
      simp only at hl
      obtain ⟨hl1, hl2⟩ := hl
      have s1 : w.cell? ⟨sb, so + k * 4 + 1, none⟩ = some (.slice x1 z1.length c3) := hr0 1 _ rfl
      have s2 : w.cell? ⟨sb, so + k * 4 + 2, none⟩ = some (.slice p1 l1.length d1) := hr0 2 _ rfl
      clear hr0
      go_wp2_with (first | (refine own_unguard (by rfl) ?_) | (refine w_ld rfl _ rfl (by rfl) (by first | exact rd_1 (by repeat constructor) (by first | rfl | assumption) | exact rd_w (by repeat constructor) (by rfl) | exact rd_o (by assumption) (by rfl) (by first | exact nmn | assumption | simp) | exact rd_h (by assumption) (by rfl) (by first | exact nmn | assumption | simp) | exact rd_1o (by assumption) (by first | exact nmn | assumption | simp) | exact rd_1h (by assumption) (by first | rfl | assumption) (by first | exact nmn | assumption | simp)) hS ?_) | (refine own_box rfl _ _ rfl (by rfl) hS ?_; clear hS; (try clear ww); intro bb ww hS) | (refine w_al rfl rfl hS ?_; clear hS; (try clear ww); intro bb ww hS) | (refine w_st rfl _ _ rfl (by rfl) (by rfl) (by repeat constructor) (by rfl) (by rfl) (by first | rfl | assumption) hS ?_; clear hS; (try clear ww); intro ww hS) | (refine w_s1 rfl _ _ rfl (by rfl) (by repeat constructor) (by first | exact .c | exact .t rfl) (by rfl) (by repeat constructor) hS ?_; clear hS; (try clear ww); intro ww hS))
      obtain ⟨L1, HL1, hS⟩ := hS.named
      go_loopw [8, 10] (fun v z wr => ∃ (j : Nat) (B : Bool), j ≤ z1.length ∧ z = .int .i64 j ∧ v = .bool B ∧ B = (ndU g.name ss k || (z1.take j).any (fun q => q.toList == g.name.toList)) ∧ Own [] w L1 wr) (fun _ z _ => z1.length - (intOf z).toNat)
      case atStart => exact ⟨0, _, Nat.zero_le _, rfl, rfl, by simp [hB0], hS⟩
      case round =>
        clear hS
        obtain ⟨j, B, hj, rfl, rfl, hB, hS⟩ := hrel
        obtain rfl := HL1.out
        clear HL1
        by_cases hlt2 : j < z1.length
        · obtain ⟨q, hq⟩ : ∃ q, z1[j]? = some q := ⟨z1[j], by simp [hlt2]⟩
          obtain ⟨qb, qo, hqx, hqr⟩ := hT.sizes.get hq
          simp only at hqx
          subst hqx
          have q0 : w.cell? ⟨qb, qo + j, none⟩ = some (.string q) := by simpa using hqr 0 _ rfl
          have HBn := Lib.hid (show (ndU g.name ss k || (z1.take (j + 1)).any (fun q => q.toList == g.name.toList)) = (B || (q.toList == g.name.toList)) by rw [any_next hq, hB]; simp only [Bool.or_assoc])
          clear hB hq hqr
          cases B
          · skip
            go_wp2_with (first | (refine own_unguard (by rfl) ?_) | (refine w_ld rfl _ rfl (by rfl) (by first | exact rd_1 (by repeat constructor) (by first | rfl | assumption) | exact rd_w (by repeat constructor) (by rfl) | exact rd_o (by assumption) (by rfl) (by first | exact nmn | assumption | simp) | exact rd_h (by assumption) (by rfl) (by first | exact nmn | assumption | simp) | exact rd_1o (by assumption) (by first | exact nmn | assumption | simp) | exact rd_1h (by assumption) (by first | rfl | assumption) (by first | exact nmn | assumption | simp)) hS ?_) | (refine own_box rfl _ _ rfl (by rfl) hS ?_; clear hS; (try clear ww); intro bb ww hS) | (refine w_al rfl rfl hS ?_; clear hS; (try clear ww); intro bb ww hS) | (refine w_st rfl _ _ rfl (by rfl) (by rfl) (by repeat constructor) (by rfl) (by rfl) (by first | rfl | assumption) hS ?_; clear hS; (try clear ww); intro ww hS) | (refine w_s1 rfl _ _ rfl (by rfl) (by repeat constructor) (by first | exact .c | exact .t rfl) (by rfl) (by repeat constructor) hS ?_; clear hS; (try clear ww); intro ww hS))
            refine own_region hS (by kernel_rfl) (by kernel_rfl) ?_
            (try simp only); (try simp only [List.drop_succ_cons]); (try simp only [List.drop_zero]); (try simp only [List.take_succ_cons]); (try simp only [List.take_zero])
            repeat (first
                | (first | (refine quiet_plain rfl ?_) | (refine quiet_yes rfl rfl rfl (by simp only [List.getElem?_toArray, List.getElem?_cons_succ, List.getElem?_cons_zero]; rfl) (by with_reducible constructor) ?_)
                   apply Exists.intro; refine ⟨?_, ?_⟩
                   focus (intro wq hq0; have hq : Own _ _ _ wq := hq0; first | (exact quietAt_rd rfl (by rfl) (by first | exact rd_1 (by repeat constructor) (by first | rfl | assumption) | exact rd_w (by repeat constructor) (by rfl) | exact rd_o (by assumption) (by rfl) (by first | exact nmn | assumption | simp) | exact rd_h (by assumption) (by rfl) (by first | exact nmn | assumption | simp) | exact rd_1o (by assumption) (by first | exact nmn | assumption | simp) | exact rd_1h (by assumption) (by first | rfl | assumption) (by first | exact nmn | assumption | simp)) hq) | (go_simp; first | (with_reducible rfl)))
                   simp only [Act.put, List.setIfInBounds_toArray, List.set_cons_zero, List.set_cons_succ])
                | (refine quiet_no rfl rfl rfl (by simp only [List.getElem?_toArray, List.getElem?_cons_succ, List.getElem?_cons_zero]; rfl) (by with_reducible constructor) ?_; simp only [Act.put, List.setIfInBounds_toArray, List.set_cons_zero, List.set_cons_succ]))
            refine wpQuiet_nil ?_
            clear hS
            intro ww hS
            go_wp2_with (first | (refine own_unguard (by rfl) ?_) | (refine w_ld rfl _ rfl (by rfl) (by first | exact rd_1 (by repeat constructor) (by first | rfl | assumption) | exact rd_w (by repeat constructor) (by rfl) | exact rd_o (by assumption) (by rfl) (by first | exact nmn | assumption | simp) | exact rd_h (by assumption) (by rfl) (by first | exact nmn | assumption | simp) | exact rd_1o (by assumption) (by first | exact nmn | assumption | simp) | exact rd_1h (by assumption) (by first | rfl | assumption) (by first | exact nmn | assumption | simp)) hS ?_) | (refine own_box rfl _ _ rfl (by rfl) hS ?_; clear hS; (try clear ww); intro bb ww hS) | (refine w_al rfl rfl hS ?_; clear hS; (try clear ww); intro bb ww hS) | (refine w_st rfl _ _ rfl (by rfl) (by rfl) (by repeat constructor) (by rfl) (by rfl) (by first | rfl | assumption) hS ?_; clear hS; (try clear ww); intro ww hS) | (refine w_s1 rfl _ _ rfl (by rfl) (by repeat constructor) (by first | exact .c | exact .t rfl) (by rfl) (by repeat constructor) hS ?_; clear hS; (try clear ww); intro ww hS))
            go_roundw
            case rel => exact ⟨j + 1, _, hlt2, by go_num, rfl, by rw [HBn.out, Bool.false_or], hS⟩
            case measure => exact loop_meas hlt2
          · skip
            go_wp2_with (first | (refine own_unguard (by rfl) ?_) | (refine w_ld rfl _ rfl (by rfl) (by first | exact rd_1 (by repeat constructor) (by first | rfl | assumption) | exact rd_w (by repeat constructor) (by rfl) | exact rd_o (by assumption) (by rfl) (by first | exact nmn | assumption | simp) | exact rd_h (by assumption) (by rfl) (by first | exact nmn | assumption | simp) | exact rd_1o (by assumption) (by first | exact nmn | assumption | simp) | exact rd_1h (by assumption) (by first | rfl | assumption) (by first | exact nmn | assumption | simp)) hS ?_) | (refine own_box rfl _ _ rfl (by rfl) hS ?_; clear hS; (try clear ww); intro bb ww hS) | (refine w_al rfl rfl hS ?_; clear hS; (try clear ww); intro bb ww hS) | (refine w_st rfl _ _ rfl (by rfl) (by rfl) (by repeat constructor) (by rfl) (by rfl) (by first | rfl | assumption) hS ?_; clear hS; (try clear ww); intro ww hS) | (refine w_s1 rfl _ _ rfl (by rfl) (by repeat constructor) (by first | exact .c | exact .t rfl) (by rfl) (by repeat constructor) hS ?_; clear hS; (try clear ww); intro ww hS))
            refine own_region hS (by kernel_rfl) (by kernel_rfl) ?_
            (try simp only); (try simp only [List.drop_succ_cons]); (try simp only [List.drop_zero]); (try simp only [List.take_succ_cons]); (try simp only [List.take_zero])
            repeat (first
                | (first | (refine quiet_plain rfl ?_) | (refine quiet_yes rfl rfl rfl (by simp only [List.getElem?_toArray, List.getElem?_cons_succ, List.getElem?_cons_zero]; rfl) (by with_reducible constructor) ?_)
                   apply Exists.intro; refine ⟨?_, ?_⟩
                   focus (intro wq hq0; have hq : Own _ _ _ wq := hq0; first | (exact quietAt_rd rfl (by rfl) (by first | exact rd_1 (by repeat constructor) (by first | rfl | assumption) | exact rd_w (by repeat constructor) (by rfl) | exact rd_o (by assumption) (by rfl) (by first | exact nmn | assumption | simp) | exact rd_h (by assumption) (by rfl) (by first | exact nmn | assumption | simp) | exact rd_1o (by assumption) (by first | exact nmn | assumption | simp) | exact rd_1h (by assumption) (by first | rfl | assumption) (by first | exact nmn | assumption | simp)) hq) | (go_simp; first | (with_reducible rfl)))
                   simp only [Act.put, List.setIfInBounds_toArray, List.set_cons_zero, List.set_cons_succ])
                | (refine quiet_no rfl rfl rfl (by simp only [List.getElem?_toArray, List.getElem?_cons_succ, List.getElem?_cons_zero]; rfl) (by with_reducible constructor) ?_; simp only [Act.put, List.setIfInBounds_toArray, List.set_cons_zero, List.set_cons_succ]))
            refine wpQuiet_nil ?_
            clear hS
            intro ww hS
            go_wp2_with (first | (refine own_unguard (by rfl) ?_) | (refine w_ld rfl _ rfl (by rfl) (by first | exact rd_1 (by repeat constructor) (by first | rfl | assumption) | exact rd_w (by repeat constructor) (by rfl) | exact rd_o (by assumption) (by rfl) (by first | exact nmn | assumption | simp) | exact rd_h (by assumption) (by rfl) (by first | exact nmn | assumption | simp) | exact rd_1o (by assumption) (by first | exact nmn | assumption | simp) | exact rd_1h (by assumption) (by first | rfl | assumption) (by first | exact nmn | assumption | simp)) hS ?_) | (refine own_box rfl _ _ rfl (by rfl) hS ?_; clear hS; (try clear ww); intro bb ww hS) | (refine w_al rfl rfl hS ?_; clear hS; (try clear ww); intro bb ww hS) | (refine w_st rfl _ _ rfl (by rfl) (by rfl) (by repeat constructor) (by rfl) (by rfl) (by first | rfl | assumption) hS ?_; clear hS; (try clear ww); intro ww hS) | (refine w_s1 rfl _ _ rfl (by rfl) (by repeat constructor) (by first | exact .c | exact .t rfl) (by rfl) (by repeat constructor) hS ?_; clear hS; (try clear ww); intro ww hS))
            go_roundw
            case rel => exact ⟨j + 1, _, hlt2, by go_num, rfl, by rw [HBn.out, Bool.true_or], hS⟩
            case measure => exact loop_meas hlt2
        · obtain rfl : j = z1.length := by omega
          rw [List.take_length] at hB
          have hB1 := Lib.hid hB
          clear hB
          go_wp2_with (first | (refine own_unguard (by rfl) ?_) | (refine w_ld rfl _ rfl (by rfl) (by first | exact rd_1 (by repeat constructor) (by first | rfl | assumption) | exact rd_w (by repeat constructor) (by rfl) | exact rd_o (by assumption) (by rfl) (by first | exact nmn | assumption | simp) | exact rd_h (by assumption) (by rfl) (by first | exact nmn | assumption | simp) | exact rd_1o (by assumption) (by first | exact nmn | assumption | simp) | exact rd_1h (by assumption) (by first | rfl | assumption) (by first | exact nmn | assumption | simp)) hS ?_) | (refine own_box rfl _ _ rfl (by rfl) hS ?_; clear hS; (try clear ww); intro bb ww hS) | (refine w_al rfl rfl hS ?_; clear hS; (try clear ww); intro bb ww hS) | (refine w_st rfl _ _ rfl (by rfl) (by rfl) (by repeat constructor) (by rfl) (by rfl) (by first | rfl | assumption) hS ?_; clear hS; (try clear ww); intro ww hS) | (refine w_s1 rfl _ _ rfl (by rfl) (by repeat constructor) (by first | exact .c | exact .t rfl) (by rfl) (by repeat constructor) hS ?_; clear hS; (try clear ww); intro ww hS))
          obtain ⟨L1, HL1, hS⟩ := hS.named
          go_loopw [8, 11] (fun v z wr => ∃ (j : Nat) (B : Bool), j ≤ l1.length ∧ z = .int .i64 j ∧ v = .bool B ∧ B = ((ndU g.name ss k || z1.any (fun q => q.toList == g.name.toList)) || (l1.take j).any (fun q => q.name.toList == g.name.toList)) ∧ Own [] w L1 wr) (fun _ z _ => l1.length - (intOf z).toNat)
          case atStart => exact ⟨0, _, Nat.zero_le _, rfl, rfl, by rw [List.take_zero, List.any_nil, Bool.or_false]; exact hB1.out, hS⟩
          case round =>
            clear hS
            obtain ⟨j, B, hj, rfl, rfl, hB, hS⟩ := hrel
            obtain rfl := HL1.out
            clear HL1
            by_cases hlt2 : j < l1.length
            · obtain ⟨q, hq⟩ : ∃ q, l1[j]? = some q := ⟨l1[j], by simp [hlt2]⟩
              obtain ⟨qb, qo, hqx, hqr⟩ := hT.parts.get hq
              simp only at hqx
              subst hqx
              have q0 : w.cell? ⟨qb, qo + j * 2, none⟩ = some (.string q.name) := hqr 0 _ rfl
              have HBn := Lib.hid (show ((ndU g.name ss k || z1.any (fun q => q.toList == g.name.toList)) || (l1.take (j + 1)).any (fun q => q.name.toList == g.name.toList)) = (B || (q.name.toList == g.name.toList)) by rw [any_next hq, hB]; simp only [Bool.or_assoc])
              clear hB hq hqr
              cases B
              · skip
                go_wp2_with (first | (refine own_unguard (by rfl) ?_) | (refine w_ld rfl _ rfl (by rfl) (by first | exact rd_1 (by repeat constructor) (by first | rfl | assumption) | exact rd_w (by repeat constructor) (by rfl) | exact rd_o (by assumption) (by rfl) (by first | exact nmn | assumption | simp) | exact rd_h (by assumption) (by rfl) (by first | exact nmn | assumption | simp) | exact rd_1o (by assumption) (by first | exact nmn | assumption | simp) | exact rd_1h (by assumption) (by first | rfl | assumption) (by first | exact nmn | assumption | simp)) hS ?_) | (refine own_box rfl _ _ rfl (by rfl) hS ?_; clear hS; (try clear ww); intro bb ww hS) | (refine w_al rfl rfl hS ?_; clear hS; (try clear ww); intro bb ww hS) | (refine w_st rfl _ _ rfl (by rfl) (by rfl) (by repeat constructor) (by rfl) (by rfl) (by first | rfl | assumption) hS ?_; clear hS; (try clear ww); intro ww hS) | (refine w_s1 rfl _ _ rfl (by rfl) (by repeat constructor) (by first | exact .c | exact .t rfl) (by rfl) (by repeat constructor) hS ?_; clear hS; (try clear ww); intro ww hS))
                refine own_region hS (by kernel_rfl) (by kernel_rfl) ?_
                (try simp only); (try simp only [List.drop_succ_cons]); (try simp only [List.drop_zero]); (try simp only [List.take_succ_cons]); (try simp only [List.take_zero])
                repeat (first
                    | (first | (refine quiet_plain rfl ?_) | (refine quiet_yes rfl rfl rfl (by simp only [List.getElem?_toArray, List.getElem?_cons_succ, List.getElem?_cons_zero]; rfl) (by with_reducible constructor) ?_)
                       apply Exists.intro; refine ⟨?_, ?_⟩
                       focus (intro wq hq0; have hq : Own _ _ _ wq := hq0; first | (exact quietAt_rd rfl (by rfl) (by first | exact rd_1 (by repeat constructor) (by first | rfl | assumption) | exact rd_w (by repeat constructor) (by rfl) | exact rd_o (by assumption) (by rfl) (by first | exact nmn | assumption | simp) | exact rd_h (by assumption) (by rfl) (by first | exact nmn | assumption | simp) | exact rd_1o (by assumption) (by first | exact nmn | assumption | simp) | exact rd_1h (by assumption) (by first | rfl | assumption) (by first | exact nmn | assumption | simp)) hq) | (go_simp; first | (with_reducible rfl)))
                       simp only [Act.put, List.setIfInBounds_toArray, List.set_cons_zero, List.set_cons_succ])
                    | (refine quiet_no rfl rfl rfl (by simp only [List.getElem?_toArray, List.getElem?_cons_succ, List.getElem?_cons_zero]; rfl) (by with_reducible constructor) ?_; simp only [Act.put, List.setIfInBounds_toArray, List.set_cons_zero, List.set_cons_succ]))
                refine wpQuiet_nil ?_
                clear hS
                intro ww hS
                go_wp2_with (first | (refine own_unguard (by rfl) ?_) | (refine w_ld rfl _ rfl (by rfl) (by first | exact rd_1 (by repeat constructor) (by first | rfl | assumption) | exact rd_w (by repeat constructor) (by rfl) | exact rd_o (by assumption) (by rfl) (by first | exact nmn | assumption | simp) | exact rd_h (by assumption) (by rfl) (by first | exact nmn | assumption | simp) | exact rd_1o (by assumption) (by first | exact nmn | assumption | simp) | exact rd_1h (by assumption) (by first | rfl | assumption) (by first | exact nmn | assumption | simp)) hS ?_) | (refine own_box rfl _ _ rfl (by rfl) hS ?_; clear hS; (try clear ww); intro bb ww hS) | (refine w_al rfl rfl hS ?_; clear hS; (try clear ww); intro bb ww hS) | (refine w_st rfl _ _ rfl (by rfl) (by rfl) (by repeat constructor) (by rfl) (by rfl) (by first | rfl | assumption) hS ?_; clear hS; (try clear ww); intro ww hS) | (refine w_s1 rfl _ _ rfl (by rfl) (by repeat constructor) (by first | exact .c | exact .t rfl) (by rfl) (by repeat constructor) hS ?_; clear hS; (try clear ww); intro ww hS))
                go_roundw
                case rel => exact ⟨j + 1, _, hlt2, by go_num, rfl, by rw [HBn.out, Bool.false_or], hS⟩
                case measure => exact loop_meas hlt2
              · skip
                go_wp2_with (first | (refine own_unguard (by rfl) ?_) | (refine w_ld rfl _ rfl (by rfl) (by first | exact rd_1 (by repeat constructor) (by first | rfl | assumption) | exact rd_w (by repeat constructor) (by rfl) | exact rd_o (by assumption) (by rfl) (by first | exact nmn | assumption | simp) | exact rd_h (by assumption) (by rfl) (by first | exact nmn | assumption | simp) | exact rd_1o (by assumption) (by first | exact nmn | assumption | simp) | exact rd_1h (by assumption) (by first | rfl | assumption) (by first | exact nmn | assumption | simp)) hS ?_) | (refine own_box rfl _ _ rfl (by rfl) hS ?_; clear hS; (try clear ww); intro bb ww hS) | (refine w_al rfl rfl hS ?_; clear hS; (try clear ww); intro bb ww hS) | (refine w_st rfl _ _ rfl (by rfl) (by rfl) (by repeat constructor) (by rfl) (by rfl) (by first | rfl | assumption) hS ?_; clear hS; (try clear ww); intro ww hS) | (refine w_s1 rfl _ _ rfl (by rfl) (by repeat constructor) (by first | exact .c | exact .t rfl) (by rfl) (by repeat constructor) hS ?_; clear hS; (try clear ww); intro ww hS))
                refine own_region hS (by kernel_rfl) (by kernel_rfl) ?_
                (try simp only); (try simp only [List.drop_succ_cons]); (try simp only [List.drop_zero]); (try simp only [List.take_succ_cons]); (try simp only [List.take_zero])
                repeat (first
                    | (first | (refine quiet_plain rfl ?_) | (refine quiet_yes rfl rfl rfl (by simp only [List.getElem?_toArray, List.getElem?_cons_succ, List.getElem?_cons_zero]; rfl) (by with_reducible constructor) ?_)
                       apply Exists.intro; refine ⟨?_, ?_⟩
                       focus (intro wq hq0; have hq : Own _ _ _ wq := hq0; first | (exact quietAt_rd rfl (by rfl) (by first | exact rd_1 (by repeat constructor) (by first | rfl | assumption) | exact rd_w (by repeat constructor) (by rfl) | exact rd_o (by assumption) (by rfl) (by first | exact nmn | assumption | simp) | exact rd_h (by assumption) (by rfl) (by first | exact nmn | assumption | simp) | exact rd_1o (by assumption) (by first | exact nmn | assumption | simp) | exact rd_1h (by assumption) (by first | rfl | assumption) (by first | exact nmn | assumption | simp)) hq) | (go_simp; first | (with_reducible rfl)))
                       simp only [Act.put, List.setIfInBounds_toArray, List.set_cons_zero, List.set_cons_succ])
                    | (refine quiet_no rfl rfl rfl (by simp only [List.getElem?_toArray, List.getElem?_cons_succ, List.getElem?_cons_zero]; rfl) (by with_reducible constructor) ?_; simp only [Act.put, List.setIfInBounds_toArray, List.set_cons_zero, List.set_cons_succ]))
                refine wpQuiet_nil ?_
                clear hS
                intro ww hS
                go_wp2_with (first | (refine own_unguard (by rfl) ?_) | (refine w_ld rfl _ rfl (by rfl) (by first | exact rd_1 (by repeat constructor) (by first | rfl | assumption) | exact rd_w (by repeat constructor) (by rfl) | exact rd_o (by assumption) (by rfl) (by first | exact nmn | assumption | simp) | exact rd_h (by assumption) (by rfl) (by first | exact nmn | assumption | simp) | exact rd_1o (by assumption) (by first | exact nmn | assumption | simp) | exact rd_1h (by assumption) (by first | rfl | assumption) (by first | exact nmn | assumption | simp)) hS ?_) | (refine own_box rfl _ _ rfl (by rfl) hS ?_; clear hS; (try clear ww); intro bb ww hS) | (refine w_al rfl rfl hS ?_; clear hS; (try clear ww); intro bb ww hS) | (refine w_st rfl _ _ rfl (by rfl) (by rfl) (by repeat constructor) (by rfl) (by rfl) (by first | rfl | assumption) hS ?_; clear hS; (try clear ww); intro ww hS) | (refine w_s1 rfl _ _ rfl (by rfl) (by repeat constructor) (by first | exact .c | exact .t rfl) (by rfl) (by repeat constructor) hS ?_; clear hS; (try clear ww); intro ww hS))
                go_roundw
                case rel => exact ⟨j + 1, _, hlt2, by go_num, rfl, by rw [HBn.out, Bool.true_or], hS⟩
                case measure => exact loop_meas hlt2
            · obtain rfl : j = l1.length := by omega
              rw [List.take_length] at hB
              have HB2 := Lib.hid (show ndU g.name ss (k + 1) = B by rw [hB]; unfold ndU; rw [any_next ht]; simp [nd1, Bool.or_assoc])
              clear hB
              go_wp2_with (first | (refine own_unguard (by rfl) ?_) | (refine w_ld rfl _ rfl (by rfl) (by first | exact rd_1 (by repeat constructor) (by first | rfl | assumption) | exact rd_w (by repeat constructor) (by rfl) | exact rd_o (by assumption) (by rfl) (by first | exact nmn | assumption | simp) | exact rd_h (by assumption) (by rfl) (by first | exact nmn | assumption | simp) | exact rd_1o (by assumption) (by first | exact nmn | assumption | simp) | exact rd_1h (by assumption) (by first | rfl | assumption) (by first | exact nmn | assumption | simp)) hS ?_) | (refine own_box rfl _ _ rfl (by rfl) hS ?_; clear hS; (try clear ww); intro bb ww hS) | (refine w_al rfl rfl hS ?_; clear hS; (try clear ww); intro bb ww hS) | (refine w_st rfl _ _ rfl (by rfl) (by rfl) (by repeat constructor) (by rfl) (by rfl) (by first | rfl | assumption) hS ?_; clear hS; (try clear ww); intro ww hS) | (refine w_s1 rfl _ _ rfl (by rfl) (by repeat constructor) (by first | exact .c | exact .t rfl) (by rfl) (by repeat constructor) hS ?_; clear hS; (try clear ww); intro ww hS))
              go_roundw
              case rel => exact ⟨k + 1, _, hlt, by go_num, rfl, HB2.out.symm, hS⟩
              case measure => exact loop_meas hlt
    · obtain rfl : k = ss.length := by omega
      have HO := hS
      have hm1 := HG.out
      obtain ⟨y1, e1, rfl, hr1, hc1, hm1⟩ := Sl.rowAt HO (fun x hx => by simp [hx]) (show Sl 6 (gs ++ [g]).length v2 ((gs ++ [g]).flatMap Gly.cells) X2 by simpa using HX2.out) (fun _ => rfl) (by decide)
      obtain ⟨y3, e3, rfl, hr3, hc3, hm3⟩ := Sl.rowAt HO (fun x hx => by simp [hx]) (show Sl 6 (gs.take i ++ gs.drop (i + 1)).length v3 ((gs.take i ++ gs.drop (i + 1)).flatMap Gly.cells) X3 by rw [List.flatMap_append, List.length_append, List.length_take, List.length_drop, Nat.min_eq_left (by omega)]; exact HX3.out) (fun _ => rfl) (by decide)
      have hF1 := HF.out.below HO.below
      have hsub : ∀ x, x ∈ gs.take i ++ gs.drop (i + 1) → x ∈ gs := fun x hx => by
        rcases List.mem_append.1 hx with h | h
        · exact List.mem_of_mem_take h
        · exact List.mem_of_mem_drop h
      have hll : (gs.take i ++ gs.drop (i + 1)).length ≤ gs.length := by rw [List.length_append, List.length_take, List.length_drop]; omega
      have hD : FntOk wr ⟨y1, e1, gs ++ [g], sx, sc, ss, q0, q1, q2, q3, q4, q5, q6, q7, q8, q9, q10, q11, q12, q13, q14, q15, q16, q17, q18, q19⟩ := { glys := hr1, strs := hF1.strs, gok := fun x hx => hF1.gok x (by rcases List.mem_append.1 hx with h | h; exact h; exact (List.mem_singleton.1 h) ▸ List.mem_of_getElem? HG.out), sok := hF1.sok, glen := by have := hF1.glen; simp only [List.length_append, List.length_singleton, maxLen] at *; omega, slen := hF1.slen, gcap := ⟨hc1, fun _ => hm1⟩, scap := hF1.scap, prm := hF1.prm }
      have hE : FntOk wr ⟨y3, e3, gs.take i ++ gs.drop (i + 1), sx, sc, ss, q0, q1, q2, q3, q4, q5, q6, q7, q8, q9, q10, q11, q12, q13, q14, q15, q16, q17, q18, q19⟩ := { glys := hr3, strs := hF1.strs, gok := fun x hx => hF1.gok x (hsub x hx), sok := hF1.sok, glen := Nat.le_trans hll hF1.glen, slen := hF1.slen, gcap := ⟨hc3, fun _ => hm3⟩, scap := hF1.scap, prm := hF1.prm }
      have hvD : ¬ ValidF ⟨y1, e1, gs ++ [g], sx, sc, ss, q0, q1, q2, q3, q4, q5, q6, q7, q8, q9, q10, q11, q12, q13, q14, q15, q16, q17, q18, q19⟩ := fun h => double_bad HG.out h.2.2.2.1
      have hvE : ValidF ⟨y3, e3, gs.take i ++ gs.drop (i + 1), sx, sc, ss, q0, q1, q2, q3, q4, q5, q6, q7, q8, q9, q10, q11, q12, q13, q14, q15, q16, q17, q18, q19⟩ ↔ ¬ Needed ss g.name := by
        rw [← less_strs HG.out HV.out.2.2.2.1 HV.out.2.2.2.2]
        exact ⟨fun h => h.2.2.2.2, fun h => ⟨Nat.le_trans hll (by omega), HV.out.2.1, HV.out.2.2.1, less_glysOk HV.out.2.2.2.1, h⟩⟩
      have m6 := (HO.get at0).range
      have m7 := (HO.get at1).range
      have m8 : wr.cell? ⟨bb, 1, none⟩ = some (.slice sx ss.length sc) := (HO.get at2).range 1 _ rfl
      have hBB := HO.below
      have HD := Lib.hid (fun w' (hb : Below wr.heap.size wr w') => font_Valid_calls ⟨y1, e1, gs ++ [g], sx, sc, ss, q0, q1, q2, q3, q4, q5, q6, q7, q8, q9, q10, q11, q12, q13, q14, q15, q16, q17, q18, q19⟩ w' (hD.below hb) false (iff_f hvD))
      have HE2 := Lib.hid (fun w' (hb : Below wr.heap.size wr w') (v : Bool) (h : v = true ↔ ¬ Needed ss g.name) => font_Valid_calls ⟨y3, e3, gs.take i ++ gs.drop (i + 1), sx, sc, ss, q0, q1, q2, q3, q4, q5, q6, q7, q8, q9, q10, q11, q12, q13, q14, q15, q16, q17, q18, q19⟩ w' (hE.below hb) v (h.trans hvE.symm))
      rw [eq_comm] at hB0
      clear hS HO hr1 hr3 hc1 hc3 hm1 hm3 hF1 hsub hll hD hE hvD hvE HX2 HX3
      generalize gs ++ [g] = gd at *
      generalize gs.take i ++ gs.drop (i + 1) = gl at *
      have hS := own_start wr
      cases B0
      · have hn : ¬ Needed ss g.name := fun h => by rw [ndU_needed.2 h] at hB0; cases hB0
        have HE3 := Lib.hid (fun w' (hb : Below wr.heap.size wr w') => HE2.out w' hb true (iff_t hn))
        clear hn hB0
        go_wp2_with (first | (refine own_unguard (by rfl) ?_) | (go_at_call 22; refine own_calls hS (by first | exact HD.out _ hS.below | exact HE3.out _ hS.below) ?_; clear hS; (try clear ww); intro ww hS) | (refine w_ld rfl _ rfl (by rfl) (by first | exact rd_1 (by repeat constructor) (by first | rfl | assumption) | exact rd_w (by repeat constructor) (by rfl) | exact rd_o (by assumption) (by rfl) (by first | exact nmn | assumption | simp) | exact rd_h (by assumption) (by rfl) (by first | exact nmn | assumption | simp) | exact rd_1o (by assumption) (by first | exact nmn | assumption | simp) | exact rd_1h (by assumption) (by first | rfl | assumption) (by first | exact nmn | assumption | simp)) hS ?_) | (refine own_box rfl _ _ rfl (by rfl) hS ?_; clear hS; (try clear ww); intro bb ww hS) | (refine w_al rfl rfl hS ?_; clear hS; (try clear ww); intro bb ww hS) | (refine w_st rfl _ _ rfl (by rfl) (by rfl) (by repeat constructor) (by rfl) (by rfl) (by first | rfl | assumption) hS ?_; clear hS; (try clear ww); intro ww hS) | (refine w_s1 rfl _ _ rfl (by rfl) (by repeat constructor) (by first | exact .c | exact .t rfl) (by rfl) (by repeat constructor) hS ?_; clear hS; (try clear ww); intro ww hS))
        go_ret
        exact ⟨rfl, bthen hBB hS.below⟩
      · have hn : ¬ ¬ Needed ss g.name := fun h => h (ndU_needed.1 hB0)
        have HE3 := Lib.hid (fun w' (hb : Below wr.heap.size wr w') => HE2.out w' hb false (iff_f hn))
        clear hn hB0
        go_wp2_with (first | (refine own_unguard (by rfl) ?_) | (go_at_call 22; refine own_calls hS (by first | exact HD.out _ hS.below | exact HE3.out _ hS.below) ?_; clear hS; (try clear ww); intro ww hS) | (refine w_ld rfl _ rfl (by rfl) (by first | exact rd_1 (by repeat constructor) (by first | rfl | assumption) | exact rd_w (by repeat constructor) (by rfl) | exact rd_o (by assumption) (by rfl) (by first | exact nmn | assumption | simp) | exact rd_h (by assumption) (by rfl) (by first | exact nmn | assumption | simp) | exact rd_1o (by assumption) (by first | exact nmn | assumption | simp) | exact rd_1h (by assumption) (by first | rfl | assumption) (by first | exact nmn | assumption | simp)) hS ?_) | (refine own_box rfl _ _ rfl (by rfl) hS ?_; clear hS; (try clear ww); intro bb ww hS) | (refine w_al rfl rfl hS ?_; clear hS; (try clear ww); intro bb ww hS) | (refine w_st rfl _ _ rfl (by rfl) (by rfl) (by repeat constructor) (by rfl) (by rfl) (by first | rfl | assumption) hS ?_; clear hS; (try clear ww); intro ww hS) | (refine w_s1 rfl _ _ rfl (by rfl) (by repeat constructor) (by first | exact .c | exact .t rfl) (by rfl) (by repeat constructor) hS ?_; clear hS; (try clear ww); intro ww hS))
        go_ret
        exact ⟨rfl, bthen hBB hS.below⟩

set_option maxHeartbeats 8000000 in
set_option maxRecDepth 100000 in
theorem spoiled_few (F : Fnt) (m : Int) (w : World) (hF : FntOk w F) (hfew : fewB F = false) : Calls Try.prog 7 #[F.val, .int .u16 m] w (Gives (.bool true) w) := by
  have HF := Lib.hid hF
  have HE := Lib.hid hfew
  clear hfew
  clear hF
  obtain ⟨gx, gc, gs, sx, sc, ss, q0, q1, q2, q3, q4, q5, q6, q7, q8, q9, q10, q11, q12, q13, q14, q15, q16, q17, q18, q19⟩ := F
  go_enter Try.func7, Try.ntmps7
  have hS := own_start w
  go_wp2_with (first | (refine own_unguard (by rfl) ?_) | (go_at_call 10; refine own_calls hS (awake05_calls _) ?_; clear hS; (try clear ww); intro ww hS) | (go_at_call 14; refine own_calls hS (few_vo (F := ⟨gx, gc, gs, sx, sc, ss, q0, q1, q2, q3, q4, q5, q6, q7, q8, q9, q10, q11, q12, q13, q14, q15, q16, q17, q18, q19⟩) (HF.out.below hS.below) HE) ?_; clear hS; (try clear ww); intro ww hS) | (refine w_ld rfl _ rfl (by rfl) (by first | exact rd_1 (by repeat constructor) (by first | rfl | assumption) | exact rd_w (by repeat constructor) (by rfl) | exact rd_o (by assumption) (by rfl) (by first | exact nmn | assumption | simp) | exact rd_h (by assumption) (by rfl) (by first | exact nmn | assumption | simp) | exact rd_1o (by assumption) (by first | exact nmn | assumption | simp) | exact rd_1h (by assumption) (by first | rfl | assumption) (by first | exact nmn | assumption | simp)) hS ?_) | (refine own_box rfl _ _ rfl (by rfl) hS ?_; clear hS; (try clear ww); intro bb ww hS) | (refine w_al rfl rfl hS ?_; clear hS; (try clear ww); intro bb ww hS) | (refine w_st rfl _ _ rfl (by rfl) (by rfl) (by repeat constructor) (by rfl) (by rfl) (by first | rfl | assumption) hS ?_; clear hS; (try clear ww); intro ww hS) | (refine w_s1 rfl _ _ rfl (by rfl) (by repeat constructor) (by first | exact .c | exact .t rfl) (by rfl) (by repeat constructor) hS ?_; clear hS; (try clear ww); intro ww hS))
  go_ret
  exact ⟨rfl, hS.below⟩

set_option maxHeartbeats 8000000 in
set_option maxRecDepth 100000 in
theorem spoiled_none (F : Fnt) (m : Int) (w : World) (hF : FntOk w F) (hfew : fewB F = true) (h1 : F.gs = []) : Calls Try.prog 7 #[F.val, .int .u16 m] w (Gives (.bool true) w) := by
  have HF := Lib.hid hF
  have HE := Lib.hid hfew
  clear hfew
  clear hF
  obtain ⟨gx, gc, gs, sx, sc, ss, q0, q1, q2, q3, q4, q5, q6, q7, q8, q9, q10, q11, q12, q13, q14, q15, q16, q17, q18, q19⟩ := F
  simp only at h1
  subst h1
  go_enter Try.func7, Try.ntmps7
  have hS := own_start w
  go_wp2_with (first | (refine own_unguard (by rfl) ?_) | (go_at_call 10; refine own_calls hS (awake05_calls _) ?_; clear hS; (try clear ww); intro ww hS) | (go_at_call 14; refine own_calls hS (few_vo (F := ⟨gx, gc, [], sx, sc, ss, q0, q1, q2, q3, q4, q5, q6, q7, q8, q9, q10, q11, q12, q13, q14, q15, q16, q17, q18, q19⟩) (HF.out.below hS.below) HE) ?_; clear hS; (try clear ww); intro ww hS) | (refine w_ld rfl _ rfl (by rfl) (by first | exact rd_1 (by repeat constructor) (by first | rfl | assumption) | exact rd_w (by repeat constructor) (by rfl) | exact rd_o (by assumption) (by rfl) (by first | exact nmn | assumption | simp) | exact rd_h (by assumption) (by rfl) (by first | exact nmn | assumption | simp) | exact rd_1o (by assumption) (by first | exact nmn | assumption | simp) | exact rd_1h (by assumption) (by first | rfl | assumption) (by first | exact nmn | assumption | simp)) hS ?_) | (refine own_box rfl _ _ rfl (by rfl) hS ?_; clear hS; (try clear ww); intro bb ww hS) | (refine w_al rfl rfl hS ?_; clear hS; (try clear ww); intro bb ww hS) | (refine w_st rfl _ _ rfl (by rfl) (by rfl) (by repeat constructor) (by rfl) (by rfl) (by first | rfl | assumption) hS ?_; clear hS; (try clear ww); intro ww hS) | (refine w_s1 rfl _ _ rfl (by rfl) (by repeat constructor) (by first | exact .c | exact .t rfl) (by rfl) (by repeat constructor) hS ?_; clear hS; (try clear ww); intro ww hS))
  go_ret
  exact ⟨rfl, hS.below⟩

set_option maxHeartbeats 8000000 in
set_option maxRecDepth 100000 in
theorem spoiled_many (F : Fnt) (m : Int) (w : World) (hF : FntOk w F) (hfew : fewB F = true) (h2 : ¬ F.gs.length ≤ 100) : Calls Try.prog 7 #[F.val, .int .u16 m] w (Gives (.bool true) w) := by
  have HF := Lib.hid hF
  have HE := Lib.hid hfew
  clear hfew
  clear hF
  obtain ⟨gx, gc, gs, sx, sc, ss, q0, q1, q2, q3, q4, q5, q6, q7, q8, q9, q10, q11, q12, q13, q14, q15, q16, q17, q18, q19⟩ := F
  simp only at h2
  have d3 : ¬ gs = [] := fun e => by rw [e] at h2; exact h2 (by simp)
  have d1 : decide ((gs.length : Int) = 0) = false := decide_eq_false (by omega)
  have d2 : decide ((100 : Int) < (gs.length : Int)) = true := decide_eq_true (by omega)
  have d0 : (gs.length : Int) ≠ 0 := by omega
  have d4 : gs.isEmpty = false := by simpa using d3
  have d5 : ((gs.length : Int) == 0) = false := by simpa using d3
  go_enter Try.func7, Try.ntmps7
  have hS := own_start w
  go_wp2_with (first | (refine own_unguard (by rfl) ?_) | (go_at_call 10; refine own_calls hS (awake05_calls _) ?_; clear hS; (try clear ww); intro ww hS) | (go_at_call 14; refine own_calls hS (few_vo (F := ⟨gx, gc, gs, sx, sc, ss, q0, q1, q2, q3, q4, q5, q6, q7, q8, q9, q10, q11, q12, q13, q14, q15, q16, q17, q18, q19⟩) (HF.out.below hS.below) HE) ?_; clear hS; (try clear ww); intro ww hS) | (refine w_ld rfl _ rfl (by rfl) (by first | exact rd_1 (by repeat constructor) (by first | rfl | assumption) | exact rd_w (by repeat constructor) (by rfl) | exact rd_o (by assumption) (by rfl) (by first | exact nmn | assumption | simp) | exact rd_h (by assumption) (by rfl) (by first | exact nmn | assumption | simp) | exact rd_1o (by assumption) (by first | exact nmn | assumption | simp) | exact rd_1h (by assumption) (by first | rfl | assumption) (by first | exact nmn | assumption | simp)) hS ?_) | (refine own_box rfl _ _ rfl (by rfl) hS ?_; clear hS; (try clear ww); intro bb ww hS) | (refine w_al rfl rfl hS ?_; clear hS; (try clear ww); intro bb ww hS) | (refine w_st rfl _ _ rfl (by rfl) (by rfl) (by repeat constructor) (by rfl) (by rfl) (by first | rfl | assumption) hS ?_; clear hS; (try clear ww); intro ww hS) | (refine w_s1 rfl _ _ rfl (by rfl) (by repeat constructor) (by first | exact .c | exact .t rfl) (by rfl) (by repeat constructor) hS ?_; clear hS; (try clear ww); intro ww hS))
  go_ret
  exact ⟨rfl, hS.below⟩

set_option maxHeartbeats 8000000 in
set_option maxRecDepth 100000 in
theorem spoiled_bad (F : Fnt) (m : Int) (w : World) (hF : FntOk w F) (hfew : fewB F = true) (h1 : 1 ≤ F.gs.length) (h2 : F.gs.length ≤ 100) (hv : ¬ ValidF F) : Calls Try.prog 7 #[F.val, .int .u16 m] w (Gives (.bool true) w) := by
  have HF := Lib.hid hF
  have HE := Lib.hid hfew
  have HV := Lib.hid hv
  clear hfew hv
  clear hF
  obtain ⟨gx, gc, gs, sx, sc, ss, q0, q1, q2, q3, q4, q5, q6, q7, q8, q9, q10, q11, q12, q13, q14, q15, q16, q17, q18, q19⟩ := F
  simp only at h1 h2
  have d3 : ¬ gs = [] := fun e => by rw [e] at h1; exact absurd h1 (by simp)
  have d1 : decide ((gs.length : Int) = 0) = false := decide_eq_false (by omega)
  have d2 : decide ((100 : Int) < (gs.length : Int)) = false := decide_eq_false (by omega)
  have d0 : (gs.length : Int) ≠ 0 := by omega
  have d4 : gs.isEmpty = false := by simpa using d3
  have d5 : ((gs.length : Int) == 0) = false := by simpa using d3
  go_enter Try.func7, Try.ntmps7
  have hS := own_start w
  go_wp2_with (first | (refine own_unguard (by rfl) ?_) | (go_at_call 10; refine own_calls hS (awake05_calls _) ?_; clear hS; (try clear ww); intro ww hS) | (go_at_call 14; refine own_calls hS (few_vo (F := ⟨gx, gc, gs, sx, sc, ss, q0, q1, q2, q3, q4, q5, q6, q7, q8, q9, q10, q11, q12, q13, q14, q15, q16, q17, q18, q19⟩) (HF.out.below hS.below) HE) ?_; clear hS; (try clear ww); intro ww hS) | (go_at_call 22; refine own_calls hS (font_Valid_calls ⟨gx, gc, gs, sx, sc, ss, q0, q1, q2, q3, q4, q5, q6, q7, q8, q9, q10, q11, q12, q13, q14, q15, q16, q17, q18, q19⟩ _ (HF.out.below hS.below) false (iff_f HV.out)) ?_; clear hS; (try clear ww); intro ww hS) | (refine w_ld rfl _ rfl (by rfl) (by first | exact rd_1 (by repeat constructor) (by first | rfl | assumption) | exact rd_w (by repeat constructor) (by rfl) | exact rd_o (by assumption) (by rfl) (by first | exact nmn | assumption | simp) | exact rd_h (by assumption) (by rfl) (by first | exact nmn | assumption | simp) | exact rd_1o (by assumption) (by first | exact nmn | assumption | simp) | exact rd_1h (by assumption) (by first | rfl | assumption) (by first | exact nmn | assumption | simp)) hS ?_) | (refine own_box rfl _ _ rfl (by rfl) hS ?_; clear hS; (try clear ww); intro bb ww hS) | (refine w_al rfl rfl hS ?_; clear hS; (try clear ww); intro bb ww hS) | (refine w_st rfl _ _ rfl (by rfl) (by rfl) (by repeat constructor) (by rfl) (by rfl) (by first | rfl | assumption) hS ?_; clear hS; (try clear ww); intro ww hS) | (refine w_s1 rfl _ _ rfl (by rfl) (by repeat constructor) (by first | exact .c | exact .t rfl) (by rfl) (by repeat constructor) hS ?_; clear hS; (try clear ww); intro ww hS))
  go_ret
  exact ⟨rfl, hS.below⟩

theorem fontSpoiled_calls (F : Fnt) (m : Int) (hm : 0 ≤ m ∧ m ≤ 65535) (w : World) (hF : FntOk w F) : Calls Try.prog 7 #[F.val, .int .u16 m] w (Gives (.bool true) w) := by
  cases hfew : fewB F
  · exact spoiled_few F m w hF hfew
  · by_cases h1 : F.gs = []
    · exact spoiled_none F m w hF hfew h1
    · have h1 : 1 ≤ F.gs.length := List.length_pos_iff.2 h1
      by_cases h2 : F.gs.length ≤ 100
      · by_cases hv : ValidF F
        · exact spoiled_ok F m hm w hF hfew h1 h2 hv
        · exact spoiled_bad F m w hF hfew h1 h2 hv
      · exact spoiled_many F m w hF hfew h2

end Go.Proofs.Ytgknameejoalnaa
