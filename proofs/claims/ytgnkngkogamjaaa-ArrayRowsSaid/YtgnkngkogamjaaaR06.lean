/- Texts Deep, Prr, Scal, ScalR, Glo, Val, Fnd. -/
import Derived.Test.YtgnkngkogamjaaaR05
import Derived.Test.YtgnkngkogamjaaaR04
import Derived.Test.YtgnkngkogamjaaaR00
import Derived.Test.YtgnkngkogamjaaaR01
namespace Go.Proofs.Ytgnkngkogamjaaa
open Go.RowKit

attribute [local irreducible] wpQuiet wpList Code.wp Calls

instance rt_box : RowTy Try.prog 37 11 := ⟨⟨_, Try.underlying37, rfl⟩, by kernel_rfl⟩
instance zt_box : ZeroTy Try.prog 37 [.int .i64 0, .string ⟨#[]⟩, .int .i64 0, .int .i64 0, .int .i64 0, .int .i64 0, .int .i64 0, .int .i64 0, .slice none 0 0, .int .i64 0, .slice none 0 0] := ⟨.agg #[.int .i64 0, .string ⟨#[]⟩, .int .i64 0, .int .i64 0, .int .i64 0, .int .i64 0, .int .i64 0, .int .i64 0, .slice none 0 0, .int .i64 0, .slice none 0 0], by kernel_rfl, rfl⟩
instance ot_boxs : OneTy Try.prog 32 := ⟨⟨_, Try.underlying32, rfl⟩, by kernel_rfl⟩
instance ot_ptr : OneTy Try.prog 79 := ⟨⟨_, Try.underlying79, rfl⟩, by kernel_rfl⟩
theorem el_ptr : ElTy Try.prog 96 79 1 8 := ElTy.mk' (.pointer none) Try.underlying96 (by kernel_rfl) rfl
theorem el_box : ElTy Try.prog 32 37 11 128 := ElTy.mk' (.agg #[.int .i64 0, .string ⟨#[]⟩, .int .i64 0, .int .i64 0, .int .i64 0, .int .i64 0, .int .i64 0, .int .i64 0, .slice none 0 0, .int .i64 0, .slice none 0 0]) Try.underlying32 (by kernel_rfl) rfl

theorem front_back (Xs : List (Nat × List Value)) (x y : Nat × List Value) (R : List (Nat × List Value)) : (Xs ++ x :: y :: R).Perm (x :: y :: (R ++ Xs)) := List.perm_append_comm (l₁ := Xs) (l₂ := x :: y :: R)
theorem eleven {α : Type} {l : List α} (h : l.length = 11) : ∃ c0 c1 c2 c3 c4 c5 c6 c7 c8 c9 c10, l = [c0, c1, c2, c3, c4, c5, c6, c7, c8, c9, c10] := by
  match l, h with
  | [c0, c1, c2, c3, c4, c5, c6, c7, c8, c9, c10], _ => exact ⟨c0, c1, c2, c3, c4, c5, c6, c7, c8, c9, c10, rfl⟩

set_option maxHeartbeats 8000000 in
set_option maxRecDepth 100000 in
theorem deep_Box_calls (P : Nat → Prop) (N : Nat) (b : Bx N) (cs : List Value) (w : World) (hP : ∀ k, P k → k < w.heap.size) (hr : RepG (fun k _ => P k) P w N b cs) (hs : Small N b) (hc : bCount N b ≤ 1000000) : Calls Try.prog 47 #[.agg cs.toArray] w (fun e w' => ∃ cs', e = .returned (.agg cs'.toArray) ∧ RepG (fun k _ => P k ∨ w.heap.size ≤ k) (fun k => P k ∨ w.heap.size ≤ k) w' N b cs' ∧ Below w.heap.size w w') := by
  have hl := hr.len
  have HR := Lib.hid hr
  have HP := Lib.hid hP
  have HS := Lib.hid hs
  have HC := Lib.hid hc
  have HL := Lib.hid hl
  clear hr hs hc hl hP
  go_enter Try.func47, Try.ntmps47
  have hS := own_start w
  go_wp2_with (first | (refine own_unguard (by rfl) ?_) | (refine own_box rfl _ _ rfl rfl hS ?_; clear hS; (try clear ww); intro rb ww hS) | (refine own_alloc rfl _ rfl hS zt_box ?_; clear hS; (try clear ww); intro rv ww hS) | (refine own_buildSlice rfl _ _ 1 _ rfl [.pointer (some ⟨rb, 0, none⟩)] hS Try.underlying96 (by kernel_rfl) ?_; clear hS; (try clear ww); intro bb ww hS) | (refine w_ld rfl _ rfl (by rfl) (by first | exact rd_1 (by repeat constructor) (by first | rfl | assumption) | exact rd_w (by repeat constructor) (by rfl) | exact rd_o (by assumption) (by rfl) (by first | exact nmn | assumption | simp) | exact rd_h (by assumption) (by rfl) (by first | exact nmn | assumption | simp) | exact rd_1o (by assumption) (by first | exact nmn | assumption | simp) | exact rd_1h (by assumption) (by first | rfl | assumption) (by first | exact nmn | assumption | simp)) hS ?_) | (refine own_box rfl _ _ rfl (by rfl) hS ?_; clear hS; (try clear ww); intro bb ww hS) | (refine w_al rfl rfl hS ?_; clear hS; (try clear ww); intro bb ww hS) | (refine w_st rfl _ _ rfl (by rfl) (by rfl) (by repeat constructor) (by rfl) (by rfl) (by first | rfl | assumption) hS ?_; clear hS; (try clear ww); intro ww hS) | (refine w_s1 rfl _ _ rfl (by rfl) (by repeat constructor) (by first | exact .c | exact .t rfl) (by rfl) (by repeat constructor) hS ?_; clear hS; (try clear ww); intro ww hS))
  obtain ⟨zs, hzs, hS0⟩ : ∃ zs, Hid (zs = [Value.int .i64 0, .string ⟨#[]⟩, .int .i64 0, .int .i64 0, .int .i64 0, .int .i64 0, .int .i64 0, .int .i64 0, .slice none 0 0, .int .i64 0, .slice none 0 0]) ∧ Own [] w [(bb, [.pointer (some ⟨rb, 0, none⟩)]), (rv, zs), (rb, cs)] ww := ⟨_, rfl, hS⟩
  clear hS
  have hS := hS0
  clear hS0
  go_loopw [3] (fun v wr => ∃ t KL SL X ps, DeepInv P w N b rb rv zs t v wr KL SL X ps) (fun v wr => least (fun t => ∃ KL SL X ps, DeepInv P w N b rb rv zs t v wr KL SL X ps))
  case atStart => exact ⟨_, _, _, _, _, deep_start HR.out HS.out HC.out hS⟩
  case round =>
    clear hS
    have hspec := least_spec hrel
    clear hrel
    obtain ⟨T, hT⟩ : ∃ T, Hid (T = least (fun k => ∃ KL SL X ps, DeepInv P w N b rb rv zs k u3 wr KL SL X ps)) := ⟨_, rfl⟩
    rw [← hT.out] at hspec
    obtain ⟨KL, SL, X, ps, hI⟩ := hspec
    rcases List.eq_nil_or_concat ps with rfl | ⟨rest, ⟨⟨k0, o0⟩, wt⟩, rfl⟩
    · obtain ⟨y, c, hv⟩ := hI.stack.slice
      simp only [List.length_nil] at hv
      subst hv
      obtain ⟨cs0, hm, h11, hroot⟩ := hI.root
      obtain ⟨c0, c1, c2, c3, c4, c5, c6, c7, c8, c9, c10, rfl⟩ := eleven h11
      have hrt : RowTy Try.prog 37 ([c0, c1, c2, c3, c4, c5, c6, c7, c8, c9, c10] : List Value).length := rt_box
      have hall := rep_all hroot
      have hS : Own [] w ((rv, zs) :: ((KL ++ SL) ++ X)) wr := hI.own
      obtain ⟨n0, hat⟩ : ∃ n, At n ((rv, zs) :: ((KL ++ SL) ++ X)) rb [c0, c1, c2, c3, c4, c5, c6, c7, c8, c9, c10] := List.mem_iff_getElem?.1 (by simp [hm])
      have hzl : zs.length = ([c0, c1, c2, c3, c4, c5, c6, c7, c8, c9, c10] : List Value).length := by rw [hzs.out]; rfl
      have HI := Lib.hid hI
      have HRt := Lib.hid hroot
      clear hI hroot hm h11 hT
      go_wp2_with (first | (refine own_unguard (by rfl) ?_) | (refine own_load rfl _ _ rfl rfl hS hat hrt ?_) | (refine own_store rfl _ _ _ rfl rfl rfl hS at0 hrt hzl hall ?_; clear hS; intro ww hS) | (refine w_ld rfl _ rfl (by rfl) (by first | exact rd_1 (by repeat constructor) (by first | rfl | assumption) | exact rd_w (by repeat constructor) (by rfl) | exact rd_o (by assumption) (by rfl) (by first | exact nmn | assumption | simp) | exact rd_h (by assumption) (by rfl) (by first | exact nmn | assumption | simp) | exact rd_1o (by assumption) (by first | exact nmn | assumption | simp) | exact rd_1h (by assumption) (by first | rfl | assumption) (by first | exact nmn | assumption | simp)) hS ?_) | (refine own_box rfl _ _ rfl (by rfl) hS ?_; clear hS; (try clear ww); intro bb ww hS) | (refine w_al rfl rfl hS ?_; clear hS; (try clear ww); intro bb ww hS) | (refine w_st rfl _ _ rfl (by rfl) (by rfl) (by repeat constructor) (by rfl) (by rfl) (by first | rfl | assumption) hS ?_; clear hS; (try clear ww); intro ww hS) | (refine w_s1 rfl _ _ rfl (by rfl) (by repeat constructor) (by first | exact .c | exact .t rfl) (by rfl) (by repeat constructor) hS ?_; clear hS; (try clear ww); intro ww hS))
      have hc := (hS.get at0).cell
      refine bodyPost_ret (v := .agg #[c0, c1, c2, c3, c4, c5, c6, c7, c8, c9, c10]) (by simp [results, Try.results47, go_sem, hc]) rfl ⟨[c0, c1, c2, c3, c4, c5, c6, c7, c8, c9, c10], rfl, deep_end HP.out HI.out HRt.out hS, hS.below⟩
    · rw [List.concat_eq_append] at hI
      obtain ⟨xb, c, ys, ks, K1, K2, m, a, kids, kx, kc, sx, sc, rfl, hTop⟩ := deep_pop hI
      have hv := hTop.v
      subst hv
      have hlen := deep_len hI
      simp only [List.length_append, List.length_cons, List.length_nil] at hlen
      have h8 : ks[o0 + 8]? = some (.slice kx kids.length kc) := top_cell hTop.cells rfl
      have h10 : ks[o0 + 10]? = some (.slice sx a.src.length sc) := top_cell hTop.cells rfl
      have g8 : ∀ s v, ((ks.set (o0 + 10) s).set (o0 + 8) v)[o0 + 8]? = some v := fun s v => by
        have := hTop.len
        rw [List.getElem?_set_self (by simp; omega)]
      have hkl := hTop.small.2.1
      have hsl := hTop.small.1
      have hol := hTop.len
      have hroom := hTop.room
      have htop := hTop.top
      simp only at hkl hsl
      have HSr := Lib.hid hTop.srcs
      obtain ⟨R, hR, hS⟩ : ∃ R, Hid (R = ((rv, zs) :: (K1 ++ K2)) ++ SL) ∧ Own [] w ((k0, ks) :: (xb, ys) :: R) wr := ⟨_, rfl, hTop.own⟩
      have HI := Lib.hid hI
      have HTop := Lib.hid hTop
      clear hI hTop
      by_cases hk0 : kids.length = 0
      · obtain rfl : kids = [] := List.eq_nil_of_length_eq_zero hk0
        simp only [List.length_nil] at h8
        clear hk0
        go_wp2_with (first | (refine own_unguard (by rfl) ?_) | (refine own_load1 rfl _ _ rfl rfl hS at1 ot_ptr htop ?_) | (refine own_load1 rfl _ _ rfl rfl hS at0 ot_boxs h8 ?_) | (refine own_load1 rfl _ _ rfl rfl hS at0 ot_boxs (g8 _ _) ?_) | (refine own_load1 rfl _ _ rfl rfl hS at0 ot_ints h10 ?_) | (go_at_call 61; refine own_ints hS (clone_calls _ _ _ _ (HSr.out.own hS) hsl) ?_; clear hS; intro y2 c2 Xs ww hXs hrow hS1; have hS := hS1.perm (front_back Xs (k0, ks) (xb, ys) R); clear hS1) | (refine own_store1 (i := o0 + 10) (v := .slice y2 a.src.length c2) rfl _ _ _ rfl rfl rfl rfl hS at0 ot_ints (by omega) ?_; clear hS; intro ww hS; simp only [List.set_cons_zero] at hS) | (refine own_store1 (i := o0 + 8) (v := .slice none 0 0) rfl _ _ _ rfl rfl rfl rfl hS at0 ot_boxs (by simp; omega) ?_; clear hS; intro ww hS; simp only [List.set_cons_zero] at hS) | (refine own_copy0 rfl _ _ _ _ rfl el_box rfl rfl ?_) | (refine w_ld rfl _ rfl (by rfl) (by first | exact rd_1 (by repeat constructor) (by first | rfl | assumption) | exact rd_w (by repeat constructor) (by rfl) | exact rd_o (by assumption) (by rfl) (by first | exact nmn | assumption | simp) | exact rd_h (by assumption) (by rfl) (by first | exact nmn | assumption | simp) | exact rd_1o (by assumption) (by first | exact nmn | assumption | simp) | exact rd_1h (by assumption) (by first | rfl | assumption) (by first | exact nmn | assumption | simp)) hS ?_) | (refine own_box rfl _ _ rfl (by rfl) hS ?_; clear hS; (try clear ww); intro bb ww hS) | (refine w_al rfl rfl hS ?_; clear hS; (try clear ww); intro bb ww hS) | (refine w_st rfl _ _ rfl (by rfl) (by rfl) (by repeat constructor) (by rfl) (by rfl) (by first | rfl | assumption) hS ?_; clear hS; (try clear ww); intro ww hS) | (refine w_s1 rfl _ _ rfl (by rfl) (by repeat constructor) (by first | exact .c | exact .t rfl) (by rfl) (by repeat constructor) hS ?_; clear hS; (try clear ww); intro ww hS))
        refine wp_loop_once ?_
        go_wp2_with (first | (refine own_unguard (by rfl) ?_) | (refine w_ld rfl _ rfl (by rfl) (by first | exact rd_1 (by repeat constructor) (by first | rfl | assumption) | exact rd_w (by repeat constructor) (by rfl) | exact rd_o (by assumption) (by rfl) (by first | exact nmn | assumption | simp) | exact rd_h (by assumption) (by rfl) (by first | exact nmn | assumption | simp) | exact rd_1o (by assumption) (by first | exact nmn | assumption | simp) | exact rd_1h (by assumption) (by first | rfl | assumption) (by first | exact nmn | assumption | simp)) hS ?_) | (refine own_box rfl _ _ rfl (by rfl) hS ?_; clear hS; (try clear ww); intro bb ww hS) | (refine w_al rfl rfl hS ?_; clear hS; (try clear ww); intro bb ww hS) | (refine w_st rfl _ _ rfl (by rfl) (by rfl) (by repeat constructor) (by rfl) (by rfl) (by first | rfl | assumption) hS ?_; clear hS; (try clear ww); intro ww hS) | (refine w_s1 rfl _ _ rfl (by rfl) (by repeat constructor) (by first | exact .c | exact .t rfl) (by rfl) (by repeat constructor) hS ?_; clear hS; (try clear ww); intro ww hS))
        obtain rfl := hR.out
        obtain ⟨t', KL', SL', ps', hlt', hI'⟩ := deep_push HP.out (A := []) (Xs := Xs) (X2 := [(xb, ys)]) (k' := 0) HI.out HTop.out hS ((two_last _ _ _).trans (deep_perm (k0, _) (rv, zs) [] (K1 ++ K2) SL Xs [(xb, ys)])) (sl_row hS (fun x hx => by simp [hx]) hXs) (sl_block hXs rfl) (.inl ⟨rfl, rfl⟩) (by simpa using HTop.out.stack)
        have HI' := Lib.hid hI'
        clear hI'
        go_roundw
        case rel => exact ⟨t', KL', SL', _, ps', HI'.out⟩
        case measure => exact Nat.lt_of_le_of_lt (least_le ⟨KL', SL', _, ps', HI'.out⟩) (by rw [← hT.out]; exact hlt')
      · obtain ⟨kb, ko, news, hkx, hnl, hnr, hn1⟩ := kids_flat HTop.out.rep (by intro h; subst h; simp at hk0)
        subst hkx
        have HNr := Lib.hid hnr
        clear hnr
        go_wp2_with (first | (refine own_unguard (by rfl) ?_) | (refine own_load1 rfl _ _ rfl rfl hS at1 ot_ptr htop ?_) | (refine own_load1 rfl _ _ rfl rfl hS at0 ot_boxs h8 ?_) | (refine own_load1 rfl _ _ rfl rfl hS at0 ot_boxs (g8 _ _) ?_) | (refine own_load1 rfl _ _ rfl rfl hS at0 ot_ints h10 ?_) | (go_at_call 61; refine own_ints hS (clone_calls _ _ _ _ (HSr.out.own hS) hsl) ?_; clear hS; intro y2 c2 Xs ww hXs hrow hS1; have hS := hS1.perm (front_back Xs (k0, ks) (xb, ys) R); clear hS1) | (refine own_store1 (i := o0 + 10) (v := .slice y2 a.src.length c2) rfl _ _ _ rfl rfl rfl rfl hS at0 ot_ints (by omega) ?_; clear hS; intro ww hS; simp only [List.set_cons_zero] at hS) | (refine own_store1 (i := o0 + 8) (v := .slice none 0 0) rfl _ _ _ rfl rfl rfl rfl hS at0 ot_boxs (by simp; omega) ?_; clear hS; intro ww hS; simp only [List.set_cons_zero] at hS) | (refine own_make (n := kids.length) rfl _ _ _ rfl el_box rfl rfl hS (by omega) (by omega) ?_; clear hS; intro k' arr0 ww hS harr) | (refine own_store1 (i := o0 + 8) (v := .slice (some ⟨k', 0, none⟩) kids.length kids.length) rfl _ _ _ rfl rfl rfl rfl hS at1 ot_boxs (by simp; omega) ?_; clear hS; intro ww hS; simp only [List.set_cons_zero, List.set_cons_succ, List.set_set] at hS) | (refine own_load1 rfl _ _ rfl rfl hS at1 ot_boxs (g8 _ _) ?_) | (refine own_copy (n := kids.length) rfl _ _ _ _ rfl el_box rfl rfl hS at0 hnl (src_cells hS HNr.out) (by omega) hn1 ?_; clear hS; intro ww hS; simp only [List.set_cons_zero] at hS; rw [setL_all (by omega)] at hS) | (refine w_ld rfl _ rfl (by rfl) (by first | exact rd_1 (by repeat constructor) (by first | rfl | assumption) | exact rd_w (by repeat constructor) (by rfl) | exact rd_o (by assumption) (by rfl) (by first | exact nmn | assumption | simp) | exact rd_h (by assumption) (by rfl) (by first | exact nmn | assumption | simp) | exact rd_1o (by assumption) (by first | exact nmn | assumption | simp) | exact rd_1h (by assumption) (by first | rfl | assumption) (by first | exact nmn | assumption | simp)) hS ?_) | (refine own_box rfl _ _ rfl (by rfl) hS ?_; clear hS; (try clear ww); intro bb ww hS) | (refine w_al rfl rfl hS ?_; clear hS; (try clear ww); intro bb ww hS) | (refine w_st rfl _ _ rfl (by rfl) (by rfl) (by repeat constructor) (by rfl) (by rfl) (by first | rfl | assumption) hS ?_; clear hS; (try clear ww); intro ww hS) | (refine w_s1 rfl _ _ rfl (by rfl) (by repeat constructor) (by first | exact .c | exact .t rfl) (by rfl) (by repeat constructor) hS ?_; clear hS; (try clear ww); intro ww hS))
        have hS1 := hS.perm (three_last _ _ _ _)
        clear hS
        have hS := hS1
        clear hS1
        go_loopw [3, 57] (fun v i wr2 => ∃ (j : Nat) (X2 : List (Nat × List Value)), j ≤ kids.length ∧ i = .int .i64 j ∧ Sl 1 (rest.length + j) v ((rest.map (·.1)).flatMap ptr ++ ((List.range j).map fun i => (k', i * 11)).flatMap ptr) X2 ∧ Own [] w (((k', news) :: (k0, (ks.set (o0 + 10) (.slice y2 a.src.length c2)).set (o0 + 8) (.slice (some ⟨k', 0, none⟩) kids.length kids.length)) :: (R ++ Xs)) ++ X2) wr2) (fun _ i _ => kids.length - (intOf i).toNat)
        case atStart => exact ⟨0, [(xb, ys)], Nat.zero_le _, rfl, by simpa using HTop.out.stack, hS⟩
        case round =>
          clear hS
          obtain ⟨j, X2, hj, rfl, hX2, hS⟩ := hrel
          by_cases hjl : j < kids.length
          · skip
            go_wp2_with (first | (refine own_unguard (by rfl) ?_) | (refine own_load1 rfl _ _ rfl rfl hS at1 ot_boxs (g8 _ _) ?_) | (refine own_buildSlice rfl _ _ 1 _ rfl [.pointer (some ⟨k', j * 11, none⟩)] hS Try.underlying96 (by kernel_rfl) ?_; clear hS; intro b1 ww hS) | (refine own_append_new (b := b1) rfl _ _ _ rfl hX2 rfl rfl (show Own [] w (((b1, [.pointer (some ⟨k', j * 11, none⟩)]) :: (_ :: _ :: _)) ++ X2) ww from hS) rfl rfl el_ptr (by decide) (by simp only [maxLen]; omega) (by omega) ?_; clear hS hX2; intro v' X' ww hS hX2) | (refine w_ld rfl _ rfl (by rfl) (by first | exact rd_1 (by repeat constructor) (by first | rfl | assumption) | exact rd_w (by repeat constructor) (by rfl) | exact rd_o (by assumption) (by rfl) (by first | exact nmn | assumption | simp) | exact rd_h (by assumption) (by rfl) (by first | exact nmn | assumption | simp) | exact rd_1o (by assumption) (by first | exact nmn | assumption | simp) | exact rd_1h (by assumption) (by first | rfl | assumption) (by first | exact nmn | assumption | simp)) hS ?_) | (refine own_box rfl _ _ rfl (by rfl) hS ?_; clear hS; (try clear ww); intro bb ww hS) | (refine w_al rfl rfl hS ?_; clear hS; (try clear ww); intro bb ww hS) | (refine w_st rfl _ _ rfl (by rfl) (by rfl) (by repeat constructor) (by rfl) (by rfl) (by first | rfl | assumption) hS ?_; clear hS; (try clear ww); intro ww hS) | (refine w_s1 rfl _ _ rfl (by rfl) (by repeat constructor) (by first | exact .c | exact .t rfl) (by rfl) (by repeat constructor) hS ?_; clear hS; (try clear ww); intro ww hS))
            have HX2 := Lib.hid (show Sl 1 (rest.length + (j + 1)) v' ((rest.map (·.1)).flatMap ptr ++ ((List.range (j + 1)).map fun i => (k', i * 11)).flatMap ptr) X' by rw [range_next, ← Nat.add_assoc]; exact hX2)
            clear hX2
            go_roundw
            case rel => exact ⟨j + 1, X', hjl, by go_num, HX2.out, hS⟩
            case measure => exact loop_meas hjl
          · obtain rfl : j = kids.length := by omega
            go_wp2_with (first | (refine own_unguard (by rfl) ?_) | (refine w_ld rfl _ rfl (by rfl) (by first | exact rd_1 (by repeat constructor) (by first | rfl | assumption) | exact rd_w (by repeat constructor) (by rfl) | exact rd_o (by assumption) (by rfl) (by first | exact nmn | assumption | simp) | exact rd_h (by assumption) (by rfl) (by first | exact nmn | assumption | simp) | exact rd_1o (by assumption) (by first | exact nmn | assumption | simp) | exact rd_1h (by assumption) (by first | rfl | assumption) (by first | exact nmn | assumption | simp)) hS ?_) | (refine own_box rfl _ _ rfl (by rfl) hS ?_; clear hS; (try clear ww); intro bb ww hS) | (refine w_al rfl rfl hS ?_; clear hS; (try clear ww); intro bb ww hS) | (refine w_st rfl _ _ rfl (by rfl) (by rfl) (by repeat constructor) (by rfl) (by rfl) (by first | rfl | assumption) hS ?_; clear hS; (try clear ww); intro ww hS) | (refine w_s1 rfl _ _ rfl (by rfl) (by repeat constructor) (by first | exact .c | exact .t rfl) (by rfl) (by repeat constructor) hS ?_; clear hS; (try clear ww); intro ww hS))
            obtain rfl := hR.out
            obtain ⟨t', KL', SL', ps', hlt', hI'⟩ := deep_push HP.out (A := [(k', news)]) (Xs := Xs) (X2 := X2) (k' := k') HI.out HTop.out hS (deep_perm (k0, _) (rv, zs) [(k', news)] (K1 ++ K2) SL Xs X2) (sl_row hS (fun x hx => by simp [hx]) hXs) (sl_block hXs rfl) (.inr ⟨news, rfl, rfl, hnl, fun k o he => by obtain ⟨rfl, rfl⟩ : kb = k ∧ ko = o := (by simpa using he); exact HNr.out⟩) hX2
            have HI' := Lib.hid hI'
            clear hI'
            go_roundw
            case rel => exact ⟨t', KL', SL', _, ps', HI'.out⟩
            case measure => exact Nat.lt_of_le_of_lt (least_le ⟨KL', SL', _, ps', HI'.out⟩) (by rw [← hT.out]; exact hlt')

end Go.Proofs.Ytgnkngkogamjaaa
namespace Go.Proofs.Ytgnkngkogamjaaa
open Go.RowKit

attribute [local irreducible] wpQuiet wpList Code.wp

theorem ref05_within_v {n a b : Int} {v : Bool} {w : World} (hv : Hid ((decide (a ≤ n) && decide (n ≤ b)) = v)) :
    Calls Try.prog 64 #[.int .i64 n, .int .i64 a, .int .i64 b] w fun e w' => e = .returned (.bool v) ∧ w = w' := by
  have := ref05_within_calls n a b w
  rwa [hv.out] at this

theorem allIn_three (a b c : Int) : allIn 1 100 [a, b, c] = ((decide (1 ≤ a) && decide (a ≤ 100)) && ((decide (1 ≤ b) && decide (b ≤ 100)) && (decide (1 ≤ c) && decide (c ≤ 100)))) := by
  simp [allIn]

set_option maxHeartbeats 4000000 in
set_option maxRecDepth 100000 in
theorem ref05_Params_calls (F : Fnt) (w : World) : Calls Try.prog 50 #[.agg F.prm.toArray] w (Gives (.bool (prmOk F)) w) := by
  have HN := Lib.hid (show F.lens.length = 17 from rfl)
  obtain ⟨lens, HLe⟩ : ∃ l, Hid (l = F.lens) := ⟨_, rfl⟩
  have hlen : lens.length ≤ 17 ∧ 17 ≤ lens.length := by rw [HLe.out]; exact ⟨Nat.le_refl _, Nat.le_refl _⟩
  go_enter Try.func50, Try.ntmps50
  have hS := own_start w
  go_wp2_with (first | (refine own_unguard (by rfl) ?_) | (refine own_buildSlice rfl _ _ 17 _ rfl (F.lens.map (Value.int .i64)) hS Try.underlying35 (by kernel_rfl) ?_; rw [← HLe.out]; clear hS; (try clear ww); intro bb ww hS) | (refine w_ld rfl _ rfl (by rfl) (by first | exact rd_1 (by repeat constructor) (by first | rfl | assumption) | exact rd_w (by repeat constructor) (by rfl) | exact rd_o (by assumption) (by rfl) (by first | exact nmn | assumption | simp) | exact rd_h (by assumption) (by rfl) (by first | exact nmn | assumption | simp) | exact rd_1o (by assumption) (by first | exact nmn | assumption | simp) | exact rd_1h (by assumption) (by first | rfl | assumption) (by first | exact nmn | assumption | simp)) hS ?_) | (refine own_box rfl _ _ rfl (by rfl) hS ?_; clear hS; (try clear ww); intro bb ww hS) | (refine w_st rfl _ _ rfl (by rfl) (by rfl) (by repeat constructor) (by rfl) (by rfl) (by first | rfl | assumption) hS ?_; clear hS; (try clear ww); intro ww hS) | (refine w_s1 rfl _ _ rfl (by rfl) (by repeat constructor) (by first | exact .c | exact .t rfl) (by rfl) (by repeat constructor) hS ?_; clear hS; (try clear ww); intro ww hS))
  obtain ⟨L0, HL, hS⟩ := hS.named
  go_loopw [4] (fun i wr => ∃ k : Nat, k ≤ 17 ∧ i = .int .i64 k ∧ allIn 0 20000 lens = allIn 0 20000 (lens.drop k) ∧ Own [] w L0 wr) (fun i _ => 17 - (intOf i).toNat)
  case atStart => exact ⟨0, Nat.zero_le _, rfl, rfl, hS⟩
  case round =>
    clear hS
    obtain ⟨k, hk, rfl, hf, hS⟩ := hrel
    obtain rfl := HL.out
    clear HL
    by_cases hlt : k < 17
    · obtain ⟨n, hn⟩ : ∃ n, lens[k]? = some n := ⟨lens[k], by simp⟩
      rw [allIn_drop 0 20000 lens k n hn] at hf
      have HE := Lib.hid hf
      have hcell : (lens.map (Value.int .i64))[k]? = some (.int .i64 n) := by rw [List.getElem?_map, hn]; rfl
      clear hf hn
      cases hb : (decide (0 ≤ n) && decide (n ≤ 20000))
      · have HB := Lib.hid hb
        have E1 := Lib.hid (show prmOk F = false by unfold prmOk; rw [← HLe.out, HE.out, hb]; simp)
        clear hb HE
        go_wp2_with (first | (refine own_unguard (by rfl) ?_) | (go_at_call 64; refine own_callsS hS (ref05_within_v HB) ?_) | (refine w_ld rfl _ rfl (by rfl) (by first | exact rd_1 (by repeat constructor) (by first | rfl | assumption) | exact rd_w (by repeat constructor) (by rfl) | exact rd_o (by assumption) (by rfl) (by first | exact nmn | assumption | simp) | exact rd_h (by assumption) (by rfl) (by first | exact nmn | assumption | simp) | exact rd_1o (by assumption) (by first | exact nmn | assumption | simp) | exact rd_1h (by assumption) (by first | rfl | assumption) (by first | exact nmn | assumption | simp)) hS ?_) | (refine own_box rfl _ _ rfl (by rfl) hS ?_; clear hS; (try clear ww); intro bb ww hS) | (refine w_st rfl _ _ rfl (by rfl) (by rfl) (by repeat constructor) (by rfl) (by rfl) (by first | rfl | assumption) hS ?_; clear hS; (try clear ww); intro ww hS) | (refine w_s1 rfl _ _ rfl (by rfl) (by repeat constructor) (by first | exact .c | exact .t rfl) (by rfl) (by repeat constructor) hS ?_; clear hS; (try clear ww); intro ww hS))
        go_ret
        exact ⟨ret_bool E1.out.symm, hS.below⟩
      · have HB := Lib.hid hb
        have E1 := Lib.hid (show allIn 0 20000 lens = allIn 0 20000 (lens.drop (k + 1)) by rw [HE.out, hb]; simp)
        clear hb HE
        go_wp2_with (first | (refine own_unguard (by rfl) ?_) | (go_at_call 64; refine own_callsS hS (ref05_within_v HB) ?_) | (refine w_ld rfl _ rfl (by rfl) (by first | exact rd_1 (by repeat constructor) (by first | rfl | assumption) | exact rd_w (by repeat constructor) (by rfl) | exact rd_o (by assumption) (by rfl) (by first | exact nmn | assumption | simp) | exact rd_h (by assumption) (by rfl) (by first | exact nmn | assumption | simp) | exact rd_1o (by assumption) (by first | exact nmn | assumption | simp) | exact rd_1h (by assumption) (by first | rfl | assumption) (by first | exact nmn | assumption | simp)) hS ?_) | (refine own_box rfl _ _ rfl (by rfl) hS ?_; clear hS; (try clear ww); intro bb ww hS) | (refine w_st rfl _ _ rfl (by rfl) (by rfl) (by repeat constructor) (by rfl) (by rfl) (by first | rfl | assumption) hS ?_; clear hS; (try clear ww); intro ww hS) | (refine w_s1 rfl _ _ rfl (by rfl) (by repeat constructor) (by first | exact .c | exact .t rfl) (by rfl) (by repeat constructor) hS ?_; clear hS; (try clear ww); intro ww hS))
        go_roundw
        case rel => exact ⟨k + 1, hlt, by go_num, E1.out, hS⟩
        case measure => exact loop_meas hlt
    · have E0 := Lib.hid (show prmOk F = allIn 1 100 [F.script, F.sscript, F.dpercent] by
        unfold prmOk
        rw [← HLe.out, hf, List.drop_of_length_le (by omega)]
        exact Bool.and_true _)
      clear hf
      rw [allIn_three] at E0
      cases hb1 : (decide (1 ≤ F.script) && decide (F.script ≤ 100)) <;> cases hb2 : (decide (1 ≤ F.sscript) && decide (F.sscript ≤ 100)) <;> cases hb3 : (decide (1 ≤ F.dpercent) && decide (F.dpercent ≤ 100))
      all_goals
        rw [hb1, hb2, hb3] at E0
        have B1 := Lib.hid hb1
        have B2 := Lib.hid hb2
        have B3 := Lib.hid hb3
        clear hb1 hb2 hb3
        go_wp2_with (first | (refine own_unguard (by rfl) ?_) | (go_at_call 64; refine own_callsS hS (ref05_within_v B1) ?_) | (go_at_call 64; refine own_callsS hS (ref05_within_v B2) ?_) | (go_at_call 64; refine own_callsS hS (ref05_within_v B3) ?_) | (refine w_ld rfl _ rfl (by rfl) (by first | exact rd_1 (by repeat constructor) (by first | rfl | assumption) | exact rd_w (by repeat constructor) (by rfl) | exact rd_o (by assumption) (by rfl) (by first | exact nmn | assumption | simp) | exact rd_h (by assumption) (by rfl) (by first | exact nmn | assumption | simp) | exact rd_1o (by assumption) (by first | exact nmn | assumption | simp) | exact rd_1h (by assumption) (by first | rfl | assumption) (by first | exact nmn | assumption | simp)) hS ?_) | (refine own_box rfl _ _ rfl (by rfl) hS ?_; clear hS; (try clear ww); intro bb ww hS) | (refine w_st rfl _ _ rfl (by rfl) (by rfl) (by repeat constructor) (by rfl) (by rfl) (by first | rfl | assumption) hS ?_; clear hS; (try clear ww); intro ww hS) | (refine w_s1 rfl _ _ rfl (by rfl) (by repeat constructor) (by first | exact .c | exact .t rfl) (by rfl) (by repeat constructor) hS ?_; clear hS; (try clear ww); intro ww hS))
        go_ret
        exact ⟨ret_bool E0.out.symm, hS.below⟩

end Go.Proofs.Ytgnkngkogamjaaa
namespace Go.Proofs.Ytgnkngkogamjaaa
open Go.RowKit

/-- The metrics of a glyph. -/
def Gly.nums (g : Gly) : List Int := [g.w, g.h, g.d, g.it, g.at_]
/-- All metrics are at most 20000. -/
def metricsOk (g : Gly) : Bool := allIn (-20000) 20000 g.nums
theorem metricsOk_bd {g : Gly} (h : metricsOk g = true) : (-20000 ≤ g.w ∧ g.w ≤ 20000) ∧ (-20000 ≤ g.h ∧ g.h ≤ 20000) ∧ (-20000 ≤ g.d ∧ g.d ≤ 20000) ∧ (-20000 ≤ g.it ∧ g.it ≤ 20000) ∧ (-20000 ≤ g.at_ ∧ g.at_ ≤ 20000) := by
  simp [metricsOk, allIn, Gly.nums] at h
  omega





end Go.Proofs.Ytgnkngkogamjaaa
namespace Go.Proofs.Ytgnkngkogamjaaa
open Go.RowKit



set_option maxHeartbeats 2000000 in
theorem ref05_metrics_calls (g : Gly) (w : World) :
    Calls Try.prog 65 #[.agg #[.string g.name, .int .i64 g.w, .int .i64 g.h, .int .i64 g.d, .int .i64 g.it, .int .i64 g.at_]] w (Gives (.bool (metricsOk g)) w) := by
  obtain ⟨ns, hns⟩ : ∃ ns, ns = g.nums := ⟨_, rfl⟩
  have hm := Lib.hid (show metricsOk g = allIn (-20000) 20000 ns by rw [hns]; rfl)
  have hlen : ns.length = 5 := by rw [hns]; rfl
  have hat : ∀ k n, ns[k]? = some n → ((w.alloc (.cells #[.string g.name, .int .i64 g.w, .int .i64 g.h, .int .i64 g.d, .int .i64 g.it, .int .i64 g.at_] 90)).alloc (.cells #[.int .i64 g.w, .int .i64 g.h, .int .i64 g.d, .int .i64 g.it, .int .i64 g.at_] 3)).cell? ⟨w.heap.size + 1, k, none⟩ = some (.int .i64 n) := by
    intro k n hk
    rw [hns] at hk
    simp only [Gly.nums] at hk
    rcases k with _ | _ | _ | _ | _ | k <;> simp at hk <;> subst hk <;> simp [go_sem]
  have HAT := Lib.hid hat
  have HLEN := Lib.hid hlen
  clear hat hns hlen
  go_enter Try.func65, Try.ntmps65
  go_wp2_with fail
  generalize hW : (w.alloc (.cells #[.string g.name, .int .i64 g.w, .int .i64 g.h, .int .i64 g.d, .int .i64 g.it, .int .i64 g.at_] 90)).alloc (.cells #[.int .i64 g.w, .int .i64 g.h, .int .i64 g.d, .int .i64 g.it, .int .i64 g.at_] 3) = W at *
  have hb : Below w.heap.size w W := by rw [← hW]; exact bnew (bnew (bself w) _) _
  clear hW
  go_loop [4] (fun i => ∃ k : Nat, k ≤ 5 ∧ i = .int .i64 k ∧ allIn (-20000) 20000 ns = allIn (-20000) 20000 (ns.drop k)) (fun i => 5 - (intOf i).toNat)
  case atStart => exact ⟨0, Nat.zero_le _, rfl, rfl⟩
  case round =>
    obtain ⟨k, hk, rfl, hf⟩ := hrel
    by_cases hlt : k < 5
    · obtain ⟨n, hg⟩ : ∃ n, ns[k]? = some n := ⟨ns[k]'(by rw [HLEN.out]; omega), by simp [HLEN.out, hlt]⟩
      have g0 := HAT.out k n hg
      rw [allIn_drop _ _ ns k n hg] at hf
      have HF := Lib.hid hf
      clear hf hg
      by_cases h1 : (decide (-20000 ≤ n) && decide (n ≤ 20000)) = true
      · have E1 := Lib.hid (show allIn (-20000) 20000 ns = allIn (-20000) 20000 (ns.drop (k + 1)) by rw [HF.out, h1, Bool.true_and])
        go_wp2_with fail
        refine (ref05_within_calls _ _ _ _).mono ?_
        rintro e w' ⟨rfl, rfl⟩
        go_wp2_with fail
        go_round
        case rel => exact ⟨k + 1, by omega, by go_num, E1.out⟩
        case measure => simp [intOf]; omega
      · have h1' : (decide (-20000 ≤ n) && decide (n ≤ 20000)) = false := by simpa using h1
        have E1 := Lib.hid (show allIn (-20000) 20000 ns = false by rw [HF.out, h1', Bool.false_and])
        clear h1
        go_wp2_with fail
        refine (ref05_within_calls _ _ _ _).mono ?_
        rintro e w' ⟨rfl, rfl⟩
        go_wp2_with fail
        go_ret
        refine ⟨ret_bool ?_, hb⟩
        rw [hm.out, E1.out]
    · have E1 := Lib.hid (show allIn (-20000) 20000 ns = true by rw [hf, List.drop_of_length_le (by rw [HLEN.out]; omega)]; rfl)
      clear hf
      go_wp2_with fail
      go_ret
      refine ⟨ret_bool ?_, hb⟩
      rw [hm.out, E1.out]











end Go.Proofs.Ytgnkngkogamjaaa
namespace Go.Proofs.Ytgnkngkogamjaaa
open Go.RowKit

attribute [local irreducible] wpQuiet wpList Code.wp

/-- A glyph by itself. -/
def gIn (g : Gly) : Bool := nameOk g.name && metricsOk g && decide (0 ≤ g.w)
/-- No glyph ahead has its name. -/
def freshG (gs : List Gly) (k : Nat) (g : Gly) : Prop := ∀ j, j < k → ∀ g', gs[j]? = some g' → (g'.name.toList == g.name.toList) = false
/-- All glyphs are as required. -/
def GlysOk (gs : List Gly) : Prop := ∀ k g, gs[k]? = some g → gIn g = true ∧ freshG gs k g

theorem GlysOk.not_in {gs : List Gly} {k : Nat} {g : Gly} {b : Bool} (hb : Hid (b = true ↔ GlysOk gs)) (h : gs[k]? = some g) (hn : gIn g = false) : false = b := by
  cases b
  · rfl
  · have := (hb.out.1 rfl k g h).1
    rw [hn] at this; cases this
theorem GlysOk.not_fresh {gs : List Gly} {k j : Nat} {g g' : Gly} {b : Bool} (hb : Hid (b = true ↔ GlysOk gs)) (h : gs[k]? = some g) (hj : j < k) (h' : gs[j]? = some g') (hn : (g'.name.toList == g.name.toList) = true) : false = b := by
  cases b
  · rfl
  · have := (hb.out.1 rfl k g h).2 j hj g' h'
    rw [hn] at this; cases this
theorem GlysOk.all {gs : List Gly} {b : Bool} (hb : Hid (b = true ↔ GlysOk gs)) (h : ∀ j, j < gs.length → ∀ g, gs[j]? = some g → gIn g = true ∧ freshG gs j g) : true = b :=
  (hb.out.2 fun k g hk => h k (List.getElem?_eq_some_iff.1 hk).1 g hk).symm
theorem glys_next {gs : List Gly} {k : Nat} {g : Gly} (h : Hid (∀ j, j < k → ∀ g, gs[j]? = some g → gIn g = true ∧ freshG gs j g)) (hg : gs[k]? = some g) (h1 : gIn g = true) (h2 : freshG gs k g) : ∀ j, j < k + 1 → ∀ g, gs[j]? = some g → gIn g = true ∧ freshG gs j g := by
  intro j hj g' hg'
  by_cases he : j = k
  · subst he
    rw [hg] at hg'
    cases hg'
    exact ⟨h1, h2⟩
  · exact h.out j (by omega) g' hg'

theorem ref05_Name_v {s : ByteArray} {w : World} {v : Bool} (hs : s.size ≤ maxLen) (hv : Hid (nameOk s = v)) : Calls Try.prog 62 #[.string s] w fun e w' => e = .returned (.bool v) ∧ w = w' := by
  have := ref05_Name_calls s w hs
  rwa [hv.out] at this
theorem ref05_metrics_v {g : Gly} {w : World} {v : Bool} (hv : Hid (metricsOk g = v)) : Calls Try.prog 65 #[.agg #[.string g.name, .int .i64 g.w, .int .i64 g.h, .int .i64 g.d, .int .i64 g.it, .int .i64 g.at_]] w (Gives (.bool v) w) := by
  have := ref05_metrics_calls g w
  rwa [hv.out] at this

set_option maxHeartbeats 8000000 in
set_option maxRecDepth 100000 in
theorem ref05_glyphs_calls (gx : Option Addr) (gc : Nat) (gs : List Gly) (w : World) (hr : RowAt w gx 6 Gly.cells gs) (hl : ∀ g ∈ gs, g.name.size ≤ maxLen) (hn : gs.length ≤ 1000000) (b : Bool) (hb : b = true ↔ GlysOk gs) :
    Calls Try.prog 51 #[.slice gx gs.length gc] w (Gives (.bool b) w) := by
  have HR := Lib.hid hr
  have HL := Lib.hid hl
  have HB := Lib.hid hb
  clear hr hl hb
  go_enter Try.func51, Try.ntmps51
  have hS := own_start w
  go_wp2_with (first | (refine own_unguard (by rfl) ?_) | (refine w_ld rfl _ rfl (by rfl) (by first | exact rd_1 (by repeat constructor) (by first | rfl | assumption) | exact rd_w (by repeat constructor) (by rfl) | exact rd_o (by assumption) (by rfl) (by first | exact nmn | assumption | simp) | exact rd_h (by assumption) (by rfl) (by first | exact nmn | assumption | simp) | exact rd_1o (by assumption) (by first | exact nmn | assumption | simp) | exact rd_1h (by assumption) (by first | rfl | assumption) (by first | exact nmn | assumption | simp)) hS ?_) | (refine own_box rfl _ _ rfl (by rfl) hS ?_; clear hS; (try clear ww); intro bb ww hS) | (refine w_st rfl _ _ rfl (by rfl) (by rfl) (by repeat constructor) (by rfl) (by rfl) (by first | rfl | assumption) hS ?_; clear hS; (try clear ww); intro ww hS) | (refine w_s1 rfl _ _ rfl (by rfl) (by repeat constructor) (by first | exact .c | exact .t rfl) (by rfl) (by repeat constructor) hS ?_; clear hS; (try clear ww); intro ww hS))
  go_loopw [3] (fun i wr => ∃ k : Nat, k ≤ gs.length ∧ i = .int .i64 k ∧ (∀ j, j < k → ∀ g, gs[j]? = some g → gIn g = true ∧ freshG gs j g) ∧ Own [] w [] wr) (fun i _ => gs.length - (intOf i).toNat)
  case atStart => exact ⟨0, Nat.zero_le _, rfl, fun j hj => absurd hj (Nat.not_lt_zero j), hS⟩
  case round =>
    clear hS
    obtain ⟨k, hk, rfl, hp, hS⟩ := hrel
    have HP := Lib.hid hp
    clear hp
    by_cases hlt : k < gs.length
    · obtain ⟨g, hg⟩ : ∃ g, gs[k]? = some g := ⟨gs[k], by simp [hlt]⟩
      obtain ⟨b0, o0, hx, r0⟩ := HR.out.get hg
      obtain rfl : gx = some ⟨b0, o0, none⟩ := hx
      have HG := Lib.hid hg
      have hsz := Lib.hid (HL.out g (List.mem_of_getElem? hg))
      clear hg
      have s0 : w.rangeAt b0 (o0 + k * 6) [.string g.name, .int .i64 g.w, .int .i64 g.h, .int .i64 g.d, .int .i64 g.it, .int .i64 g.at_] := r0
      have c0 : w.cell? ⟨b0, o0 + k * 6, none⟩ = some (.string g.name) := r0 0 _ rfl
      have c1 : w.cell? ⟨b0, o0 + k * 6 + 1, none⟩ = some (.int .i64 g.w) := r0 1 _ rfl
      clear r0
      cases h1 : nameOk g.name
      · have H1 := Lib.hid h1
        have E1 := Lib.hid (GlysOk.not_in HB HG.out (show gIn g = false by simp [gIn, h1]))
        clear h1
        go_wp2_with (first | (refine own_unguard (by rfl) ?_) | (go_at_call 62; refine own_callsS hS (ref05_Name_v hsz.out H1) ?_) | (refine w_ld rfl _ rfl (by rfl) (by first | exact rd_1 (by repeat constructor) (by first | rfl | assumption) | exact rd_w (by repeat constructor) (by rfl) | exact rd_o (by assumption) (by rfl) (by first | exact nmn | assumption | simp) | exact rd_h (by assumption) (by rfl) (by first | exact nmn | assumption | simp) | exact rd_1o (by assumption) (by first | exact nmn | assumption | simp) | exact rd_1h (by assumption) (by first | rfl | assumption) (by first | exact nmn | assumption | simp)) hS ?_) | (refine own_box rfl _ _ rfl (by rfl) hS ?_; clear hS; (try clear ww); intro bb ww hS) | (refine w_st rfl _ _ rfl (by rfl) (by rfl) (by repeat constructor) (by rfl) (by rfl) (by first | rfl | assumption) hS ?_; clear hS; (try clear ww); intro ww hS) | (refine w_s1 rfl _ _ rfl (by rfl) (by repeat constructor) (by first | exact .c | exact .t rfl) (by rfl) (by repeat constructor) hS ?_; clear hS; (try clear ww); intro ww hS))
        go_ret
        exact ⟨ret_bool E1.out, hS.below⟩
      · have H1 := Lib.hid h1
        cases h2 : metricsOk g
        · have H2 := Lib.hid h2
          have E1 := Lib.hid (GlysOk.not_in HB HG.out (show gIn g = false by simp [gIn, h2]))
          clear h1 h2
          go_wp2_with (first | (refine own_unguard (by rfl) ?_) | (go_at_call 62; refine own_callsS hS (ref05_Name_v hsz.out H1) ?_) | (go_at_call 65; refine own_calls hS (ref05_metrics_v (g := g) H2) ?_; clear hS; (try clear ww); intro ww hS) | (refine w_ld rfl _ rfl (by rfl) (by first | exact rd_1 (by repeat constructor) (by first | rfl | assumption) | exact rd_w (by repeat constructor) (by rfl) | exact rd_o (by assumption) (by rfl) (by first | exact nmn | assumption | simp) | exact rd_h (by assumption) (by rfl) (by first | exact nmn | assumption | simp) | exact rd_1o (by assumption) (by first | exact nmn | assumption | simp) | exact rd_1h (by assumption) (by first | rfl | assumption) (by first | exact nmn | assumption | simp)) hS ?_) | (refine own_box rfl _ _ rfl (by rfl) hS ?_; clear hS; (try clear ww); intro bb ww hS) | (refine w_st rfl _ _ rfl (by rfl) (by rfl) (by repeat constructor) (by rfl) (by rfl) (by first | rfl | assumption) hS ?_; clear hS; (try clear ww); intro ww hS) | (refine w_s1 rfl _ _ rfl (by rfl) (by repeat constructor) (by first | exact .c | exact .t rfl) (by rfl) (by repeat constructor) hS ?_; clear hS; (try clear ww); intro ww hS))
          go_ret
          exact ⟨ret_bool E1.out, hS.below⟩
        · have H2 := Lib.hid h2
          cases h3 : decide (g.w < 0)
          · have E1 := Lib.hid (show gIn g = true by simp at h3; simp [gIn, h1, h2, h3])
            clear h1 h2
            go_wp2_with (first | (refine own_unguard (by rfl) ?_) | (go_at_call 62; refine own_callsS hS (ref05_Name_v hsz.out H1) ?_) | (go_at_call 65; refine own_calls hS (ref05_metrics_v (g := g) H2) ?_; clear hS; (try clear ww); intro ww hS) | (refine w_ld rfl _ rfl (by rfl) (by first | exact rd_1 (by repeat constructor) (by first | rfl | assumption) | exact rd_w (by repeat constructor) (by rfl) | exact rd_o (by assumption) (by rfl) (by first | exact nmn | assumption | simp) | exact rd_h (by assumption) (by rfl) (by first | exact nmn | assumption | simp) | exact rd_1o (by assumption) (by first | exact nmn | assumption | simp) | exact rd_1h (by assumption) (by first | rfl | assumption) (by first | exact nmn | assumption | simp)) hS ?_) | (refine own_box rfl _ _ rfl (by rfl) hS ?_; clear hS; (try clear ww); intro bb ww hS) | (refine w_st rfl _ _ rfl (by rfl) (by rfl) (by repeat constructor) (by rfl) (by rfl) (by first | rfl | assumption) hS ?_; clear hS; (try clear ww); intro ww hS) | (refine w_s1 rfl _ _ rfl (by rfl) (by repeat constructor) (by first | exact .c | exact .t rfl) (by rfl) (by repeat constructor) hS ?_; clear hS; (try clear ww); intro ww hS))
            go_loopw [4] (fun i wr => ∃ m : Nat, m ≤ k ∧ i = .int .i64 m ∧ freshG gs m g ∧ Own [] w [] wr) (fun i _ => k - (intOf i).toNat)
            case atStart => exact ⟨0, Nat.zero_le _, rfl, fun j hj => absurd hj (Nat.not_lt_zero j), hS⟩
            case round =>
              clear hS
              obtain ⟨m, hm, rfl, hf, hS⟩ := hrel
              have HF := Lib.hid hf
              clear hf
              by_cases hlm : m < k
              · have hmn : m < gs.length := by omega
                obtain ⟨g2, hg2⟩ : ∃ g, gs[m]? = some g := ⟨gs[m], by simp [hmn]⟩
                obtain ⟨b2, o2, hx2, r2⟩ := HR.out.get hg2
                obtain ⟨rfl, rfl⟩ : b0 = b2 ∧ o0 = o2 := by simpa using hx2
                have d0 : w.cell? ⟨b0, o0 + m * 6, none⟩ = some (.string g2.name) := r2 0 _ rfl
                have HG2 := Lib.hid hg2
                clear r2 hx2 hg2
                cases he : (g2.name.toList == g.name.toList)
                · have E2 := Lib.hid (show freshG gs (m + 1) g by
                    intro j hj g' hg'
                    by_cases e : j = m
                    · subst e
                      rw [HG2.out] at hg'
                      cases hg'
                      exact he
                    · exact HF.out j (by omega) g' hg')
                  go_wp2_with (first | (refine own_unguard (by rfl) ?_) | (refine w_ld rfl _ rfl (by rfl) (by first | exact rd_1 (by repeat constructor) (by first | rfl | assumption) | exact rd_w (by repeat constructor) (by rfl) | exact rd_o (by assumption) (by rfl) (by first | exact nmn | assumption | simp) | exact rd_h (by assumption) (by rfl) (by first | exact nmn | assumption | simp) | exact rd_1o (by assumption) (by first | exact nmn | assumption | simp) | exact rd_1h (by assumption) (by first | rfl | assumption) (by first | exact nmn | assumption | simp)) hS ?_) | (refine own_box rfl _ _ rfl (by rfl) hS ?_; clear hS; (try clear ww); intro bb ww hS) | (refine w_st rfl _ _ rfl (by rfl) (by rfl) (by repeat constructor) (by rfl) (by rfl) (by first | rfl | assumption) hS ?_; clear hS; (try clear ww); intro ww hS) | (refine w_s1 rfl _ _ rfl (by rfl) (by repeat constructor) (by first | exact .c | exact .t rfl) (by rfl) (by repeat constructor) hS ?_; clear hS; (try clear ww); intro ww hS))
                  refine own_region hS (by kernel_rfl) (by kernel_rfl) ?_
                  (try simp only); (try simp only [List.drop_succ_cons]); (try simp only [List.drop_zero]); (try simp only [List.take_succ_cons]); (try simp only [List.take_zero])
                  repeat (first
                      | (first | (refine quiet_plain rfl ?_) | (refine quiet_yes rfl rfl rfl (by simp only [List.getElem?_toArray, List.getElem?_cons_succ, List.getElem?_cons_zero]; rfl) (by with_reducible constructor) ?_)
                         apply Exists.intro; refine ⟨?_, ?_⟩
                         focus (intro wq hq0; have hq : Own _ _ _ wq := hq0; first | (exact quietAt_rd rfl (by rfl) (by first | exact rd_1 (by repeat constructor) (by first | rfl | assumption) | exact rd_w (by repeat constructor) (by rfl) | exact rd_o (by assumption) (by rfl) (by first | exact nmn | assumption | simp) | exact rd_h (by assumption) (by rfl) (by first | exact nmn | assumption | simp) | exact rd_1o (by assumption) (by first | exact nmn | assumption | simp) | exact rd_1h (by assumption) (by first | rfl | assumption) (by first | exact nmn | assumption | simp)) hq) | (go_simp; first | (with_reducible rfl)))
                         simp only [Act.put, List.setIfInBounds_toArray, List.set_cons_zero, List.set_cons_succ])
                      | (refine quiet_no rfl rfl rfl (by simp only [List.getElem?_toArray, List.getElem?_cons_succ, List.getElem?_cons_zero]; rfl) (by with_reducible constructor) ?_; simp only [Act.put, List.setIfInBounds_toArray, List.set_cons_zero, List.set_cons_succ]))
                  refine wpQuiet_nil ?_
                  clear hS
                  intro ww hS
                  go_wp2_with (first | (refine own_unguard (by rfl) ?_) | (refine w_ld rfl _ rfl (by rfl) (by first | exact rd_1 (by repeat constructor) (by first | rfl | assumption) | exact rd_w (by repeat constructor) (by rfl) | exact rd_o (by assumption) (by rfl) (by first | exact nmn | assumption | simp) | exact rd_h (by assumption) (by rfl) (by first | exact nmn | assumption | simp) | exact rd_1o (by assumption) (by first | exact nmn | assumption | simp) | exact rd_1h (by assumption) (by first | rfl | assumption) (by first | exact nmn | assumption | simp)) hS ?_) | (refine own_box rfl _ _ rfl (by rfl) hS ?_; clear hS; (try clear ww); intro bb ww hS) | (refine w_st rfl _ _ rfl (by rfl) (by rfl) (by repeat constructor) (by rfl) (by rfl) (by first | rfl | assumption) hS ?_; clear hS; (try clear ww); intro ww hS) | (refine w_s1 rfl _ _ rfl (by rfl) (by repeat constructor) (by first | exact .c | exact .t rfl) (by rfl) (by repeat constructor) hS ?_; clear hS; (try clear ww); intro ww hS))
                  go_roundw
                  case rel => exact ⟨m + 1, hlm, by go_num, E2.out, hS⟩
                  case measure => exact loop_meas hlm
                · have E2 := Lib.hid (GlysOk.not_fresh HB HG.out hlm HG2.out he)
                  go_wp2_with (first | (refine own_unguard (by rfl) ?_) | (refine w_ld rfl _ rfl (by rfl) (by first | exact rd_1 (by repeat constructor) (by first | rfl | assumption) | exact rd_w (by repeat constructor) (by rfl) | exact rd_o (by assumption) (by rfl) (by first | exact nmn | assumption | simp) | exact rd_h (by assumption) (by rfl) (by first | exact nmn | assumption | simp) | exact rd_1o (by assumption) (by first | exact nmn | assumption | simp) | exact rd_1h (by assumption) (by first | rfl | assumption) (by first | exact nmn | assumption | simp)) hS ?_) | (refine own_box rfl _ _ rfl (by rfl) hS ?_; clear hS; (try clear ww); intro bb ww hS) | (refine w_st rfl _ _ rfl (by rfl) (by rfl) (by repeat constructor) (by rfl) (by rfl) (by first | rfl | assumption) hS ?_; clear hS; (try clear ww); intro ww hS) | (refine w_s1 rfl _ _ rfl (by rfl) (by repeat constructor) (by first | exact .c | exact .t rfl) (by rfl) (by repeat constructor) hS ?_; clear hS; (try clear ww); intro ww hS))
                  refine own_region hS (by kernel_rfl) (by kernel_rfl) ?_
                  (try simp only); (try simp only [List.drop_succ_cons]); (try simp only [List.drop_zero]); (try simp only [List.take_succ_cons]); (try simp only [List.take_zero])
                  repeat (first
                      | (first | (refine quiet_plain rfl ?_) | (refine quiet_yes rfl rfl rfl (by simp only [List.getElem?_toArray, List.getElem?_cons_succ, List.getElem?_cons_zero]; rfl) (by with_reducible constructor) ?_)
                         apply Exists.intro; refine ⟨?_, ?_⟩
                         focus (intro wq hq0; have hq : Own _ _ _ wq := hq0; first | (exact quietAt_rd rfl (by rfl) (by first | exact rd_1 (by repeat constructor) (by first | rfl | assumption) | exact rd_w (by repeat constructor) (by rfl) | exact rd_o (by assumption) (by rfl) (by first | exact nmn | assumption | simp) | exact rd_h (by assumption) (by rfl) (by first | exact nmn | assumption | simp) | exact rd_1o (by assumption) (by first | exact nmn | assumption | simp) | exact rd_1h (by assumption) (by first | rfl | assumption) (by first | exact nmn | assumption | simp)) hq) | (go_simp; first | (with_reducible rfl)))
                         simp only [Act.put, List.setIfInBounds_toArray, List.set_cons_zero, List.set_cons_succ])
                      | (refine quiet_no rfl rfl rfl (by simp only [List.getElem?_toArray, List.getElem?_cons_succ, List.getElem?_cons_zero]; rfl) (by with_reducible constructor) ?_; simp only [Act.put, List.setIfInBounds_toArray, List.set_cons_zero, List.set_cons_succ]))
                  refine wpQuiet_nil ?_
                  clear hS
                  intro ww hS
                  go_wp2_with (first | (refine own_unguard (by rfl) ?_) | (refine w_ld rfl _ rfl (by rfl) (by first | exact rd_1 (by repeat constructor) (by first | rfl | assumption) | exact rd_w (by repeat constructor) (by rfl) | exact rd_o (by assumption) (by rfl) (by first | exact nmn | assumption | simp) | exact rd_h (by assumption) (by rfl) (by first | exact nmn | assumption | simp) | exact rd_1o (by assumption) (by first | exact nmn | assumption | simp) | exact rd_1h (by assumption) (by first | rfl | assumption) (by first | exact nmn | assumption | simp)) hS ?_) | (refine own_box rfl _ _ rfl (by rfl) hS ?_; clear hS; (try clear ww); intro bb ww hS) | (refine w_st rfl _ _ rfl (by rfl) (by rfl) (by repeat constructor) (by rfl) (by rfl) (by first | rfl | assumption) hS ?_; clear hS; (try clear ww); intro ww hS) | (refine w_s1 rfl _ _ rfl (by rfl) (by repeat constructor) (by first | exact .c | exact .t rfl) (by rfl) (by repeat constructor) hS ?_; clear hS; (try clear ww); intro ww hS))
                  go_ret
                  exact ⟨ret_bool E2.out, hS.below⟩
              · obtain rfl : m = k := by omega
                go_wp2_with (first | (refine own_unguard (by rfl) ?_) | (refine w_ld rfl _ rfl (by rfl) (by first | exact rd_1 (by repeat constructor) (by first | rfl | assumption) | exact rd_w (by repeat constructor) (by rfl) | exact rd_o (by assumption) (by rfl) (by first | exact nmn | assumption | simp) | exact rd_h (by assumption) (by rfl) (by first | exact nmn | assumption | simp) | exact rd_1o (by assumption) (by first | exact nmn | assumption | simp) | exact rd_1h (by assumption) (by first | rfl | assumption) (by first | exact nmn | assumption | simp)) hS ?_) | (refine own_box rfl _ _ rfl (by rfl) hS ?_; clear hS; (try clear ww); intro bb ww hS) | (refine w_st rfl _ _ rfl (by rfl) (by rfl) (by repeat constructor) (by rfl) (by rfl) (by first | rfl | assumption) hS ?_; clear hS; (try clear ww); intro ww hS) | (refine w_s1 rfl _ _ rfl (by rfl) (by repeat constructor) (by first | exact .c | exact .t rfl) (by rfl) (by repeat constructor) hS ?_; clear hS; (try clear ww); intro ww hS))
                go_roundw
                case rel => exact ⟨m + 1, hlt, by go_num, glys_next HP HG.out E1.out HF.out, hS⟩
                case measure => exact loop_meas hlt
          · have E1 := Lib.hid (GlysOk.not_in HB HG.out (show gIn g = false by simp at h3; simp [gIn]; intro _ _; omega))
            clear h1 h2
            go_wp2_with (first | (refine own_unguard (by rfl) ?_) | (go_at_call 62; refine own_callsS hS (ref05_Name_v hsz.out H1) ?_) | (go_at_call 65; refine own_calls hS (ref05_metrics_v (g := g) H2) ?_; clear hS; (try clear ww); intro ww hS) | (refine w_ld rfl _ rfl (by rfl) (by first | exact rd_1 (by repeat constructor) (by first | rfl | assumption) | exact rd_w (by repeat constructor) (by rfl) | exact rd_o (by assumption) (by rfl) (by first | exact nmn | assumption | simp) | exact rd_h (by assumption) (by rfl) (by first | exact nmn | assumption | simp) | exact rd_1o (by assumption) (by first | exact nmn | assumption | simp) | exact rd_1h (by assumption) (by first | rfl | assumption) (by first | exact nmn | assumption | simp)) hS ?_) | (refine own_box rfl _ _ rfl (by rfl) hS ?_; clear hS; (try clear ww); intro bb ww hS) | (refine w_st rfl _ _ rfl (by rfl) (by rfl) (by repeat constructor) (by rfl) (by rfl) (by first | rfl | assumption) hS ?_; clear hS; (try clear ww); intro ww hS) | (refine w_s1 rfl _ _ rfl (by rfl) (by repeat constructor) (by first | exact .c | exact .t rfl) (by rfl) (by repeat constructor) hS ?_; clear hS; (try clear ww); intro ww hS))
            go_ret
            exact ⟨ret_bool E1.out, hS.below⟩
    · have E1 := Lib.hid (GlysOk.all HB (fun j hj => HP.out j (by omega)))
      go_wp2_with (first | (refine own_unguard (by rfl) ?_) | (refine w_ld rfl _ rfl (by rfl) (by first | exact rd_1 (by repeat constructor) (by first | rfl | assumption) | exact rd_w (by repeat constructor) (by rfl) | exact rd_o (by assumption) (by rfl) (by first | exact nmn | assumption | simp) | exact rd_h (by assumption) (by rfl) (by first | exact nmn | assumption | simp) | exact rd_1o (by assumption) (by first | exact nmn | assumption | simp) | exact rd_1h (by assumption) (by first | rfl | assumption) (by first | exact nmn | assumption | simp)) hS ?_) | (refine own_box rfl _ _ rfl (by rfl) hS ?_; clear hS; (try clear ww); intro bb ww hS) | (refine w_st rfl _ _ rfl (by rfl) (by rfl) (by repeat constructor) (by rfl) (by rfl) (by first | rfl | assumption) hS ?_; clear hS; (try clear ww); intro ww hS) | (refine w_s1 rfl _ _ rfl (by rfl) (by repeat constructor) (by first | exact .c | exact .t rfl) (by rfl) (by repeat constructor) hS ?_; clear hS; (try clear ww); intro ww hS))
      go_ret
      exact ⟨ret_bool E1.out, hS.below⟩

end Go.Proofs.Ytgnkngkogamjaaa
namespace Go.Proofs.Ytgnkngkogamjaaa
open Go.RowKit

attribute [local irreducible] wpQuiet wpG wpP wpList Code.wp

/-- The k-th size is there, and higher than the one ahead. -/
def SizeOk (gs : List Gly) (sz : List ByteArray) (k : Nat) (n : ByteArray) : Prop :=
  ∃ g, findG gs n = some g ∧ ∀ m n' g', k = m + 1 → sz[m]? = some n' → findG gs n' = some g' → g'.h + g'.d < g.h + g.d
/-- A part is there, and higher than the overlap. -/
def PartOk (gs : List Gly) (ov : Int) (p : Prt) : Prop := ∃ g, findG gs p.name = some g ∧ ov < g.h + g.d
/-- A stretch by itself. -/
def StrReq (gs : List Gly) (s : Str) : Prop :=
  nameOk s.name = true ∧ 1 ≤ s.sizes.length ∧ s.sizes.length ≤ 16 ∧ s.parts.length ≤ 8 ∧ (∀ k n, s.sizes[k]? = some n → SizeOk gs s.sizes k n) ∧
  ((s.parts = [] ∧ s.ov = 0) ∨ (s.parts ≠ [] ∧ (∀ p ∈ s.parts, PartOk gs s.ov p) ∧ (s.parts.any fun p => p.ext) = true ∧ 0 ≤ s.ov))
/-- No stretch ahead has its name. -/
def freshS (ss : List Str) (k : Nat) (s : Str) : Prop := ∀ j, j < k → ∀ s', ss[j]? = some s' → (s'.name.toList == s.name.toList) = false
def StrsReq (gs : List Gly) (ss : List Str) : Prop := ∀ k s, ss[k]? = some s → StrReq gs s ∧ freshS ss k s
/-- A font is valid. -/
def ValidF (F : Fnt) : Prop := F.gs.length ≤ 400 ∧ F.ss.length ≤ 40 ∧ prmOk F = true ∧ GlysOk F.gs ∧ StrsReq F.gs F.ss

end Go.Proofs.Ytgnkngkogamjaaa
namespace Go.Proofs.Ytgnkngkogamjaaa
open Go.RowKit



theorem ref05_find (F : Fnt) (s : ByteArray) (w : World) (h : FntOk w F) (hn : F.gs.length ≤ 500) : Calls Try.prog 66 #[F.val, .string s] w (Gives (.tuple #[.agg #[.string ((findG F.gs s).getD nilG).name, .int .i64 ((findG F.gs s).getD nilG).w, .int .i64 ((findG F.gs s).getD nilG).h, .int .i64 ((findG F.gs s).getD nilG).d, .int .i64 ((findG F.gs s).getD nilG).it, .int .i64 ((findG F.gs s).getD nilG).at_], .bool (findG F.gs s).isSome]) w) := by
  rw [← findVal_any]
  exact ref05_Find_calls _ _ _ _ _ _ _ _ _ _ _ _ _ _ _ _ _ _ _ _ _ _ F.gs s w (by omega) h.glysAt

end Go.Proofs.Ytgnkngkogamjaaa
