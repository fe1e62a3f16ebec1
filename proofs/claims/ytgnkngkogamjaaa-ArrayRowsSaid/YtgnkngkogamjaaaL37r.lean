/- Chapter 37, ArrayRows: the law returns true. -/
import Derived.Test.YtgnkngkogamjaaaR20
import Derived.Test.YtgnkngkogamjaaaR23
namespace Go.Proofs.Ytgnkngkogamjaaa
open Go.RowKit
attribute [local irreducible] wpQuiet wpG wpP wpK wpList Code.wp Calls

instance rt_three : RowTy Try.prog 45 3 := ⟨⟨_, Try.underlying45, rfl⟩, by kernel_rfl⟩
instance ot_u8 : OneTy Try.prog 5 := ⟨⟨_, Try.underlying5, rfl⟩, by kernel_rfl⟩

set_option maxHeartbeats 16000000 in
set_option maxRecDepth 100000 in
theorem arrayRows_wild (F : Fnt) (l : Int) (c : Bool) (ra rb rc : Int) (n : Nat) (kids : List (Bx (n + 1))) (kx : Option Addr) (kc : Nat) (w : World) (hF : FntOk w F) (hk : RepL w (n + 1) kx kids) (hm : kids.length ≤ maxLen) (ba : 0 ≤ ra ∧ ra ≤ 255) (_bb : 0 ≤ rb ∧ rb ≤ 255) (_bc : 0 ≤ rc ∧ rc ≤ 255) (K : Nat) (hK : (K : Int) = 1 + ra % 16) (ht : ¬ RightOk F l n (K : Int) kids) : Calls Try.prog 7 #[.agg (caseX F l c).toArray, .agg #[.int .u8 ra, .int .u8 rb, .int .u8 rc], .slice kx kids.length kc] w (Gives (.bool true) w) := by
  have HRi := Lib.hid (fun w' (h : Below w.heap.size w w') => right37_calls F l c n K kids kx kc w' (hF.below h) (hk.step h) hm false (iff_f ht))
  obtain ⟨vr, hvr⟩ : ∃ z, z = ra % 16 := ⟨_, rfl⟩
  have r1 : ra.tmod 16 = vr := by rw [Int.tmod_eq_emod_of_nonneg ba.1, hvr]
  have r2 : ra % 16 = vr := hvr.symm
  have r3 : IntKind.u8.wrap vr = vr := by
    have : 0 ≤ vr ∧ vr ≤ 15 := by omega
    simp [IntKind.wrap, IntKind.signed, IntKind.bits]
    omega
  have r4 : IntKind.i64.wrap vr = vr := IntWalk.i64_in _ (by omega)
  have r5 : IntKind.i64.wrap (1 + vr) = (K : Int) := by rw [IntWalk.i64_in _ (by omega)]; omega
  clear hF hk ht hK hvr ba _bb _bc
  go_enter Try.func7, Try.ntmps7
  have hS := own_start w
  go_wp2_with (first | (refine own_unguard (by rfl) ?_) | (refine own_box rfl _ _ rfl rfl hS ?_; clear hS; intro kb w0 hS0; have hrC := (hS0.get at0).range; have HB0 := Lib.hid hS0.below; obtain ⟨hrF, hrS⟩ := caseX_out hrC; have hS := own_start w0; clear hS0) | (refine own_box rfl _ _ rfl rfl hS ?_; clear hS; intro kr ww hS) | (refine own_load_old rfl _ _ rfl rfl hS hrC List.not_mem_nil rt_case37 ?_) | (refine own_load_old rfl _ _ rfl rfl hS hrF List.not_mem_nil rt_font ?_) | (refine own_load_old rfl _ _ rfl rfl hS hrS List.not_mem_nil rt_style ?_) | (go_at_call 8; refine own_calls hS (by first | exact awake37_calls _) ?_; clear hS; (try clear ww); intro ww hS) | (go_at_call 13; refine own_calls hS (HRi.out _ (bthen HB0.out hS.below)) ?_; clear hS; (try clear ww); intro ww hS) | (refine w_ld rfl _ rfl (by rfl) (by first | exact rd_1 (by repeat constructor) (by first | rfl | assumption) | exact rd_w (by repeat constructor) (by rfl) | exact rd_o (by assumption) (by rfl) (by first | exact nmn | assumption | simp) | exact rd_h (by assumption) (by rfl) (by first | exact nmn | assumption | simp) | exact rd_1o (by assumption) (by first | exact nmn | assumption | simp) | exact rd_1h (by assumption) (by first | rfl | assumption) (by first | exact nmn | assumption | simp)) hS ?_) | (refine own_box rfl _ _ rfl (by rfl) hS ?_; clear hS; (try clear ww); intro bb ww hS) | (refine w_al rfl rfl hS ?_; clear hS; (try clear ww); intro bb ww hS) | (refine w_st rfl _ _ rfl (by rfl) (by rfl) (by repeat constructor) (by rfl) (by rfl) (by first | rfl | assumption) hS ?_; clear hS; (try clear ww); intro ww hS) | (refine w_s1 rfl _ _ rfl (by rfl) (by repeat constructor) (by first | exact .c | exact .t rfl) (by rfl) (by repeat constructor) hS ?_; clear hS; (try clear ww); intro ww hS))
  go_ret
  exact ⟨rfl, bthen HB0.out hS.below⟩

theorem oth_succ {α : Type} {K p q c : Nat} {l : List α} {x y : α} (h2 : l[q * K + c]? = some y) (h1 : l[p * K + c]? = some x) : oth K p q l (c + 1) = ((oth K p q l c).set (p * K + c) y).set (q * K + c) x := by
  show (match l[q * K + c]?, l[p * K + c]? with
    | some y, some x => ((oth K p q l c).set (p * K + c) y).set (q * K + c) x
    | _, _ => oth K p q l c) = _
  rw [h2, h1]
theorem flat_el {w : World} {k o i : Nat} {ks : List El} {e : El} (h : w.rangeAt k o (ks.flatMap elC)) (hi : ks[i]? = some e) : w.rangeAt k (o + i * 11) (elC e) := fun j v hj => by
  have h1 := flat_get (junk := []) hi hj
  rw [List.append_nil] at h1
  have := h _ _ h1
  rwa [← Nat.add_assoc] at this
theorem oth_rep {w wr : World} {n K R p q ob : Nat} {kids : List (Bx (n + 1))} {ks : List El} {junk : List Value} (hl : ks.length = kids.length) (hN : kids.length = R * K) (hp : p < R) (hq : q < R) (hks : ∀ (i : Nat) (e : El) (kid : Bx (n + 1)), ks[i]? = some e → kids[i]? = some kid → e.1 = kid.1 ∧ Rep w (n + 1) kid (elC e)) (hb : Below w.heap.size w wr) (hh : Has wr ob ((oth K p q ks K).flatMap elC ++ junk)) : RepL wr (n + 1) (some ⟨ob, 0, none⟩) (oth K p q kids K) := fun i kid hi => by
  rw [oth_get hN hp hq K (Nat.le_refl _)] at hi
  have hlt : swi K p q K i < kids.length := (List.getElem?_eq_some_iff.1 hi).1
  obtain ⟨e, he⟩ : ∃ e, ks[swi K p q K i]? = some e := ⟨ks[swi K p q K i]'(by omega), by rw [List.getElem?_eq_getElem]⟩
  have he2 : (oth K p q ks K)[i]? = some e := by rw [oth_get (hl.trans hN) hp hq K (Nat.le_refl _)]; exact he
  refine ⟨ob, 0, elC e, rfl, fun j v hj => ?_, (hks _ e kid he hi).2.step hb⟩
  rw [Nat.zero_add]
  exact (hh.cell _).trans (flat_get he2 hj)
theorem el_one {ks : List El} {e : El} {i : Nat} (h : ∀ v ∈ ks.flatMap elC, v.oneCell' = true) (hi : ks[i]? = some e) : (elC e).all (·.oneCell') = true := by
  rw [List.all_eq_true]
  intro v hv
  exact h v (List.mem_flatMap.2 ⟨e, List.mem_of_getElem? hi, hv⟩)

set_option maxHeartbeats 16000000 in
set_option maxRecDepth 100000 in
theorem arrayRows_main (F : Fnt) (l : Int) (c : Bool) (ra rb rc : Int) (n : Nat) (kids : List (Bx (n + 1))) (kx : Option Addr) (kc : Nat) (w : World) (hF : FntOk w F) (hk : RepL w (n + 1) kx kids) (hm : kids.length ≤ maxLen) (ba : 0 ≤ ra ∧ ra ≤ 255) (bb : 0 ≤ rb ∧ rb ≤ 255) (bc : 0 ≤ rc ∧ rc ≤ 255) (K R p q : Nat) (hK : (K : Int) = 1 + ra % 16) (hR : RightOk F l n (K : Int) kids) (hRR : R = kids.length / K) (hp : (p : Int) = rb % (R : Int)) (hq : (q : Int) = rc % (R : Int)) (W H D : Int) (KS KS2 : List (Bx (n + 1))) (hM : ∀ w', Below w.heap.size w w' → Calls Try.prog 10 #[F.val, .agg #[.int .i64 l, .bool c], .int .i64 K, .slice kx kids.length kc] w' (GivesBE (n + 2) (listB (n + 1) W H D KS) 0 w')) (hM2 : ∀ w' ob cp, FntOk w' F → RepL w' (n + 1) (some ⟨ob, 0, none⟩) (oth K p q kids K) → Calls Try.prog 10 #[F.val, .agg #[.int .i64 l, .bool c], .int .i64 K, .slice (some ⟨ob, 0, none⟩) kids.length cp] w' (GivesBE (n + 2) (listB (n + 1) W H D KS2) 0 w')) (hlen : KS.length = kids.length) (hlen2 : KS2.length = kids.length)
    (hKK : ∀ i, i < K → ∃ a1 b1 a2 b2, KS[p * K + i]? = some a1 ∧ KS2[q * K + i]? = some b1 ∧ KS[q * K + i]? = some a2 ∧ KS2[p * K + i]? = some b2 ∧ a1.1.x = b1.1.x ∧ a2.1.x = b2.1.x) : Calls Try.prog 7 #[.agg (caseX F l c).toArray, .agg #[.int .u8 ra, .int .u8 rb, .int .u8 rc], .slice kx kids.length kc] w (Gives (.bool true) w) := by
  have HM1 := Lib.hid hM
  have HM2 := Lib.hid hM2
  have HFO := Lib.hid hF
  have HRi := Lib.hid (fun w' (h : Below w.heap.size w w') => right37_calls F l c n K kids kx kc w' (hF.below h) (hk.step h) hm true (iff_t hR))
  obtain ⟨vr, hvr⟩ : ∃ z, z = ra % 16 := ⟨_, rfl⟩
  have r1 : ra.tmod 16 = vr := by rw [Int.tmod_eq_emod_of_nonneg ba.1, hvr]
  have r2 : ra % 16 = vr := hvr.symm
  have r3 : IntKind.u8.wrap vr = vr := by
    have : 0 ≤ vr ∧ vr ≤ 15 := by omega
    simp [IntKind.wrap, IntKind.signed, IntKind.bits]
    omega
  have r4 : IntKind.i64.wrap vr = vr := IntWalk.i64_in _ (by omega)
  have r5 : IntKind.i64.wrap (1 + vr) = (K : Int) := by rw [IntWalk.i64_in _ (by omega)]; omega
  have G := geo hR
  have hN := G.NRK
  have hR1 := G.R1
  have hK1 := G.K1
  have hN2 := G.N256
  rw [← hRR] at hN hR1
  obtain ⟨kb, ko, ks, rfl, hksl, hfl, hone, hks⟩ := repL_els hk (fun h => by rw [h] at hN; simp at hN; have := Nat.mul_pos hR1 hK1; omega)
  obtain ⟨N, hNN⟩ : ∃ N, N = kids.length := ⟨_, rfl⟩
  rw [← hNN]
  rw [← hNN] at hN hN2 hksl HRi hm HM1 HM2 hlen hlen2
  have hRb : R ≤ 256 := by have := Nat.le_mul_of_pos_right R hK1; omega
  have m1 : (N : Int).tdiv (K : Int) = (R : Int) := by rw [Int.tdiv_eq_ediv_of_nonneg (by omega), hRR, ← hNN]; push_cast; rfl
  have m2 : (N : Int) / (K : Int) = (R : Int) := by rw [hRR, ← hNN]; push_cast; rfl
  have z1 : (K : Int) ≠ 0 := by omega
  have z2 : ¬ K = 0 := by omega
  have z3 : (R : Int) ≠ 0 := by omega
  have z4 : ¬ R = 0 := by omega
  have m3 : rb.tmod (R : Int) = (p : Int) := by rw [Int.tmod_eq_emod_of_nonneg bb.1, hp]
  have m4 : rb % (R : Int) = (p : Int) := hp.symm
  have m5 : rc.tmod (R : Int) = (q : Int) := by rw [Int.tmod_eq_emod_of_nonneg bc.1, hq]
  have m6 : rc % (R : Int) = (q : Int) := hq.symm
  have m7 : IntKind.i64.wrap rb = rb := IntWalk.i64_in _ (by omega)
  have m8 : IntKind.i64.wrap rc = rc := IntWalk.i64_in _ (by omega)
  have m9 : IntKind.i64.wrap (R : Int) = (R : Int) := IntWalk.i64_in _ (by omega)
  have hpR : p < R := by have := Int.emod_lt_of_pos rb (show (0 : Int) < R by omega); omega
  have hqR : q < R := by have := Int.emod_lt_of_pos rc (show (0 : Int) < R by omega); omega
  have HFl := Lib.hid hfl
  have HKS := Lib.hid hks
  have HLE := Lib.hid (And.intro hlen hlen2)
  have HKK := Lib.hid hKK
  have HOne := Lib.hid hone
  have HFs := Lib.hid (show (ks.flatMap elC).length = N * 11 by rw [flat_size, hksl])
  have HNN := Lib.hid (And.intro hNN (And.intro hN (And.intro hRR hksl)))
  have hN1 : 0 < N := by rw [hN]; exact Nat.mul_pos hR1 hK1
  clear hF hk hK hvr ba bb bc hR G hR1 hK1 hfl hone hRR hNN hp hq hks hN hksl hM hM2 hlen hlen2 hKK
  go_enter Try.func7, Try.ntmps7
  have hS := own_start w
  go_upto_region 7 with (first | (refine own_unguard (by rfl) ?_) | (refine own_box rfl _ _ rfl rfl hS ?_; clear hS; intro kb w0 hS0; have hrC := (hS0.get at0).range; have HB0 := Lib.hid hS0.below; obtain ⟨hrF, hrS⟩ := caseX_out hrC; have hS := own_start w0; clear hS0) | (refine own_box rfl _ _ rfl rfl hS ?_; clear hS; intro kr ww hS) | (refine own_load_old rfl _ _ rfl rfl hS hrC List.not_mem_nil rt_case37 ?_) | (refine own_load_old rfl _ _ rfl rfl hS hrF List.not_mem_nil rt_font ?_) | (refine own_load_old rfl _ _ rfl rfl hS hrS List.not_mem_nil rt_style ?_) | (go_at_call 8; refine own_calls hS (by first | exact awake37_calls _) ?_; clear hS; (try clear ww); intro ww hS) | (go_at_call 13; refine own_calls hS (HRi.out _ (bthen HB0.out hS.below)) ?_; clear hS; (try clear ww); intro ww hS) | (refine w_ld rfl _ rfl (by rfl) (by first | exact rd_1 (by repeat constructor) (by first | rfl | assumption) | exact rd_w (by repeat constructor) (by rfl) | exact rd_o (by assumption) (by rfl) (by first | exact nmn | assumption | simp) | exact rd_h (by assumption) (by rfl) (by first | exact nmn | assumption | simp) | exact rd_1o (by assumption) (by first | exact nmn | assumption | simp) | exact rd_1h (by assumption) (by first | rfl | assumption) (by first | exact nmn | assumption | simp)) hS ?_) | (refine own_box rfl _ _ rfl (by rfl) hS ?_; clear hS; (try clear ww); intro bb ww hS) | (refine w_al rfl rfl hS ?_; clear hS; (try clear ww); intro bb ww hS) | (refine w_st rfl _ _ rfl (by rfl) (by rfl) (by repeat constructor) (by rfl) (by rfl) (by first | rfl | assumption) hS ?_; clear hS; (try clear ww); intro ww hS) | (refine w_s1 rfl _ _ rfl (by rfl) (by repeat constructor) (by first | exact .c | exact .t rfl) (by rfl) (by repeat constructor) hS ?_; clear hS; (try clear ww); intro ww hS))
  (try simp only [Act.put]); (try simp only [List.setIfInBounds_toArray]); (try simp only [List.set_cons_succ]); (try simp only [List.set_cons_zero])
  refine own_any hS [] 12 (by kernel_rfl) (by kernel_rfl) ?_
  clear hS
  intro hcl ww hS
  refine own_batch hS [0, 1, 2, 3, 4, 10, 5, 6, 7, 8, 9, 11] 0 rfl hcl (by kernel_rfl) ?_
  (try simp only); repeat (first | (simp only [List.filterMap_cons]) | (simp only [List.filterMap_nil]) | (simp only [List.getElem?_toArray]) | (simp only [List.getElem?_cons_succ]) | (simp only [List.getElem?_cons_zero]) | (simp only [List.reverse_cons]) | (simp only [List.reverse_nil]) | (simp only [List.nil_append]) | (simp only [List.cons_append]))
  repeat (first
      | (first | (refine g_plain rfl ?_) | (refine g_yes rfl rfl rfl (by simp only [List.getElem?_toArray, List.getElem?_cons_succ, List.getElem?_cons_zero]; rfl) (by with_reducible constructor) ?_)
         apply Exists.intro; refine ⟨?_, ?_⟩
         focus (intro wq hq0; (first | have hq : Own _ _ _ wq := hq0 | have hq : Own _ _ _ wq := hq0.1 | skip); first | ((with_reducible show givesAt _ ({ dst := _, op := Op.load _ _, type := _, pos := _, after := _, guard := _ } : Oper) _ _ _); first | (exact givesAt_rd rfl (by rfl) (by first | exact rd_1 (by repeat constructor) (by first | rfl | assumption) | exact rd_w (by repeat constructor) (by rfl) | exact rd_o (by assumption) (by rfl) (by first | exact nmn | assumption | simp) | exact rd_h (by assumption) (by rfl) (by first | exact nmn | assumption | simp) | exact rd_1o (by assumption) (by first | exact nmn | assumption | simp) | exact rd_1h (by assumption) (by first | rfl | assumption) (by first | exact nmn | assumption | simp)) hq)) | (go_simp; first | (with_reducible rfl)))
         simp only [Act.put, List.setIfInBounds_toArray]; (try simp only [List.set_cons_succ]); (try simp only [List.set_cons_zero]))
      | (refine g_no rfl rfl rfl (by simp only [List.getElem?_toArray, List.getElem?_cons_succ, List.getElem?_cons_zero]; rfl) (by with_reducible constructor) ?_; simp only [Act.put, List.setIfInBounds_toArray]; (try simp only [List.set_cons_succ]); (try simp only [List.set_cons_zero])))
  refine g_nil ?_
  clear hS hcl
  intro hcl ww hS
  (try simp only [Act.put]); (try simp only [List.setIfInBounds_toArray]); (try simp only [List.set_cons_succ]); (try simp only [List.set_cons_zero])
  refine own_done (by kernel_rfl) ?_
  have hflB := rangeAt_below HFl.out HB0.out
  have HFb := Lib.hid hflB
  clear hflB
  go_wp2_with (first | (refine own_unguard (by rfl) ?_) | (refine own_buildEmpty rfl 32 37 rfl hS Try.underlying32 (by kernel_rfl) ?_; clear hS; (try clear ww); intro b0 ww hS) | (refine own_append rfl _ _ _ rfl (size := 11) (n := 0) (xs := []) (X := []) ⟨rfl, .inl ⟨_, .inr ⟨b0, 0, rfl⟩, rfl, rfl, rfl⟩⟩ rfl (news := ks.flatMap elC) rfl (show Own [] w0 ([(b0, []), (kr, _)] ++ []) ww from hS) (fun j u hj => by rw [Addr.add_mid]; exact hS.cell List.not_mem_nil (HFb.out j u hj)) HFs.out HOne.out el_box (by decide) (by simp only [maxLen]; omega) (by omega) ?_; clear hS; (try clear ww); intro v1 X1 ww hS hX; rw [Nat.zero_add, List.nil_append] at hX; obtain ⟨ob, cp, junk, rfl, rfl⟩ := sl_pos hX hN1; clear hX; simp only [List.cons_append, List.nil_append] at hS) | (refine w_ld rfl _ rfl (by rfl) (by first | exact rd_1 (by repeat constructor) (by first | rfl | assumption) | exact rd_w (by repeat constructor) (by rfl) | exact rd_o (by assumption) (by rfl) (by first | exact nmn | assumption | simp) | exact rd_h (by assumption) (by rfl) (by first | exact nmn | assumption | simp) | exact rd_1o (by assumption) (by first | exact nmn | assumption | simp) | exact rd_1h (by assumption) (by first | rfl | assumption) (by first | exact nmn | assumption | simp)) hS ?_) | (refine own_box rfl _ _ rfl (by rfl) hS ?_; clear hS; (try clear ww); intro bb ww hS) | (refine w_al rfl rfl hS ?_; clear hS; (try clear ww); intro bb ww hS) | (refine w_st rfl _ _ rfl (by rfl) (by rfl) (by repeat constructor) (by rfl) (by rfl) (by first | rfl | assumption) hS ?_; clear hS; (try clear ww); intro ww hS) | (refine w_s1 rfl _ _ rfl (by rfl) (by repeat constructor) (by first | exact .c | exact .t rfl) (by rfl) (by repeat constructor) hS ?_; clear hS; (try clear ww); intro ww hS))
  go_loopw [12] (fun i wr => ∃ c : Nat, c ≤ K ∧ i = .int .i64 c ∧ Own [] w0 [(b0, []), (kr, [.int .u8 ra, .int .u8 rb, .int .u8 rc]), (ob, (oth K p q ks c).flatMap elC ++ junk)] wr) (fun i _ => K - (intOf i).toNat)
  case atStart => exact ⟨0, Nat.zero_le _, rfl, hS⟩
  case round =>
    clear hS
    obtain ⟨c, hc, rfl, hS⟩ := hrel
    by_cases hlt : c < K
    · obtain ⟨hNN, hN, hRR, hksl⟩ := HNN.out
      have hKb : K ≤ 256 := by have := Nat.le_mul_of_pos_left K (show 0 < R by omega); omega
      have hkl2 : ks.length = R * K := hksl.trans hN
      obtain ⟨pk, hpk⟩ : ∃ z, z = p * K := ⟨_, rfl⟩
      obtain ⟨qk, hqk⟩ : ∃ z, z = q * K := ⟨_, rfl⟩
      have hpc : pk + c < N := by rw [hpk, hN]; exact cel_lt hlt hpR
      have hqc : qk + c < N := by rw [hqk, hN]; exact cel_lt hlt hqR
      have h1 : (p : Int) * (K : Int) = (pk : Int) := by rw [hpk]; push_cast; rfl
      have h2 : (q : Int) * (K : Int) = (qk : Int) := by rw [hqk]; push_cast; rfl
      have i1 : IntKind.i64.wrap ((p : Int) * (K : Int)) = (pk : Int) := by rw [h1]; exact IntWalk.i64_in _ (by omega)
      have i2 : IntKind.i64.wrap ((q : Int) * (K : Int)) = (qk : Int) := by rw [h2]; exact IntWalk.i64_in _ (by omega)
      obtain ⟨pc, hpcc⟩ : ∃ z, z = pk + c := ⟨_, rfl⟩
      obtain ⟨qc, hqcc⟩ : ∃ z, z = qk + c := ⟨_, rfl⟩
      have i3 : IntKind.i64.wrap ((pk : Int) + (c : Int)) = (pc : Int) := by rw [IntWalk.i64_in _ (by omega)]; omega
      have i4 : IntKind.i64.wrap ((qk : Int) + (c : Int)) = (qc : Int) := by rw [IntWalk.i64_in _ (by omega)]; omega
      have hpc2 : pc < N := by omega
      have hqc2 : qc < N := by omega
      obtain ⟨e1, he1⟩ : ∃ e, ks[pc]? = some e := ⟨ks[pc]'(by omega), by rw [List.getElem?_eq_getElem]⟩
      obtain ⟨e2, he2⟩ : ∃ e, ks[qc]? = some e := ⟨ks[qc]'(by omega), by rw [List.getElem?_eq_getElem]⟩
      have r1' := flat_el HFb.out he1
      have r2' := flat_el HFb.out he2
      have o1 := el_one HOne.out he1
      have o2 := el_one HOne.out he2
      have HQ := Lib.hid (oth_succ (K := K) (p := p) (q := q) (c := c) (by rw [← hqk, ← hqcc]; exact he2) (by rw [← hpk, ← hpcc]; exact he1))
      have HPC := Lib.hid (show p * K + c = pc by rw [hpcc, hpk])
      have HQC := Lib.hid (show q * K + c = qc by rw [hqcc, hqk])
      have hol : (oth K p q ks c).length = N := (oth_len c).trans hksl
      have HL1 := Lib.hid (show pc < (oth K p q ks c).length by omega)
      have HL2 := Lib.hid (show qc < ((oth K p q ks c).set pc e2).length by rw [List.length_set]; omega)
      obtain ⟨cur, hcur⟩ : ∃ cur, cur = oth K p q ks c := ⟨_, rfl⟩
      have HCur := Lib.hid hcur
      rw [← hcur] at hS HL1 HL2 HQ
      have HLn := Lib.hid (show pc * 11 + 11 ≤ (cur.flatMap elC ++ junk).length ∧ qc * 11 + 11 ≤ (cur.flatMap elC ++ junk).length by rw [List.length_append, flat_size, hcur, hol]; omega)
      have HLn2 := Lib.hid (show qc * 11 + 11 ≤ ((cur.set pc e2).flatMap elC ++ junk).length by rw [List.length_append, flat_size, List.length_set, hcur, hol]; omega)
      obtain ⟨x0, x1, x2, x3, x4, x5, x6, x7, x8, x9, x10, hx⟩ := eleven (elC_len e1)
      obtain ⟨y0, y1, y2, y3, y4, y5, y6, y7, y8, y9, y10, hy⟩ := eleven (elC_len e2)
      rw [hx] at r1' o1
      rw [hy] at r2' o2
      have HXY := Lib.hid (And.intro hx hy)
      clear h1 h2 hx hy hcur hol he1 he2 hpcc hqcc hpk hqk hNN hN hRR hksl hkl2
      go_upto_region 12 with (first | (refine own_unguard (by rfl) ?_) | (refine w_ld rfl _ rfl (by rfl) (by first | exact rd_1 (by repeat constructor) (by first | rfl | assumption) | exact rd_w (by repeat constructor) (by rfl) | exact rd_o (by assumption) (by rfl) (by first | exact nmn | assumption | simp) | exact rd_h (by assumption) (by rfl) (by first | exact nmn | assumption | simp) | exact rd_1o (by assumption) (by first | exact nmn | assumption | simp) | exact rd_1h (by assumption) (by first | rfl | assumption) (by first | exact nmn | assumption | simp)) hS ?_) | (refine own_box rfl _ _ rfl (by rfl) hS ?_; clear hS; (try clear ww); intro bb ww hS) | (refine w_al rfl rfl hS ?_; clear hS; (try clear ww); intro bb ww hS) | (refine w_st rfl _ _ rfl (by rfl) (by rfl) (by repeat constructor) (by rfl) (by rfl) (by first | rfl | assumption) hS ?_; clear hS; (try clear ww); intro ww hS) | (refine w_s1 rfl _ _ rfl (by rfl) (by repeat constructor) (by first | exact .c | exact .t rfl) (by rfl) (by repeat constructor) hS ?_; clear hS; (try clear ww); intro ww hS))
      (try simp only [Act.put]); (try simp only [List.setIfInBounds_toArray]); (try simp only [List.set_cons_succ]); (try simp only [List.set_cons_zero])
      refine own_anyW w0.heap.size hS [29, 31] [] 32 (by kernel_rfl) (by kernel_rfl) ?_
      clear hS
      intro hcl ww hS
      refine own_batchW hS (Nat.le_refl _) [0, 1, 2, 3, 4, 5, 6, 7, 8, 9, 10, 11, 12, 13, 14, 15, 16, 17, 18, 19, 20, 21, 22, 23, 24, 25, 26, 27] 4 rfl hcl (by kernel_rfl) ?_
      (try simp only); repeat (first | (simp only [List.filterMap_cons]) | (simp only [List.filterMap_nil]) | (simp only [List.getElem?_toArray]) | (simp only [List.getElem?_cons_succ]) | (simp only [List.getElem?_cons_zero]) | (simp only [List.reverse_cons]) | (simp only [List.reverse_nil]) | (simp only [List.nil_append]) | (simp only [List.cons_append]))
      repeat (first
          | (first | (refine g_plain rfl ?_) | (refine g_yes rfl rfl rfl (by simp only [List.getElem?_toArray, List.getElem?_cons_succ, List.getElem?_cons_zero]; rfl) (by with_reducible constructor) ?_)
             apply Exists.intro; refine ⟨?_, ?_⟩
             focus (intro wq hq0; (first | have hq : Own _ _ _ wq := hq0 | have hq : Own _ _ _ wq := hq0.1 | skip); first | ((with_reducible show givesAt _ ({ dst := _, op := Op.load _ _, type := _, pos := _, after := _, guard := _ } : Oper) _ _ _); first | (exact givesAt_rd rfl (by rfl) (by first | exact rd_1 (by repeat constructor) (by first | rfl | assumption) | exact rd_w (by repeat constructor) (by rfl) | exact rd_o (by assumption) (by rfl) (by first | exact nmn | assumption | simp) | exact rd_h (by assumption) (by rfl) (by first | exact nmn | assumption | simp) | exact rd_1o (by assumption) (by first | exact nmn | assumption | simp) | exact rd_1h (by assumption) (by first | rfl | assumption) (by first | exact nmn | assumption | simp)) hq)) | (go_simp; first | (with_reducible rfl)))
             simp only [Act.put, List.setIfInBounds_toArray]; (try simp only [List.set_cons_succ]); (try simp only [List.set_cons_zero]))
          | (refine g_no rfl rfl rfl (by simp only [List.getElem?_toArray, List.getElem?_cons_succ, List.getElem?_cons_zero]; rfl) (by with_reducible constructor) ?_; simp only [Act.put, List.setIfInBounds_toArray]; (try simp only [List.set_cons_succ]); (try simp only [List.set_cons_zero])))
      refine g_nil ?_
      clear hS hcl
      intro hcl ww hS
      (try simp only [Act.put]); (try simp only [List.setIfInBounds_toArray]); (try simp only [List.set_cons_succ]); (try simp only [List.set_cons_zero])
      refine own_batchW hS (Nat.le_refl _) [28] 3 rfl hcl (by kernel_rfl) ?_
      (try simp only); repeat (first | (simp only [List.filterMap_cons]) | (simp only [List.filterMap_nil]) | (simp only [List.getElem?_toArray]) | (simp only [List.getElem?_cons_succ]) | (simp only [List.getElem?_cons_zero]) | (simp only [List.reverse_cons]) | (simp only [List.reverse_nil]) | (simp only [List.nil_append]) | (simp only [List.cons_append]))
      repeat (first
          | (first | (refine g_plain rfl ?_) | (refine g_yes rfl rfl rfl (by simp only [List.getElem?_toArray, List.getElem?_cons_succ, List.getElem?_cons_zero]; rfl) (by with_reducible constructor) ?_)
             apply Exists.intro; refine ⟨?_, ?_⟩
             focus (intro wq hq0; (first | have hq : Own _ _ _ wq := hq0 | have hq : Own _ _ _ wq := hq0.1 | skip); first | ((with_reducible show givesAt _ ({ dst := _, op := Op.load _ _, type := _, pos := _, after := _, guard := _ } : Oper) _ _ _); first | (exact givesAt_rd rfl (by rfl) (by first | exact rd_1 (by repeat constructor) (by first | rfl | assumption) | exact rd_w (by repeat constructor) (by rfl) | exact rd_o (by assumption) (by rfl) (by first | exact nmn | assumption | simp) | exact rd_h (by assumption) (by rfl) (by first | exact nmn | assumption | simp) | exact rd_1o (by assumption) (by first | exact nmn | assumption | simp) | exact rd_1h (by assumption) (by first | rfl | assumption) (by first | exact nmn | assumption | simp)) hq)) | (go_simp; first | (with_reducible rfl)))
             simp only [Act.put, List.setIfInBounds_toArray]; (try simp only [List.set_cons_succ]); (try simp only [List.set_cons_zero]))
          | (refine g_no rfl rfl rfl (by simp only [List.getElem?_toArray, List.getElem?_cons_succ, List.getElem?_cons_zero]; rfl) (by with_reducible constructor) ?_; simp only [Act.put, List.setIfInBounds_toArray]; (try simp only [List.set_cons_succ]); (try simp only [List.set_cons_zero])))
      refine g_nil ?_
      clear hS hcl
      intro hcl ww hS
      (try simp only [Act.put]); (try simp only [List.setIfInBounds_toArray]); (try simp only [List.set_cons_succ]); (try simp only [List.set_cons_zero])
      refine own_mid (K := _) (L := []) (show Own [] w0 (_ ++ []) ww from (List.append_nil _).symm ▸ hS) (fun x hx => (hS.ge x hx).elim (fun h => by cases h) id) 29 hcl (by simp only [List.getElem?_toArray, List.getElem?_cons_succ, List.getElem?_cons_zero]; rfl) (by kernel_rfl) ?_
      intro hO
      refine own_store_sub (k := 2) rfl _ _ _ rfl rfl rfl hO at2 rt_box HLn.out.1 o2 ?_
      clear hO hS hcl
      intro w9 hS
      refine wpList_nil ⟨rfl, _, hS, ?_⟩
      clear hS
      intro hcl ww hS
      simp only [List.set_cons_succ, List.set_cons_zero, List.cons_append, List.nil_append] at hS
      rw [← HXY.out.2, flat_put e2 HL1.out] at hS
      (try simp only [Act.put]); (try simp only [List.setIfInBounds_toArray]); (try simp only [List.set_cons_succ]); (try simp only [List.set_cons_zero])
      refine own_batchW hS (Nat.le_refl _) [30] 1 rfl hcl (by kernel_rfl) ?_
      (try simp only); repeat (first | (simp only [List.filterMap_cons]) | (simp only [List.filterMap_nil]) | (simp only [List.getElem?_toArray]) | (simp only [List.getElem?_cons_succ]) | (simp only [List.getElem?_cons_zero]) | (simp only [List.reverse_cons]) | (simp only [List.reverse_nil]) | (simp only [List.nil_append]) | (simp only [List.cons_append]))
      repeat (first
          | (first | (refine g_plain rfl ?_) | (refine g_yes rfl rfl rfl (by simp only [List.getElem?_toArray, List.getElem?_cons_succ, List.getElem?_cons_zero]; rfl) (by with_reducible constructor) ?_)
             apply Exists.intro; refine ⟨?_, ?_⟩
             focus (intro wq hq0; (first | have hq : Own _ _ _ wq := hq0 | have hq : Own _ _ _ wq := hq0.1 | skip); first | ((with_reducible show givesAt _ ({ dst := _, op := Op.load _ _, type := _, pos := _, after := _, guard := _ } : Oper) _ _ _); first | (exact givesAt_rd rfl (by rfl) (by first | exact rd_1 (by repeat constructor) (by first | rfl | assumption) | exact rd_w (by repeat constructor) (by rfl) | exact rd_o (by assumption) (by rfl) (by first | exact nmn | assumption | simp) | exact rd_h (by assumption) (by rfl) (by first | exact nmn | assumption | simp) | exact rd_1o (by assumption) (by first | exact nmn | assumption | simp) | exact rd_1h (by assumption) (by first | rfl | assumption) (by first | exact nmn | assumption | simp)) hq)) | (go_simp; first | (with_reducible rfl)))
             simp only [Act.put, List.setIfInBounds_toArray]; (try simp only [List.set_cons_succ]); (try simp only [List.set_cons_zero]))
          | (refine g_no rfl rfl rfl (by simp only [List.getElem?_toArray, List.getElem?_cons_succ, List.getElem?_cons_zero]; rfl) (by with_reducible constructor) ?_; simp only [Act.put, List.setIfInBounds_toArray]; (try simp only [List.set_cons_succ]); (try simp only [List.set_cons_zero])))
      refine g_nil ?_
      clear hS hcl
      intro hcl ww hS
      (try simp only [Act.put]); (try simp only [List.setIfInBounds_toArray]); (try simp only [List.set_cons_succ]); (try simp only [List.set_cons_zero])
      refine own_mid (K := _) (L := []) (show Own [] w0 (_ ++ []) ww from (List.append_nil _).symm ▸ hS) (fun x hx => (hS.ge x hx).elim (fun h => by cases h) id) 31 hcl (by simp only [List.getElem?_toArray, List.getElem?_cons_succ, List.getElem?_cons_zero]; rfl) (by kernel_rfl) ?_
      intro hO
      refine own_store_sub (k := 2) rfl _ _ _ rfl rfl rfl hO at2 rt_box HLn2.out o1 ?_
      clear hO hS hcl
      intro w9 hS
      refine wpList_nil ⟨rfl, _, hS, ?_⟩
      clear hS
      intro hcl ww hS
      simp only [List.set_cons_succ, List.set_cons_zero, List.cons_append, List.nil_append] at hS
      rw [← HXY.out.1, flat_put e1 HL2.out] at hS
      (try simp only [Act.put]); (try simp only [List.setIfInBounds_toArray]); (try simp only [List.set_cons_succ]); (try simp only [List.set_cons_zero])
      refine own_done (by kernel_rfl) ?_
      have hcur := HCur.out
      have hQ := HQ.out
      rw [HPC.out, HQC.out] at hQ
      rw [← hQ] at hS
      go_wp2_with (first | (refine own_unguard (by rfl) ?_) | (refine w_ld rfl _ rfl (by rfl) (by first | exact rd_1 (by repeat constructor) (by first | rfl | assumption) | exact rd_w (by repeat constructor) (by rfl) | exact rd_o (by assumption) (by rfl) (by first | exact nmn | assumption | simp) | exact rd_h (by assumption) (by rfl) (by first | exact nmn | assumption | simp) | exact rd_1o (by assumption) (by first | exact nmn | assumption | simp) | exact rd_1h (by assumption) (by first | rfl | assumption) (by first | exact nmn | assumption | simp)) hS ?_) | (refine own_box rfl _ _ rfl (by rfl) hS ?_; clear hS; (try clear ww); intro bb ww hS) | (refine w_al rfl rfl hS ?_; clear hS; (try clear ww); intro bb ww hS) | (refine w_st rfl _ _ rfl (by rfl) (by rfl) (by repeat constructor) (by rfl) (by rfl) (by first | rfl | assumption) hS ?_; clear hS; (try clear ww); intro ww hS) | (refine w_s1 rfl _ _ rfl (by rfl) (by repeat constructor) (by first | exact .c | exact .t rfl) (by rfl) (by repeat constructor) hS ?_; clear hS; (try clear ww); intro ww hS))
      go_roundw
      case rel => exact ⟨c + 1, hlt, by go_num, hS⟩
      case measure => exact loop_meas hlt
    · have hrl := oth_rep (w := w) (HNN.out.2.2.2.trans HNN.out.1) (HNN.out.1.symm.trans HNN.out.2.1) hpR hqR HKS.out (bthen HB0.out hS.below) (by have h := hS.get at2; rw [show c = K by omega] at h; exact h)
      have HRL := Lib.hid hrl
      clear hrl
      go_wp2_with (first | (refine own_unguard (by rfl) ?_) | (refine own_load_old rfl _ _ rfl rfl hS hrC List.not_mem_nil rt_case37 ?_) | (refine own_load_old rfl _ _ rfl rfl hS hrF List.not_mem_nil rt_font ?_) | (refine own_load_old rfl _ _ rfl rfl hS hrS List.not_mem_nil rt_style ?_) | (go_at_call 10; refine own_be hS (HM1.out _ (bthen HB0.out hS.below)) ?_; intro es w1 hR1 hS1 hb1; have hBk := Lib.hid (bthen HB0.out hS1.below); have hrFk := rangeAt_below hrF hS1.below; have hrSk := rangeAt_below hrS hS1.below; have HRL1 := Lib.hid (HRL.out.step hb1); have hro := rep_out hR1; rw [HLE.out.1] at hro; obtain ⟨ax, ac, tx, tc, rfl, _, _, _, hks⟩ := hro; have HKs := Lib.hid hks; clear hks hR1 hS hS1 hb1; have hS := own_start w1) | (refine own_load_old rfl _ _ rfl rfl hS hrFk List.not_mem_nil rt_font ?_) | (refine own_load_old rfl _ _ rfl rfl hS hrSk List.not_mem_nil rt_style ?_) | (refine w_al rfl rfl hS ?_; clear hS; (try clear ww); intro bb ww hS) | (refine own_store rfl _ _ _ rfl rfl rfl hS at0 rt_box (by rfl) (by assumption) ?_; clear hS; (try clear ww); intro ww hS; (try simp only [List.set_cons_zero] at hS)) | (go_at_call 10; refine own_be hS (HM2.out _ _ _ (HFO.out.below (bthen hBk.out hS.below)) (HRL1.out.step hS.below)) ?_; intro fs w2 hR2 hS2 hb2; have hBm := Lib.hid (bthen hBk.out hS2.below); have hB13 := has_range (hS2.get at0); have cb3 := hB13 3 _ rfl; have cb4 := hB13 4 _ rfl; have cb5 := hB13 5 _ rfl; have cb8 := hB13 8 _ rfl; have HKs1 := Lib.hid (HKs.out.step hS2.below); have hro := rep_out hR2; rw [HLE.out.2] at hro; obtain ⟨ax2, ac2, tx2, tc2, rfl, _, _, _, hks⟩ := hro; have HKs2 := Lib.hid hks; clear hks hR2 hS hS2 hb2 hB13; have hS := own_start w2) | (refine w_ld rfl _ rfl (by rfl) (by first | exact rd_1 (by repeat constructor) (by first | rfl | assumption) | exact rd_w (by repeat constructor) (by rfl) | exact rd_o (by assumption) (by rfl) (by first | exact nmn | assumption | simp) | exact rd_h (by assumption) (by rfl) (by first | exact nmn | assumption | simp) | exact rd_1o (by assumption) (by first | exact nmn | assumption | simp) | exact rd_1h (by assumption) (by first | rfl | assumption) (by first | exact nmn | assumption | simp)) hS ?_) | (refine own_box rfl _ _ rfl (by rfl) hS ?_; clear hS; (try clear ww); intro bb ww hS) | (refine w_al rfl rfl hS ?_; clear hS; (try clear ww); intro bb ww hS) | (refine w_st rfl _ _ rfl (by rfl) (by rfl) (by repeat constructor) (by rfl) (by rfl) (by first | rfl | assumption) hS ?_; clear hS; (try clear ww); intro ww hS) | (refine w_s1 rfl _ _ rfl (by rfl) (by repeat constructor) (by first | exact .c | exact .t rfl) (by rfl) (by repeat constructor) hS ?_; clear hS; (try clear ww); intro ww hS))
      obtain ⟨L0, HL0, hS0⟩ := hS.named
      clear hS
      have hS := hS0
      clear hS0
      go_loopw [17] (fun i wr => ∃ j : Nat, j ≤ K ∧ i = .int .i64 j ∧ Own [] w2 L0 wr) (fun i _ => K - (intOf i).toNat)
      case atStart => exact ⟨0, Nat.zero_le _, rfl, hS⟩
      case round =>
        clear hS
        obtain ⟨j, hj, rfl, hS⟩ := hrel
        obtain rfl := HL0.out
        clear HL0
        by_cases hjt : j < K
        · obtain ⟨hNN, hN, hRR, hksl⟩ := HNN.out
          obtain ⟨a1, d1, a2, d2, ha1, hd1, ha2, hd2, hx1, hx2⟩ := HKK.out j hjt
          have hKb : K ≤ 256 := by have := Nat.le_mul_of_pos_left K (show 0 < R by omega); omega
          have hkl2 : ks.length = R * K := hksl.trans hN
          obtain ⟨pk, hpk⟩ : ∃ z, z = p * K := ⟨_, rfl⟩
          obtain ⟨qk, hqk⟩ : ∃ z, z = q * K := ⟨_, rfl⟩
          have hpc : pk + j < N := by rw [hpk, hN]; exact cel_lt hjt hpR
          have hqc : qk + j < N := by rw [hqk, hN]; exact cel_lt hjt hqR
          have h1 : (p : Int) * (K : Int) = (pk : Int) := by rw [hpk]; push_cast; rfl
          have h2 : (q : Int) * (K : Int) = (qk : Int) := by rw [hqk]; push_cast; rfl
          have i1 : IntKind.i64.wrap ((p : Int) * (K : Int)) = (pk : Int) := by rw [h1]; exact IntWalk.i64_in _ (by omega)
          have i2 : IntKind.i64.wrap ((q : Int) * (K : Int)) = (qk : Int) := by rw [h2]; exact IntWalk.i64_in _ (by omega)
          obtain ⟨pc, hpcc⟩ : ∃ z, z = pk + j := ⟨_, rfl⟩
          obtain ⟨qc, hqcc⟩ : ∃ z, z = qk + j := ⟨_, rfl⟩
          have i3 : IntKind.i64.wrap ((pk : Int) + (j : Int)) = (pc : Int) := by rw [IntWalk.i64_in _ (by omega)]; omega
          have i4 : IntKind.i64.wrap ((qk : Int) + (j : Int)) = (qc : Int) := by rw [IntWalk.i64_in _ (by omega)]; omega
          have hpc2 : pc < N := by omega
          have hqc2 : qc < N := by omega
          clear hkl2 hpc hqc
          have hlen := HLE.out
          rw [← hpk, ← hpcc] at ha1 hd2
          rw [← hqk, ← hqcc] at hd1 ha2
          obtain ⟨kb1, ko1, css, hkx, hrg, hrep⟩ := HKs1.out pc a1 ha1
          obtain rfl : ax = some ⟨kb1, ko1, none⟩ := hkx
          obtain ⟨css2, hrg2, hrep2⟩ := kid_at HKs1.out ha2
          obtain ⟨kb2, ko2, css3, hkx3, hrg3, hrep3⟩ := HKs2.out qc d1 hd1
          obtain rfl : ax2 = some ⟨kb2, ko2, none⟩ := hkx3
          obtain ⟨css4, hrg4, hrep4⟩ := kid_at HKs2.out hd2
          obtain ⟨qx, qv, rx, rv, rfl, _⟩ := rep_out hrep
          obtain ⟨qx2, qv2, rx2, rv2, rfl, _⟩ := rep_out hrep2
          obtain ⟨qx3, qv3, rx3, rv3, rfl, _⟩ := rep_out hrep3
          obtain ⟨qx4, qv4, rx4, rv4, rfl, _⟩ := rep_out hrep4
          have cx1 := hrg 6 _ rfl
          have cx2 := hrg2 6 _ rfl
          have cx3 := hrg3 6 _ rfl
          have cx4 := hrg4 6 _ rfl
          rw [← hx1] at cx3
          rw [← hx2] at cx4
          clear h1 h2 hpcc hqcc hpk hqk hNN hN hRR hksl hlen ha1 ha2 hd1 hd2 hrg hrg2 hrg3 hrg4 hrep hrep2 hrep3 hrep4 hx1 hx2
          go_upto_region 20 with (first | (refine own_unguard (by rfl) ?_) | (refine w_ld rfl _ rfl (by rfl) (by first | exact rd_1 (by repeat constructor) (by first | rfl | assumption) | exact rd_w (by repeat constructor) (by rfl) | exact rd_o (by assumption) (by rfl) (by first | exact nmn | assumption | simp) | exact rd_h (by assumption) (by rfl) (by first | exact nmn | assumption | simp) | exact rd_1o (by assumption) (by first | exact nmn | assumption | simp) | exact rd_1h (by assumption) (by first | rfl | assumption) (by first | exact nmn | assumption | simp)) hS ?_) | (refine own_box rfl _ _ rfl (by rfl) hS ?_; clear hS; (try clear ww); intro bb ww hS) | (refine w_al rfl rfl hS ?_; clear hS; (try clear ww); intro bb ww hS) | (refine w_st rfl _ _ rfl (by rfl) (by rfl) (by repeat constructor) (by rfl) (by rfl) (by first | rfl | assumption) hS ?_; clear hS; (try clear ww); intro ww hS) | (refine w_s1 rfl _ _ rfl (by rfl) (by repeat constructor) (by first | exact .c | exact .t rfl) (by rfl) (by repeat constructor) hS ?_; clear hS; (try clear ww); intro ww hS))
          (try simp only [Act.put]); (try simp only [List.setIfInBounds_toArray]); (try simp only [List.set_cons_succ]); (try simp only [List.set_cons_zero])
          refine own_any hS [] 44 (by kernel_rfl) (by kernel_rfl) ?_
          clear hS
          intro hcl ww hS
          refine own_batch hS [0, 1, 2, 3, 4, 5, 6, 7, 8, 9, 10, 11, 12, 13, 14, 15, 16, 17, 18, 19, 20, 21, 22, 23, 24, 25, 26, 27, 28, 29, 30, 31, 32, 33, 34, 35, 36, 37, 38, 39, 40, 41, 42, 43] 0 rfl hcl (by kernel_rfl) ?_
          (try simp only); repeat (first | (simp only [List.filterMap_cons]) | (simp only [List.filterMap_nil]) | (simp only [List.getElem?_toArray]) | (simp only [List.getElem?_cons_succ]) | (simp only [List.getElem?_cons_zero]) | (simp only [List.reverse_cons]) | (simp only [List.reverse_nil]) | (simp only [List.nil_append]) | (simp only [List.cons_append]))
          repeat (first
              | (first | (refine g_plain rfl ?_) | (refine g_yes rfl rfl rfl (by simp only [List.getElem?_toArray, List.getElem?_cons_succ, List.getElem?_cons_zero]; rfl) (by with_reducible constructor) ?_)
                 apply Exists.intro; refine ⟨?_, ?_⟩
                 focus (intro wq hq0; (first | have hq : Own _ _ _ wq := hq0 | have hq : Own _ _ _ wq := hq0.1 | skip); first | ((with_reducible show givesAt _ ({ dst := _, op := Op.load _ _, type := _, pos := _, after := _, guard := _ } : Oper) _ _ _); first | (exact givesAt_rd rfl (by rfl) (by first | exact rd_1 (by repeat constructor) (by first | rfl | assumption) | exact rd_w (by repeat constructor) (by rfl) | exact rd_o (by assumption) (by rfl) (by first | exact nmn | assumption | simp) | exact rd_h (by assumption) (by rfl) (by first | exact nmn | assumption | simp) | exact rd_1o (by assumption) (by first | exact nmn | assumption | simp) | exact rd_1h (by assumption) (by first | rfl | assumption) (by first | exact nmn | assumption | simp)) hq)) | (go_simp; first | (with_reducible rfl)))
                 simp only [Act.put, List.setIfInBounds_toArray]; (try simp only [List.set_cons_succ]); (try simp only [List.set_cons_zero]))
              | (refine g_no rfl rfl rfl (by simp only [List.getElem?_toArray, List.getElem?_cons_succ, List.getElem?_cons_zero]; rfl) (by with_reducible constructor) ?_; simp only [Act.put, List.setIfInBounds_toArray]; (try simp only [List.set_cons_succ]); (try simp only [List.set_cons_zero])))
          refine g_nil ?_
          clear hS hcl
          intro hcl ww hS
          (try simp only [Act.put]); (try simp only [List.setIfInBounds_toArray]); (try simp only [List.set_cons_succ]); (try simp only [List.set_cons_zero])
          refine own_done (by kernel_rfl) ?_
          go_wp2_with (first | (refine own_unguard (by rfl) ?_) | (refine w_ld rfl _ rfl (by rfl) (by first | exact rd_1 (by repeat constructor) (by first | rfl | assumption) | exact rd_w (by repeat constructor) (by rfl) | exact rd_o (by assumption) (by rfl) (by first | exact nmn | assumption | simp) | exact rd_h (by assumption) (by rfl) (by first | exact nmn | assumption | simp) | exact rd_1o (by assumption) (by first | exact nmn | assumption | simp) | exact rd_1h (by assumption) (by first | rfl | assumption) (by first | exact nmn | assumption | simp)) hS ?_) | (refine own_box rfl _ _ rfl (by rfl) hS ?_; clear hS; (try clear ww); intro bb ww hS) | (refine w_al rfl rfl hS ?_; clear hS; (try clear ww); intro bb ww hS) | (refine w_st rfl _ _ rfl (by rfl) (by rfl) (by repeat constructor) (by rfl) (by rfl) (by first | rfl | assumption) hS ?_; clear hS; (try clear ww); intro ww hS) | (refine w_s1 rfl _ _ rfl (by rfl) (by repeat constructor) (by first | exact .c | exact .t rfl) (by rfl) (by repeat constructor) hS ?_; clear hS; (try clear ww); intro ww hS))
          go_roundw
          case rel => exact ⟨j + 1, hjt, by go_num, hS⟩
          case measure => exact loop_meas hjt
        · skip
          go_wp2_with (first | (refine own_unguard (by rfl) ?_) | (refine w_ld rfl _ rfl (by rfl) (by first | exact rd_1 (by repeat constructor) (by first | rfl | assumption) | exact rd_w (by repeat constructor) (by rfl) | exact rd_o (by assumption) (by rfl) (by first | exact nmn | assumption | simp) | exact rd_h (by assumption) (by rfl) (by first | exact nmn | assumption | simp) | exact rd_1o (by assumption) (by first | exact nmn | assumption | simp) | exact rd_1h (by assumption) (by first | rfl | assumption) (by first | exact nmn | assumption | simp)) hS ?_) | (refine own_box rfl _ _ rfl (by rfl) hS ?_; clear hS; (try clear ww); intro bb ww hS) | (refine w_al rfl rfl hS ?_; clear hS; (try clear ww); intro bb ww hS) | (refine w_st rfl _ _ rfl (by rfl) (by rfl) (by repeat constructor) (by rfl) (by rfl) (by first | rfl | assumption) hS ?_; clear hS; (try clear ww); intro ww hS) | (refine w_s1 rfl _ _ rfl (by rfl) (by repeat constructor) (by first | exact .c | exact .t rfl) (by rfl) (by repeat constructor) hS ?_; clear hS; (try clear ww); intro ww hS))
          go_ret
          exact ⟨rfl, bthen hBm.out hS.below⟩

theorem swr_q {p q : Nat} : swr p q q = p := by
  unfold swr
  split
  · assumption
  · rw [if_pos rfl]
theorem swr_p {p q : Nat} : swr p q p = q := by
  unfold swr
  rw [if_pos rfl]
theorem arrayRows_right (F : Fnt) (l : Int) (c : Bool) (ra rb rc : Int) (n : Nat) (kids : List (Bx (n + 1))) (kx : Option Addr) (kc : Nat) (w : World) (hF : FntOk w F) (hk : RepL w (n + 1) kx kids) (hm : kids.length ≤ maxLen) (ba : 0 ≤ ra ∧ ra ≤ 255) (bb : 0 ≤ rb ∧ rb ≤ 255) (bc : 0 ≤ rc ∧ rc ≤ 255) (K : Nat) (hK : (K : Int) = 1 + ra % 16) (ht : RightOk F l n (K : Int) kids) : Calls Try.prog 7 #[.agg (caseX F l c).toArray, .agg #[.int .u8 ra, .int .u8 rb, .int .u8 rc], .slice kx kids.length kc] w (Gives (.bool true) w) := by
  have G := geo ht
  have hR1 := G.R1
  have hN := G.NRK
  obtain ⟨R, hR⟩ : ∃ R, R = kids.length / K := ⟨_, rfl⟩
  rw [← hR] at hR1 hN
  obtain ⟨p, hp⟩ : ∃ p : Nat, (p : Int) = rb % (R : Int) := ⟨(rb % (R : Int)).toNat, by have := Int.emod_nonneg rb (show (R : Int) ≠ 0 by omega); omega⟩
  obtain ⟨q, hq⟩ : ∃ q : Nat, (q : Int) = rc % (R : Int) := ⟨(rc % (R : Int)).toNat, by have := Int.emod_nonneg rc (show (R : Int) ≠ 0 by omega); omega⟩
  have hpR : p < R := by have := Int.emod_lt_of_pos rb (show (0 : Int) < R by omega); omega
  have hqR : q < R := by have := Int.emod_lt_of_pos rc (show (0 : Int) < R by omega); omega
  have hs := swap_right ht (hR ▸ hpR) (hR ▸ hqR)
  obtain ⟨e1, e2, e3, e4⟩ := swap_nums ht (hR ▸ hpR) (hR ▸ hqR)
  refine arrayRows_main F l c ra rb rc n kids kx kc w hF hk hm ba bb bc K R p q hK ht hR hp hq _ _ _ (kids.mapIdx (fun i k => atXY (n + 1) k (arrX F l n K kids i) (arrY F l n K kids i))) ((oth K p q kids K).mapIdx (fun i k => atXY (n + 1) k (arrX F l n K (oth K p q kids K) i) (arrY F l n K (oth K p q kids K) i))) (fun w' hb => right_makes (hF.below hb) (hk.step hb) ht) (fun w' ob cp hF' hk' => ?_) (by simp) (by rw [List.length_mapIdx, oth_len]) (fun i hi => ?_)
  · have h := right_makes (c := c) (kc := cp) hF' hk' hs
    rw [oth_len] at h
    unfold arrB at h
    rw [e1, e2, e3] at h
    exact h
  · have hpi : p * K + i < kids.length := by rw [hN]; exact cel_lt hi hpR
    have hqi : q * K + i < kids.length := by rw [hN]; exact cel_lt hi hqR
    obtain ⟨a1, ha1⟩ : ∃ a, kids[p * K + i]? = some a := ⟨kids[p * K + i], by simp [hpi]⟩
    obtain ⟨a2, ha2⟩ : ∃ a, kids[q * K + i]? = some a := ⟨kids[q * K + i], by simp [hqi]⟩
    have s1 : swi K p q K (q * K + i) = p * K + i := by rw [swi_row hi, swr_q]
    have s2 : swi K p q K (p * K + i) = q * K + i := by rw [swi_row hi, swr_p]
    have b1 : (oth K p q kids K)[q * K + i]? = some a1 := by rw [oth_get hN hpR hqR K (Nat.le_refl _), s1]; exact ha1
    have b2 : (oth K p q kids K)[p * K + i]? = some a2 := by rw [oth_get hN hpR hqR K (Nat.le_refl _), s2]; exact ha2
    refine ⟨_, _, _, _, arrB_put ha1, arrB_put b1, arrB_put ha2, arrB_put b2, ?_, ?_⟩
    · simp only [atXY]
      rw [e4, s1]
    · simp only [atXY]
      rw [e4, s2]
theorem arrayRows_calls (F : Fnt) (l : Int) (c : Bool) (ra rb rc : Int) (n : Nat) (kids : List (Bx (n + 1))) (kx : Option Addr) (kc : Nat) (w : World) (hF : FntOk w F) (hk : RepL w (n + 1) kx kids) (hm : kids.length ≤ maxLen) (ba : 0 ≤ ra ∧ ra ≤ 255) (bb : 0 ≤ rb ∧ rb ≤ 255) (bc : 0 ≤ rc ∧ rc ≤ 255) : Calls Try.prog 7 #[.agg (caseX F l c).toArray, .agg #[.int .u8 ra, .int .u8 rb, .int .u8 rc], .slice kx kids.length kc] w (Gives (.bool true) w) := by
  obtain ⟨K, hK⟩ : ∃ K : Nat, (K : Int) = 1 + ra % 16 := ⟨(1 + ra % 16).toNat, by omega⟩
  by_cases ht : RightOk F l n (K : Int) kids
  · exact arrayRows_right F l c ra rb rc n kids kx kc w hF hk hm ba bb bc K hK ht
  · exact arrayRows_wild F l c ra rb rc n kids kx kc w hF hk hm ba bb bc K hK ht

end Go.Proofs.Ytgnkngkogamjaaa
