/- Texts Pct, Hlf, Rfn. -/
import Derived.Test.YtgpabckipmhobaaK11
import Derived.Test.YtgpabckipmhobaaK04
import Derived.Test.YtgpabckipmhobaaK06
namespace Go.Proofs.Ytgpabckipmhobaa
open Go.RowKit

attribute [local irreducible] wpQuiet wpG wpP wpList Code.wp

instance rt_style : RowTy Try.prog 29 2 := ⟨⟨_, Try.underlying29, rfl⟩, by kernel_rfl⟩
instance zt_style : ZeroTy Try.prog 29 [.int .i64 0, .bool false] := ⟨.agg #[.int .i64 0, .bool false], by kernel_rfl, rfl⟩

set_option maxHeartbeats 1000000 in
theorem style_Valid_own (l : Int) (c : Bool) (w : World) : Calls Try.prog 69 #[.agg #[.int .i64 l, .bool c]] w (Gives (.bool (decide (0 ≤ l) && decide (l ≤ 3))) w) := by
  go_enter Try.func69, Try.ntmps69
  have hS := own_start w
  go_wp2_with (first | (refine own_unguard (by rfl) ?_) | (refine w_ld rfl _ rfl (by rfl) (by first | exact rd_1 (by repeat constructor) (by first | rfl | assumption) | exact rd_w (by repeat constructor) (by rfl) | exact rd_o (by assumption) (by rfl) (by first | exact nmn | assumption | simp) | exact rd_h (by assumption) (by rfl) (by first | exact nmn | assumption | simp) | exact rd_1o (by assumption) (by first | exact nmn | assumption | simp) | exact rd_1h (by assumption) (by first | rfl | assumption) (by first | exact nmn | assumption | simp)) hS ?_) | (refine own_box rfl _ _ rfl (by rfl) hS ?_; clear hS; (try clear ww); intro bb ww hS) | (refine w_al rfl rfl hS ?_; clear hS; (try clear ww); intro bb ww hS) | (refine w_st rfl _ _ rfl (by rfl) (by rfl) (by repeat constructor) (by rfl) (by rfl) (by first | rfl | assumption) hS ?_; clear hS; (try clear ww); intro ww hS) | (refine w_s1 rfl _ _ rfl (by rfl) (by repeat constructor) (by first | exact .c | exact .t rfl) (by rfl) (by repeat constructor) hS ?_; clear hS; (try clear ww); intro ww hS))
  all_goals
    go_ret
    refine ⟨ret_bool ?_, hS.below⟩
    simp
    try omega

/-- Is a level one of the four? -/
def lvlOk (l : Int) : Bool := decide (0 ≤ l) && decide (l ≤ 3)
/-- The size of a level. -/
def sizeOf' (F : Fnt) (l : Int) : Int := if l = 2 then F.script else if l = 3 then F.sscript else 100

/-- What Percent returns: the size, the error. -/
def PctOk (F : Fnt) (l : Int) (p e : Int) : Prop := (lvlOk l = true ∧ ValidF F → p = sizeOf' F l ∧ e = 0) ∧ (lvlOk l = false ∨ ¬ ValidF F → p = 0 ∧ e = 1)
theorem style_Valid_v {l : Int} {c v : Bool} {w : World} (hv : Hid (lvlOk l = v)) : Calls Try.prog 69 #[.agg #[.int .i64 l, .bool c]] w (Gives (.bool v) w) := by
  have := style_Valid_own l c w
  unfold lvlOk at hv
  rwa [hv.out] at this
set_option maxHeartbeats 4000000 in
set_option maxRecDepth 100000 in
theorem style_Percent_lvl (F : Fnt) (l : Int) (c : Bool) (w : World) (h : lvlOk l = false) : Calls Try.prog 44 #[F.val, .agg #[.int .i64 l, .bool c]] w (Gives (.tuple #[.int .i64 0, .int .i64 1]) w) := by
  have HL := Lib.hid h
  clear h
  go_enter Try.func44, Try.ntmps44
  have hS := own_start w
  go_wp2_with (first | (refine own_unguard (by rfl) ?_) | (go_at_call 69; refine own_calls hS (style_Valid_v HL) ?_; clear hS; (try clear ww); intro ww hS) | (refine w_ld rfl _ rfl (by rfl) (by first | exact rd_1 (by repeat constructor) (by first | rfl | assumption) | exact rd_w (by repeat constructor) (by rfl) | exact rd_o (by assumption) (by rfl) (by first | exact nmn | assumption | simp) | exact rd_h (by assumption) (by rfl) (by first | exact nmn | assumption | simp) | exact rd_1o (by assumption) (by first | exact nmn | assumption | simp) | exact rd_1h (by assumption) (by first | rfl | assumption) (by first | exact nmn | assumption | simp)) hS ?_) | (refine own_box rfl _ _ rfl (by rfl) hS ?_; clear hS; (try clear ww); intro bb ww hS) | (refine w_al rfl rfl hS ?_; clear hS; (try clear ww); intro bb ww hS) | (refine w_st rfl _ _ rfl (by rfl) (by rfl) (by repeat constructor) (by rfl) (by rfl) (by first | rfl | assumption) hS ?_; clear hS; (try clear ww); intro ww hS) | (refine w_s1 rfl _ _ rfl (by rfl) (by repeat constructor) (by first | exact .c | exact .t rfl) (by rfl) (by repeat constructor) hS ?_; clear hS; (try clear ww); intro ww hS))
  go_ret2
  exact own_gives hS

set_option maxHeartbeats 4000000 in
set_option maxRecDepth 100000 in
theorem style_Percent_bad (F : Fnt) (l : Int) (c : Bool) (w : World) (hF : FntOk w F) (h : lvlOk l = true) (hv : ¬ ValidF F) : Calls Try.prog 44 #[F.val, .agg #[.int .i64 l, .bool c]] w (Gives (.tuple #[.int .i64 0, .int .i64 1]) w) := by
  have HF := Lib.hid hF
  have HL := Lib.hid h
  have HV := Lib.hid hv
  clear hF h hv
  go_enter Try.func44, Try.ntmps44
  have hS := own_start w
  go_wp2_with (first | (refine own_unguard (by rfl) ?_) | (go_at_call 69; refine own_calls hS (style_Valid_v HL) ?_; clear hS; (try clear ww); intro ww hS) | (go_at_call 38; refine own_calls hS (font_Valid_calls F _ (HF.out.below hS.below) _ (iff_f HV.out)) ?_; clear hS; (try clear ww); intro ww hS) | (refine w_ld rfl _ rfl (by rfl) (by first | exact rd_1 (by repeat constructor) (by first | rfl | assumption) | exact rd_w (by repeat constructor) (by rfl) | exact rd_o (by assumption) (by rfl) (by first | exact nmn | assumption | simp) | exact rd_h (by assumption) (by rfl) (by first | exact nmn | assumption | simp) | exact rd_1o (by assumption) (by first | exact nmn | assumption | simp) | exact rd_1h (by assumption) (by first | rfl | assumption) (by first | exact nmn | assumption | simp)) hS ?_) | (refine own_box rfl _ _ rfl (by rfl) hS ?_; clear hS; (try clear ww); intro bb ww hS) | (refine w_al rfl rfl hS ?_; clear hS; (try clear ww); intro bb ww hS) | (refine w_st rfl _ _ rfl (by rfl) (by rfl) (by repeat constructor) (by rfl) (by rfl) (by first | rfl | assumption) hS ?_; clear hS; (try clear ww); intro ww hS) | (refine w_s1 rfl _ _ rfl (by rfl) (by repeat constructor) (by first | exact .c | exact .t rfl) (by rfl) (by repeat constructor) hS ?_; clear hS; (try clear ww); intro ww hS))
  go_ret2
  exact own_gives hS

set_option maxHeartbeats 4000000 in
set_option maxRecDepth 100000 in
theorem style_Percent_0 (F : Fnt) (c : Bool) (w : World) (hF : FntOk w F) (hv : ValidF F) : Calls Try.prog 44 #[F.val, .agg #[.int .i64 0, .bool c]] w (Gives (.tuple #[.int .i64 (100), .int .i64 0]) w) := by
  have HF := Lib.hid hF
  have HL := Lib.hid (show lvlOk 0 = true from rfl)
  have HV := Lib.hid hv
  clear hF hv
  go_enter Try.func44, Try.ntmps44
  have hS := own_start w
  go_wp2_with (first | (refine own_unguard (by rfl) ?_) | (go_at_call 69; refine own_calls hS (style_Valid_v HL) ?_; clear hS; (try clear ww); intro ww hS) | (go_at_call 38; refine own_calls hS (font_Valid_calls F _ (HF.out.below hS.below) _ (iff_t HV.out)) ?_; clear hS; (try clear ww); intro ww hS) | (refine w_ld rfl _ rfl (by rfl) (by first | exact rd_1 (by repeat constructor) (by first | rfl | assumption) | exact rd_w (by repeat constructor) (by rfl) | exact rd_o (by assumption) (by rfl) (by first | exact nmn | assumption | simp) | exact rd_h (by assumption) (by rfl) (by first | exact nmn | assumption | simp) | exact rd_1o (by assumption) (by first | exact nmn | assumption | simp) | exact rd_1h (by assumption) (by first | rfl | assumption) (by first | exact nmn | assumption | simp)) hS ?_) | (refine own_box rfl _ _ rfl (by rfl) hS ?_; clear hS; (try clear ww); intro bb ww hS) | (refine w_al rfl rfl hS ?_; clear hS; (try clear ww); intro bb ww hS) | (refine w_st rfl _ _ rfl (by rfl) (by rfl) (by repeat constructor) (by rfl) (by rfl) (by first | rfl | assumption) hS ?_; clear hS; (try clear ww); intro ww hS) | (refine w_s1 rfl _ _ rfl (by rfl) (by repeat constructor) (by first | exact .c | exact .t rfl) (by rfl) (by repeat constructor) hS ?_; clear hS; (try clear ww); intro ww hS))
  go_ret2
  exact own_gives hS

set_option maxHeartbeats 4000000 in
set_option maxRecDepth 100000 in
theorem style_Percent_1 (F : Fnt) (c : Bool) (w : World) (hF : FntOk w F) (hv : ValidF F) : Calls Try.prog 44 #[F.val, .agg #[.int .i64 1, .bool c]] w (Gives (.tuple #[.int .i64 (100), .int .i64 0]) w) := by
  have HF := Lib.hid hF
  have HL := Lib.hid (show lvlOk 1 = true from rfl)
  have HV := Lib.hid hv
  clear hF hv
  go_enter Try.func44, Try.ntmps44
  have hS := own_start w
  go_wp2_with (first | (refine own_unguard (by rfl) ?_) | (go_at_call 69; refine own_calls hS (style_Valid_v HL) ?_; clear hS; (try clear ww); intro ww hS) | (go_at_call 38; refine own_calls hS (font_Valid_calls F _ (HF.out.below hS.below) _ (iff_t HV.out)) ?_; clear hS; (try clear ww); intro ww hS) | (refine w_ld rfl _ rfl (by rfl) (by first | exact rd_1 (by repeat constructor) (by first | rfl | assumption) | exact rd_w (by repeat constructor) (by rfl) | exact rd_o (by assumption) (by rfl) (by first | exact nmn | assumption | simp) | exact rd_h (by assumption) (by rfl) (by first | exact nmn | assumption | simp) | exact rd_1o (by assumption) (by first | exact nmn | assumption | simp) | exact rd_1h (by assumption) (by first | rfl | assumption) (by first | exact nmn | assumption | simp)) hS ?_) | (refine own_box rfl _ _ rfl (by rfl) hS ?_; clear hS; (try clear ww); intro bb ww hS) | (refine w_al rfl rfl hS ?_; clear hS; (try clear ww); intro bb ww hS) | (refine w_st rfl _ _ rfl (by rfl) (by rfl) (by repeat constructor) (by rfl) (by rfl) (by first | rfl | assumption) hS ?_; clear hS; (try clear ww); intro ww hS) | (refine w_s1 rfl _ _ rfl (by rfl) (by repeat constructor) (by first | exact .c | exact .t rfl) (by rfl) (by repeat constructor) hS ?_; clear hS; (try clear ww); intro ww hS))
  go_ret2
  exact own_gives hS

set_option maxHeartbeats 4000000 in
set_option maxRecDepth 100000 in
theorem style_Percent_2 (F : Fnt) (c : Bool) (w : World) (hF : FntOk w F) (hv : ValidF F) : Calls Try.prog 44 #[F.val, .agg #[.int .i64 2, .bool c]] w (Gives (.tuple #[.int .i64 (F.script), .int .i64 0]) w) := by
  have HF := Lib.hid hF
  have HL := Lib.hid (show lvlOk 2 = true from rfl)
  have HV := Lib.hid hv
  clear hF hv
  go_enter Try.func44, Try.ntmps44
  have hS := own_start w
  go_wp2_with (first | (refine own_unguard (by rfl) ?_) | (go_at_call 69; refine own_calls hS (style_Valid_v HL) ?_; clear hS; (try clear ww); intro ww hS) | (go_at_call 38; refine own_calls hS (font_Valid_calls F _ (HF.out.below hS.below) _ (iff_t HV.out)) ?_; clear hS; (try clear ww); intro ww hS) | (refine w_ld rfl _ rfl (by rfl) (by first | exact rd_1 (by repeat constructor) (by first | rfl | assumption) | exact rd_w (by repeat constructor) (by rfl) | exact rd_o (by assumption) (by rfl) (by first | exact nmn | assumption | simp) | exact rd_h (by assumption) (by rfl) (by first | exact nmn | assumption | simp) | exact rd_1o (by assumption) (by first | exact nmn | assumption | simp) | exact rd_1h (by assumption) (by first | rfl | assumption) (by first | exact nmn | assumption | simp)) hS ?_) | (refine own_box rfl _ _ rfl (by rfl) hS ?_; clear hS; (try clear ww); intro bb ww hS) | (refine w_al rfl rfl hS ?_; clear hS; (try clear ww); intro bb ww hS) | (refine w_st rfl _ _ rfl (by rfl) (by rfl) (by repeat constructor) (by rfl) (by rfl) (by first | rfl | assumption) hS ?_; clear hS; (try clear ww); intro ww hS) | (refine w_s1 rfl _ _ rfl (by rfl) (by repeat constructor) (by first | exact .c | exact .t rfl) (by rfl) (by repeat constructor) hS ?_; clear hS; (try clear ww); intro ww hS))
  go_ret2
  exact own_gives hS

set_option maxHeartbeats 4000000 in
set_option maxRecDepth 100000 in
theorem style_Percent_3 (F : Fnt) (c : Bool) (w : World) (hF : FntOk w F) (hv : ValidF F) : Calls Try.prog 44 #[F.val, .agg #[.int .i64 3, .bool c]] w (Gives (.tuple #[.int .i64 (F.sscript), .int .i64 0]) w) := by
  have HF := Lib.hid hF
  have HL := Lib.hid (show lvlOk 3 = true from rfl)
  have HV := Lib.hid hv
  clear hF hv
  go_enter Try.func44, Try.ntmps44
  have hS := own_start w
  go_wp2_with (first | (refine own_unguard (by rfl) ?_) | (go_at_call 69; refine own_calls hS (style_Valid_v HL) ?_; clear hS; (try clear ww); intro ww hS) | (go_at_call 38; refine own_calls hS (font_Valid_calls F _ (HF.out.below hS.below) _ (iff_t HV.out)) ?_; clear hS; (try clear ww); intro ww hS) | (refine w_ld rfl _ rfl (by rfl) (by first | exact rd_1 (by repeat constructor) (by first | rfl | assumption) | exact rd_w (by repeat constructor) (by rfl) | exact rd_o (by assumption) (by rfl) (by first | exact nmn | assumption | simp) | exact rd_h (by assumption) (by rfl) (by first | exact nmn | assumption | simp) | exact rd_1o (by assumption) (by first | exact nmn | assumption | simp) | exact rd_1h (by assumption) (by first | rfl | assumption) (by first | exact nmn | assumption | simp)) hS ?_) | (refine own_box rfl _ _ rfl (by rfl) hS ?_; clear hS; (try clear ww); intro bb ww hS) | (refine w_al rfl rfl hS ?_; clear hS; (try clear ww); intro bb ww hS) | (refine w_st rfl _ _ rfl (by rfl) (by rfl) (by repeat constructor) (by rfl) (by rfl) (by first | rfl | assumption) hS ?_; clear hS; (try clear ww); intro ww hS) | (refine w_s1 rfl _ _ rfl (by rfl) (by repeat constructor) (by first | exact .c | exact .t rfl) (by rfl) (by repeat constructor) hS ?_; clear hS; (try clear ww); intro ww hS))
  go_ret2
  exact own_gives hS

theorem style_Percent_ok (F : Fnt) (l : Int) (c : Bool) (w : World) (hF : FntOk w F) (h : lvlOk l = true) (hv : ValidF F) : Calls Try.prog 44 #[F.val, .agg #[.int .i64 l, .bool c]] w (Gives (.tuple #[.int .i64 (sizeOf' F l), .int .i64 0]) w) := by
  have hc : l = 0 ∨ l = 1 ∨ l = 2 ∨ l = 3 := by simp [lvlOk] at h; omega
  rcases hc with rfl | rfl | rfl | rfl
  · exact style_Percent_0 F c w hF hv
  · exact style_Percent_1 F c w hF hv
  · exact style_Percent_2 F c w hF hv
  · exact style_Percent_3 F c w hF hv

/-- What Percent returns. -/
theorem style_Percent_calls (F : Fnt) (l p e : Int) (c : Bool) (w : World) (hF : FntOk w F) (hx : PctOk F l p e) : Calls Try.prog 44 #[F.val, .agg #[.int .i64 l, .bool c]] w (Gives (.tuple #[.int .i64 p, .int .i64 e]) w) := by
  cases h : lvlOk l
  · obtain ⟨rfl, rfl⟩ := hx.2 (Or.inl h); exact style_Percent_lvl F l c w h
  · by_cases hv : ValidF F
    · obtain ⟨rfl, rfl⟩ := hx.1 ⟨h, hv⟩; exact style_Percent_ok F l c w hF h hv
    · obtain ⟨rfl, rfl⟩ := hx.2 (Or.inr hv); exact style_Percent_bad F l c w hF h hv

end Go.Proofs.Ytgpabckipmhobaa
namespace Go.Proofs.Ytgpabckipmhobaa
open Go.RowKit

attribute [local irreducible] Code.wp Calls



theorem length_Scale_gives (n p : Int) (w : World) : Calls Try.prog 64 #[.int .i64 n, .int .i64 p] w (Gives (.int .i64 (scl n p)) w) := (length_Scale_calls n p w).mono fun _ _ h => h.gives

end Go.Proofs.Ytgpabckipmhobaa
namespace Go.Proofs.Ytgpabckipmhobaa
open Go.RowKit

attribute [local irreducible] wpQuiet wpG wpP wpK wpList Code.wp Calls

theorem sum_take_all {α : Type} (f : α → Nat) (l : List α) (j : Nat) : ((l.take j).map f).sum ≤ (l.map f).sum := by
  have h1 : (l.map f).sum = ((l.take j ++ l.drop j).map f).sum := by rw [List.take_append_drop]
  rw [h1, List.map_append, List.sum_append]
  omega
theorem nest_take {n : Nat} {kids : List (Bx n)} {j : Nat} {kid : Bx n} (h : kids[j]? = some kid) : (kids.take (j + 1)).foldl (fun m k => max m (bNested n k)) 0 = max ((kids.take j).foldl (fun m k => max m (bNested n k)) 0) (bNested n kid) := by
  rw [List.take_add_one, h]
  simp

set_option maxHeartbeats 8000000 in
set_option maxRecDepth 100000 in
theorem ref28_Count_step (n : Nat) (ih : ∀ (b : Bx n) (cs : List Value) (w : World), Rep w n b cs → bCount n b ≤ 1000000 → Calls Try.prog 34 #[.agg cs.toArray] w (Gives (.int .i64 (bCount n b)) w))
    (b : Bx (n + 1)) (cs : List Value) (w : World) (hr : Rep w (n + 1) b cs) (hp : bCount (n + 1) b ≤ 1000000) : Calls Try.prog 34 #[.agg cs.toArray] w (Gives (.int .i64 (bCount (n + 1) b)) w) := by
  obtain ⟨⟨kind, name, size, bw, bh, bd, bx, by_, of, src⟩, kids⟩ := b
  obtain ⟨kx, kc, sx, sc, rfl, ha, hkl, hrow0, hkids⟩ := rep_out hr
  have IH := Lib.hid ih
  have HK := Lib.hid hkids
  have HP := Lib.hid hp
  have hb1 : kids.length ≤ 1000000 := by
    have := hp
    have key : ∀ l : List (Bx n), (∀ k ∈ l, 1 ≤ bCount n k) → l.length ≤ (l.map (bCount n)).sum := by
      intro l
      induction l with
      | nil => intro _; simp
      | cons p l ih2 =>
        intro hp
        have h1 := hp p (by simp)
        have h2 := ih2 fun q hq => hp q (by simp [hq])
        simp only [List.length_cons, List.map_cons, List.sum_cons]
        omega
    have h1 := key kids fun k hk => by
      obtain ⟨i, hi⟩ := List.mem_iff_getElem?.1 hk
      obtain ⟨_, _, _, _, _, h⟩ := hkids i k hi
      cases n with
      | zero => exact h.elim
      | succ n => simp [bCount]
    simp only [bCount] at this
    omega
  clear ih hr ha hkl hrow0 hkids hp
  go_enter Try.func34, Try.ntmps34
  have hS := own_start w
  go_wp2_with (first | (refine own_unguard (by rfl) ?_) | (refine w_ld rfl _ rfl (by rfl) (by first | exact rd_1 (by repeat constructor) (by first | rfl | assumption) | exact rd_w (by repeat constructor) (by rfl) | exact rd_o (by assumption) (by rfl) (by first | exact nmn | assumption | simp) | exact rd_h (by assumption) (by rfl) (by first | exact nmn | assumption | simp) | exact rd_1o (by assumption) (by first | exact nmn | assumption | simp) | exact rd_1h (by assumption) (by first | rfl | assumption) (by first | exact nmn | assumption | simp)) hS ?_) | (refine own_box rfl _ _ rfl (by rfl) hS ?_; clear hS; (try clear ww); intro bb ww hS) | (refine w_st rfl _ _ rfl (by rfl) (by rfl) (by repeat constructor) (by rfl) (by rfl) (by first | rfl | assumption) hS ?_; clear hS; (try clear ww); intro ww hS) | (refine w_s1 rfl _ _ rfl (by rfl) (by repeat constructor) (by first | exact .c | exact .t rfl) (by rfl) (by repeat constructor) hS ?_; clear hS; (try clear ww); intro ww hS))
  obtain ⟨L0, HL, hS0⟩ := hS.named
  clear hS
  have hS := hS0
  clear hS0
  go_loopw [4, 3] (fun i x wr => ∃ j : Nat, j ≤ kids.length ∧ i = .int .i64 j ∧ x = .int .i64 (((1 + ((kids.take j).map (bCount n)).sum : Nat) : Int)) ∧ Own [] w L0 wr) (fun i _ _ => kids.length - (intOf i).toNat)
  case atStart => exact ⟨0, Nat.zero_le _, rfl, by simp, hS⟩
  case round =>
    clear hS
    obtain ⟨j, hj, rfl, rfl, hS⟩ := hrel
    obtain rfl := HL.out
    clear HL
    by_cases hlt : j < kids.length
    · obtain ⟨kid, hkid⟩ : ∃ kid, kids[j]? = some kid := ⟨kids[j], by simp [hlt]⟩
      obtain ⟨kb, ko, css, hkx, hrg, hrep⟩ := HK.out j kid hkid
      obtain rfl : kx = some ⟨kb, ko, none⟩ := hkx
      obtain ⟨c0, c1, c2, c3, c4, c5, c6, c7, c8, c9, c10, rfl⟩ := eleven hrep.len
      have hkc : bCount n kid ≤ 1000000 := by
        have h1 := sum_take_le (bCount n) kids j hkid
        have h2 := HP.out
        simp only [bCount] at h2
        omega
      have hsum : ((kids.take j).map (bCount n)).sum + bCount n kid ≤ 1000000 := by
        have h1 := sum_take_le (bCount n) kids j hkid
        have h2 := HP.out
        simp only [bCount] at h2
        omega
      have HRp := Lib.hid hrep
      have HKid := Lib.hid hkid
      clear hrep hkid
      have E1 := Lib.hid (sum_take_succ (bCount n) kids j HKid.out)
      generalize ((kids.take j).map (bCount n)).sum = S at *
      go_wp2_with (first | (refine own_unguard (by rfl) ?_) | (refine own_load_old rfl _ _ rfl rfl hS hrg List.not_mem_nil rt_box ?_) | (go_at_call 34; refine own_calls hS (IH.out kid _ _ (HRp.out.step hS.below) hkc) ?_; clear hS; (try clear ww); intro ww hS) | (refine w_ld rfl _ rfl (by rfl) (by first | exact rd_1 (by repeat constructor) (by first | rfl | assumption) | exact rd_w (by repeat constructor) (by rfl) | exact rd_o (by assumption) (by rfl) (by first | exact nmn | assumption | simp) | exact rd_h (by assumption) (by rfl) (by first | exact nmn | assumption | simp) | exact rd_1o (by assumption) (by first | exact nmn | assumption | simp) | exact rd_1h (by assumption) (by first | rfl | assumption) (by first | exact nmn | assumption | simp)) hS ?_) | (refine own_box rfl _ _ rfl (by rfl) hS ?_; clear hS; (try clear ww); intro bb ww hS) | (refine w_st rfl _ _ rfl (by rfl) (by rfl) (by repeat constructor) (by rfl) (by rfl) (by first | rfl | assumption) hS ?_; clear hS; (try clear ww); intro ww hS) | (refine w_s1 rfl _ _ rfl (by rfl) (by repeat constructor) (by first | exact .c | exact .t rfl) (by rfl) (by repeat constructor) hS ?_; clear hS; (try clear ww); intro ww hS))
      go_roundw
      case rel => exact ⟨j + 1, hlt, by go_num, by rw [E1.out]; congr 1; push_cast; omega, hS⟩
      case measure => exact loop_meas hlt
    · obtain rfl : j = kids.length := by omega
      have E1 := Lib.hid (show 1 + ((kids.take kids.length).map (bCount n)).sum = bCount (n + 1) (⟨kind, name, size, bw, bh, bd, bx, by_, of, src⟩, kids) by rw [List.take_length]; rfl)
      generalize ((kids.take kids.length).map (bCount n)).sum = S at *
      go_wp2_with (first | (refine own_unguard (by rfl) ?_) | (refine w_ld rfl _ rfl (by rfl) (by first | exact rd_1 (by repeat constructor) (by first | rfl | assumption) | exact rd_w (by repeat constructor) (by rfl) | exact rd_o (by assumption) (by rfl) (by first | exact nmn | assumption | simp) | exact rd_h (by assumption) (by rfl) (by first | exact nmn | assumption | simp) | exact rd_1o (by assumption) (by first | exact nmn | assumption | simp) | exact rd_1h (by assumption) (by first | rfl | assumption) (by first | exact nmn | assumption | simp)) hS ?_) | (refine own_box rfl _ _ rfl (by rfl) hS ?_; clear hS; (try clear ww); intro bb ww hS) | (refine w_st rfl _ _ rfl (by rfl) (by rfl) (by repeat constructor) (by rfl) (by rfl) (by first | rfl | assumption) hS ?_; clear hS; (try clear ww); intro ww hS) | (refine w_s1 rfl _ _ rfl (by rfl) (by repeat constructor) (by first | exact .c | exact .t rfl) (by rfl) (by repeat constructor) hS ?_; clear hS; (try clear ww); intro ww hS))
      go_ret
      exact ⟨ret_int (by have := E1.out; omega), hS.below⟩

theorem ref28_Count_calls : ∀ (n : Nat) (b : Bx n) (cs : List Value) (w : World), Rep w n b cs → bCount n b ≤ 1000000 → Calls Try.prog 34 #[.agg cs.toArray] w (Gives (.int .i64 (bCount n b)) w) := by
  intro n
  induction n with
  | zero => intro b cs w h; exact h.elim
  | succ n ih => intro b cs w h1 h2; exact ref28_Count_step n ih b cs w h1 h2

theorem nested_le : ∀ (n : Nat) (b : Bx n), bNested n b ≤ bCount n b := by
  intro n
  induction n with
  | zero => intro b; exact b.elim
  | succ n ih =>
    intro b
    simp only [bNested, bCount]
    have h := (nest_le (bNested n) b.2 0 ((b.2.map (bCount n)).sum)).2 ⟨Nat.zero_le _, fun k hk => by
      obtain ⟨i, hi⟩ := List.mem_iff_getElem?.1 hk
      have h1 := sum_take_le (bCount n) b.2 i hi
      have h2 := ih k
      omega⟩
    omega

set_option maxHeartbeats 8000000 in
set_option maxRecDepth 100000 in
theorem ref28_Nested_step (n : Nat) (ih : ∀ (b : Bx n) (cs : List Value) (w : World), Rep w n b cs → bCount n b ≤ 1000000 → Calls Try.prog 35 #[.agg cs.toArray] w (Gives (.int .i64 (bNested n b)) w))
    (b : Bx (n + 1)) (cs : List Value) (w : World) (hr : Rep w (n + 1) b cs) (hp : bCount (n + 1) b ≤ 1000000) : Calls Try.prog 35 #[.agg cs.toArray] w (Gives (.int .i64 (bNested (n + 1) b)) w) := by
  obtain ⟨⟨kind, name, size, bw, bh, bd, bx, by_, of, src⟩, kids⟩ := b
  obtain ⟨kx, kc, sx, sc, rfl, ha, hkl, hrow0, hkids⟩ := rep_out hr
  have IH := Lib.hid ih
  have HK := Lib.hid hkids
  have HP := Lib.hid hp
  have hb1 : kids.length ≤ 1000000 := by
    have := hp
    have key : ∀ l : List (Bx n), (∀ k ∈ l, 1 ≤ bCount n k) → l.length ≤ (l.map (bCount n)).sum := by
      intro l
      induction l with
      | nil => intro _; simp
      | cons p l ih2 =>
        intro hp
        have h1 := hp p (by simp)
        have h2 := ih2 fun q hq => hp q (by simp [hq])
        simp only [List.length_cons, List.map_cons, List.sum_cons]
        omega
    have h1 := key kids fun k hk => by
      obtain ⟨i, hi⟩ := List.mem_iff_getElem?.1 hk
      obtain ⟨_, _, _, _, _, h⟩ := hkids i k hi
      cases n with
      | zero => exact h.elim
      | succ n => simp [bCount]
    simp only [bCount] at this
    omega
  clear ih hr ha hkl hrow0 hkids hp
  go_enter Try.func35, Try.ntmps35
  have hS := own_start w
  go_wp2_with (first | (refine own_unguard (by rfl) ?_) | (refine w_ld rfl _ rfl (by rfl) (by first | exact rd_1 (by repeat constructor) (by first | rfl | assumption) | exact rd_w (by repeat constructor) (by rfl) | exact rd_o (by assumption) (by rfl) (by first | exact nmn | assumption | simp) | exact rd_h (by assumption) (by rfl) (by first | exact nmn | assumption | simp) | exact rd_1o (by assumption) (by first | exact nmn | assumption | simp) | exact rd_1h (by assumption) (by first | rfl | assumption) (by first | exact nmn | assumption | simp)) hS ?_) | (refine own_box rfl _ _ rfl (by rfl) hS ?_; clear hS; (try clear ww); intro bb ww hS) | (refine w_st rfl _ _ rfl (by rfl) (by rfl) (by repeat constructor) (by rfl) (by rfl) (by first | rfl | assumption) hS ?_; clear hS; (try clear ww); intro ww hS) | (refine w_s1 rfl _ _ rfl (by rfl) (by repeat constructor) (by first | exact .c | exact .t rfl) (by rfl) (by repeat constructor) hS ?_; clear hS; (try clear ww); intro ww hS))
  obtain ⟨L0, HL, hS0⟩ := hS.named
  clear hS
  have hS := hS0
  clear hS0
  go_loopw [4, 3] (fun i x wr => ∃ j : Nat, j ≤ kids.length ∧ i = .int .i64 j ∧ x = .int .i64 ((((kids.take j).foldl (fun m k => max m (bNested n k)) 0 : Nat) : Int)) ∧ Own [] w L0 wr) (fun i _ _ => kids.length - (intOf i).toNat)
  case atStart => exact ⟨0, Nat.zero_le _, rfl, by simp, hS⟩
  case round =>
    clear hS
    obtain ⟨j, hj, rfl, rfl, hS⟩ := hrel
    obtain rfl := HL.out
    clear HL
    by_cases hlt : j < kids.length
    · obtain ⟨kid, hkid⟩ : ∃ kid, kids[j]? = some kid := ⟨kids[j], by simp [hlt]⟩
      obtain ⟨kb, ko, css, hkx, hrg, hrep⟩ := HK.out j kid hkid
      obtain rfl : kx = some ⟨kb, ko, none⟩ := hkx
      obtain ⟨c0, c1, c2, c3, c4, c5, c6, c7, c8, c9, c10, rfl⟩ := eleven hrep.len
      have hkc : bCount n kid ≤ 1000000 := by
        have h1 := sum_take_le (bCount n) kids j hkid
        have h2 := HP.out
        simp only [bCount] at h2
        omega
      have hsum : ((kids.take j).map (bCount n)).sum + bCount n kid ≤ 1000000 := by
        have h1 := sum_take_le (bCount n) kids j hkid
        have h2 := HP.out
        simp only [bCount] at h2
        omega
      have HRp := Lib.hid hrep
      have HKid := Lib.hid hkid
      clear hrep hkid
      have hnk := nested_le n kid
      have hnj : (kids.take j).foldl (fun m k => max m (bNested n k)) 0 ≤ 1000000 := (nest_le (bNested n) _ 0 1000000).2 ⟨Nat.zero_le _, fun k hk => by
        obtain ⟨i, hi⟩ := List.mem_iff_getElem?.1 (List.mem_of_mem_take hk)
        have h1 := sum_take_le (bCount n) kids i hi
        have h2 := HP.out
        simp only [bCount] at h2
        have h3 := nested_le n k
        omega⟩
      have E1 := Lib.hid (nest_take HKid.out)
      generalize (kids.take j).foldl (fun m k => max m (bNested n k)) 0 = S at *
      generalize hNK : bNested n kid = NK at *
      clear hsum
      go_wp2_with (first | (refine own_unguard (by rfl) ?_) | (refine own_load_old rfl _ _ rfl rfl hS hrg List.not_mem_nil rt_box ?_) | (go_at_call 35; refine own_calls hS (IH.out kid _ _ (HRp.out.step hS.below) hkc) ?_; clear hS; (try clear ww); intro ww hS) | (refine w_ld rfl _ rfl (by rfl) (by first | exact rd_1 (by repeat constructor) (by first | rfl | assumption) | exact rd_w (by repeat constructor) (by rfl) | exact rd_o (by assumption) (by rfl) (by first | exact nmn | assumption | simp) | exact rd_h (by assumption) (by rfl) (by first | exact nmn | assumption | simp) | exact rd_1o (by assumption) (by first | exact nmn | assumption | simp) | exact rd_1h (by assumption) (by first | rfl | assumption) (by first | exact nmn | assumption | simp)) hS ?_) | (refine own_box rfl _ _ rfl (by rfl) hS ?_; clear hS; (try clear ww); intro bb ww hS) | (refine w_st rfl _ _ rfl (by rfl) (by rfl) (by repeat constructor) (by rfl) (by rfl) (by first | rfl | assumption) hS ?_; clear hS; (try clear ww); intro ww hS) | (refine w_s1 rfl _ _ rfl (by rfl) (by repeat constructor) (by first | exact .c | exact .t rfl) (by rfl) (by repeat constructor) hS ?_; clear hS; (try clear ww); intro ww hS))
      go_roundw
      case rel => exact ⟨j + 1, hlt, by go_num, by rw [E1.out]; congr 1; omega, hS⟩
      case measure => exact loop_meas hlt
    · obtain rfl : j = kids.length := by omega
      have E1 := Lib.hid (show (kids.take kids.length).foldl (fun m k => max m (bNested n k)) 0 + 1 = bNested (n + 1) (⟨kind, name, size, bw, bh, bd, bx, by_, of, src⟩, kids) by rw [List.take_length]; simp only [bNested]; omega)
      have hnj : bNested (n + 1) (⟨kind, name, size, bw, bh, bd, bx, by_, of, src⟩, kids) ≤ 1000000 := Nat.le_trans (nested_le _ _) HP.out
      rw [← E1.out] at hnj
      generalize (kids.take kids.length).foldl (fun m k => max m (bNested n k)) 0 = S at *
      go_wp2_with (first | (refine own_unguard (by rfl) ?_) | (refine w_ld rfl _ rfl (by rfl) (by first | exact rd_1 (by repeat constructor) (by first | rfl | assumption) | exact rd_w (by repeat constructor) (by rfl) | exact rd_o (by assumption) (by rfl) (by first | exact nmn | assumption | simp) | exact rd_h (by assumption) (by rfl) (by first | exact nmn | assumption | simp) | exact rd_1o (by assumption) (by first | exact nmn | assumption | simp) | exact rd_1h (by assumption) (by first | rfl | assumption) (by first | exact nmn | assumption | simp)) hS ?_) | (refine own_box rfl _ _ rfl (by rfl) hS ?_; clear hS; (try clear ww); intro bb ww hS) | (refine w_st rfl _ _ rfl (by rfl) (by rfl) (by repeat constructor) (by rfl) (by rfl) (by first | rfl | assumption) hS ?_; clear hS; (try clear ww); intro ww hS) | (refine w_s1 rfl _ _ rfl (by rfl) (by repeat constructor) (by first | exact .c | exact .t rfl) (by rfl) (by repeat constructor) hS ?_; clear hS; (try clear ww); intro ww hS))
      go_ret
      exact ⟨ret_int (by have := E1.out; omega), hS.below⟩

theorem ref28_Nested_calls : ∀ (n : Nat) (b : Bx n) (cs : List Value) (w : World), Rep w n b cs → bCount n b ≤ 1000000 → Calls Try.prog 35 #[.agg cs.toArray] w (Gives (.int .i64 (bNested n b)) w) := by
  intro n
  induction n with
  | zero => intro b cs w h; exact h.elim
  | succ n ih => intro b cs w h1 h2; exact ref28_Nested_step n ih b cs w h1 h2

/-- The number of boxes, at most so many. -/
def few (n : Nat) (b : Bx n) (most : Nat) : Nat := min (bCount n b) most
theorem few_pos {n : Nat} {w : World} {b : Bx n} {cs : List Value} (h : Rep w n b cs) : 1 ≤ bCount n b := by
  cases n with
  | zero => exact h.elim
  | succ n => simp [bCount]

set_option maxHeartbeats 8000000 in
set_option maxRecDepth 100000 in
theorem ref28_size_step (n : Nat) (ih : ∀ (b : Bx n) (cs : List Value) (most : Nat) (w : World), Rep w n b cs → 1 ≤ most → most ≤ 1000000 → Calls Try.prog 27 #[.agg cs.toArray, .int .i64 most] w (Gives (.int .i64 ((few n b most : Nat) : Int)) w))
    (b : Bx (n + 1)) (cs : List Value) (most : Nat) (w : World) (hr : Rep w (n + 1) b cs) (hm1 : 1 ≤ most) (hm2 : most ≤ 1000000) : Calls Try.prog 27 #[.agg cs.toArray, .int .i64 most] w (Gives (.int .i64 ((few (n + 1) b most : Nat) : Int)) w) := by
  obtain ⟨⟨kind, name, size, bw, bh, bd, bx, by_, of, src⟩, kids⟩ := b
  obtain ⟨kx, kc, sx, sc, rfl, ha, hkl, hrow0, hkids⟩ := rep_out hr
  have IH := Lib.hid ih
  have HK := Lib.hid hkids
  simp only [maxLen] at hkl
  clear ih hr ha hrow0 hkids
  go_enter Try.func27, Try.ntmps27
  have hS := own_start w
  go_wp2_with (first | (refine own_unguard (by rfl) ?_) | (refine w_ld rfl _ rfl (by rfl) (by first | exact rd_1 (by repeat constructor) (by first | rfl | assumption) | exact rd_w (by repeat constructor) (by rfl) | exact rd_o (by assumption) (by rfl) (by first | exact nmn | assumption | simp) | exact rd_h (by assumption) (by rfl) (by first | exact nmn | assumption | simp) | exact rd_1o (by assumption) (by first | exact nmn | assumption | simp) | exact rd_1h (by assumption) (by first | rfl | assumption) (by first | exact nmn | assumption | simp)) hS ?_) | (refine own_box rfl _ _ rfl (by rfl) hS ?_; clear hS; (try clear ww); intro bb ww hS) | (refine w_st rfl _ _ rfl (by rfl) (by rfl) (by repeat constructor) (by rfl) (by rfl) (by first | rfl | assumption) hS ?_; clear hS; (try clear ww); intro ww hS) | (refine w_s1 rfl _ _ rfl (by rfl) (by repeat constructor) (by first | exact .c | exact .t rfl) (by rfl) (by repeat constructor) hS ?_; clear hS; (try clear ww); intro ww hS))
  obtain ⟨L0, HL, hS0⟩ := hS.named
  clear hS
  have hS := hS0
  clear hS0
  go_loopw [6, 5] (fun i x wr => ∃ (j S : Nat), j ≤ kids.length ∧ i = .int .i64 j ∧ x = .int .i64 S ∧ S = min (1 + ((kids.take j).map (bCount n)).sum) most ∧ j + 1 ≤ S ∧ Own [] w L0 wr) (fun i _ _ => kids.length - (intOf i).toNat)
  case atStart => exact ⟨0, 1, Nat.zero_le _, rfl, rfl, by simp; omega, by omega, hS⟩
  case round =>
    clear hS
    obtain ⟨j, S, hj, rfl, rfl, hSe, hjS, hS⟩ := hrel
    obtain rfl := HL.out
    clear HL
    by_cases hlt : j < kids.length
    · obtain ⟨kid, hkid⟩ : ∃ kid, kids[j]? = some kid := ⟨kids[j], by simp [hlt]⟩
      by_cases hSm : S < most
      · obtain ⟨kb, ko, css, hkx, hrg, hrep⟩ := HK.out j kid hkid
        obtain rfl : kx = some ⟨kb, ko, none⟩ := hkx
        obtain ⟨c0, c1, c2, c3, c4, c5, c6, c7, c8, c9, c10, rfl⟩ := eleven hrep.len
        have hpos := few_pos hrep
        have E1 := Lib.hid (sum_take_succ (bCount n) kids j hkid)
        have HSe := Lib.hid hSe
        have HRp := Lib.hid hrep
        have hfe : few n kid (most - S) ≤ most - S ∧ 1 ≤ few n kid (most - S) := by unfold few; omega
        have HF := Lib.hid (show few n kid (most - S) = min (bCount n kid) (most - S) from rfl)
        have hsub : ((most - S : Nat) : Int) = (most : Int) - (S : Int) := by omega
        obtain ⟨M2, hM2⟩ : ∃ M2, M2 = most - S := ⟨_, rfl⟩
        rw [← hM2] at hfe HF hsub
        have HC := Lib.hid (fun w' (h : Below w.heap.size w w') => IH.out kid _ M2 w' (HRp.out.step h) (by omega) (by omega))
        rw [hsub] at HC
        generalize few n kid M2 = G at *
        clear hrep hkid hSe hsub
        go_wp2_with (first | (refine own_unguard (by rfl) ?_) | (refine own_load_old rfl _ _ rfl rfl hS hrg List.not_mem_nil rt_box ?_) | (go_at_call 27; refine own_calls hS (HC.out _ hS.below) ?_; clear hS; (try clear ww); intro ww hS) | (refine w_ld rfl _ rfl (by rfl) (by first | exact rd_1 (by repeat constructor) (by first | rfl | assumption) | exact rd_w (by repeat constructor) (by rfl) | exact rd_o (by assumption) (by rfl) (by first | exact nmn | assumption | simp) | exact rd_h (by assumption) (by rfl) (by first | exact nmn | assumption | simp) | exact rd_1o (by assumption) (by first | exact nmn | assumption | simp) | exact rd_1h (by assumption) (by first | rfl | assumption) (by first | exact nmn | assumption | simp)) hS ?_) | (refine own_box rfl _ _ rfl (by rfl) hS ?_; clear hS; (try clear ww); intro bb ww hS) | (refine w_st rfl _ _ rfl (by rfl) (by rfl) (by repeat constructor) (by rfl) (by rfl) (by first | rfl | assumption) hS ?_; clear hS; (try clear ww); intro ww hS) | (refine w_s1 rfl _ _ rfl (by rfl) (by repeat constructor) (by first | exact .c | exact .t rfl) (by rfl) (by repeat constructor) hS ?_; clear hS; (try clear ww); intro ww hS))
        have HE2 := Lib.hid (show S + G = min (1 + ((kids.take (j + 1)).map (bCount n)).sum) most by have h1 := E1.out; have h2 := HSe.out; have h3 := HF.out; omega)
        go_roundw
        case rel => exact ⟨j + 1, S + G, hlt, by go_num, by simp, HE2.out, by omega, hS⟩
        case measure => exact loop_meas hlt
      · have HE := Lib.hid (show S = few (n + 1) (⟨kind, name, size, bw, bh, bd, bx, by_, of, src⟩, kids) most by have h1 := sum_take_all (bCount n) kids j; unfold few; simp only [bCount]; omega)
        clear hSe
        go_wp2_with (first | (refine own_unguard (by rfl) ?_) | (refine w_ld rfl _ rfl (by rfl) (by first | exact rd_1 (by repeat constructor) (by first | rfl | assumption) | exact rd_w (by repeat constructor) (by rfl) | exact rd_o (by assumption) (by rfl) (by first | exact nmn | assumption | simp) | exact rd_h (by assumption) (by rfl) (by first | exact nmn | assumption | simp) | exact rd_1o (by assumption) (by first | exact nmn | assumption | simp) | exact rd_1h (by assumption) (by first | rfl | assumption) (by first | exact nmn | assumption | simp)) hS ?_) | (refine own_box rfl _ _ rfl (by rfl) hS ?_; clear hS; (try clear ww); intro bb ww hS) | (refine w_st rfl _ _ rfl (by rfl) (by rfl) (by repeat constructor) (by rfl) (by rfl) (by first | rfl | assumption) hS ?_; clear hS; (try clear ww); intro ww hS) | (refine w_s1 rfl _ _ rfl (by rfl) (by repeat constructor) (by first | exact .c | exact .t rfl) (by rfl) (by repeat constructor) hS ?_; clear hS; (try clear ww); intro ww hS))
        go_ret
        exact ⟨ret_int (by rw [← HE.out]), hS.below⟩
    · obtain rfl : j = kids.length := by omega
      have HE := Lib.hid (show S = few (n + 1) (⟨kind, name, size, bw, bh, bd, bx, by_, of, src⟩, kids) most by rw [hSe, List.take_length]; rfl)
      clear hSe
      go_wp2_with (first | (refine own_unguard (by rfl) ?_) | (refine w_ld rfl _ rfl (by rfl) (by first | exact rd_1 (by repeat constructor) (by first | rfl | assumption) | exact rd_w (by repeat constructor) (by rfl) | exact rd_o (by assumption) (by rfl) (by first | exact nmn | assumption | simp) | exact rd_h (by assumption) (by rfl) (by first | exact nmn | assumption | simp) | exact rd_1o (by assumption) (by first | exact nmn | assumption | simp) | exact rd_1h (by assumption) (by first | rfl | assumption) (by first | exact nmn | assumption | simp)) hS ?_) | (refine own_box rfl _ _ rfl (by rfl) hS ?_; clear hS; (try clear ww); intro bb ww hS) | (refine w_st rfl _ _ rfl (by rfl) (by rfl) (by repeat constructor) (by rfl) (by rfl) (by first | rfl | assumption) hS ?_; clear hS; (try clear ww); intro ww hS) | (refine w_s1 rfl _ _ rfl (by rfl) (by repeat constructor) (by first | exact .c | exact .t rfl) (by rfl) (by repeat constructor) hS ?_; clear hS; (try clear ww); intro ww hS))
      go_ret
      exact ⟨ret_int (by rw [← HE.out]), hS.below⟩

theorem ref28_size_calls : ∀ (n : Nat) (b : Bx n) (cs : List Value) (most : Nat) (w : World), Rep w n b cs → 1 ≤ most → most ≤ 1000000 → Calls Try.prog 27 #[.agg cs.toArray, .int .i64 most] w (Gives (.int .i64 ((few n b most : Nat) : Int)) w) := by
  intro n
  induction n with
  | zero => intro b cs most w h; exact h.elim
  | succ n ih => intro b cs most w h1 h2 h3; exact ref28_size_step n ih b cs most w h1 h2 h3

set_option maxHeartbeats 8000000 in
set_option maxRecDepth 100000 in
theorem ref28_Few_calls (n : Nat) (b : Bx n) (cs : List Value) (most : Nat) (w : World) (hr : Rep w n b cs) (hm : most ≤ 100000) (v : Bool) (hv : v = decide (bCount n b ≤ most)) : Calls Try.prog 13 #[.agg cs.toArray, .int .i64 most] w (Gives (.bool v) w) := by
  have h11 := hr.len
  have HR := Lib.hid hr
  have HV := Lib.hid hv
  have HC := Lib.hid (fun w' (h : Below w.heap.size w w') => ref28_size_calls n b cs (most + 1) w' (hr.step h) (by omega) (by omega))
  rw [show ((most + 1 : Nat) : Int) = (most : Int) + 1 by omega] at HC
  have hf : few n b (most + 1) = min (bCount n b) (most + 1) := rfl
  obtain ⟨c0, c1, c2, c3, c4, c5, c6, c7, c8, c9, c10, rfl⟩ := eleven h11
  generalize few n b (most + 1) = G at *
  have HF := Lib.hid hf
  clear hf hr hv h11
  go_enter Try.func13, Try.ntmps13
  have hS := own_start w
  go_wp2_with (first | (refine own_unguard (by rfl) ?_) | (go_at_call 27; refine own_calls hS (HC.out _ hS.below) ?_; clear hS; (try clear ww); intro ww hS) | (refine w_ld rfl _ rfl (by rfl) (by first | exact rd_1 (by repeat constructor) (by first | rfl | assumption) | exact rd_w (by repeat constructor) (by rfl) | exact rd_o (by assumption) (by rfl) (by first | exact nmn | assumption | simp) | exact rd_h (by assumption) (by rfl) (by first | exact nmn | assumption | simp) | exact rd_1o (by assumption) (by first | exact nmn | assumption | simp) | exact rd_1h (by assumption) (by first | rfl | assumption) (by first | exact nmn | assumption | simp)) hS ?_) | (refine own_box rfl _ _ rfl (by rfl) hS ?_; clear hS; (try clear ww); intro bb ww hS) | (refine w_st rfl _ _ rfl (by rfl) (by rfl) (by repeat constructor) (by rfl) (by rfl) (by first | rfl | assumption) hS ?_; clear hS; (try clear ww); intro ww hS) | (refine w_s1 rfl _ _ rfl (by rfl) (by repeat constructor) (by first | exact .c | exact .t rfl) (by rfl) (by repeat constructor) hS ?_; clear hS; (try clear ww); intro ww hS))
  go_ret
  refine ⟨ret_bool ?_, hS.below⟩
  rw [HV.out, Bool.eq_iff_iff]
  have := HF.out
  simp only [decide_eq_true_eq]
  omega

end Go.Proofs.Ytgpabckipmhobaa
