/- Texts Ext, Gbx, Mea, Avo. -/
import Derived.Test.YtceigjonhabmmaaJ07
import Derived.Test.YtceigjonhabmmaaJ12
import Derived.Test.YtceigjonhabmmaaJ05
import Derived.Test.YtceigjonhabmmaaJ16
import Derived.Test.YtceigjonhabmmaaJ08
import Derived.Test.YtceigjonhabmmaaJ15
namespace Go.Proofs.Ytceigjonhabmmaa
open Go.RowKit

attribute [local irreducible] wpQuiet wpG wpP wpK wpList Code.wp Calls

/-- An extent: left, right, height, depth. -/
structure E4 where
  l : Int
  r : Int
  h : Int
  d : Int
def ext1 (a : Hd) : E4 := ⟨a.x, a.x + a.w, a.y + a.h, a.d - a.y⟩
def extStep (e : E4) (a : Hd) : E4 := ⟨min e.l a.x, max e.r (a.x + a.w), max e.h (a.y + a.h), max e.d (a.d - a.y)⟩
/-- The extent of some boxes. -/
def extL : List Hd → E4
  | [] => ⟨0, 0, 0, 0⟩
  | a :: l => l.foldl extStep (ext1 a)
theorem extL_next {l : List Hd} {a : Hd} (h : l ≠ []) : extL (l ++ [a]) = extStep (extL l) a := by
  cases l with
  | nil => exact absurd rfl h
  | cons b l => simp [extL, List.foldl_append]
/-- The lengths of a box are not great. -/
def Mild (a : Hd) : Prop := (-4294967296 ≤ a.x ∧ a.x ≤ 4294967296) ∧ (-4294967296 ≤ a.y ∧ a.y ≤ 4294967296) ∧ (-4294967296 ≤ a.w ∧ a.w ≤ 4294967296) ∧ (-4294967296 ≤ a.h ∧ a.h ≤ 4294967296) ∧ (-4294967296 ≤ a.d ∧ a.d ≤ 4294967296)

set_option maxHeartbeats 16000000 in
set_option maxRecDepth 100000 in
theorem box_Extent_calls (n : Nat) (kids : List (Bx (n + 1))) (x : Option Addr) (c : Nat) (w : World) (hk : RepL w (n + 1) x kids) (hm : ∀ k ∈ kids, Mild k.1) (hl : kids.length ≤ 1000000) :
    Calls Try.prog 30 #[.slice x kids.length c] w (Gives (.tuple #[.int .i64 (extL (kids.map (·.1))).l, .int .i64 (extL (kids.map (·.1))).r, .int .i64 (extL (kids.map (·.1))).h, .int .i64 (extL (kids.map (·.1))).d]) w) := by
  have HK := Lib.hid hk
  have HM := Lib.hid hm
  clear hk hm
  go_enter Try.func30, Try.ntmps30
  have hS := own_start w
  go_wp2_with (first | (refine own_unguard (by rfl) ?_) | (refine w_ld rfl _ rfl (by rfl) (by first | exact rd_1 (by repeat constructor) (by first | rfl | assumption) | exact rd_w (by repeat constructor) (by rfl) | exact rd_o (by assumption) (by rfl) (by first | exact nmn | assumption | simp) | exact rd_h (by assumption) (by rfl) (by first | exact nmn | assumption | simp) | exact rd_1o (by assumption) (by first | exact nmn | assumption | simp) | exact rd_1h (by assumption) (by first | rfl | assumption) (by first | exact nmn | assumption | simp)) hS ?_) | (refine own_box rfl _ _ rfl (by rfl) hS ?_; clear hS; (try clear ww); intro bb ww hS) | (refine w_al rfl rfl hS ?_; clear hS; (try clear ww); intro bb ww hS) | (refine w_st rfl _ _ rfl (by rfl) (by rfl) (by repeat constructor) (by rfl) (by rfl) (by first | rfl | assumption) hS ?_; clear hS; (try clear ww); intro ww hS) | (refine w_s1 rfl _ _ rfl (by rfl) (by repeat constructor) (by first | exact .c | exact .t rfl) (by rfl) (by repeat constructor) hS ?_; clear hS; (try clear ww); intro ww hS))
  go_loopw [2, 3, 4, 5, 10] (fun v2 v3 v4 v5 i wr => ∃ (k : Nat) (e : E4), k ≤ kids.length ∧ i = .int .i64 k ∧ v2 = .int .i64 e.l ∧ v3 = .int .i64 e.r ∧ v4 = .int .i64 e.h ∧ v5 = .int .i64 e.d ∧ e = extL ((kids.take k).map (·.1)) ∧ Own [] w [] wr) (fun _ _ _ _ i _ => kids.length - (intOf i).toNat)
  case atStart => exact ⟨0, ⟨0, 0, 0, 0⟩, Nat.zero_le _, rfl, rfl, rfl, rfl, rfl, rfl, hS⟩
  case round =>
    clear hS
    obtain ⟨k, ⟨e2, e3, e4, e5⟩, hkl, rfl, rfl, rfl, rfl, rfl, he, hS⟩ := hrel
    have HE := Lib.hid he
    clear he
    by_cases hlt : k < kids.length
    · obtain ⟨kid, hkid⟩ : ∃ q, kids[k]? = some q := ⟨kids[k], by simp [hlt]⟩
      obtain ⟨kb, ko, css, rfl, hr, hp⟩ := HK.out k kid hkid
      have hmd := HM.out kid (List.mem_of_getElem? hkid)
      have htk : kids.take (k + 1) = kids.take k ++ [kid] := by rw [List.take_add_one, hkid]; rfl
      obtain ⟨⟨kk, kn, kz, kw, kh, kd, kxx, kyy, kof, ksrc⟩, kks⟩ := kid
      obtain ⟨_, _, _, _, rfl, _⟩ := rep_out hp
      unfold Mild at hmd
      simp only at hmd
      have i1 : IntKind.i64.wrap (kxx + kw) = kxx + kw := IntWalk.i64_in _ (by omega)
      have i2 : IntKind.i64.wrap (kyy + kh) = kyy + kh := IntWalk.i64_in _ (by omega)
      have i3 : IntKind.i64.wrap (kd - kyy) = kd - kyy := IntWalk.i64_in _ (by omega)
      have HT := Lib.hid htk
      clear hp hmd hkid htk
      cases k with
      | zero =>
        have HN := Lib.hid (show extL ((kids.take (0 + 1)).map (·.1)) = ⟨kxx, kxx + kw, kyy + kh, kd - kyy⟩ by rw [HT.out]; rfl)
        go_upto_region 5 with (first | (refine own_unguard (by rfl) ?_) | (refine w_ld rfl _ rfl (by rfl) (by first | exact rd_1 (by repeat constructor) (by first | rfl | assumption) | exact rd_w (by repeat constructor) (by rfl) | exact rd_o (by assumption) (by rfl) (by first | exact nmn | assumption | simp) | exact rd_h (by assumption) (by rfl) (by first | exact nmn | assumption | simp) | exact rd_1o (by assumption) (by first | exact nmn | assumption | simp) | exact rd_1h (by assumption) (by first | rfl | assumption) (by first | exact nmn | assumption | simp)) hS ?_) | (refine own_box rfl _ _ rfl (by rfl) hS ?_; clear hS; (try clear ww); intro bb ww hS) | (refine w_al rfl rfl hS ?_; clear hS; (try clear ww); intro bb ww hS) | (refine w_st rfl _ _ rfl (by rfl) (by rfl) (by repeat constructor) (by rfl) (by rfl) (by first | rfl | assumption) hS ?_; clear hS; (try clear ww); intro ww hS) | (refine w_s1 rfl _ _ rfl (by rfl) (by repeat constructor) (by first | exact .c | exact .t rfl) (by rfl) (by repeat constructor) hS ?_; clear hS; (try clear ww); intro ww hS))
        (try simp only [Act.put]); (try simp only [List.setIfInBounds_toArray]); (try simp only [List.set_cons_succ]); (try simp only [List.set_cons_zero])
        refine own_region hS (by kernel_rfl) (by kernel_rfl) ?_
        (try simp only [List.append])
        (try simp only); (try simp only [List.drop_succ_cons]); (try simp only [List.drop_zero]); (try simp only [List.take_succ_cons]); (try simp only [List.take_zero])
        repeat (first
            | (first | (refine quiet_plain rfl ?_) | (refine quiet_yes rfl rfl rfl (by simp only [List.getElem?_toArray, List.getElem?_cons_succ, List.getElem?_cons_zero]; rfl) (by with_reducible constructor) ?_)
               apply Exists.intro; refine ⟨?_, ?_⟩
               focus (intro wq hq0; have hq : Own _ _ _ wq := hq0; first | (exact quietAt_rd rfl (by rfl) (by first | exact rd_1 (by repeat constructor) (by first | rfl | assumption) | exact rd_w (by repeat constructor) (by rfl) | exact rd_o (by assumption) (by rfl) (by first | exact nmn | assumption | simp) | exact rd_h (by assumption) (by rfl) (by first | exact nmn | assumption | simp) | exact rd_1o (by assumption) (by first | exact nmn | assumption | simp) | exact rd_1h (by assumption) (by first | rfl | assumption) (by first | exact nmn | assumption | simp)) hq) | (go_simp; first | (with_reducible rfl)))
               simp only [Act.put, List.setIfInBounds_toArray, List.set_cons_zero, List.set_cons_succ])
            | (refine quiet_no rfl rfl rfl (by simp only [List.getElem?_toArray, List.getElem?_cons_succ, List.getElem?_cons_zero]; rfl) (by with_reducible constructor) ?_; simp only [Act.put, List.setIfInBounds_toArray, List.set_cons_zero, List.set_cons_succ]))
        refine wpQuiet_nil ?_
        clear hS
        intro ww hS
        go_wp2_with (first | (refine own_unguard (by rfl) ?_) | (refine w_ld rfl _ rfl (by rfl) (by first | exact rd_1 (by repeat constructor) (by first | rfl | assumption) | exact rd_w (by repeat constructor) (by rfl) | exact rd_o (by assumption) (by rfl) (by first | exact nmn | assumption | simp) | exact rd_h (by assumption) (by rfl) (by first | exact nmn | assumption | simp) | exact rd_1o (by assumption) (by first | exact nmn | assumption | simp) | exact rd_1h (by assumption) (by first | rfl | assumption) (by first | exact nmn | assumption | simp)) hS ?_) | (refine own_box rfl _ _ rfl (by rfl) hS ?_; clear hS; (try clear ww); intro bb ww hS) | (refine w_al rfl rfl hS ?_; clear hS; (try clear ww); intro bb ww hS) | (refine w_st rfl _ _ rfl (by rfl) (by rfl) (by repeat constructor) (by rfl) (by rfl) (by first | rfl | assumption) hS ?_; clear hS; (try clear ww); intro ww hS) | (refine w_s1 rfl _ _ rfl (by rfl) (by repeat constructor) (by first | exact .c | exact .t rfl) (by rfl) (by repeat constructor) hS ?_; clear hS; (try clear ww); intro ww hS))
        go_roundw
        case rel => exact ⟨0 + 1, _, hlt, by go_num, rfl, rfl, rfl, rfl, HN.out.symm, hS.forget (List.nil_sublist _)⟩
        case measure => exact loop_meas hlt
      | succ k =>
        have HN := Lib.hid (show extL ((kids.take (k + 1 + 1)).map (·.1)) = ⟨min e2 kxx, max e3 (kxx + kw), max e4 (kyy + kh), max e5 (kd - kyy)⟩ by
          rw [HT.out, List.map_append, List.map_cons, List.map_nil, extL_next (fun h => by simp at h; rw [h] at hlt; simp at hlt), ← HE.out]
          rfl)
        have m2 : ∀ (w : World) (ts : Array TypeId) (t : TypeId), (Builtin.min_ ts t #[.int .i64 e2, .int .i64 kxx]).run Try.prog w = .ok (.int .i64 (min e2 kxx)) w := fun w ts t => by rw [run_min_int2]; congr 2; split <;> omega
        have m3 : ∀ (w : World) (ts : Array TypeId) (t : TypeId), (Builtin.max_ ts t #[.int .i64 e3, .int .i64 (kxx + kw)]).run Try.prog w = .ok (.int .i64 (max e3 (kxx + kw))) w := fun w ts t => by rw [run_max_int2]; congr 2; split <;> omega
        have m4 : ∀ (w : World) (ts : Array TypeId) (t : TypeId), (Builtin.max_ ts t #[.int .i64 e4, .int .i64 (kyy + kh)]).run Try.prog w = .ok (.int .i64 (max e4 (kyy + kh))) w := fun w ts t => by rw [run_max_int2]; congr 2; split <;> omega
        have m5 : ∀ (w : World) (ts : Array TypeId) (t : TypeId), (Builtin.max_ ts t #[.int .i64 e5, .int .i64 (kd - kyy)]).run Try.prog w = .ok (.int .i64 (max e5 (kd - kyy))) w := fun w ts t => by rw [run_max_int2]; congr 2; split <;> omega
        have z0 : (((k + 1 : Nat) : Int) == 0) = false := by simp; omega
        go_upto_region 6 with (first | (refine own_unguard (by rfl) ?_) | (refine w_ld rfl _ rfl (by rfl) (by first | exact rd_1 (by repeat constructor) (by first | rfl | assumption) | exact rd_w (by repeat constructor) (by rfl) | exact rd_o (by assumption) (by rfl) (by first | exact nmn | assumption | simp) | exact rd_h (by assumption) (by rfl) (by first | exact nmn | assumption | simp) | exact rd_1o (by assumption) (by first | exact nmn | assumption | simp) | exact rd_1h (by assumption) (by first | rfl | assumption) (by first | exact nmn | assumption | simp)) hS ?_) | (refine own_box rfl _ _ rfl (by rfl) hS ?_; clear hS; (try clear ww); intro bb ww hS) | (refine w_al rfl rfl hS ?_; clear hS; (try clear ww); intro bb ww hS) | (refine w_st rfl _ _ rfl (by rfl) (by rfl) (by repeat constructor) (by rfl) (by rfl) (by first | rfl | assumption) hS ?_; clear hS; (try clear ww); intro ww hS) | (refine w_s1 rfl _ _ rfl (by rfl) (by repeat constructor) (by first | exact .c | exact .t rfl) (by rfl) (by repeat constructor) hS ?_; clear hS; (try clear ww); intro ww hS))
        (try simp only [Act.put]); (try simp only [List.setIfInBounds_toArray]); (try simp only [List.set_cons_succ]); (try simp only [List.set_cons_zero])
        refine own_region hS (by kernel_rfl) (by kernel_rfl) ?_
        (try simp only [List.append])
        (try simp only); (try simp only [List.drop_succ_cons]); (try simp only [List.drop_zero]); (try simp only [List.take_succ_cons]); (try simp only [List.take_zero])
        repeat (first
            | (first | (refine quiet_plain rfl ?_) | (refine quiet_yes rfl rfl rfl (by simp only [List.getElem?_toArray, List.getElem?_cons_succ, List.getElem?_cons_zero]; rfl) (by with_reducible constructor) ?_)
               apply Exists.intro; refine ⟨?_, ?_⟩
               focus (intro wq hq0; have hq : Own _ _ _ wq := hq0; first | (exact quietAt_rd rfl (by rfl) (by first | exact rd_1 (by repeat constructor) (by first | rfl | assumption) | exact rd_w (by repeat constructor) (by rfl) | exact rd_o (by assumption) (by rfl) (by first | exact nmn | assumption | simp) | exact rd_h (by assumption) (by rfl) (by first | exact nmn | assumption | simp) | exact rd_1o (by assumption) (by first | exact nmn | assumption | simp) | exact rd_1h (by assumption) (by first | rfl | assumption) (by first | exact nmn | assumption | simp)) hq) | (go_simp; first | (with_reducible rfl)))
               simp only [Act.put, List.setIfInBounds_toArray, List.set_cons_zero, List.set_cons_succ])
            | (refine quiet_no rfl rfl rfl (by simp only [List.getElem?_toArray, List.getElem?_cons_succ, List.getElem?_cons_zero]; rfl) (by with_reducible constructor) ?_; simp only [Act.put, List.setIfInBounds_toArray, List.set_cons_zero, List.set_cons_succ]))
        refine wpQuiet_nil ?_
        clear hS
        intro ww hS
        go_upto_region 7 with (first | (refine own_unguard (by rfl) ?_) | (refine w_ld rfl _ rfl (by rfl) (by first | exact rd_1 (by repeat constructor) (by first | rfl | assumption) | exact rd_w (by repeat constructor) (by rfl) | exact rd_o (by assumption) (by rfl) (by first | exact nmn | assumption | simp) | exact rd_h (by assumption) (by rfl) (by first | exact nmn | assumption | simp) | exact rd_1o (by assumption) (by first | exact nmn | assumption | simp) | exact rd_1h (by assumption) (by first | rfl | assumption) (by first | exact nmn | assumption | simp)) hS ?_) | (refine own_box rfl _ _ rfl (by rfl) hS ?_; clear hS; (try clear ww); intro bb ww hS) | (refine w_al rfl rfl hS ?_; clear hS; (try clear ww); intro bb ww hS) | (refine w_st rfl _ _ rfl (by rfl) (by rfl) (by repeat constructor) (by rfl) (by rfl) (by first | rfl | assumption) hS ?_; clear hS; (try clear ww); intro ww hS) | (refine w_s1 rfl _ _ rfl (by rfl) (by repeat constructor) (by first | exact .c | exact .t rfl) (by rfl) (by repeat constructor) hS ?_; clear hS; (try clear ww); intro ww hS))
        (try simp only [Act.put]); (try simp only [List.setIfInBounds_toArray]); (try simp only [List.set_cons_succ]); (try simp only [List.set_cons_zero])
        refine own_region hS (by kernel_rfl) (by kernel_rfl) ?_
        (try simp only [List.append])
        (try simp only); (try simp only [List.drop_succ_cons]); (try simp only [List.drop_zero]); (try simp only [List.take_succ_cons]); (try simp only [List.take_zero])
        repeat (first
            | (first | (refine quiet_plain rfl ?_) | (refine quiet_yes rfl rfl rfl (by simp only [List.getElem?_toArray, List.getElem?_cons_succ, List.getElem?_cons_zero]; rfl) (by with_reducible constructor) ?_)
               apply Exists.intro; refine ⟨?_, ?_⟩
               focus (intro wq hq0; have hq : Own _ _ _ wq := hq0; first | (exact quietAt_rd rfl (by rfl) (by first | exact rd_1 (by repeat constructor) (by first | rfl | assumption) | exact rd_w (by repeat constructor) (by rfl) | exact rd_o (by assumption) (by rfl) (by first | exact nmn | assumption | simp) | exact rd_h (by assumption) (by rfl) (by first | exact nmn | assumption | simp) | exact rd_1o (by assumption) (by first | exact nmn | assumption | simp) | exact rd_1h (by assumption) (by first | rfl | assumption) (by first | exact nmn | assumption | simp)) hq) | (go_simp; first | (with_reducible rfl)))
               simp only [Act.put, List.setIfInBounds_toArray, List.set_cons_zero, List.set_cons_succ])
            | (refine quiet_no rfl rfl rfl (by simp only [List.getElem?_toArray, List.getElem?_cons_succ, List.getElem?_cons_zero]; rfl) (by with_reducible constructor) ?_; simp only [Act.put, List.setIfInBounds_toArray, List.set_cons_zero, List.set_cons_succ]))
        refine wpQuiet_nil ?_
        clear hS
        intro ww hS
        go_wp2_with (first | (refine own_unguard (by rfl) ?_) | (refine w_ld rfl _ rfl (by rfl) (by first | exact rd_1 (by repeat constructor) (by first | rfl | assumption) | exact rd_w (by repeat constructor) (by rfl) | exact rd_o (by assumption) (by rfl) (by first | exact nmn | assumption | simp) | exact rd_h (by assumption) (by rfl) (by first | exact nmn | assumption | simp) | exact rd_1o (by assumption) (by first | exact nmn | assumption | simp) | exact rd_1h (by assumption) (by first | rfl | assumption) (by first | exact nmn | assumption | simp)) hS ?_) | (refine own_box rfl _ _ rfl (by rfl) hS ?_; clear hS; (try clear ww); intro bb ww hS) | (refine w_al rfl rfl hS ?_; clear hS; (try clear ww); intro bb ww hS) | (refine w_st rfl _ _ rfl (by rfl) (by rfl) (by repeat constructor) (by rfl) (by rfl) (by first | rfl | assumption) hS ?_; clear hS; (try clear ww); intro ww hS) | (refine w_s1 rfl _ _ rfl (by rfl) (by repeat constructor) (by first | exact .c | exact .t rfl) (by rfl) (by repeat constructor) hS ?_; clear hS; (try clear ww); intro ww hS))
        go_roundw
        case rel => exact ⟨k + 1 + 1, _, hlt, by go_num, rfl, rfl, rfl, rfl, HN.out.symm, hS.forget (List.nil_sublist _)⟩
        case measure => exact loop_meas hlt
    · obtain rfl : k = kids.length := by omega
      have HN := Lib.hid (show extL (kids.map (·.1)) = ⟨e2, e3, e4, e5⟩ by rw [HE.out, List.take_length])
      go_wp2_with (first | (refine own_unguard (by rfl) ?_) | (refine w_ld rfl _ rfl (by rfl) (by first | exact rd_1 (by repeat constructor) (by first | rfl | assumption) | exact rd_w (by repeat constructor) (by rfl) | exact rd_o (by assumption) (by rfl) (by first | exact nmn | assumption | simp) | exact rd_h (by assumption) (by rfl) (by first | exact nmn | assumption | simp) | exact rd_1o (by assumption) (by first | exact nmn | assumption | simp) | exact rd_1h (by assumption) (by first | rfl | assumption) (by first | exact nmn | assumption | simp)) hS ?_) | (refine own_box rfl _ _ rfl (by rfl) hS ?_; clear hS; (try clear ww); intro bb ww hS) | (refine w_al rfl rfl hS ?_; clear hS; (try clear ww); intro bb ww hS) | (refine w_st rfl _ _ rfl (by rfl) (by rfl) (by repeat constructor) (by rfl) (by rfl) (by first | rfl | assumption) hS ?_; clear hS; (try clear ww); intro ww hS) | (refine w_s1 rfl _ _ rfl (by rfl) (by repeat constructor) (by first | exact .c | exact .t rfl) (by rfl) (by repeat constructor) hS ?_; clear hS; (try clear ww); intro ww hS))
      refine bodyPost_ret (v := .tuple #[.int .i64 e2, .int .i64 e3, .int .i64 e4, .int .i64 e5]) (by simp [results, Try.results30, go_sem]) rfl ⟨by rw [HN.out], hS.below⟩

end Go.Proofs.Ytceigjonhabmmaa
namespace Go.Proofs.Ytceigjonhabmmaa
open Go.RowKit

attribute [local irreducible] wpQuiet wpG wpP wpList Code.wp

/-- The width of a glyph's box. -/
def boxW (g : Gly) : Int := wrap64 (g.w + max 0 g.it)

set_option maxHeartbeats 8000000 in
set_option maxRecDepth 100000 in
theorem font_Box_e1 (F : Fnt) (s : ByteArray) (p : Int) (G S : Gly) (w : World) (hF : FntOk w F) (hv : ValidF F)
    (hp : ∀ w', FntOk w' F → Calls Try.prog 60 #[F.val, .string s] w' (Gives (.agg #[.string G.name, .int .i64 G.w, .int .i64 G.h, .int .i64 G.d, .int .i64 G.it, .int .i64 G.at_]) w'))
    (hs : ∀ w', Calls Try.prog 59 #[.agg #[.string G.name, .int .i64 G.w, .int .i64 G.h, .int .i64 G.d, .int .i64 G.it, .int .i64 G.at_], .int .i64 p] w' (Gives (.tuple #[.agg #[.string S.name, .int .i64 S.w, .int .i64 S.h, .int .i64 S.d, .int .i64 S.it, .int .i64 S.at_], .int .i64 1]) w')) : Calls Try.prog 26 #[F.val, .string s, .int .i64 p] w (Gives (.tuple #[.agg #[.int .i64 0, .string ⟨#[]⟩, .int .i64 0, .int .i64 0, .int .i64 0, .int .i64 0, .int .i64 0, .int .i64 0, .slice none 0 0, .int .i64 0, .slice none 0 0], .int .i64 1]) w) := by
  have HF := Lib.hid hF
  have HP := Lib.hid hp
  have HSc := Lib.hid hs
  clear hF hp hs
  have HV := Lib.hid hv
  clear hv
  go_enter Try.func26, Try.ntmps26
  have hS := own_start w
  go_wp2_with (first | (refine own_unguard (by rfl) ?_) | (go_at_call 51; refine own_calls hS (font_Valid_calls F _ (HF.out.below hS.below) _ (iff_t HV.out)) ?_; clear hS; (try clear ww); intro ww hS) | (go_at_call 60; refine own_calls hS (HP.out _ (HF.out.below hS.below)) ?_; clear hS; (try clear ww); intro ww hS) | (go_at_call 59; refine own_calls hS (HSc.out _) ?_; clear hS; (try clear ww); intro ww hS) | (refine w_ld rfl _ rfl (by rfl) (by first | exact rd_1 (by repeat constructor) (by first | rfl | assumption) | exact rd_w (by repeat constructor) (by rfl) | exact rd_o (by assumption) (by rfl) (by first | exact nmn | assumption | simp) | exact rd_h (by assumption) (by rfl) (by first | exact nmn | assumption | simp) | exact rd_1o (by assumption) (by first | exact nmn | assumption | simp) | exact rd_1h (by assumption) (by first | rfl | assumption) (by first | exact nmn | assumption | simp)) hS ?_) | (refine own_box rfl _ _ rfl (by rfl) hS ?_; clear hS; (try clear ww); intro bb ww hS) | (refine w_al rfl rfl hS ?_; clear hS; (try clear ww); intro bb ww hS) | (refine w_st rfl _ _ rfl (by rfl) (by rfl) (by repeat constructor) (by rfl) (by rfl) (by first | rfl | assumption) hS ?_; clear hS; (try clear ww); intro ww hS) | (refine w_s1 rfl _ _ rfl (by rfl) (by repeat constructor) (by first | exact .c | exact .t rfl) (by rfl) (by repeat constructor) hS ?_; clear hS; (try clear ww); intro ww hS))
  have hc := (hS.get at1).cell
  refine bodyPost_ret (v := .tuple #[.agg #[.int .i64 0, .string ⟨#[]⟩, .int .i64 0, .int .i64 0, .int .i64 0, .int .i64 0, .int .i64 0, .int .i64 0, .slice none 0 0, .int .i64 0, .slice none 0 0], .int .i64 1]) (by simp [results, Try.results26, go_sem, hc]) rfl (own_gives hS)

set_option maxHeartbeats 8000000 in
set_option maxRecDepth 100000 in
theorem font_Box_e2 (F : Fnt) (s : ByteArray) (p : Int) (G S : Gly) (w : World) (hF : FntOk w F) (hv : ValidF F)
    (hp : ∀ w', FntOk w' F → Calls Try.prog 60 #[F.val, .string s] w' (Gives (.agg #[.string G.name, .int .i64 G.w, .int .i64 G.h, .int .i64 G.d, .int .i64 G.it, .int .i64 G.at_]) w'))
    (hs : ∀ w', Calls Try.prog 59 #[.agg #[.string G.name, .int .i64 G.w, .int .i64 G.h, .int .i64 G.d, .int .i64 G.it, .int .i64 G.at_], .int .i64 p] w' (Gives (.tuple #[.agg #[.string S.name, .int .i64 S.w, .int .i64 S.h, .int .i64 S.d, .int .i64 S.it, .int .i64 S.at_], .int .i64 2]) w')) : Calls Try.prog 26 #[F.val, .string s, .int .i64 p] w (Gives (.tuple #[.agg #[.int .i64 0, .string ⟨#[]⟩, .int .i64 0, .int .i64 0, .int .i64 0, .int .i64 0, .int .i64 0, .int .i64 0, .slice none 0 0, .int .i64 0, .slice none 0 0], .int .i64 2]) w) := by
  have HF := Lib.hid hF
  have HP := Lib.hid hp
  have HSc := Lib.hid hs
  clear hF hp hs
  have HV := Lib.hid hv
  clear hv
  go_enter Try.func26, Try.ntmps26
  have hS := own_start w
  go_wp2_with (first | (refine own_unguard (by rfl) ?_) | (go_at_call 51; refine own_calls hS (font_Valid_calls F _ (HF.out.below hS.below) _ (iff_t HV.out)) ?_; clear hS; (try clear ww); intro ww hS) | (go_at_call 60; refine own_calls hS (HP.out _ (HF.out.below hS.below)) ?_; clear hS; (try clear ww); intro ww hS) | (go_at_call 59; refine own_calls hS (HSc.out _) ?_; clear hS; (try clear ww); intro ww hS) | (refine w_ld rfl _ rfl (by rfl) (by first | exact rd_1 (by repeat constructor) (by first | rfl | assumption) | exact rd_w (by repeat constructor) (by rfl) | exact rd_o (by assumption) (by rfl) (by first | exact nmn | assumption | simp) | exact rd_h (by assumption) (by rfl) (by first | exact nmn | assumption | simp) | exact rd_1o (by assumption) (by first | exact nmn | assumption | simp) | exact rd_1h (by assumption) (by first | rfl | assumption) (by first | exact nmn | assumption | simp)) hS ?_) | (refine own_box rfl _ _ rfl (by rfl) hS ?_; clear hS; (try clear ww); intro bb ww hS) | (refine w_al rfl rfl hS ?_; clear hS; (try clear ww); intro bb ww hS) | (refine w_st rfl _ _ rfl (by rfl) (by rfl) (by repeat constructor) (by rfl) (by rfl) (by first | rfl | assumption) hS ?_; clear hS; (try clear ww); intro ww hS) | (refine w_s1 rfl _ _ rfl (by rfl) (by repeat constructor) (by first | exact .c | exact .t rfl) (by rfl) (by repeat constructor) hS ?_; clear hS; (try clear ww); intro ww hS))
  have hc := (hS.get at1).cell
  refine bodyPost_ret (v := .tuple #[.agg #[.int .i64 0, .string ⟨#[]⟩, .int .i64 0, .int .i64 0, .int .i64 0, .int .i64 0, .int .i64 0, .int .i64 0, .slice none 0 0, .int .i64 0, .slice none 0 0], .int .i64 2]) (by simp [results, Try.results26, go_sem, hc]) rfl (own_gives hS)

set_option maxHeartbeats 8000000 in
set_option maxRecDepth 100000 in
theorem font_Box_ok (F : Fnt) (s : ByteArray) (p : Int) (G S : Gly) (w : World) (hF : FntOk w F) (hv : ValidF F)
    (hp : ∀ w', FntOk w' F → Calls Try.prog 60 #[F.val, .string s] w' (Gives (.agg #[.string G.name, .int .i64 G.w, .int .i64 G.h, .int .i64 G.d, .int .i64 G.it, .int .i64 G.at_]) w'))
    (hs : ∀ w', Calls Try.prog 59 #[.agg #[.string G.name, .int .i64 G.w, .int .i64 G.h, .int .i64 G.d, .int .i64 G.it, .int .i64 G.at_], .int .i64 p] w' (Gives (.tuple #[.agg #[.string S.name, .int .i64 S.w, .int .i64 S.h, .int .i64 S.d, .int .i64 S.it, .int .i64 S.at_], .int .i64 0]) w')) : Calls Try.prog 26 #[F.val, .string s, .int .i64 p] w (Gives (.tuple #[.agg #[.int .i64 1, .string S.name, .int .i64 p, .int .i64 (boxW S), .int .i64 S.h, .int .i64 S.d, .int .i64 0, .int .i64 0, .slice none 0 0, .int .i64 0, .slice none 0 0], .int .i64 0]) w) := by
  have HF := Lib.hid hF
  have HP := Lib.hid hp
  have HSc := Lib.hid hs
  clear hF hp hs
  have HV := Lib.hid hv
  clear hv
  go_enter Try.func26, Try.ntmps26
  have hS := own_start w
  go_wp2_with (first | (refine own_unguard (by rfl) ?_) | (go_at_call 51; refine own_calls hS (font_Valid_calls F _ (HF.out.below hS.below) _ (iff_t HV.out)) ?_; clear hS; (try clear ww); intro ww hS) | (go_at_call 60; refine own_calls hS (HP.out _ (HF.out.below hS.below)) ?_; clear hS; (try clear ww); intro ww hS) | (go_at_call 59; refine own_calls hS (HSc.out _) ?_; clear hS; (try clear ww); intro ww hS) | (refine w_ld rfl _ rfl (by rfl) (by first | exact rd_1 (by repeat constructor) (by first | rfl | assumption) | exact rd_w (by repeat constructor) (by rfl) | exact rd_o (by assumption) (by rfl) (by first | exact nmn | assumption | simp) | exact rd_h (by assumption) (by rfl) (by first | exact nmn | assumption | simp) | exact rd_1o (by assumption) (by first | exact nmn | assumption | simp) | exact rd_1h (by assumption) (by first | rfl | assumption) (by first | exact nmn | assumption | simp)) hS ?_) | (refine own_box rfl _ _ rfl (by rfl) hS ?_; clear hS; (try clear ww); intro bb ww hS) | (refine w_al rfl rfl hS ?_; clear hS; (try clear ww); intro bb ww hS) | (refine w_st rfl _ _ rfl (by rfl) (by rfl) (by repeat constructor) (by rfl) (by rfl) (by first | rfl | assumption) hS ?_; clear hS; (try clear ww); intro ww hS) | (refine w_s1 rfl _ _ rfl (by rfl) (by repeat constructor) (by first | exact .c | exact .t rfl) (by rfl) (by repeat constructor) hS ?_; clear hS; (try clear ww); intro ww hS))
  have hc := (hS.get at1).cell
  refine bodyPost_ret (v := .tuple #[.agg #[.int .i64 1, .string S.name, .int .i64 p, .int .i64 (boxW S), .int .i64 S.h, .int .i64 S.d, .int .i64 0, .int .i64 0, .slice none 0 0, .int .i64 0, .slice none 0 0], .int .i64 0]) (by simp [results, Try.results26, go_sem, hc, boxW]) rfl (own_gives hS)

set_option maxHeartbeats 8000000 in
set_option maxRecDepth 100000 in
theorem ref05_Sized_e1 (F : Fnt) (s : ByteArray) (p : Int) (G S : Gly) (w : World) (hF : FntOk w F)
    (hp : ∀ w', FntOk w' F → Calls Try.prog 49 #[F.val, .string s] w' (Gives (.agg #[.string G.name, .int .i64 G.w, .int .i64 G.h, .int .i64 G.d, .int .i64 G.it, .int .i64 G.at_]) w'))
    (hs : ∀ w', Calls Try.prog 66 #[.agg #[.string G.name, .int .i64 G.w, .int .i64 G.h, .int .i64 G.d, .int .i64 G.it, .int .i64 G.at_], .int .i64 p] w' (Gives (.tuple #[.agg #[.string S.name, .int .i64 S.w, .int .i64 S.h, .int .i64 S.d, .int .i64 S.it, .int .i64 S.at_], .int .i64 1]) w')) : Calls Try.prog 34 #[F.val, .string s, .int .i64 p] w (Gives (.tuple #[.agg #[.int .i64 0, .string ⟨#[]⟩, .int .i64 0, .int .i64 0, .int .i64 0, .int .i64 0, .int .i64 0, .int .i64 0, .slice none 0 0, .int .i64 0, .slice none 0 0], .int .i64 1]) w) := by
  have HF := Lib.hid hF
  have HP := Lib.hid hp
  have HSc := Lib.hid hs
  clear hF hp hs
  go_enter Try.func34, Try.ntmps34
  have hS := own_start w
  go_wp2_with (first | (refine own_unguard (by rfl) ?_) | (go_at_call 49; refine own_calls hS (HP.out _ (HF.out.below hS.below)) ?_; clear hS; (try clear ww); intro ww hS) | (go_at_call 66; refine own_calls hS (HSc.out _) ?_; clear hS; (try clear ww); intro ww hS) | (refine w_ld rfl _ rfl (by rfl) (by first | exact rd_1 (by repeat constructor) (by first | rfl | assumption) | exact rd_w (by repeat constructor) (by rfl) | exact rd_o (by assumption) (by rfl) (by first | exact nmn | assumption | simp) | exact rd_h (by assumption) (by rfl) (by first | exact nmn | assumption | simp) | exact rd_1o (by assumption) (by first | exact nmn | assumption | simp) | exact rd_1h (by assumption) (by first | rfl | assumption) (by first | exact nmn | assumption | simp)) hS ?_) | (refine own_box rfl _ _ rfl (by rfl) hS ?_; clear hS; (try clear ww); intro bb ww hS) | (refine w_al rfl rfl hS ?_; clear hS; (try clear ww); intro bb ww hS) | (refine w_st rfl _ _ rfl (by rfl) (by rfl) (by repeat constructor) (by rfl) (by rfl) (by first | rfl | assumption) hS ?_; clear hS; (try clear ww); intro ww hS) | (refine w_s1 rfl _ _ rfl (by rfl) (by repeat constructor) (by first | exact .c | exact .t rfl) (by rfl) (by repeat constructor) hS ?_; clear hS; (try clear ww); intro ww hS))
  have hc := (hS.get at1).cell
  refine bodyPost_ret (v := .tuple #[.agg #[.int .i64 0, .string ⟨#[]⟩, .int .i64 0, .int .i64 0, .int .i64 0, .int .i64 0, .int .i64 0, .int .i64 0, .slice none 0 0, .int .i64 0, .slice none 0 0], .int .i64 1]) (by simp [results, Try.results34, go_sem, hc]) rfl (own_gives hS)

set_option maxHeartbeats 8000000 in
set_option maxRecDepth 100000 in
theorem ref05_Sized_e2 (F : Fnt) (s : ByteArray) (p : Int) (G S : Gly) (w : World) (hF : FntOk w F)
    (hp : ∀ w', FntOk w' F → Calls Try.prog 49 #[F.val, .string s] w' (Gives (.agg #[.string G.name, .int .i64 G.w, .int .i64 G.h, .int .i64 G.d, .int .i64 G.it, .int .i64 G.at_]) w'))
    (hs : ∀ w', Calls Try.prog 66 #[.agg #[.string G.name, .int .i64 G.w, .int .i64 G.h, .int .i64 G.d, .int .i64 G.it, .int .i64 G.at_], .int .i64 p] w' (Gives (.tuple #[.agg #[.string S.name, .int .i64 S.w, .int .i64 S.h, .int .i64 S.d, .int .i64 S.it, .int .i64 S.at_], .int .i64 2]) w')) : Calls Try.prog 34 #[F.val, .string s, .int .i64 p] w (Gives (.tuple #[.agg #[.int .i64 0, .string ⟨#[]⟩, .int .i64 0, .int .i64 0, .int .i64 0, .int .i64 0, .int .i64 0, .int .i64 0, .slice none 0 0, .int .i64 0, .slice none 0 0], .int .i64 2]) w) := by
  have HF := Lib.hid hF
  have HP := Lib.hid hp
  have HSc := Lib.hid hs
  clear hF hp hs
  go_enter Try.func34, Try.ntmps34
  have hS := own_start w
  go_wp2_with (first | (refine own_unguard (by rfl) ?_) | (go_at_call 49; refine own_calls hS (HP.out _ (HF.out.below hS.below)) ?_; clear hS; (try clear ww); intro ww hS) | (go_at_call 66; refine own_calls hS (HSc.out _) ?_; clear hS; (try clear ww); intro ww hS) | (refine w_ld rfl _ rfl (by rfl) (by first | exact rd_1 (by repeat constructor) (by first | rfl | assumption) | exact rd_w (by repeat constructor) (by rfl) | exact rd_o (by assumption) (by rfl) (by first | exact nmn | assumption | simp) | exact rd_h (by assumption) (by rfl) (by first | exact nmn | assumption | simp) | exact rd_1o (by assumption) (by first | exact nmn | assumption | simp) | exact rd_1h (by assumption) (by first | rfl | assumption) (by first | exact nmn | assumption | simp)) hS ?_) | (refine own_box rfl _ _ rfl (by rfl) hS ?_; clear hS; (try clear ww); intro bb ww hS) | (refine w_al rfl rfl hS ?_; clear hS; (try clear ww); intro bb ww hS) | (refine w_st rfl _ _ rfl (by rfl) (by rfl) (by repeat constructor) (by rfl) (by rfl) (by first | rfl | assumption) hS ?_; clear hS; (try clear ww); intro ww hS) | (refine w_s1 rfl _ _ rfl (by rfl) (by repeat constructor) (by first | exact .c | exact .t rfl) (by rfl) (by repeat constructor) hS ?_; clear hS; (try clear ww); intro ww hS))
  have hc := (hS.get at1).cell
  refine bodyPost_ret (v := .tuple #[.agg #[.int .i64 0, .string ⟨#[]⟩, .int .i64 0, .int .i64 0, .int .i64 0, .int .i64 0, .int .i64 0, .int .i64 0, .slice none 0 0, .int .i64 0, .slice none 0 0], .int .i64 2]) (by simp [results, Try.results34, go_sem, hc]) rfl (own_gives hS)

set_option maxHeartbeats 8000000 in
set_option maxRecDepth 100000 in
theorem ref05_Sized_ok (F : Fnt) (s : ByteArray) (p : Int) (G S : Gly) (w : World) (hF : FntOk w F)
    (hp : ∀ w', FntOk w' F → Calls Try.prog 49 #[F.val, .string s] w' (Gives (.agg #[.string G.name, .int .i64 G.w, .int .i64 G.h, .int .i64 G.d, .int .i64 G.it, .int .i64 G.at_]) w'))
    (hs : ∀ w', Calls Try.prog 66 #[.agg #[.string G.name, .int .i64 G.w, .int .i64 G.h, .int .i64 G.d, .int .i64 G.it, .int .i64 G.at_], .int .i64 p] w' (Gives (.tuple #[.agg #[.string S.name, .int .i64 S.w, .int .i64 S.h, .int .i64 S.d, .int .i64 S.it, .int .i64 S.at_], .int .i64 0]) w')) : Calls Try.prog 34 #[F.val, .string s, .int .i64 p] w (Gives (.tuple #[.agg #[.int .i64 1, .string S.name, .int .i64 p, .int .i64 (boxW S), .int .i64 S.h, .int .i64 S.d, .int .i64 0, .int .i64 0, .slice none 0 0, .int .i64 0, .slice none 0 0], .int .i64 0]) w) := by
  have HF := Lib.hid hF
  have HP := Lib.hid hp
  have HSc := Lib.hid hs
  clear hF hp hs
  go_enter Try.func34, Try.ntmps34
  have hS := own_start w
  go_wp2_with (first | (refine own_unguard (by rfl) ?_) | (go_at_call 49; refine own_calls hS (HP.out _ (HF.out.below hS.below)) ?_; clear hS; (try clear ww); intro ww hS) | (go_at_call 66; refine own_calls hS (HSc.out _) ?_; clear hS; (try clear ww); intro ww hS) | (refine w_ld rfl _ rfl (by rfl) (by first | exact rd_1 (by repeat constructor) (by first | rfl | assumption) | exact rd_w (by repeat constructor) (by rfl) | exact rd_o (by assumption) (by rfl) (by first | exact nmn | assumption | simp) | exact rd_h (by assumption) (by rfl) (by first | exact nmn | assumption | simp) | exact rd_1o (by assumption) (by first | exact nmn | assumption | simp) | exact rd_1h (by assumption) (by first | rfl | assumption) (by first | exact nmn | assumption | simp)) hS ?_) | (refine own_box rfl _ _ rfl (by rfl) hS ?_; clear hS; (try clear ww); intro bb ww hS) | (refine w_al rfl rfl hS ?_; clear hS; (try clear ww); intro bb ww hS) | (refine w_st rfl _ _ rfl (by rfl) (by rfl) (by repeat constructor) (by rfl) (by rfl) (by first | rfl | assumption) hS ?_; clear hS; (try clear ww); intro ww hS) | (refine w_s1 rfl _ _ rfl (by rfl) (by repeat constructor) (by first | exact .c | exact .t rfl) (by rfl) (by repeat constructor) hS ?_; clear hS; (try clear ww); intro ww hS))
  have hc := (hS.get at1).cell
  refine bodyPost_ret (v := .tuple #[.agg #[.int .i64 1, .string S.name, .int .i64 p, .int .i64 (boxW S), .int .i64 S.h, .int .i64 S.d, .int .i64 0, .int .i64 0, .slice none 0 0, .int .i64 0, .slice none 0 0], .int .i64 0]) (by simp [results, Try.results34, go_sem, hc, boxW]) rfl (own_gives hS)

/-- A glyph's box. -/
structure Gbx where
  k : Int
  n : ByteArray
  p : Int
  w : Int
  h : Int
  d : Int

def Gbx.zero : Gbx := ⟨0, ⟨#[]⟩, 0, 0, 0, 0⟩
/-- The box and the error for a valid font. -/
def sizedB (G : Gly) (p : Int) : Gbx := if scaledErr G p = 0 then ⟨1, (scaledG G p).name, p, boxW (scaledG G p), (scaledG G p).h, (scaledG G p).d⟩ else Gbx.zero
theorem scaledErr_ways (G : Gly) (p : Int) : scaledErr G p = 0 ∨ scaledErr G p = 1 ∨ scaledErr G p = 2 := by
  unfold scaledErr
  repeat' split
  all_goals simp

theorem box_pick (F : Fnt) (s : ByteArray) (w : World) (h : FntOk w F) (hn : F.gs.length ≤ 500) : Calls Try.prog 60 #[F.val, .string s] w (Gives (.agg #[.string (pickG F.gs s).name, .int .i64 (pickG F.gs s).w, .int .i64 (pickG F.gs s).h, .int .i64 (pickG F.gs s).d, .int .i64 (pickG F.gs s).it, .int .i64 (pickG F.gs s).at_]) w) :=
  font_Pick_calls F.gx F.sx F.gs.length F.gc F.ss.length F.sc F.quad F.xheight F.axis F.rule F.num1 F.num2 F.den1 F.den2 F.sup1 F.sup2 F.sup3 F.sub1 F.sub2 F.supdrop F.subdrop F.script F.sscript F.dpercent F.dshort F.acc F.gs s w (by omega) h.glysAt
theorem box_pickR (F : Fnt) (s : ByteArray) (w : World) (h : FntOk w F) (hn : F.gs.length ≤ 500) : Calls Try.prog 49 #[F.val, .string s] w (Gives (.agg #[.string (pickG F.gs s).name, .int .i64 (pickG F.gs s).w, .int .i64 (pickG F.gs s).h, .int .i64 (pickG F.gs s).d, .int .i64 (pickG F.gs s).it, .int .i64 (pickG F.gs s).at_]) w) :=
  ref05_Pick_calls F.gx F.sx F.gs.length F.gc F.ss.length F.sc F.quad F.xheight F.axis F.rule F.num1 F.num2 F.den1 F.den2 F.sup1 F.sup2 F.sup3 F.sub1 F.sub2 F.supdrop F.subdrop F.script F.sscript F.dpercent F.dshort F.acc F.gs s w (by omega) h.glysAt

theorem font_Box_valid (F : Fnt) (s : ByteArray) (p : Int) (w : World) (hF : FntOk w F) (hn : F.gs.length ≤ 500) (hv : ValidF F) : Calls Try.prog 26 #[F.val, .string s, .int .i64 p] w (Gives (.tuple #[.agg #[.int .i64 (sizedB (pickG F.gs s) p).k, .string (sizedB (pickG F.gs s) p).n, .int .i64 (sizedB (pickG F.gs s) p).p, .int .i64 (sizedB (pickG F.gs s) p).w, .int .i64 (sizedB (pickG F.gs s) p).h, .int .i64 (sizedB (pickG F.gs s) p).d, .int .i64 0, .int .i64 0, .slice none 0 0, .int .i64 0, .slice none 0 0], .int .i64 (scaledErr (pickG F.gs s) p)]) w) := by
  have hp := fun w' (h : FntOk w' F) => box_pick F s w' h hn
  have hs := fun w' => font_Scaled_calls (pickG F.gs s) p w'
  simp only [gePair] at hs
  generalize pickG F.gs s = G at *
  rcases scaledErr_ways G p with he | he | he
  · simp only [sizedB, he, if_true]
    rw [he] at hs
    exact font_Box_ok F s p G (scaledG G p) w hF hv hp hs
  · simp only [sizedB, he]
    rw [he] at hs
    exact font_Box_e1 F s p G (scaledG G p) w hF hv hp hs
  · simp only [sizedB, he]
    rw [he] at hs
    exact font_Box_e2 F s p G (scaledG G p) w hF hv hp hs

theorem ref05_Sized_valid (F : Fnt) (s : ByteArray) (p : Int) (w : World) (hF : FntOk w F) (hn : F.gs.length ≤ 500) : Calls Try.prog 34 #[F.val, .string s, .int .i64 p] w (Gives (.tuple #[.agg #[.int .i64 (sizedB (pickG F.gs s) p).k, .string (sizedB (pickG F.gs s) p).n, .int .i64 (sizedB (pickG F.gs s) p).p, .int .i64 (sizedB (pickG F.gs s) p).w, .int .i64 (sizedB (pickG F.gs s) p).h, .int .i64 (sizedB (pickG F.gs s) p).d, .int .i64 0, .int .i64 0, .slice none 0 0, .int .i64 0, .slice none 0 0], .int .i64 (scaledErr (pickG F.gs s) p)]) w) := by
  have hp := fun w' (h : FntOk w' F) => box_pickR F s w' h hn
  have hs := fun w' => ref05_Scaled_calls (pickG F.gs s) p w'
  simp only [gePair] at hs
  generalize pickG F.gs s = G at *
  rcases scaledErr_ways G p with he | he | he
  · simp only [sizedB, he, if_true]
    rw [he] at hs
    exact ref05_Sized_ok F s p G (scaledG G p) w hF hp hs
  · simp only [sizedB, he]
    rw [he] at hs
    exact ref05_Sized_e1 F s p G (scaledG G p) w hF hp hs
  · simp only [sizedB, he]
    rw [he] at hs
    exact ref05_Sized_e2 F s p G (scaledG G p) w hF hp hs

end Go.Proofs.Ytceigjonhabmmaa
namespace Go.Proofs.Ytceigjonhabmmaa
open Go.RowKit

attribute [local irreducible] wpQuiet wpG wpP wpK wpList Code.wp Calls

end Go.Proofs.Ytceigjonhabmmaa
namespace Go.Proofs.Ytceigjonhabmmaa
open Go.RowKit

attribute [local irreducible] wpQuiet wpG wpP wpK wpList Code.wp Calls

/-- The cells are the box, none of whose lists lies in the blocks B. -/
@[reducible] def RepA (B : List Nat) (w : World) (n : Nat) (b : Bx n) (cs : List Value) : Prop := RepG (fun k _ => k ∉ B) (fun k => k ∉ B) w n b cs
theorem RepG.rep {ko : Nat → Nat → Prop} {so : Nat → Prop} {w : World} {n : Nat} {b : Bx n} {cs : List Value} (h : RepG ko so w n b cs) : Rep w n b cs := h.mono (fun _ _ _ => trivial) (fun _ _ => trivial)
theorem repA_step {B : List Nat} {w w' : World} {n : Nat} {b : Bx n} {cs : List Value} (h : RepA B w n b cs) (hb : Below w.heap.size w w') : RepA B w' n b cs := RepG.step hb n b cs h
/-- The block of a slice of the call's own. -/
theorem sl_where {size n : Nat} {y : Option Addr} {c : Nat} {xs : List Value} {X : List (Nat × List Value)} (h : Sl size n (.slice y n c) xs X) (hn : n ≠ 0) {k o : Nat} (hx : y = some ⟨k, o, none⟩) : ∃ z, (k, z) ∈ X := by
  rcases h.2 with ⟨_, _, _, h0, _⟩ | ⟨b, c', junk, he, _, _, _, rfl⟩
  · exact absurd h0 hn
  · subst hx
    have hb : k = b := by
      simp at he
      exact he.1.1
    exact ⟨xs ++ junk, by rw [hb]; simp⟩
/-- A list of boxes lies there; K: where. -/
def RepLA (K : Nat → Prop) (B : List Nat) (w : World) (n : Nat) (x : Option Addr) (kids : List (Bx n)) : Prop := ∀ i kid, kids[i]? = some kid → ∃ k o css, x = some ⟨k, o, none⟩ ∧ K k ∧ w.rangeAt k (o + i * 11) css ∧ RepA B w n kid css
theorem rep_mkA {B : List Nat} {w : World} {n : Nat} {a : Hd} {kids : List (Bx n)} {kx sx : Option Addr} {kc sc : Nat} (ha : HdOk a) (hl : kids.length ≤ maxLen) (hs : RowAt w sx 1 intCells a.src) (hso : a.src ≠ [] → ∀ k o, sx = some ⟨k, o, none⟩ → k ∉ B) (hk : RepLA (fun k => k ∉ B) B w n kx kids) : RepA B w (n + 1) (a, kids) (a.cells (.slice kx kids.length kc) (.slice sx a.src.length sc)) :=
  ⟨kx, kc, sx, sc, rfl, ha, hl, hs, hso, hk⟩
theorem rep_outA {B : List Nat} {w : World} {n : Nat} {a : Hd} {kids : List (Bx n)} {cs : List Value} (h : RepA B w (n + 1) (a, kids) cs) : ∃ kx kc sx sc, cs = a.cells (.slice kx kids.length kc) (.slice sx a.src.length sc) ∧ HdOk a ∧ kids.length ≤ maxLen ∧ RowAt w sx 1 intCells a.src ∧ (a.src ≠ [] → ∀ k o, sx = some ⟨k, o, none⟩ → k ∉ B) ∧ RepLA (fun k => k ∉ B) B w n kx kids := by
  obtain ⟨kx, kc, sx, sc, h1, h2, h3, h4, h5, h6⟩ := h
  exact ⟨kx, kc, sx, sc, h1, h2, h3, h4, h5, h6⟩
theorem RepLA.step {K : Nat → Prop} {B : List Nat} {w w' : World} {n : Nat} {x : Option Addr} {kids : List (Bx n)} (h : RepLA K B w n x kids) (hb : Below w.heap.size w w') : RepLA K B w' n x kids := fun i kid hi => by
  obtain ⟨k, o, css, e, hK, hr, hp⟩ := h i kid hi
  exact ⟨k, o, css, e, hK, rangeAt_below hr hb, repA_step hp hb⟩
/-- The call gives a box away from the blocks B. -/
def GivesA (B : List Nat) (n : Nat) (b : Bx n) (w : World) (e : Ending) (w' : World) : Prop := ∃ cs, e = .returned (.agg cs.toArray) ∧ RepA B w' n b cs ∧ Below w.heap.size w w'

set_option maxHeartbeats 4000000 in
set_option maxRecDepth 100000 in
theorem ref28_At_A (B : List Nat) (n : Nat) (b : Bx (n + 1)) (cs : List Value) (x y : Int) (w : World) (hr : RepA B w (n + 1) b cs) (hx : I64 x) (hy : I64 y) : Calls Try.prog 21 #[.agg cs.toArray, .int .i64 x, .int .i64 y] w (GivesA B (n + 1) (atXY (n + 1) b x y) w) := by
  obtain ⟨⟨kind, name, size, bw, bh, bd, bx, by_, of, src⟩, kids⟩ := b
  obtain ⟨kx, kc, sx, sc, rfl, ha, hkl, hrow0, hso, hkids⟩ := rep_outA hr
  have HH := Lib.hid (show HdOk ⟨kind, name, size, bw, bh, bd, x, y, of, src⟩ from ⟨ha.kind, ha.size, ha.w, ha.h, ha.d, hx, hy, ha.of, ha.src, ha.srcLen, ha.nameLen⟩)
  have HL := Lib.hid hkl
  have HSr := Lib.hid hrow0
  have HK := Lib.hid hkids
  have HSo := Lib.hid hso
  simp only at HSr
  clear hr ha hkl hrow0 hkids hx hy hso
  go_enter Try.func21, Try.ntmps21
  have hS := own_start w
  go_wp2_with (first | (refine own_unguard (by rfl) ?_) | (refine w_ld rfl _ rfl (by rfl) (by first | exact rd_1 (by repeat constructor) (by first | rfl | assumption) | exact rd_w (by repeat constructor) (by rfl) | exact rd_o (by assumption) (by rfl) (by first | exact nmn | assumption | simp) | exact rd_h (by assumption) (by rfl) (by first | exact nmn | assumption | simp) | exact rd_1o (by assumption) (by first | exact nmn | assumption | simp) | exact rd_1h (by assumption) (by first | rfl | assumption) (by first | exact nmn | assumption | simp)) hS ?_) | (refine own_box rfl _ _ rfl (by rfl) hS ?_; clear hS; (try clear ww); intro bb ww hS) | (refine w_al rfl rfl hS ?_; clear hS; (try clear ww); intro bb ww hS) | (refine w_st rfl _ _ rfl (by rfl) (by rfl) (by repeat constructor) (by rfl) (by rfl) (by first | rfl | assumption) hS ?_; clear hS; (try clear ww); intro ww hS) | (refine w_s1 rfl _ _ rfl (by rfl) (by repeat constructor) (by first | exact .c | exact .t rfl) (by rfl) (by repeat constructor) hS ?_; clear hS; (try clear ww); intro ww hS))
  have hc := (hS.get at0).cell
  refine bodyPost_ret (v := .agg #[.int .i64 kind, .string name, .int .i64 size, .int .i64 bw, .int .i64 bh, .int .i64 bd, .int .i64 x, .int .i64 y, .slice kx kids.length kc, .int .i64 of, .slice sx src.length sc]) (by simp [results, Try.results21, go_sem, hc]) rfl ⟨_, rfl, rep_mkA HH.out HL.out (HSr.out.own hS) HSo.out (HK.out.step hS.below), hS.below⟩

set_option maxHeartbeats 4000000 in
set_option maxRecDepth 100000 in
theorem box_At_A (B : List Nat) (n : Nat) (b : Bx (n + 1)) (cs : List Value) (x y : Int) (w : World) (hr : RepA B w (n + 1) b cs) (hB : ∀ k ∈ B, k < w.heap.size) (hx : I64 x) (hy : I64 y) (hsl : b.1.src.length ≤ 17592186044416) : Calls Try.prog 29 #[.agg cs.toArray, .int .i64 x, .int .i64 y] w (GivesA B (n + 1) (atXY (n + 1) b x y) w) := by
  obtain ⟨⟨kind, name, size, bw, bh, bd, bx, by_, of, src⟩, kids⟩ := b
  obtain ⟨kx, kc, sx, sc, rfl, ha, hkl, hrow0, hso, hkids⟩ := rep_outA hr
  have HH := Lib.hid (show HdOk ⟨kind, name, size, bw, bh, bd, x, y, of, src⟩ from ⟨ha.kind, ha.size, ha.w, ha.h, ha.d, hx, hy, ha.of, ha.src, ha.srcLen, ha.nameLen⟩)
  have HL := Lib.hid hkl
  have HSr := Lib.hid hrow0
  have HK := Lib.hid hkids
  have HB := Lib.hid hB
  simp only at HSr
  clear hr ha hkl hrow0 hkids hx hy hso hB
  go_enter Try.func29, Try.ntmps29
  have hS := own_start w
  go_wp2_with (first | (refine own_unguard (by rfl) ?_) | (go_at_call 63; refine own_ints hS (clone_calls _ _ _ _ (HSr.out.own hS) hsl) ?_; clear hS; intro y2 c2 Xs ww hXs hrow hS1; have hS := hS1.perm (front_back Xs _ _ []); clear hS1) | (refine w_ld rfl _ rfl (by rfl) (by first | exact rd_1 (by repeat constructor) (by first | rfl | assumption) | exact rd_w (by repeat constructor) (by rfl) | exact rd_o (by assumption) (by rfl) (by first | exact nmn | assumption | simp) | exact rd_h (by assumption) (by rfl) (by first | exact nmn | assumption | simp) | exact rd_1o (by assumption) (by first | exact nmn | assumption | simp) | exact rd_1h (by assumption) (by first | rfl | assumption) (by first | exact nmn | assumption | simp)) hS ?_) | (refine own_box rfl _ _ rfl (by rfl) hS ?_; clear hS; (try clear ww); intro bb ww hS) | (refine w_al rfl rfl hS ?_; clear hS; (try clear ww); intro bb ww hS) | (refine w_st rfl _ _ rfl (by rfl) (by rfl) (by repeat constructor) (by rfl) (by rfl) (by first | rfl | assumption) hS ?_; clear hS; (try clear ww); intro ww hS) | (refine w_s1 rfl _ _ rfl (by rfl) (by repeat constructor) (by first | exact .c | exact .t rfl) (by rfl) (by repeat constructor) hS ?_; clear hS; (try clear ww); intro ww hS))
  have hc := (hS.get at0).cell
  have hso2 : src ≠ [] → ∀ k o, y2 = some ⟨k, o, none⟩ → k ∉ B := fun hne k o hx hm => by
    have h1 := HB.out k hm
    rcases sl_where hXs (by intro h0; exact hne (List.eq_nil_of_length_eq_zero h0)) hx with ⟨z, hz⟩
    rcases hS.ge (k, z) (by simp [hz]) with h2 | h2
    · cases h2
    · simp only at h2; omega
  refine bodyPost_ret (v := .agg #[.int .i64 kind, .string name, .int .i64 size, .int .i64 bw, .int .i64 bh, .int .i64 bd, .int .i64 x, .int .i64 y, .slice kx kids.length kc, .int .i64 of, .slice y2 src.length c2]) (by simp [results, Try.results29, go_sem, hc]) rfl ⟨_, rfl, rep_mkA HH.out HL.out (sl_row hS (fun x hx => by simp [hx]) hXs) hso2 (HK.out.step hS.below), hS.below⟩

end Go.Proofs.Ytceigjonhabmmaa
