/- Texts Num, Prm, Prr, Scal, ScalR, Glo, Flo, Ofl, Val, Fnd, Stq, Vlr, Map. -/
import Derived.Test.YtdbcdjiclkmknaaJ01
import Derived.Test.YtdbcdjiclkmknaaJ00
import Derived.Great.Walk
import Derived.Laws.StructEq
import Derived.Maps.Own
namespace Go.Proofs.Ytdbcdjiclkmknaa
open Go.RowKit

/-- All bytes of a name are from 32 to 126. -/
def bytesOk (l : List UInt8) : Bool := l.all fun c => decide (32 ≤ (c.toNat : Int)) && decide ((c.toNat : Int) ≤ 126)
/-- Is it a name? -/
def nameOk (s : ByteArray) : Bool := bytesOk s.data.toList && decide (1 ≤ (s.size : Int)) && decide ((s.size : Int) ≤ 16)

theorem bytesOk_drop (s : ByteArray) (k : Nat) (h : k < s.size) :
    bytesOk (s.data.toList.drop k) = (decide (32 ≤ (s[k].toNat : Int)) && decide ((s[k].toNat : Int) ≤ 126) && bytesOk (s.data.toList.drop (k + 1))) := by
  have h' : k < s.data.toList.length := by simpa using h
  rw [List.drop_eq_getElem_cons h']
  simp [bytesOk]
  rfl

set_option maxHeartbeats 1000000 in
theorem font_named_calls (s : ByteArray) (w : World) (hs : s.size ≤ 9223372036854775807) :
    Calls Try.prog 56 #[.string s] w fun e w' => e = .returned (.bool (nameOk s)) ∧ w = w' := by
  go_enter Try.func56, Try.ntmps56
  go_wp2
  go_loop [3] (fun i => ∃ k : Nat, k ≤ s.size ∧ i = .int .i64 k ∧ bytesOk s.data.toList = bytesOk (s.data.toList.drop k)) (fun i => s.size - (intOf i).toNat)
  case atStart => exact ⟨0, Nat.zero_le _, rfl, rfl⟩
  case round =>
    obtain ⟨k, hk, rfl, hf⟩ := hrel
    by_cases hlt : k < s.size
    · rw [bytesOk_drop s k hlt] at hf
      have HF := Lib.hid hf
      clear hf
      by_cases h1 : (s[k].toNat : Int) < 32
      · have e1 : bytesOk s.data.toList = false := by rw [HF.out]; simp; omega
        have E1 := Lib.hid e1
        clear e1
        go_wp2
        go_ret
        refine ⟨ret_bool ?_, rfl⟩
        unfold nameOk
        rw [E1.out]; rfl
      · by_cases h2 : 126 < (s[k].toNat : Int)
        · have e1 : bytesOk s.data.toList = false := by rw [HF.out]; simp; omega
          have E1 := Lib.hid e1
          clear e1
          go_wp2
          go_ret
          refine ⟨ret_bool ?_, rfl⟩
          unfold nameOk
          rw [E1.out]; rfl
        · have e1 : bytesOk s.data.toList = bytesOk (s.data.toList.drop (k + 1)) := by rw [HF.out]; simp; omega
          have E1 := Lib.hid e1
          clear e1
          go_wp2
          go_round
          case rel => exact ⟨k + 1, by omega, by go_num, E1.out⟩
          case measure => simp [intOf]; omega
    · have e1 : bytesOk s.data.toList = true := by rw [hf, List.drop_of_length_le (by simp; omega)]; rfl
      have E1 := Lib.hid e1
      clear e1 hf
      go_wp2
      all_goals
        go_ret
        refine ⟨ret_bool ?_, rfl⟩
        unfold nameOk
        rw [E1.out]
        simp
        try omega

/-- All numbers are in a range. -/
def allIn (a b : Int) (ns : List Int) : Bool := ns.all fun n => decide (a ≤ n) && decide (n ≤ b)
theorem allIn_drop (a b : Int) (ns : List Int) (k : Nat) (n : Int) (h : ns[k]? = some n) : allIn a b (ns.drop k) = (decide (a ≤ n) && decide (n ≤ b) && allIn a b (ns.drop (k + 1))) := by
  obtain ⟨hk, rfl⟩ := List.getElem?_eq_some_iff.1 h
  unfold allIn
  rw [List.drop_eq_getElem_cons hk, List.all_cons]

set_option maxHeartbeats 1000000 in
theorem font_within_calls (lo hi : Int) (ns : List Int) (b o c : Nat) (w : World) (hn : ns.length ≤ 1000000)
    (hc : ∀ i n, ns[i]? = some n → w.cell? ⟨b, o + i, none⟩ = some (.int .i64 n)) :
    Calls Try.prog 57 #[.int .i64 lo, .int .i64 hi, .slice (some ⟨b, o, none⟩) ns.length c] w fun e w' => e = .returned (.bool (allIn lo hi ns)) ∧ w = w' := by
  have HC := Lib.hid hc
  clear hc
  go_enter Try.func57, Try.ntmps57
  go_wp2
  go_loop [11] (fun i => ∃ k : Nat, k ≤ ns.length ∧ i = .int .i64 k ∧ allIn lo hi ns = allIn lo hi (ns.drop k)) (fun i => ns.length - (intOf i).toNat)
  case atStart => exact ⟨0, Nat.zero_le _, rfl, rfl⟩
  case round =>
    obtain ⟨k, hk, rfl, hf⟩ := hrel
    by_cases hlt : k < ns.length
    · obtain ⟨n, hg⟩ : ∃ n, ns[k]? = some n := ⟨ns[k], by simp [hlt]⟩
      have g0 := HC.out k n hg
      rw [allIn_drop lo hi ns k n hg] at hf
      have HF := Lib.hid hf
      clear hf hg
      by_cases h1 : n < lo
      · have E1 := Lib.hid (show allIn lo hi ns = false by rw [HF.out]; simp; omega)
        go_wp2
        go_ret
        exact ⟨ret_bool E1.out.symm, rfl⟩
      · by_cases h2 : hi < n
        · have E1 := Lib.hid (show allIn lo hi ns = false by rw [HF.out]; simp; omega)
          go_wp2
          go_ret
          exact ⟨ret_bool E1.out.symm, rfl⟩
        · have E1 := Lib.hid (show allIn lo hi ns = allIn lo hi (ns.drop (k + 1)) by rw [HF.out]; simp; omega)
          go_wp2
          go_round
          case rel => exact ⟨k + 1, by omega, by go_num, E1.out⟩
          case measure => simp [intOf]; omega
    · have E1 := Lib.hid (show allIn lo hi ns = true by rw [hf, List.drop_of_length_le (by omega)]; rfl)
      clear hf
      go_wp2
      go_ret
      exact ⟨ret_bool E1.out.symm, rfl⟩

set_option maxHeartbeats 1000000 in
theorem ref05_Scale_pos (n p : Int) (w : World) (h0 : 0 ≤ n) (h1 : n ≤ 1073741824) (p0 : 0 ≤ p) (p1 : p ≤ 10000) :
    Calls Try.prog 33 #[.int .i64 n, .int .i64 p] w fun e w' => e = .returned (.int .i64 (scl n p)) ∧ w = w' := by
  have hb := mul_bd (n := n) ⟨by omega, h1⟩ p0 p1
  have hp : 0 ≤ n * p := Int.mul_nonneg h0 p0
  have hs := Lib.hid (show scl n p = (2 * n * p + 100) / 200 by rw [scl_ok ⟨by omega, h1⟩ p0 p1]; unfold rdiv; rw [if_pos hp, Int.mul_assoc]; rfl)
  have hm : wrap64 (2 * n * p) = 2 * n * p := IntWalk.wrap64_in _ (by rw [Int.mul_assoc]; omega)
  have hq : 0 ≤ 2 * n * p ∧ 2 * n * p ≤ 21474836480000 := by rw [Int.mul_assoc]; omega
  go_enter Try.func33, Try.ntmps33
  go_wp2_with fail
  go_ret
  exact ⟨ret_int hs.out.symm, rfl⟩

set_option maxHeartbeats 1000000 in
theorem ref05_Scale_calls (n p : Int) (w : World) (h : -1073741824 ≤ n ∧ n ≤ 1073741824) (p0 : 0 ≤ p) (p1 : p ≤ 10000) :
    Calls Try.prog 33 #[.int .i64 n, .int .i64 p] w fun e w' => e = .returned (.int .i64 (scl n p)) ∧ w = w' := by
  by_cases h0 : 0 ≤ n
  · exact ref05_Scale_pos n p w h0 h.2 p0 p1
  · have hb := mul_bd (n := -n) (by omega) p0 p1
    have hp : 0 ≤ -n * p := Int.mul_nonneg (by omega) p0
    have hs := Lib.hid (show scl n p = - scl (-n) p by
      rw [scl_ok h p0 p1, scl_ok (by omega) p0 p1]
      have e : -n * p = -(n * p) := Int.neg_mul _ _
      rw [e] at hp ⊢
      unfold rdiv
      rw [if_pos hp]
      split <;> omega)
    have hr : -10737418240000 ≤ scl (-n) p ∧ scl (-n) p ≤ 10737418240000 := by
      rw [scl_ok (by omega) p0 p1]; unfold rdiv; rw [if_pos hp]; omega
    go_enter Try.func33, Try.ntmps33
    go_wp2_with fail
    refine (ref05_Scale_pos (-n) p _ (by omega) (by omega) p0 p1).mono ?_
    rintro e w' ⟨rfl, rfl⟩
    go_wp2_with fail
    go_ret
    exact ⟨ret_int hs.out.symm, rfl⟩

end Go.Proofs.Ytdbcdjiclkmknaa
namespace Go.Proofs.Ytdbcdjiclkmknaa
open Go.RowKit

attribute [local irreducible] wpQuiet wpList Code.wp

/-- A small slice literal. -/
theorem own_buildSlice {P : Program} {rest : List Oper} {ops' : Array Oper} {o : Oper} {a : Act} {Q : Exit → Act → World → Prop} {D : List Nat} {W w : World} {L : List (Nat × List Value)} (hgd : o.guard = none) (t e : TypeId) (len : Nat) (parts : Array (Nat × Operand)) (ho : o.op = .buildSlice t len parts) (cells : List Value) (hS : Own D W L w) (hu : P.underlying t = some (.slice e))
    (hf : P.builtSlice e len (parts.map fun (i, x) => (i, a.eval x)).toList = some cells.toArray)
    (h : ∀ b w', Own D W ((b, cells) :: L) w' → wpList P ops' Q rest (a.put o.dst (.slice (some ⟨b, 0, none⟩) len len)) w') : wpList P ops' Q (o :: rest) a w :=
  Great.wpList_buildSliceTo hgd t e len parts ho w.heap.size rfl o.dst rfl hu cells.toArray hf (h _ _ (hS.new cells e))

theorem font_within_has {lo hi : Int} (ns : List Int) {b c : Nat} {w : World} {v : Bool} (hh : Has w b (ns.map (Value.int .i64))) (hn : ns.length ≤ 1000000) (hv : allIn lo hi ns = v) :
    Calls Try.prog 57 #[.int .i64 lo, .int .i64 hi, .slice (some ⟨b, 0, none⟩) ns.length c] w fun e w' => e = .returned (.bool v) ∧ w = w' := by
  subst hv
  refine font_within_calls lo hi ns b 0 c w hn fun i n hi => ?_
  rw [hh.cell, Nat.zero_add, List.getElem?_map, hi]
  rfl

/-- The lengths among the parameters; the percentages. -/
@[reducible] def Fnt.lens (F : Fnt) : List Int := [F.quad, F.xheight, F.axis, F.rule, F.num1, F.num2, F.den1, F.den2, F.sup1, F.sup2, F.sup3, F.sub1, F.sub2, F.supdrop, F.subdrop, F.dshort, F.acc]
@[reducible] def Fnt.pers (F : Fnt) : List Int := [F.script, F.sscript, F.dpercent]
def prmOk (F : Fnt) : Bool := allIn 1 100 F.pers && allIn 0 20000 F.lens

instance rt_params : RowTy Try.prog 25 20 := ⟨⟨_, Try.underlying25, rfl⟩, by kernel_rfl⟩

set_option maxHeartbeats 4000000 in
set_option maxRecDepth 100000 in
theorem font_validParams_no (F : Fnt) (w : World) (h : allIn 1 100 F.pers = false) : Calls Try.prog 55 #[.agg F.prm.toArray] w (Gives (.bool false) w) := by
  have HV := Lib.hid h
  clear h
  go_enter Try.func55, Try.ntmps55
  have hS := own_start w
  go_wp2_with (first | (refine own_unguard (by rfl) ?_) | (refine own_buildSlice rfl _ _ 3 _ rfl [.int .i64 F.script, .int .i64 F.sscript, .int .i64 F.dpercent] hS Try.underlying31 (by kernel_rfl) ?_; clear hS; (try clear ww); intro bb ww hS) | (go_at_call 57; refine own_callsS hS (font_within_has F.pers (hS.get at0) (by simp) HV.out) ?_) | (refine w_ld rfl _ rfl (by rfl) (by first | exact rd_1 (by repeat constructor) (by first | rfl | assumption) | exact rd_w (by repeat constructor) (by rfl) | exact rd_o (by assumption) (by rfl) (by first | exact nmn | assumption | simp) | exact rd_h (by assumption) (by rfl) (by first | exact nmn | assumption | simp) | exact rd_1o (by assumption) (by first | exact nmn | assumption | simp) | exact rd_1h (by assumption) (by first | rfl | assumption) (by first | exact nmn | assumption | simp)) hS ?_) | (refine own_box rfl _ _ rfl (by rfl) hS ?_; clear hS; (try clear ww); intro bb ww hS) | (refine w_st rfl _ _ rfl (by rfl) (by rfl) (by repeat constructor) (by rfl) (by rfl) (by first | rfl | assumption) hS ?_; clear hS; (try clear ww); intro ww hS) | (refine w_s1 rfl _ _ rfl (by rfl) (by repeat constructor) (by first | exact .c | exact .t rfl) (by rfl) (by repeat constructor) hS ?_; clear hS; (try clear ww); intro ww hS))
  go_ret
  exact own_gives hS

set_option maxHeartbeats 4000000 in
set_option maxRecDepth 100000 in
theorem font_validParams_yes (F : Fnt) (w : World) (v : Bool) (h : allIn 1 100 F.pers = true) (h2 : allIn 0 20000 F.lens = v) : Calls Try.prog 55 #[.agg F.prm.toArray] w (Gives (.bool v) w) := by
  have HV := Lib.hid h
  have HL := Lib.hid h2
  have tok1 : True := trivial
  clear h h2
  go_enter Try.func55, Try.ntmps55
  have hS := own_start w
  go_wp2_with (first | (refine own_unguard (by rfl) ?_) | (refine own_buildSlice rfl _ _ 3 _ rfl [.int .i64 F.script, .int .i64 F.sscript, .int .i64 F.dpercent] hS Try.underlying31 (by kernel_rfl) ?_; clear hS; (try clear ww); intro bb ww hS) | (refine own_buildSlice rfl _ _ 17 _ rfl (F.lens.map (Value.int .i64)) hS Try.underlying31 (by kernel_rfl) ?_; clear hS; (try clear ww); intro bb ww hS) | (go_at_call 57; have _t := tok1; refine own_callsS hS (font_within_has F.pers (hS.get at0) (by simp) HV.out) ?_; clear tok1) | (go_at_call 57; refine own_callsS hS (font_within_has F.lens (hS.get at0) (by simp) HL.out) ?_) | (refine w_ld rfl _ rfl (by rfl) (by first | exact rd_1 (by repeat constructor) (by first | rfl | assumption) | exact rd_w (by repeat constructor) (by rfl) | exact rd_o (by assumption) (by rfl) (by first | exact nmn | assumption | simp) | exact rd_h (by assumption) (by rfl) (by first | exact nmn | assumption | simp) | exact rd_1o (by assumption) (by first | exact nmn | assumption | simp) | exact rd_1h (by assumption) (by first | rfl | assumption) (by first | exact nmn | assumption | simp)) hS ?_) | (refine own_box rfl _ _ rfl (by rfl) hS ?_; clear hS; (try clear ww); intro bb ww hS) | (refine w_st rfl _ _ rfl (by rfl) (by rfl) (by repeat constructor) (by rfl) (by rfl) (by first | rfl | assumption) hS ?_; clear hS; (try clear ww); intro ww hS) | (refine w_s1 rfl _ _ rfl (by rfl) (by repeat constructor) (by first | exact .c | exact .t rfl) (by rfl) (by repeat constructor) hS ?_; clear hS; (try clear ww); intro ww hS))
  go_ret
  exact own_gives hS

theorem font_validParams_calls (F : Fnt) (w : World) : Calls Try.prog 55 #[.agg F.prm.toArray] w (Gives (.bool (prmOk F)) w) := by
  unfold prmOk
  cases h : allIn 1 100 F.pers
  · exact font_validParams_no F w h
  · exact font_validParams_yes F w _ h rfl

end Go.Proofs.Ytdbcdjiclkmknaa
namespace Go.Proofs.Ytdbcdjiclkmknaa
open Go.RowKit

attribute [local irreducible] wpQuiet wpList Code.wp

end Go.Proofs.Ytdbcdjiclkmknaa
namespace Go.Proofs.Ytdbcdjiclkmknaa
open Go.RowKit

/-- The metrics of a glyph. -/
def Gly.nums (g : Gly) : List Int := [g.w, g.h, g.d, g.it, g.at_]
/-- All metrics are at most 20000. -/
def metricsOk (g : Gly) : Bool := allIn (-20000) 20000 g.nums
/-- A scaled glyph. -/
def sclG (g : Gly) (p : Int) : Gly := { name := g.name, w := scl g.w p, h := scl g.h p, d := scl g.d p, it := scl g.it p, at_ := scl g.at_ p }
def zeroG : Gly := { name := ⟨#[]⟩, w := 0, h := 0, d := 0, it := 0, at_ := 0 }
/-- The error of Scaled. -/
def scaledErr (g : Gly) (p : Int) : Int := if 1 ≤ p ∧ p ≤ 1000 then (if metricsOk g = true then 0 else 1) else 2
def scaledG (g : Gly) (p : Int) : Gly := if scaledErr g p = 0 then sclG g p else zeroG
/-- A glyph and a number, as a result. -/
def gePair (g : Gly) (e : Int) : Value := .tuple #[.agg #[.string g.name, .int .i64 g.w, .int .i64 g.h, .int .i64 g.d, .int .i64 g.it, .int .i64 g.at_], .int .i64 e]

theorem metricsOk_bd {g : Gly} (h : metricsOk g = true) : (-20000 ≤ g.w ∧ g.w ≤ 20000) ∧ (-20000 ≤ g.h ∧ g.h ≤ 20000) ∧ (-20000 ≤ g.d ∧ g.d ≤ 20000) ∧ (-20000 ≤ g.it ∧ g.it ≤ 20000) ∧ (-20000 ≤ g.at_ ∧ g.at_ ≤ 20000) := by
  simp [metricsOk, allIn, Gly.nums] at h
  omega

set_option maxHeartbeats 400000 in
theorem scaled1_calls (n p : Int) (a : Addr) (w : World) (h : w.cell? a = some (.int .i64 p)) :
    Calls Try.prog 61 #[.int .i64 n, .pointer (some a)] w (Draws (.int .i64 (scl n p)) w) := by
  go_enter Try.func61, Try.ntmps61
  go_wp2_with fail
  refine (length_Scale_calls n p _).mono ?_
  rintro e w' ⟨rfl, m, rfl⟩
  go_wp2_with fail
  go_ret
  exact ⟨rfl, m, rfl⟩

theorem scaled1_gives (n p : Int) (a : Addr) (w : World) (h : w.cell? a = some (.int .i64 p)) :
    Calls Try.prog 61 #[.int .i64 n, .pointer (some a)] w (Gives (.int .i64 (scl n p)) w) := (scaled1_calls n p a w h).mono fun _ _ h => h.gives

theorem within_one {w : World} {b : Nat} {n : Int} (h : w.cell? ⟨b, 0, none⟩ = some (.int .i64 n)) : ∀ i m, [n][i]? = some m → w.cell? ⟨b, 0 + i, none⟩ = some (.int .i64 m) := by
  intro i m hi
  rcases i with _ | i
  · simp at hi; subst hi; exact h
  · simp at hi

theorem within_five {w : World} {b : Nat} {n0 n1 n2 n3 n4 : Int} (h0 : w.cell? ⟨b, 0, none⟩ = some (.int .i64 n0)) (h1 : w.cell? ⟨b, 1, none⟩ = some (.int .i64 n1)) (h2 : w.cell? ⟨b, 2, none⟩ = some (.int .i64 n2))
    (h3 : w.cell? ⟨b, 3, none⟩ = some (.int .i64 n3)) (h4 : w.cell? ⟨b, 4, none⟩ = some (.int .i64 n4)) : ∀ i m, [n0, n1, n2, n3, n4][i]? = some m → w.cell? ⟨b, 0 + i, none⟩ = some (.int .i64 m) := by
  intro i m hi
  rcases i with _ | _ | _ | _ | _ | i <;> simp at hi
  · subst hi; exact h0
  · subst hi; exact h1
  · subst hi; exact h2
  · subst hi; exact h3
  · subst hi; exact h4

set_option maxHeartbeats 2000000 in
theorem font_Scaled_range (g : Gly) (p : Int) (w : World) (hp : ¬ (1 ≤ p ∧ p ≤ 1000)) :
    Calls Try.prog 44 #[.agg #[.string g.name, .int .i64 g.w, .int .i64 g.h, .int .i64 g.d, .int .i64 g.it, .int .i64 g.at_], .int .i64 p] w (Gives (gePair zeroG 2) w) := by
  have hr : allIn 1 1000 [p] = false := by simp [allIn]; omega
  go_enter Try.func44, Try.ntmps44
  go_wp2_with fail
  refine (font_within_calls 1 1000 [p] _ 0 1 _ (by simp) (within_one (by simp [go_sem]))).mono ?_
  rintro e w' ⟨rfl, rfl⟩
  go_wp2_with fail
  refine bodyPost_ret (v := gePair zeroG 2) (by simp [results, Try.results44, gePair, zeroG, go_sem]) rfl ⟨rfl, bnew (bnew (bnew (bnew (bself w) _) _) _) _⟩

set_option maxHeartbeats 2000000 in
theorem font_Scaled_arg (g : Gly) (p : Int) (w : World) (hp : 1 ≤ p ∧ p ≤ 1000) (hm : metricsOk g = false) :
    Calls Try.prog 44 #[.agg #[.string g.name, .int .i64 g.w, .int .i64 g.h, .int .i64 g.d, .int .i64 g.it, .int .i64 g.at_], .int .i64 p] w (Gives (gePair zeroG 1) w) := by
  have hr : allIn 1 1000 [p] = true := by simp [allIn]; omega
  have hm' : allIn (-20000) 20000 [g.w, g.h, g.d, g.it, g.at_] = false := hm
  clear hm
  go_enter Try.func44, Try.ntmps44
  go_wp2_with fail
  refine (font_within_calls 1 1000 [p] _ 0 1 _ (by simp) (within_one (by simp [go_sem]))).mono ?_
  rintro e w' ⟨rfl, rfl⟩
  go_wp2_with fail
  refine (font_within_calls (-20000) 20000 [g.w, g.h, g.d, g.it, g.at_] _ 0 5 _ (by simp) (within_five (by simp [go_sem]) (by simp [go_sem]) (by simp [go_sem]) (by simp [go_sem]) (by simp [go_sem]))).mono ?_
  rintro e w' ⟨rfl, rfl⟩
  go_wp2_with fail
  refine bodyPost_ret (v := gePair zeroG 1) (by simp [results, Try.results44, gePair, zeroG, go_sem]) rfl ⟨rfl, bnew (bnew (bnew (bnew (bnew (bself w) _) _) _) _) _⟩

set_option maxHeartbeats 4000000 in
theorem font_Scaled_ok (g : Gly) (p : Int) (w : World) (hp : 1 ≤ p ∧ p ≤ 1000) (hm : metricsOk g = true) :
    Calls Try.prog 44 #[.agg #[.string g.name, .int .i64 g.w, .int .i64 g.h, .int .i64 g.d, .int .i64 g.it, .int .i64 g.at_], .int .i64 p] w (Gives (gePair (sclG g p) 0) w) := by
  have hr : allIn 1 1000 [p] = true := by simp [allIn]; omega
  have hm' : allIn (-20000) 20000 [g.w, g.h, g.d, g.it, g.at_] = true := hm
  clear hm
  go_enter Try.func44, Try.ntmps44
  go_wp2_with fail
  refine (font_within_calls 1 1000 [p] _ 0 1 _ (by simp) (within_one (by simp [go_sem]))).mono ?_
  rintro e w' ⟨rfl, rfl⟩
  go_wp2_with fail
  refine (font_within_calls (-20000) 20000 [g.w, g.h, g.d, g.it, g.at_] _ 0 5 _ (by simp) (within_five (by simp [go_sem]) (by simp [go_sem]) (by simp [go_sem]) (by simp [go_sem]) (by simp [go_sem]))).mono ?_
  rintro e w' ⟨rfl, rfl⟩
  go_wp2_with fail
  refine wp_region_cls_tail [(⟨w.heap.size, 0, none⟩, .string g.name), (⟨w.heap.size, 1, none⟩, .int .i64 g.w), (⟨w.heap.size, 2, none⟩, .int .i64 g.h), (⟨w.heap.size, 3, none⟩, .int .i64 g.d), (⟨w.heap.size, 4, none⟩, .int .i64 g.it), (⟨w.heap.size, 5, none⟩, .int .i64 g.at_), (⟨w.heap.size + 1, 0, none⟩, .int .i64 p)] 23 (by kernel_rfl) (by kernel_rfl) (by simp [go_sem]) (fun C hC => ?_)
  simp only [List.take_succ_cons, List.take_zero, List.drop_succ_cons, List.drop_zero]
  repeat (first
      | (refine quiet_plain (by with_reducible rfl) ?_
         apply Exists.intro
         refine ⟨?_, ?_⟩
         focus (intro wq hq; have hc := hC.cells _ hq; simp at hc; go_simp; first | (go_at_call 61; exact hC.call hq (scaled1_gives _ p _ _ hc.2.2.2.2.2.2)) | (with_reducible rfl))
         simp only [Act.put, List.setIfInBounds_toArray, List.set_cons_zero, List.set_cons_succ])
      | (refine quiet_at (by with_reducible rfl) (by rfl) (by rfl) (by simp only [List.getElem?_toArray, List.getElem?_cons_succ, List.getElem?_cons_zero]; rfl) ?_
         first | (with_reducible refine QG_tt ?_) | (with_reducible refine QG_ff ?_)
         apply Exists.intro
         refine ⟨?_, ?_⟩
         focus (intro wq hq; have hc := hC.cells _ hq; simp at hc; go_simp; first | (go_at_call 61; exact hC.call hq (scaled1_gives _ p _ _ hc.2.2.2.2.2.2)) | (with_reducible rfl))
         simp only [Act.put, List.setIfInBounds_toArray, List.set_cons_zero, List.set_cons_succ])
      | (refine quiet_at (by with_reducible rfl) (by rfl) (by rfl) (by simp only [List.getElem?_toArray, List.getElem?_cons_succ, List.getElem?_cons_zero]; rfl) ?_
         first | (with_reducible refine QG_tf ?_) | (with_reducible refine QG_ft ?_) | (with_reducible refine QG_u ?_)
         simp only [Act.put, List.setIfInBounds_toArray, List.set_cons_zero, List.set_cons_succ]))
  refine wpQuiet_nil ?_
  intro wz hz
  have hbz := hC.below _ hz
  have d0 := hbz.cell (p := ⟨w.heap.size + 1 + 1, 0, none⟩) (by go_size)
  have d1 := hbz.cell (p := ⟨w.heap.size + 1 + 1, 1, none⟩) (by go_size)
  have d2 := hbz.cell (p := ⟨w.heap.size + 1 + 1, 2, none⟩) (by go_size)
  have d3 := hbz.cell (p := ⟨w.heap.size + 1 + 1, 3, none⟩) (by go_size)
  have d4 := hbz.cell (p := ⟨w.heap.size + 1 + 1, 4, none⟩) (by go_size)
  have d5 := hbz.cell (p := ⟨w.heap.size + 1 + 1, 5, none⟩) (by go_size)
  have f0 := hbz.frozen (p := ⟨w.heap.size + 1 + 1, 0, none⟩) (by go_size)
  have f1 := hbz.frozen (p := ⟨w.heap.size + 1 + 1, 1, none⟩) (by go_size)
  have f2 := hbz.frozen (p := ⟨w.heap.size + 1 + 1, 2, none⟩) (by go_size)
  have f3 := hbz.frozen (p := ⟨w.heap.size + 1 + 1, 3, none⟩) (by go_size)
  have f4 := hbz.frozen (p := ⟨w.heap.size + 1 + 1, 4, none⟩) (by go_size)
  have f5 := hbz.frozen (p := ⟨w.heap.size + 1 + 1, 5, none⟩) (by go_size)
  simp [go_sem] at d0 d1 d2 d3 d4 d5 f0 f1 f2 f3 f4 f5
  go_wp2_with fail
  refine bodyPost_ret (v := gePair (sclG g p) 0) (by simp [results, Try.results44, gePair, sclG, go_sem, *]) rfl ⟨rfl, ?_⟩
  have hb0 := bthen (bnew (bnew (bnew (bnew (bnew (bself w) _) _) _) _) _) hbz
  clear hbz
  repeat (first | (with_reducible exact hb0) | (with_reducible refine Below.setCell ?_ ?_ _) | go_size)

theorem font_Scaled_calls (g : Gly) (p : Int) (w : World) :
    Calls Try.prog 44 #[.agg #[.string g.name, .int .i64 g.w, .int .i64 g.h, .int .i64 g.d, .int .i64 g.it, .int .i64 g.at_], .int .i64 p] w (Gives (gePair (scaledG g p) (scaledErr g p)) w) := by
  unfold scaledG scaledErr
  by_cases hp : 1 ≤ p ∧ p ≤ 1000
  · rw [if_pos hp]
    cases hm : metricsOk g
    · exact font_Scaled_arg g p w hp hm
    · exact font_Scaled_ok g p w hp hm
  · rw [if_neg hp]
    exact font_Scaled_range g p w hp

end Go.Proofs.Ytdbcdjiclkmknaa
namespace Go.Proofs.Ytdbcdjiclkmknaa
open Go.RowKit



theorem ref05_Scale_gives (n p : Int) (w : World) (h : -20000 ≤ n ∧ n ≤ 20000) (p0 : 1 ≤ p ∧ p ≤ 1000) :
    Calls Try.prog 33 #[.int .i64 n, .int .i64 p] w (Gives (.int .i64 (scl n p)) w) :=
  (ref05_Scale_calls n p w (by omega) (by omega) (by omega)).mono fun _ _ ⟨he, hw⟩ => ⟨he, hw ▸ bself w⟩





end Go.Proofs.Ytdbcdjiclkmknaa
namespace Go.Proofs.Ytdbcdjiclkmknaa
open Go.RowKit

attribute [local irreducible] wpQuiet wpList Code.wp

/-- A glyph by itself. -/
def gIn (g : Gly) : Bool := nameOk g.name && metricsOk g && decide (0 ≤ g.w)
/-- No glyph ahead has its name. -/
def freshG (gs : List Gly) (k : Nat) (g : Gly) : Prop := ∀ j, j < k → ∀ g', gs[j]? = some g' → (g'.name.toList == g.name.toList) = false
/-- All glyphs are as required. -/
def GlysOk (gs : List Gly) : Prop := ∀ k g, gs[k]? = some g → gIn g = true ∧ freshG gs k g

theorem GlysOk.not_in {gs : List Gly} {k : Nat} {g : Gly} {b : Bool} (hb : Hid (b = true ↔ GlysOk gs)) (h : gs[k]? = some g) (hn : gIn g = false) : false = b := by
  cases b
  · rfl
  · have := (hb.out.1 rfl k g h).1
    rw [hn] at this; cases this
theorem GlysOk.not_fresh {gs : List Gly} {k j : Nat} {g g' : Gly} {b : Bool} (hb : Hid (b = true ↔ GlysOk gs)) (h : gs[k]? = some g) (hj : j < k) (h' : gs[j]? = some g') (hn : (g'.name.toList == g.name.toList) = true) : false = b := by
  cases b
  · rfl
  · have := (hb.out.1 rfl k g h).2 j hj g' h'
    rw [hn] at this; cases this
theorem GlysOk.all {gs : List Gly} {b : Bool} (hb : Hid (b = true ↔ GlysOk gs)) (h : ∀ j, j < gs.length → ∀ g, gs[j]? = some g → gIn g = true ∧ freshG gs j g) : true = b :=
  (hb.out.2 fun k g hk => h k (List.getElem?_eq_some_iff.1 hk).1 g hk).symm
theorem glys_next {gs : List Gly} {k : Nat} {g : Gly} (h : Hid (∀ j, j < k → ∀ g, gs[j]? = some g → gIn g = true ∧ freshG gs j g)) (hg : gs[k]? = some g) (h1 : gIn g = true) (h2 : freshG gs k g) : ∀ j, j < k + 1 → ∀ g, gs[j]? = some g → gIn g = true ∧ freshG gs j g := by
  intro j hj g' hg'
  by_cases he : j = k
  · subst he
    rw [hg] at hg'
    cases hg'
    exact ⟨h1, h2⟩
  · exact h.out j (by omega) g' hg'

end Go.Proofs.Ytdbcdjiclkmknaa
namespace Go.Proofs.Ytdbcdjiclkmknaa
open Go.RowKit
section
variable {P : Program} {ops : Array Oper} {md : Region.Mode} {C : World → Prop}

/-- The operation yields v in the world that it got, or calls a function that gives v. -/
def givesUpon (P : Program) (w : World) (v : Value) : Result Next → Prop
  | .ok (.value u) w' => w' = w ∧ u = v
  | .ok .skip w' => w' = w ∧ v = undef
  | .ok (.enter f args) w' => w' = w ∧ Calls P f args w (Gives v w)
  | _ => False
def givesAt (P : Program) (o : Oper) (a : Act) (w : World) (v : Value) : Prop := givesUpon P w v ((execOp a.eval o).run P w)
/-- .. in every world of the class; or it is not wanted. -/
def GivesIn (P : Program) (ops : Array Oper) (C : World → Prop) (o : Oper) (v : Value) (a : Act) : Prop :=
  (Region.wanted o (yielded ops a.tmps) = true ∧ ∀ w, C w → givesAt P o a w v) ∨ (Region.wanted o (yielded ops a.tmps) = false ∧ v = undef)

theorem GivesIn.of_same {o : Oper} {v : Value} {a a' : Act} (h : GivesIn P ops C o v a) (he : execOp a'.eval o = execOp a.eval o) (hw : Region.wanted o (yielded ops a'.tmps) = Region.wanted o (yielded ops a.tmps)) : GivesIn P ops C o v a' := by
  unfold GivesIn givesAt at *
  rw [he, hw]
  exact h
theorem GivesIn.put {oi oj : Oper} {u v : Value} {a : Act} (hsj : ∀ cs b, oj.op ≠ .select cs b) (hap : oi.apart ops oj = true) (h : GivesIn P ops C oj u a) : GivesIn P ops C oj u (a.put oi.dst v) :=
  h.of_same (execOp_put oj hsj a oi.dst v (Oper.apart_spec hap).1) (wanted_put oj a oi.dst v (Oper.apart_spec hap).1)
/-- Operation i comes up: it yields, and K holds behind it. -/
def gOp (P : Program) (ops : Array Oper) (C : World → Prop) (i : Nat) (K : Act → Prop) (a : Act) : Prop :=
  ∃ o v, ops[i]? = some o ∧ GivesIn P ops C o v a ∧ K (a.put o.dst v)
theorem gOp.mono {i : Nat} {K K' : Act → Prop} {a : Act} (hk : ∀ a, K a → K' a) (h : gOp P ops C i K a) : gOp P ops C i K' a :=
  let ⟨o, v, ho, hg, h1⟩ := h
  ⟨o, v, ho, hg, hk _ h1⟩

/-- Only heads may come up: each operation from n on waits for one that is not listed. -/
structure Heads (md : Region.Mode) (ops : Array Oper) (n m : Nat) (listed : Array Bool) : Prop where
  closed : ∀ j oj, ops[j]? = some oj → listed.getD j false = true → ∀ e ∈ oj.after, Region.binds md e = true → listed.getD e.on false = true
  tail : ∀ t, n ≤ t → t ≠ m → t < ops.size → listed.getD t false = false
  mid : listed.getD m true = true

/-- The Bool that says so: each head but the last is waited for by a later head, each of the others (but m) by one behind the heads' last one. -/
def headsB (md : Region.Mode) (ops : Array Oper) (n m : Nat) : Bool :=
  (List.range n).all (fun i => decide (i + 1 = n) || (List.range n).any fun j => decide (i < j) && Region.waitsFor md ops j i) &&
  (List.range ops.size).all (fun t => decide (t < n) || decide (t = m) || (List.range t).any fun j => decide (n ≤ j + 1) && decide (j ≠ m) && Region.waitsFor md ops t j)

theorem Heads.last {n m : Nat} {listed : Array Bool} (hB : headsB md ops n m = true) (h : Heads md ops n m listed) : ∀ (d i : Nat), n - i = d → i < n → listed.getD i false = false → listed.getD (n - 1) false = false := by
  simp only [headsB, Bool.and_eq_true] at hB
  intro d
  induction d using Nat.strongRecOn with
  | _ d ih =>
    intro i hd hi hun
    have h1 := List.all_eq_true.1 hB.1 i (List.mem_range.2 hi)
    simp only [Bool.or_eq_true, decide_eq_true_eq] at h1
    rcases h1 with h1 | h1
    · rw [show n - 1 = i by omega]; exact hun
    · obtain ⟨j, hj, hj2⟩ := List.any_eq_true.1 h1
      simp only [Bool.and_eq_true, decide_eq_true_eq] at hj2
      obtain ⟨oj, hoj, e, he, hb, hon⟩ := Region.waitsFor_spec hj2.2
      have hjn := List.mem_range.1 hj
      cases hl : listed.getD j false with
      | true =>
        have h2 := h.closed j oj hoj hl e he hb
        rw [hon, hun] at h2
        cases h2
      | false => exact ih (n - j) (by omega) j rfl hjn hl

theorem Heads.lt {n m : Nat} {listed : Array Bool} (hB : headsB md ops n m = true) (h : Heads md ops n m listed) {i : Nat} (hi : i < n) (hun : listed.getD i false = false) {t : Nat} (ht : t ∈ Region.ready md ops listed) : t < n := by
  obtain ⟨htu, ot, hot, hall⟩ := mem_ready.1 ht
  have hl := h.last hB (n - i) i rfl hi hun
  have htm : t ≠ m := fun e => by subst e; rw [h.mid] at htu; cases htu
  simp only [headsB, Bool.and_eq_true] at hB
  have h1 := List.all_eq_true.1 hB.2 t (List.mem_range.2 (Array.getElem?_eq_some_iff.1 hot).1)
  simp only [Bool.or_eq_true, decide_eq_true_eq] at h1
  rcases h1 with (h1 | h1) | h1
  · exact h1
  · exact absurd h1 htm
  · obtain ⟨j, hj, hj2⟩ := List.any_eq_true.1 h1
    simp only [Bool.and_eq_true, decide_eq_true_eq] at hj2
    obtain ⟨oj, hoj, e, he, hb, hon⟩ := Region.waitsFor_spec hj2.2
    have : oj = ot := Option.some.inj (hoj.symm.trans hot)
    subst this
    have h2 := hall e he hb
    rw [hon] at h2
    by_cases hjn : j = n - 1
    · rw [hjn, hl] at h2; cases h2
    · have hjs : j < ops.size := by have := List.mem_range.1 hj; have := (Array.getElem?_eq_some_iff.1 hot).1; omega
      rw [h.tail j (by omega) hj2.1.2 hjs] at h2; cases h2

theorem Heads.set {n m i : Nat} {listed : Array Bool} (h : Heads md ops n m listed) (hi : i ∈ Region.ready md ops listed) (hin : i < n) : Heads md ops n m (listed.setIfInBounds i true) := by
  obtain ⟨_, oi, hoi, hall⟩ := mem_ready.1 hi
  refine ⟨fun j oj hj hl e he hb => ?_, fun t ht htm ht' => by rw [getD_set_ne false (by omega)]; exact h.tail t ht htm ht', ?_⟩
  · by_cases hij : i = j
    · subst hij
      have : oj = oi := Option.some.inj (hj.symm.trans hoi)
      subst this
      exact getD_set_true (hall e he hb)
    · rw [getD_set_ne false hij] at hl
      exact getD_set_true (h.closed j oj hj hl e he hb)
  · by_cases him : i = m
    · subst him
      have h1 := (mem_ready.1 hi).1
      rw [h.mid] at h1; cases h1
    · rw [getD_set_ne true him]; exact h.mid

/-- The walk in the text's order. -/
def wpG (P : Program) (ops : Array Oper) (C : World → Prop) (R : Act → Prop) : List Oper → Act → Prop
  | [], a => R a
  | o :: rest, a => ∃ v, GivesIn P ops C o v a ∧ wpG P ops C R rest (a.put o.dst v)

/-- Copies, in the text's order. -/
def wpP (P : Program) (ops : Array Oper) (R : Act → Prop) : List Oper → Act → Prop
  | [], a => R a
  | o :: rest, a => ∃ v, Yields P ops o v a ∧ wpP P ops R rest (a.put o.dst v)

attribute [go_sem] givesAt givesUpon

theorem g_plain {R : Act → Prop} {a : Act} {o : Oper} {rest : List Oper} (hg : o.guard = none) (h : ∃ v, (∀ w, C w → givesAt P o a w v) ∧ wpG P ops C R rest (a.put o.dst v)) : wpG P ops C R (o :: rest) a :=
  let ⟨v, h1, h2⟩ := h
  ⟨v, .inl ⟨by simp [Region.wanted, hg], h1⟩, h2⟩
theorem g_at {R : Act → Prop} {a : Act} {o oj : Oper} {rest : List Oper} {j d : Nat} {b : Bool} {x : Value} (hg : o.guard = some (j, b)) (hj : ops[j]? = some oj) (hd : oj.dst = some d) (hv : a.tmps[d]? = some x)
    (h : QG x b (∃ v, (∀ w, C w → givesAt P o a w v) ∧ wpG P ops C R rest (a.put o.dst v)) (wpG P ops C R rest (a.put o.dst undef))) : wpG P ops C R (o :: rest) a := by
  have hw : Region.wanted o (yielded ops a.tmps) = (boolOf x == some b) := by
    unfold Region.wanted
    simp only [hg, yielded_at hj hd hv]
  by_cases hx : boolOf x = some b
  · obtain ⟨v, h1, h2⟩ := QG_yes hx h
    exact ⟨v, .inl ⟨by rw [hw]; simpa using hx, h1⟩, h2⟩
  · exact ⟨undef, .inr ⟨by rw [hw]; simpa using hx, rfl⟩, QG_no hx h⟩
theorem g_yes {R : Act → Prop} {a : Act} {o oj : Oper} {rest : List Oper} {j d : Nat} {b : Bool} {x : Value} (hg : o.guard = some (j, b)) (hj : ops[j]? = some oj) (hd : oj.dst = some d) (hv : a.tmps[d]? = some x) (hx : YesG x b)
    (h : ∃ v, (∀ w, C w → givesAt P o a w v) ∧ wpG P ops C R rest (a.put o.dst v)) : wpG P ops C R (o :: rest) a := g_at hg hj hd hv (hx.qg h)
theorem g_no {R : Act → Prop} {a : Act} {o oj : Oper} {rest : List Oper} {j d : Nat} {b : Bool} {x : Value} (hg : o.guard = some (j, b)) (hj : ops[j]? = some oj) (hd : oj.dst = some d) (hv : a.tmps[d]? = some x) (hx : NoG x b)
    (h : wpG P ops C R rest (a.put o.dst undef)) : wpG P ops C R (o :: rest) a := g_at hg hj hd hv (hx.qg h)
theorem g_nil {R : Act → Prop} {a : Act} (h : R a) : wpG P ops C R [] a := h
end
end Go.Proofs.Ytdbcdjiclkmknaa
namespace Go.Proofs.Ytdbcdjiclkmknaa
open Go.RowKit

theorem givesAt_rd {P : Program} {o : Oper} {a : Act} {D : List Nat} {W w : World} {L : List (Nat × List Value)} {ty : TypeId} {x : Operand} {p : Addr} {v : Value} (ho : o.op = .load ty x) (hx : a.eval x = .pointer (some p)) (hr : Reads P D W L ty p v) (hS : Own D W L w) : givesAt P o a w v := by
  unfold givesAt execOp
  simp only [ho, hx, Sem.run_bind, hr w hS, Sem.run_pure, Result.andThen_ok, givesUpon]
  first | done | exact ⟨rfl, rfl⟩ | exact ⟨trivial, trivial⟩ | trivial

end Go.Proofs.Ytdbcdjiclkmknaa
namespace Go.Proofs.Ytdbcdjiclkmknaa
open Go.RowKit

attribute [local irreducible] wpQuiet wpG wpP wpList Code.wp

/-- The k-th size is there, and higher than the one ahead. -/
def SizeOk (gs : List Gly) (sz : List ByteArray) (k : Nat) (n : ByteArray) : Prop :=
  ∃ g, findG gs n = some g ∧ ∀ m n' g', k = m + 1 → sz[m]? = some n' → findG gs n' = some g' → g'.h + g'.d < g.h + g.d
/-- A part is there, and higher than the overlap. -/
def PartOk (gs : List Gly) (ov : Int) (p : Prt) : Prop := ∃ g, findG gs p.name = some g ∧ ov < g.h + g.d
/-- A stretch by itself. -/
def StrReq (gs : List Gly) (s : Str) : Prop :=
  nameOk s.name = true ∧ 1 ≤ s.sizes.length ∧ s.sizes.length ≤ 16 ∧ s.parts.length ≤ 8 ∧ (∀ k n, s.sizes[k]? = some n → SizeOk gs s.sizes k n) ∧
  ((s.parts = [] ∧ s.ov = 0) ∨ (s.parts ≠ [] ∧ (∀ p ∈ s.parts, PartOk gs s.ov p) ∧ (s.parts.any fun p => p.ext) = true ∧ 0 ≤ s.ov))
/-- No stretch ahead has its name. -/
def freshS (ss : List Str) (k : Nat) (s : Str) : Prop := ∀ j, j < k → ∀ s', ss[j]? = some s' → (s'.name.toList == s.name.toList) = false
def StrsReq (gs : List Gly) (ss : List Str) : Prop := ∀ k s, ss[k]? = some s → StrReq gs s ∧ freshS ss k s
/-- A font is valid. -/
def ValidF (F : Fnt) : Prop := F.gs.length ≤ 400 ∧ F.ss.length ≤ 40 ∧ prmOk F = true ∧ GlysOk F.gs ∧ StrsReq F.gs F.ss

end Go.Proofs.Ytdbcdjiclkmknaa
namespace Go.Proofs.Ytdbcdjiclkmknaa
open Go.RowKit

end Go.Proofs.Ytdbcdjiclkmknaa
namespace Go.Proofs.Ytdbcdjiclkmknaa
open Go.RowKit

attribute [local irreducible] wpQuiet wpG wpP wpList Code.wp

instance ot_bool : OneTy Try.prog 4 := ⟨⟨_, Try.underlying4, rfl⟩, by kernel_rfl⟩

theorem find_mem {gs : List Gly} {s : ByteArray} {g : Gly} (h : findG gs s = some g) : g ∈ gs := List.mem_of_find?_eq_some h
theorem height_bd {g : Gly} (h : metricsOk g = true) : -40000 ≤ g.h + g.d ∧ g.h + g.d ≤ 40000 := by
  have := metricsOk_bd h
  omega
theorem sizes_next {gs : List Gly} {sz : List ByteArray} {k : Nat} {n : ByteArray} (h : Hid (∀ j, j < k → ∀ n, sz[j]? = some n → SizeOk gs sz j n)) (hn : sz[k]? = some n) (h1 : SizeOk gs sz k n) : ∀ j, j < k + 1 → ∀ n, sz[j]? = some n → SizeOk gs sz j n := by
  intro j hj n' hn'
  by_cases he : j = k
  · subst he
    rw [hn] at hn'
    cases hn'
    exact h1
  · exact h.out j (by omega) n' hn'
theorem any_take {ps : List Prt} {k : Nat} {p : Prt} (h : ps[k]? = some p) : (ps.take (k + 1)).any (fun p => p.ext) = ((ps.take k).any (fun p => p.ext) || p.ext) := by
  rw [List.take_add_one, h]
  simp
/-- The height of the size ahead. -/
def lastIs (gs : List Gly) (sz : List ByteArray) (k : Nat) (lst : Int) : Prop := ∀ m n' g', k = m + 1 → sz[m]? = some n' → findG gs n' = some g' → g'.h + g'.d = lst
theorem lastIs_next {gs : List Gly} {sz : List ByteArray} {k : Nat} {n : ByteArray} {g : Gly} (hn : sz[k]? = some n) (hg : findG gs n = some g) : lastIs gs sz (k + 1) (g.h + g.d) := by
  intro m n' g' hk hn' hg'
  obtain rfl : k = m := by omega
  rw [hn] at hn'; cases hn'
  rw [hg] at hg'; cases hg'
  rfl

section
variable {gs : List Gly} {s : Str} {b : Bool}
theorem StrReq.no_name (hb : Hid (b = true ↔ StrReq gs s)) (h : nameOk s.name = false) : false = b := by
  cases b
  · rfl
  · have := (hb.out.1 rfl).1; rw [h] at this; cases this
theorem StrReq.no_len (hb : Hid (b = true ↔ StrReq gs s)) (h : s.sizes.length < 1 ∨ 16 < s.sizes.length ∨ 8 < s.parts.length) : false = b := by
  cases b
  · rfl
  · have := hb.out.1 rfl; obtain ⟨_, h1, h2, h3, _⟩ := this; omega
theorem StrReq.no_find (hb : Hid (b = true ↔ StrReq gs s)) {k : Nat} {n : ByteArray} (hn : s.sizes[k]? = some n) (h : findG gs n = none) : false = b := by
  cases b
  · rfl
  · obtain ⟨g, hg, _⟩ := (hb.out.1 rfl).2.2.2.2.1 k n hn
    rw [h] at hg; cases hg
theorem StrReq.no_rise (hb : Hid (b = true ↔ StrReq gs s)) {k m : Nat} {n n' : ByteArray} {g g' : Gly} (hn : s.sizes[k]? = some n) (hg : findG gs n = some g) (hk : k = m + 1) (hn' : s.sizes[m]? = some n') (hg' : findG gs n' = some g') (h : g.h + g.d ≤ g'.h + g'.d) : false = b := by
  cases b
  · rfl
  · obtain ⟨g2, hg2, h2⟩ := (hb.out.1 rfl).2.2.2.2.1 k n hn
    rw [hg] at hg2; cases hg2
    have := h2 m n' g' hk hn' hg'
    omega
theorem StrReq.no_part (hb : Hid (b = true ↔ StrReq gs s)) {k : Nat} {p : Prt} (hp : s.parts[k]? = some p) (h : ¬ PartOk gs s.ov p) : false = b := by
  cases b
  · rfl
  · rcases (hb.out.1 rfl).2.2.2.2.2 with ⟨h1, _⟩ | ⟨_, h1, _⟩
    · rw [h1] at hp; simp at hp
    · exact absurd (h1 p (List.mem_of_getElem? hp)) h
theorem StrReq.nil_ (hb : Hid (b = true ↔ StrReq gs s)) (h1 : nameOk s.name = true) (h2 : 1 ≤ s.sizes.length ∧ s.sizes.length ≤ 16 ∧ s.parts.length ≤ 8) (h3 : ∀ k n, s.sizes[k]? = some n → SizeOk gs s.sizes k n) (hp : s.parts = []) : decide (s.ov = 0) = b := by
  by_cases h : s.ov = 0
  · rw [hb.out.2 ⟨h1, h2.1, h2.2.1, h2.2.2, h3, .inl ⟨hp, h⟩⟩]; simp [h]
  · cases b
    · simp [h]
    · rcases (hb.out.1 rfl).2.2.2.2.2 with ⟨_, h4⟩ | ⟨h4, _⟩
      · exact absurd h4 h
      · exact absurd hp h4
theorem StrReq.end_ (hb : Hid (b = true ↔ StrReq gs s)) (h1 : nameOk s.name = true) (h2 : 1 ≤ s.sizes.length ∧ s.sizes.length ≤ 16 ∧ s.parts.length ≤ 8) (h3 : ∀ k n, s.sizes[k]? = some n → SizeOk gs s.sizes k n) (hp : s.parts ≠ []) (h4 : ∀ (k : Nat) (p : Prt), s.parts[k]? = some p → PartOk gs s.ov p) :
    ((s.parts.any fun p => p.ext) && decide (0 ≤ s.ov)) = b := by
  have h4' : ∀ p ∈ s.parts, PartOk gs s.ov p := fun p hp => by
    obtain ⟨k, hk⟩ := List.mem_iff_getElem?.1 hp
    exact h4 k p hk
  by_cases h : (s.parts.any fun p => p.ext) = true ∧ 0 ≤ s.ov
  · rw [hb.out.2 ⟨h1, h2.1, h2.2.1, h2.2.2, h3, .inr ⟨hp, h4', h.1, h.2⟩⟩, h.1]; simp [h.2]
  · cases b
    · by_cases e : (s.parts.any fun p => p.ext) = true
      · have : ¬ 0 ≤ s.ov := fun h' => h ⟨e, h'⟩
        simp [this]
      · have e' : (s.parts.any fun p => p.ext) = false := by simpa using e
        rw [e']; rfl
    · rcases (hb.out.1 rfl).2.2.2.2.2 with ⟨h5, _⟩ | ⟨_, _, h5⟩
      · exact absurd h5 hp
      · exact absurd h5 h
end

end Go.Proofs.Ytdbcdjiclkmknaa
namespace Go.Proofs.Ytdbcdjiclkmknaa
open Go.RowKit

attribute [local irreducible] wpQuiet wpG wpP wpList Code.wp

theorem iff_t {p : Prop} (h : p) : true = true ↔ p := ⟨fun _ => h, fun _ => rfl⟩
theorem iff_f {p : Prop} (h : ¬ p) : false = true ↔ p := ⟨fun h => (by cases h), fun h' => absurd h' h⟩
section
variable {F : Fnt} {b : Bool}
theorem ValidF.no (hb : Hid (b = true ↔ ValidF F)) (h : ¬ ValidF F) : false = b := by
  cases b
  · rfl
  · exact absurd (hb.out.1 rfl) h
theorem ValidF.no_str (hb : Hid (b = true ↔ ValidF F)) {k : Nat} {s : Str} (hs : F.ss[k]? = some s) (h : ¬ StrReq F.gs s) : false = b :=
  ValidF.no hb fun hv => h (hv.2.2.2.2 k s hs).1
theorem ValidF.no_fresh (hb : Hid (b = true ↔ ValidF F)) {k j : Nat} {s s' : Str} (hs : F.ss[k]? = some s) (hj : j < k) (hs' : F.ss[j]? = some s') (h : (s'.name.toList == s.name.toList) = true) : false = b :=
  ValidF.no hb fun hv => by
    have := (hv.2.2.2.2 k s hs).2 j hj s' hs'
    rw [h] at this; cases this
theorem ValidF.yes (hb : Hid (b = true ↔ ValidF F)) (h1 : F.gs.length ≤ 400 ∧ F.ss.length ≤ 40) (h2 : prmOk F = true) (h3 : GlysOk F.gs) (h4 : ∀ j, j < F.ss.length → ∀ s, F.ss[j]? = some s → StrReq F.gs s ∧ freshS F.ss j s) : true = b :=
  (hb.out.2 ⟨h1.1, h1.2, h2, h3, fun k s hk => h4 k (List.getElem?_eq_some_iff.1 hk).1 s hk⟩).symm
end
theorem strs_next {gs : List Gly} {ss : List Str} {k : Nat} {s : Str} (h : Hid (∀ j, j < k → ∀ s, ss[j]? = some s → StrReq gs s ∧ freshS ss j s)) (hs : ss[k]? = some s) (h1 : StrReq gs s) (h2 : freshS ss k s) : ∀ j, j < k + 1 → ∀ s, ss[j]? = some s → StrReq gs s ∧ freshS ss j s := by
  intro j hj s' hs'
  by_cases he : j = k
  · subst he
    rw [hs] at hs'
    cases hs'
    exact ⟨h1, h2⟩
  · exact h.out j (by omega) s' hs'
theorem fresh_next {ss : List Str} {m : Nat} {s s2 : Str} (h : Hid (freshS ss m s)) (h2 : ss[m]? = some s2) (he : (s2.name.toList == s.name.toList) = false) : freshS ss (m + 1) s := by
  intro j hj s' hs'
  by_cases e : j = m
  · subst e
    rw [h2] at hs'
    cases hs'
    exact he
  · exact h.out j (by omega) s' hs'
theorem glys_metrics {gs : List Gly} (h : GlysOk gs) : ∀ g ∈ gs, metricsOk g = true := by
  intro g hg
  obtain ⟨k, hk⟩ := List.mem_iff_getElem?.1 hg
  have := (h k g hk).1
  simp [gIn] at this
  exact this.1.2

end Go.Proofs.Ytdbcdjiclkmknaa
namespace Go.Proofs.Ytdbcdjiclkmknaa
open Go.RowKit

/-- Block b is a map that holds the heights of these glyphs, whose names differ. -/
def MapAt (w : World) (b : Nat) (gs : List Gly) : Prop :=
  ∃ es clock, w.heap[b]? = some (.map es clock) ∧ es.toList.map (fun e => (e.key, e.val)) = gs.map fun g => (Value.string g.name, Value.int .i64 (g.h + g.d))
/-- The height of the glyph with a name; 0 if there is none. -/
def htOr (gs : List Gly) (s : ByteArray) : Int := match findG gs s with | some g => g.h + g.d | none => 0

theorem MapAt.made (w : World) : MapAt (w.alloc (.map #[] 0)) w.heap.size [] := ⟨#[], 0, heap_alloc_new w _, rfl⟩
theorem MapAt.lt {w : World} {b : Nat} {gs : List Gly} (h : MapAt w b gs) : b < w.heap.size := by
  obtain ⟨es, c, h, _⟩ := h
  exact (Array.getElem?_eq_some_iff.1 h).1
theorem MapAt.below {w w' : World} {b : Nat} {gs : List Gly} (h : MapAt w b gs) (hb : Below w.heap.size w w') : MapAt w' b gs := by
  have hlt := h.lt
  obtain ⟨es, c, h, he⟩ := h
  exact ⟨es, c, (hb.block b hlt).trans h, he⟩
theorem MapAt.ne {w : World} {b b' : Nat} {gs : List Gly} {cs : List Value} (h : MapAt w b gs) (h' : Has w b' cs) : b' ≠ b := by
  rintro rfl
  obtain ⟨es, c, h, _⟩ := h
  obtain ⟨t, h'⟩ := h'
  rw [h] at h'
  cases h'

theorem findNow_names (s : ByteArray) : ∀ (gs : List Gly) (es : List MapEntry) (i : Nat), es.map (fun e => (e.key, e.val)) = (gs.map fun g => (Value.string g.name, Value.int .i64 (g.h + g.d))) →
    ∃ r, Instr.findNow .string (.string s) es i = some r ∧ r.map (·.2) = (findG gs s).map fun g => Value.int .i64 (g.h + g.d) := by
  intro gs
  induction gs with
  | nil =>
    intro es i h
    simp at h
    subst h
    exact ⟨none, rfl, rfl⟩
  | cons g gs ih =>
    intro es i h
    cases es with
    | nil => simp at h
    | cons e es =>
      simp only [List.map_cons, List.cons.injEq, Prod.mk.injEq] at h
      obtain ⟨⟨hk, hv⟩, hr⟩ := h
      unfold Instr.findNow
      rw [hk]
      simp only [Instr.sameNow, beq_toListBytes]
      by_cases hs : (s.toList == g.name.toList) = true
      · rw [hs]
        refine ⟨some (i, e.val), rfl, ?_⟩
        have hs' : (g.name.toList == s.toList) = true := by rw [beq_iff_eq] at hs ⊢; exact hs.symm
        simp [findG, hs', hv]
      · have hs1 : (s.toList == g.name.toList) = false := by simpa using hs
        have hs' : (g.name.toList == s.toList) = false := by
          rw [beq_eq_false_iff_ne] at hs1 ⊢; exact fun h => hs1 h.symm
        rw [hs1]
        obtain ⟨r, h1, h2⟩ := ih es (i + 1) hr
        refine ⟨r, h1, ?_⟩
        rw [h2]
        simp [findG, hs']

section
variable {P : Program} {w : World} {t k e : TypeId}
theorem run_checkKey_string (hk : P.underlying k = some .string) (b : Bool) (s : ByteArray) : (Instr.checkKey b 10000 k (.string s)).run P w = .ok () w := by
  rw [show (10000 : Nat) = 9999 + 1 from rfl]
  unfold Instr.checkKey
  simp [run_underlying hk]
theorem run_lookup_names (ht : P.underlying t = some (.map k e)) (hk : P.underlying k = some .string) (hz : (zeroValue e).run P w = .ok (.int .i64 0) w) {b : Nat} {gs : List Gly} (h : MapAt w b gs) (s : ByteArray) :
    (Instr.lookup t (.map (some b)) (.string s) true).run P w = .ok (.tuple #[.int .i64 (htOr gs s), .bool (findG gs s).isSome]) w := by
  obtain ⟨es, c, hb, he⟩ := h
  obtain ⟨r, h1, h2⟩ := findNow_names s gs es.toList 0 he
  unfold Instr.lookup Instr.findKey
  simp only [Sem.run_bind, run_underlying ht, Result.andThen_ok, MapKept.run_getObj_map hb, run_checkKey_string hk, run_underlying hk, h1, Sem.run_pure]
  cases hf : findG gs s with
  | none =>
    rw [hf] at h2
    cases r with
    | none => simp [hz, htOr, hf]
    | some x => simp at h2
  | some g =>
    rw [hf] at h2
    cases r with
    | none => simp at h2
    | some x =>
      obtain ⟨j, v⟩ := x
      simp at h2
      simp [h2, htOr, hf]
/-- One entry more. -/
theorem run_update_names (ht : P.underlying t = some (.map k e)) (hk : P.underlying k = some .string) {b : Nat} {gs : List Gly} (h : MapAt w b gs) (g : Gly) (hn : findG gs g.name = none) :
    ∃ w', (Instr.mapUpdate t (.map (some b)) (.string g.name) (.int .i64 (g.h + g.d))).run P w = .ok () w' ∧ MapAt w' b (gs ++ [g]) ∧ w'.os = w.os ∧ w'.tape = w.tape ∧ w'.output = w.output ∧ w'.heap.size = w.heap.size ∧ ∀ i, i ≠ b → w'.heap[i]? = w.heap[i]? := by
  obtain ⟨es, c, hb, he⟩ := h
  obtain ⟨r, h1, h2⟩ := findNow_names g.name gs es.toList 0 he
  rw [hn] at h2
  have hr : r = none := by cases r <;> simp_all
  subst hr
  refine ⟨{ w with heap := w.heap.setIfInBounds b (.map (es.push { key := .string g.name, val := .int .i64 (g.h + g.d), born := c }) (c + 1)) }, ?_, ?_, rfl, rfl, rfl, by simp, fun i hi => ?_⟩
  · unfold Instr.mapUpdate Instr.findKey
    simp only [Sem.run_bind, run_underlying ht, Result.andThen_ok, MapKept.run_getObj_map hb, run_checkKey_string hk, run_underlying hk, h1, Sem.run_pure]
    simp [setObj, Sem.run, hb]
  · refine ⟨es.push { key := .string g.name, val := .int .i64 (g.h + g.d), born := c }, c + 1, ?_, ?_⟩
    · show (w.heap.setIfInBounds b _)[b]? = some _
      have hlt : b < w.heap.size := (Array.getElem?_eq_some_iff.1 hb).1
      rw [Array.getElem?_setIfInBounds_self_of_lt hlt]
    · simp [he]
  · show (w.heap.setIfInBounds b _)[i]? = _
    rw [Array.getElem?_setIfInBounds_ne (Ne.symm hi)]
end
end Go.Proofs.Ytdbcdjiclkmknaa
