/- Texts Num, Prm, Prr, Scal, ScalR, Glo. -/
import Derived.Test.YtdbcdjiclkmknaaK01
import Derived.Test.YtdbcdjiclkmknaaK00
import Derived.Great.Walk
namespace Go.Proofs.Ytdbcdjiclkmknaa
open Go.RowKit

/-- All bytes of a name are from 32 to 126. -/
def bytesOk (l : List UInt8) : Bool := l.all fun c => decide (32 ≤ (c.toNat : Int)) && decide ((c.toNat : Int) ≤ 126)
/-- Is it a name? -/
def nameOk (s : ByteArray) : Bool := bytesOk s.data.toList && decide (1 ≤ (s.size : Int)) && decide ((s.size : Int) ≤ 16)

theorem bytesOk_drop (s : ByteArray) (k : Nat) (h : k < s.size) :
    bytesOk (s.data.toList.drop k) = (decide (32 ≤ (s[k].toNat : Int)) && decide ((s[k].toNat : Int) ≤ 126) && bytesOk (s.data.toList.drop (k + 1))) := by
  have h' : k < s.data.toList.length := by simpa using h
  rw [List.drop_eq_getElem_cons h']
  simp [bytesOk]
  rfl

set_option maxHeartbeats 1000000 in
theorem font_named_calls (s : ByteArray) (w : World) (hs : s.size ≤ 9223372036854775807) :
    Calls Try.prog 56 #[.string s] w fun e w' => e = .returned (.bool (nameOk s)) ∧ w = w' := by
  go_enter Try.func56, Try.ntmps56
  go_wp2
  go_loop [3] (fun i => ∃ k : Nat, k ≤ s.size ∧ i = .int .i64 k ∧ bytesOk s.data.toList = bytesOk (s.data.toList.drop k)) (fun i => s.size - (intOf i).toNat)
  case atStart => exact ⟨0, Nat.zero_le _, rfl, rfl⟩
  case round =>
    obtain ⟨k, hk, rfl, hf⟩ := hrel
    by_cases hlt : k < s.size
    · rw [bytesOk_drop s k hlt] at hf
      have HF := Lib.hid hf
      clear hf
      by_cases h1 : (s[k].toNat : Int) < 32
      · have e1 : bytesOk s.data.toList = false := by rw [HF.out]; simp; omega
        have E1 := Lib.hid e1
        clear e1
        go_wp2
        go_ret
        refine ⟨ret_bool ?_, rfl⟩
        unfold nameOk
        rw [E1.out]; rfl
      · by_cases h2 : 126 < (s[k].toNat : Int)
        · have e1 : bytesOk s.data.toList = false := by rw [HF.out]; simp; omega
          have E1 := Lib.hid e1
          clear e1
          go_wp2
          go_ret
          refine ⟨ret_bool ?_, rfl⟩
          unfold nameOk
          rw [E1.out]; rfl
        · have e1 : bytesOk s.data.toList = bytesOk (s.data.toList.drop (k + 1)) := by rw [HF.out]; simp; omega
          have E1 := Lib.hid e1
          clear e1
          go_wp2
          go_round
          case rel => exact ⟨k + 1, by omega, by go_num, E1.out⟩
          case measure => simp [intOf]; omega
    · have e1 : bytesOk s.data.toList = true := by rw [hf, List.drop_of_length_le (by simp; omega)]; rfl
      have E1 := Lib.hid e1
      clear e1 hf
      go_wp2
      all_goals
        go_ret
        refine ⟨ret_bool ?_, rfl⟩
        unfold nameOk
        rw [E1.out]
        simp
        try omega

set_option maxHeartbeats 1000000 in
theorem ref05_Name_calls (s : ByteArray) (w : World) (hs : s.size ≤ 9223372036854775807) :
    Calls Try.prog 74 #[.string s] w fun e w' => e = .returned (.bool (nameOk s)) ∧ w = w' := by
  go_enter Try.func74, Try.ntmps74
  go_wp2
  go_loop [3] (fun i => ∃ k : Nat, k ≤ s.size ∧ i = .int .i64 k ∧ bytesOk s.data.toList = bytesOk (s.data.toList.drop k)) (fun i => s.size - (intOf i).toNat)
  case atStart => exact ⟨0, Nat.zero_le _, rfl, rfl⟩
  case round =>
    obtain ⟨k, hk, rfl, hf⟩ := hrel
    by_cases hlt : k < s.size
    · rw [bytesOk_drop s k hlt] at hf
      have HF := Lib.hid hf
      clear hf
      by_cases h1 : (s[k].toNat : Int) < 32
      · have e1 : bytesOk s.data.toList = false := by rw [HF.out]; simp; omega
        have E1 := Lib.hid e1
        clear e1
        go_wp2
        go_ret
        refine ⟨ret_bool ?_, rfl⟩
        unfold nameOk
        rw [E1.out]; rfl
      · by_cases h2 : 126 < (s[k].toNat : Int)
        · have e1 : bytesOk s.data.toList = false := by rw [HF.out]; simp; omega
          have E1 := Lib.hid e1
          clear e1
          go_wp2
          go_ret
          refine ⟨ret_bool ?_, rfl⟩
          unfold nameOk
          rw [E1.out]; rfl
        · have e1 : bytesOk s.data.toList = bytesOk (s.data.toList.drop (k + 1)) := by rw [HF.out]; simp; omega
          have E1 := Lib.hid e1
          clear e1
          go_wp2
          go_round
          case rel => exact ⟨k + 1, by omega, by go_num, E1.out⟩
          case measure => simp [intOf]; omega
    · have e1 : bytesOk s.data.toList = true := by rw [hf, List.drop_of_length_le (by simp; omega)]; rfl
      have E1 := Lib.hid e1
      clear e1 hf
      go_wp2
      all_goals
        go_ret
        refine ⟨ret_bool ?_, rfl⟩
        unfold nameOk
        rw [E1.out]
        simp
        try omega

set_option maxHeartbeats 400000 in
theorem ref05_within_calls (n a b : Int) (w : World) :
    Calls Try.prog 73 #[.int .i64 n, .int .i64 a, .int .i64 b] w fun e w' => e = .returned (.bool (decide (a ≤ n) && decide (n ≤ b))) ∧ w = w' := by
  go_enter Try.func73, Try.ntmps73
  go_wp2
  all_goals (go_ret; refine ⟨ret_bool ?_, rfl⟩; simp; omega)

/-- All numbers are in a range. -/
def allIn (a b : Int) (ns : List Int) : Bool := ns.all fun n => decide (a ≤ n) && decide (n ≤ b)
theorem allIn_drop (a b : Int) (ns : List Int) (k : Nat) (n : Int) (h : ns[k]? = some n) : allIn a b (ns.drop k) = (decide (a ≤ n) && decide (n ≤ b) && allIn a b (ns.drop (k + 1))) := by
  obtain ⟨hk, rfl⟩ := List.getElem?_eq_some_iff.1 h
  unfold allIn
  rw [List.drop_eq_getElem_cons hk, List.all_cons]

set_option maxHeartbeats 1000000 in
theorem font_within_calls (lo hi : Int) (ns : List Int) (b o c : Nat) (w : World) (hn : ns.length ≤ 1000000)
    (hc : ∀ i n, ns[i]? = some n → w.cell? ⟨b, o + i, none⟩ = some (.int .i64 n)) :
    Calls Try.prog 57 #[.int .i64 lo, .int .i64 hi, .slice (some ⟨b, o, none⟩) ns.length c] w fun e w' => e = .returned (.bool (allIn lo hi ns)) ∧ w = w' := by
  have HC := Lib.hid hc
  clear hc
  go_enter Try.func57, Try.ntmps57
  go_wp2
  go_loop [11] (fun i => ∃ k : Nat, k ≤ ns.length ∧ i = .int .i64 k ∧ allIn lo hi ns = allIn lo hi (ns.drop k)) (fun i => ns.length - (intOf i).toNat)
  case atStart => exact ⟨0, Nat.zero_le _, rfl, rfl⟩
  case round =>
    obtain ⟨k, hk, rfl, hf⟩ := hrel
    by_cases hlt : k < ns.length
    · obtain ⟨n, hg⟩ : ∃ n, ns[k]? = some n := ⟨ns[k], by simp [hlt]⟩
      have g0 := HC.out k n hg
      rw [allIn_drop lo hi ns k n hg] at hf
      have HF := Lib.hid hf
      clear hf hg
      by_cases h1 : n < lo
      · have E1 := Lib.hid (show allIn lo hi ns = false by rw [HF.out]; simp; omega)
        go_wp2
        go_ret
        exact ⟨ret_bool E1.out.symm, rfl⟩
      · by_cases h2 : hi < n
        · have E1 := Lib.hid (show allIn lo hi ns = false by rw [HF.out]; simp; omega)
          go_wp2
          go_ret
          exact ⟨ret_bool E1.out.symm, rfl⟩
        · have E1 := Lib.hid (show allIn lo hi ns = allIn lo hi (ns.drop (k + 1)) by rw [HF.out]; simp; omega)
          go_wp2
          go_round
          case rel => exact ⟨k + 1, by omega, by go_num, E1.out⟩
          case measure => simp [intOf]; omega
    · have E1 := Lib.hid (show allIn lo hi ns = true by rw [hf, List.drop_of_length_le (by omega)]; rfl)
      clear hf
      go_wp2
      go_ret
      exact ⟨ret_bool E1.out.symm, rfl⟩

set_option maxHeartbeats 1000000 in
theorem ref05_Scale_pos (n p : Int) (w : World) (h0 : 0 ≤ n) (h1 : n ≤ 1073741824) (p0 : 0 ≤ p) (p1 : p ≤ 10000) :
    Calls Try.prog 33 #[.int .i64 n, .int .i64 p] w fun e w' => e = .returned (.int .i64 (scl n p)) ∧ w = w' := by
  have hb := mul_bd (n := n) ⟨by omega, h1⟩ p0 p1
  have hp : 0 ≤ n * p := Int.mul_nonneg h0 p0
  have hs := Lib.hid (show scl n p = (2 * n * p + 100) / 200 by rw [scl_ok ⟨by omega, h1⟩ p0 p1]; unfold rdiv; rw [if_pos hp, Int.mul_assoc]; rfl)
  have hm : wrap64 (2 * n * p) = 2 * n * p := IntWalk.wrap64_in _ (by rw [Int.mul_assoc]; omega)
  have hq : 0 ≤ 2 * n * p ∧ 2 * n * p ≤ 21474836480000 := by rw [Int.mul_assoc]; omega
  go_enter Try.func33, Try.ntmps33
  go_wp2_with fail
  go_ret
  exact ⟨ret_int hs.out.symm, rfl⟩

set_option maxHeartbeats 1000000 in
theorem ref05_Scale_calls (n p : Int) (w : World) (h : -1073741824 ≤ n ∧ n ≤ 1073741824) (p0 : 0 ≤ p) (p1 : p ≤ 10000) :
    Calls Try.prog 33 #[.int .i64 n, .int .i64 p] w fun e w' => e = .returned (.int .i64 (scl n p)) ∧ w = w' := by
  by_cases h0 : 0 ≤ n
  · exact ref05_Scale_pos n p w h0 h.2 p0 p1
  · have hb := mul_bd (n := -n) (by omega) p0 p1
    have hp : 0 ≤ -n * p := Int.mul_nonneg (by omega) p0
    have hs := Lib.hid (show scl n p = - scl (-n) p by
      rw [scl_ok h p0 p1, scl_ok (by omega) p0 p1]
      have e : -n * p = -(n * p) := Int.neg_mul _ _
      rw [e] at hp ⊢
      unfold rdiv
      rw [if_pos hp]
      split <;> omega)
    have hr : -10737418240000 ≤ scl (-n) p ∧ scl (-n) p ≤ 10737418240000 := by
      rw [scl_ok (by omega) p0 p1]; unfold rdiv; rw [if_pos hp]; omega
    go_enter Try.func33, Try.ntmps33
    go_wp2_with fail
    refine (ref05_Scale_pos (-n) p _ (by omega) (by omega) p0 p1).mono ?_
    rintro e w' ⟨rfl, rfl⟩
    go_wp2_with fail
    go_ret
    exact ⟨ret_int hs.out.symm, rfl⟩

end Go.Proofs.Ytdbcdjiclkmknaa
namespace Go.Proofs.Ytdbcdjiclkmknaa
open Go.RowKit

attribute [local irreducible] wpQuiet wpList Code.wp

/-- A small slice literal. -/
theorem own_buildSlice {P : Program} {rest : List Oper} {ops' : Array Oper} {o : Oper} {a : Act} {Q : Exit → Act → World → Prop} {D : List Nat} {W w : World} {L : List (Nat × List Value)} (hgd : o.guard = none) (t e : TypeId) (len : Nat) (parts : Array (Nat × Operand)) (ho : o.op = .buildSlice t len parts) (cells : List Value) (hS : Own D W L w) (hu : P.underlying t = some (.slice e))
    (hf : P.builtSlice e len (parts.map fun (i, x) => (i, a.eval x)).toList = some cells.toArray)
    (h : ∀ b w', Own D W ((b, cells) :: L) w' → wpList P ops' Q rest (a.put o.dst (.slice (some ⟨b, 0, none⟩) len len)) w') : wpList P ops' Q (o :: rest) a w :=
  Great.wpList_buildSliceTo hgd t e len parts ho w.heap.size rfl o.dst rfl hu cells.toArray hf (h _ _ (hS.new cells e))

theorem font_within_has {lo hi : Int} (ns : List Int) {b c : Nat} {w : World} {v : Bool} (hh : Has w b (ns.map (Value.int .i64))) (hn : ns.length ≤ 1000000) (hv : allIn lo hi ns = v) :
    Calls Try.prog 57 #[.int .i64 lo, .int .i64 hi, .slice (some ⟨b, 0, none⟩) ns.length c] w fun e w' => e = .returned (.bool v) ∧ w = w' := by
  subst hv
  refine font_within_calls lo hi ns b 0 c w hn fun i n hi => ?_
  rw [hh.cell, Nat.zero_add, List.getElem?_map, hi]
  rfl

/-- The lengths among the parameters; the percentages. -/
@[reducible] def Fnt.lens (F : Fnt) : List Int := [F.quad, F.xheight, F.axis, F.rule, F.num1, F.num2, F.den1, F.den2, F.sup1, F.sup2, F.sup3, F.sub1, F.sub2, F.supdrop, F.subdrop, F.dshort, F.acc]
@[reducible] def Fnt.pers (F : Fnt) : List Int := [F.script, F.sscript, F.dpercent]
def prmOk (F : Fnt) : Bool := allIn 1 100 F.pers && allIn 0 20000 F.lens

instance rt_params : RowTy Try.prog 25 20 := ⟨⟨_, Try.underlying25, rfl⟩, by kernel_rfl⟩

set_option maxHeartbeats 4000000 in
set_option maxRecDepth 100000 in
theorem font_validParams_no (F : Fnt) (w : World) (h : allIn 1 100 F.pers = false) : Calls Try.prog 55 #[.agg F.prm.toArray] w (Gives (.bool false) w) := by
  have HV := Lib.hid h
  clear h
  go_enter Try.func55, Try.ntmps55
  have hS := own_start w
  go_wp2_with (first|(refine own_unguard (by rfl) ?_)|(refine own_buildSlice rfl _ _ 3 _ rfl [.int .i64 F.script, .int .i64 F.sscript, .int .i64 F.dpercent] hS Try.underlying31 (by kernel_rfl) ?_;clear hS;(try clear ww);intro bb ww hS)|(go_at_call 57;refine own_callsS hS (font_within_has F.pers (hS.get at0) (by simp) HV.out) ?_)|(refine w_ld rfl _ rfl (by rfl) (by first|exact rd_1 (by repeat constructor) (by first|rfl|assumption)|exact rd_w (by repeat constructor) (by rfl)|((first|refine rd_o ‹_› (by rfl) ?_|refine rd_h ‹_› (by rfl) ?_|refine rd_1o ‹_› ?_|refine rd_1h ‹_› (by first|rfl|assumption) ?_);first|exact nmn|assumption|simp)) hS ?_)|(refine own_box rfl _ _ rfl (by rfl) hS ?_;clear hS;(try clear ww);intro bb ww hS)|((first|refine w_st rfl _ _ rfl (by rfl) (by rfl) (by repeat constructor) (by rfl) (by rfl) (by first|rfl|assumption) hS ?_|refine w_s1 rfl _ _ rfl (by rfl) (by repeat constructor) (by first|exact .c|exact .t rfl) (by rfl) (by repeat constructor) hS ?_);clear hS;(try clear ww);intro ww hS))
  go_ret
  exact own_gives hS

set_option maxHeartbeats 4000000 in
set_option maxRecDepth 100000 in
theorem font_validParams_yes (F : Fnt) (w : World) (v : Bool) (h : allIn 1 100 F.pers = true) (h2 : allIn 0 20000 F.lens = v) : Calls Try.prog 55 #[.agg F.prm.toArray] w (Gives (.bool v) w) := by
  have HV := Lib.hid h
  have HL := Lib.hid h2
  have tok1 : True := trivial
  clear h h2
  go_enter Try.func55, Try.ntmps55
  have hS := own_start w
  go_wp2_with (first|(refine own_unguard (by rfl) ?_)|(refine own_buildSlice rfl _ _ 3 _ rfl [.int .i64 F.script, .int .i64 F.sscript, .int .i64 F.dpercent] hS Try.underlying31 (by kernel_rfl) ?_;clear hS;(try clear ww);intro bb ww hS)|(refine own_buildSlice rfl _ _ 17 _ rfl (F.lens.map (Value.int .i64)) hS Try.underlying31 (by kernel_rfl) ?_;clear hS;(try clear ww);intro bb ww hS)|(go_at_call 57;have _t := tok1;refine own_callsS hS (font_within_has F.pers (hS.get at0) (by simp) HV.out) ?_;clear tok1)|(go_at_call 57;refine own_callsS hS (font_within_has F.lens (hS.get at0) (by simp) HL.out) ?_)|(refine w_ld rfl _ rfl (by rfl) (by first|exact rd_1 (by repeat constructor) (by first|rfl|assumption)|exact rd_w (by repeat constructor) (by rfl)|((first|refine rd_o ‹_› (by rfl) ?_|refine rd_h ‹_› (by rfl) ?_|refine rd_1o ‹_› ?_|refine rd_1h ‹_› (by first|rfl|assumption) ?_);first|exact nmn|assumption|simp)) hS ?_)|(refine own_box rfl _ _ rfl (by rfl) hS ?_;clear hS;(try clear ww);intro bb ww hS)|((first|refine w_st rfl _ _ rfl (by rfl) (by rfl) (by repeat constructor) (by rfl) (by rfl) (by first|rfl|assumption) hS ?_|refine w_s1 rfl _ _ rfl (by rfl) (by repeat constructor) (by first|exact .c|exact .t rfl) (by rfl) (by repeat constructor) hS ?_);clear hS;(try clear ww);intro ww hS))
  go_ret
  exact own_gives hS

theorem font_validParams_calls (F : Fnt) (w : World) : Calls Try.prog 55 #[.agg F.prm.toArray] w (Gives (.bool (prmOk F)) w) := by
  unfold prmOk
  cases h : allIn 1 100 F.pers
  · exact font_validParams_no F w h
  · exact font_validParams_yes F w _ h rfl

end Go.Proofs.Ytdbcdjiclkmknaa
namespace Go.Proofs.Ytdbcdjiclkmknaa
open Go.RowKit

attribute [local irreducible] wpQuiet wpList Code.wp

theorem ref05_within_v {n a b : Int} {v : Bool} {w : World} (hv : Hid ((decide (a ≤ n) && decide (n ≤ b)) = v)) :
    Calls Try.prog 73 #[.int .i64 n, .int .i64 a, .int .i64 b] w fun e w' => e = .returned (.bool v) ∧ w = w' := by
  have := ref05_within_calls n a b w
  rwa [hv.out] at this

theorem allIn_three (a b c : Int) : allIn 1 100 [a, b, c] = ((decide (1 ≤ a) && decide (a ≤ 100)) && ((decide (1 ≤ b) && decide (b ≤ 100)) && (decide (1 ≤ c) && decide (c ≤ 100)))) := by
  simp [allIn]

set_option maxHeartbeats 4000000 in
set_option maxRecDepth 100000 in
theorem ref05_Params_calls (F : Fnt) (w : World) : Calls Try.prog 63 #[.agg F.prm.toArray] w (Gives (.bool (prmOk F)) w) := by
  have HN := Lib.hid (show F.lens.length = 17 from rfl)
  obtain ⟨lens, HLe⟩ : ∃ l, Hid (l = F.lens) := ⟨_, rfl⟩
  have hlen : lens.length ≤ 17 ∧ 17 ≤ lens.length := by rw [HLe.out]; exact ⟨Nat.le_refl _, Nat.le_refl _⟩
  go_enter Try.func63, Try.ntmps63
  have hS := own_start w
  go_wp2_with (first|(refine own_unguard (by rfl) ?_)|(refine own_buildSlice rfl _ _ 17 _ rfl (F.lens.map (Value.int .i64)) hS Try.underlying31 (by kernel_rfl) ?_;rw [← HLe.out];clear hS;(try clear ww);intro bb ww hS)|(refine w_ld rfl _ rfl (by rfl) (by first|exact rd_1 (by repeat constructor) (by first|rfl|assumption)|exact rd_w (by repeat constructor) (by rfl)|((first|refine rd_o ‹_› (by rfl) ?_|refine rd_h ‹_› (by rfl) ?_|refine rd_1o ‹_› ?_|refine rd_1h ‹_› (by first|rfl|assumption) ?_);first|exact nmn|assumption|simp)) hS ?_)|(refine own_box rfl _ _ rfl (by rfl) hS ?_;clear hS;(try clear ww);intro bb ww hS)|((first|refine w_st rfl _ _ rfl (by rfl) (by rfl) (by repeat constructor) (by rfl) (by rfl) (by first|rfl|assumption) hS ?_|refine w_s1 rfl _ _ rfl (by rfl) (by repeat constructor) (by first|exact .c|exact .t rfl) (by rfl) (by repeat constructor) hS ?_);clear hS;(try clear ww);intro ww hS))
  obtain ⟨L0, HL, hS⟩ := hS.named
  go_loopw [4] (fun i wr => ∃ k : Nat, k ≤ 17 ∧ i = .int .i64 k ∧ allIn 0 20000 lens = allIn 0 20000 (lens.drop k) ∧ Own [] w L0 wr) (fun i _ => 17 - (intOf i).toNat)
  case atStart => exact ⟨0, Nat.zero_le _, rfl, rfl, hS⟩
  case round =>
    clear hS
    obtain ⟨k, hk, rfl, hf, hS⟩ := hrel
    obtain rfl := HL.out
    clear HL
    by_cases hlt : k < 17
    · obtain ⟨n, hn⟩ : ∃ n, lens[k]? = some n := ⟨lens[k], by simp⟩
      rw [allIn_drop 0 20000 lens k n hn] at hf
      have HE := Lib.hid hf
      have hcell : (lens.map (Value.int .i64))[k]? = some (.int .i64 n) := by rw [List.getElem?_map, hn]; rfl
      clear hf hn
      cases hb : (decide (0 ≤ n) && decide (n ≤ 20000))
      · have HB := Lib.hid hb
        have E1 := Lib.hid (show prmOk F = false by unfold prmOk; rw [← HLe.out, HE.out, hb]; simp)
        clear hb HE
        go_wp2_with (first|(refine own_unguard (by rfl) ?_)|(go_at_call 73;refine own_callsS hS (ref05_within_v HB) ?_)|(refine w_ld rfl _ rfl (by rfl) (by first|exact rd_1 (by repeat constructor) (by first|rfl|assumption)|exact rd_w (by repeat constructor) (by rfl)|((first|refine rd_o ‹_› (by rfl) ?_|refine rd_h ‹_› (by rfl) ?_|refine rd_1o ‹_› ?_|refine rd_1h ‹_› (by first|rfl|assumption) ?_);first|exact nmn|assumption|simp)) hS ?_)|(refine own_box rfl _ _ rfl (by rfl) hS ?_;clear hS;(try clear ww);intro bb ww hS)|((first|refine w_st rfl _ _ rfl (by rfl) (by rfl) (by repeat constructor) (by rfl) (by rfl) (by first|rfl|assumption) hS ?_|refine w_s1 rfl _ _ rfl (by rfl) (by repeat constructor) (by first|exact .c|exact .t rfl) (by rfl) (by repeat constructor) hS ?_);clear hS;(try clear ww);intro ww hS))
        go_ret
        exact ⟨ret_bool E1.out.symm, hS.below⟩
      · have HB := Lib.hid hb
        have E1 := Lib.hid (show allIn 0 20000 lens = allIn 0 20000 (lens.drop (k + 1)) by rw [HE.out, hb]; simp)
        clear hb HE
        go_wp2_with (first|(refine own_unguard (by rfl) ?_)|(go_at_call 73;refine own_callsS hS (ref05_within_v HB) ?_)|(refine w_ld rfl _ rfl (by rfl) (by first|exact rd_1 (by repeat constructor) (by first|rfl|assumption)|exact rd_w (by repeat constructor) (by rfl)|((first|refine rd_o ‹_› (by rfl) ?_|refine rd_h ‹_› (by rfl) ?_|refine rd_1o ‹_› ?_|refine rd_1h ‹_› (by first|rfl|assumption) ?_);first|exact nmn|assumption|simp)) hS ?_)|(refine own_box rfl _ _ rfl (by rfl) hS ?_;clear hS;(try clear ww);intro bb ww hS)|((first|refine w_st rfl _ _ rfl (by rfl) (by rfl) (by repeat constructor) (by rfl) (by rfl) (by first|rfl|assumption) hS ?_|refine w_s1 rfl _ _ rfl (by rfl) (by repeat constructor) (by first|exact .c|exact .t rfl) (by rfl) (by repeat constructor) hS ?_);clear hS;(try clear ww);intro ww hS))
        go_roundw
        case rel => exact ⟨k + 1, hlt, by go_num, E1.out, hS⟩
        case measure => exact loop_meas hlt
    · have E0 := Lib.hid (show prmOk F = allIn 1 100 [F.script, F.sscript, F.dpercent] by
        unfold prmOk
        rw [← HLe.out, hf, List.drop_of_length_le (by omega)]
        exact Bool.and_true _)
      clear hf
      rw [allIn_three] at E0
      cases hb1 : (decide (1 ≤ F.script) && decide (F.script ≤ 100)) <;> cases hb2 : (decide (1 ≤ F.sscript) && decide (F.sscript ≤ 100)) <;> cases hb3 : (decide (1 ≤ F.dpercent) && decide (F.dpercent ≤ 100))
      all_goals
        rw [hb1, hb2, hb3] at E0
        have B1 := Lib.hid hb1
        have B2 := Lib.hid hb2
        have B3 := Lib.hid hb3
        clear hb1 hb2 hb3
        go_wp2_with (first|(refine own_unguard (by rfl) ?_)|(go_at_call 73;refine own_callsS hS (ref05_within_v B1) ?_)|(go_at_call 73;refine own_callsS hS (ref05_within_v B2) ?_)|(go_at_call 73;refine own_callsS hS (ref05_within_v B3) ?_)|(refine w_ld rfl _ rfl (by rfl) (by first|exact rd_1 (by repeat constructor) (by first|rfl|assumption)|exact rd_w (by repeat constructor) (by rfl)|((first|refine rd_o ‹_› (by rfl) ?_|refine rd_h ‹_› (by rfl) ?_|refine rd_1o ‹_› ?_|refine rd_1h ‹_› (by first|rfl|assumption) ?_);first|exact nmn|assumption|simp)) hS ?_)|(refine own_box rfl _ _ rfl (by rfl) hS ?_;clear hS;(try clear ww);intro bb ww hS)|((first|refine w_st rfl _ _ rfl (by rfl) (by rfl) (by repeat constructor) (by rfl) (by rfl) (by first|rfl|assumption) hS ?_|refine w_s1 rfl _ _ rfl (by rfl) (by repeat constructor) (by first|exact .c|exact .t rfl) (by rfl) (by repeat constructor) hS ?_);clear hS;(try clear ww);intro ww hS))
        go_ret
        exact ⟨ret_bool E0.out.symm, hS.below⟩

end Go.Proofs.Ytdbcdjiclkmknaa
namespace Go.Proofs.Ytdbcdjiclkmknaa
open Go.RowKit

/-- The metrics of a glyph. -/
def Gly.nums (g : Gly) : List Int := [g.w, g.h, g.d, g.it, g.at_]
/-- All metrics are at most 20000. -/
def metricsOk (g : Gly) : Bool := allIn (-20000) 20000 g.nums
/-- A scaled glyph. -/
def sclG (g : Gly) (p : Int) : Gly := { name := g.name, w := scl g.w p, h := scl g.h p, d := scl g.d p, it := scl g.it p, at_ := scl g.at_ p }
def zeroG : Gly := { name := ⟨#[]⟩, w := 0, h := 0, d := 0, it := 0, at_ := 0 }
/-- The error of Scaled. -/
def scaledErr (g : Gly) (p : Int) : Int := if 1 ≤ p ∧ p ≤ 1000 then (if metricsOk g = true then 0 else 1) else 2
def scaledG (g : Gly) (p : Int) : Gly := if scaledErr g p = 0 then sclG g p else zeroG
/-- A glyph and a number, as a result. -/
def gePair (g : Gly) (e : Int) : Value := .tuple #[.agg #[.string g.name, .int .i64 g.w, .int .i64 g.h, .int .i64 g.d, .int .i64 g.it, .int .i64 g.at_], .int .i64 e]

theorem metricsOk_bd {g : Gly} (h : metricsOk g = true) : (-20000 ≤ g.w ∧ g.w ≤ 20000) ∧ (-20000 ≤ g.h ∧ g.h ≤ 20000) ∧ (-20000 ≤ g.d ∧ g.d ≤ 20000) ∧ (-20000 ≤ g.it ∧ g.it ≤ 20000) ∧ (-20000 ≤ g.at_ ∧ g.at_ ≤ 20000) := by
  simp [metricsOk, allIn, Gly.nums] at h
  omega

set_option maxHeartbeats 400000 in
theorem scaled1_calls (n p : Int) (a : Addr) (w : World) (h : w.cell? a = some (.int .i64 p)) :
    Calls Try.prog 61 #[.int .i64 n, .pointer (some a)] w (Draws (.int .i64 (scl n p)) w) := by
  go_enter Try.func61, Try.ntmps61
  go_wp2_with fail
  refine (length_Scale_calls n p _).mono ?_
  rintro e w' ⟨rfl, m, rfl⟩
  go_wp2_with fail
  go_ret
  exact ⟨rfl, m, rfl⟩

theorem scaled1_gives (n p : Int) (a : Addr) (w : World) (h : w.cell? a = some (.int .i64 p)) :
    Calls Try.prog 61 #[.int .i64 n, .pointer (some a)] w (Gives (.int .i64 (scl n p)) w) := (scaled1_calls n p a w h).mono fun _ _ h => h.gives

theorem within_one {w : World} {b : Nat} {n : Int} (h : w.cell? ⟨b, 0, none⟩ = some (.int .i64 n)) : ∀ i m, [n][i]? = some m → w.cell? ⟨b, 0 + i, none⟩ = some (.int .i64 m) := by
  intro i m hi
  rcases i with _ | i
  · simp at hi; subst hi; exact h
  · simp at hi

theorem within_five {w : World} {b : Nat} {n0 n1 n2 n3 n4 : Int} (h0 : w.cell? ⟨b, 0, none⟩ = some (.int .i64 n0)) (h1 : w.cell? ⟨b, 1, none⟩ = some (.int .i64 n1)) (h2 : w.cell? ⟨b, 2, none⟩ = some (.int .i64 n2))
    (h3 : w.cell? ⟨b, 3, none⟩ = some (.int .i64 n3)) (h4 : w.cell? ⟨b, 4, none⟩ = some (.int .i64 n4)) : ∀ i m, [n0, n1, n2, n3, n4][i]? = some m → w.cell? ⟨b, 0 + i, none⟩ = some (.int .i64 m) := by
  intro i m hi
  rcases i with _ | _ | _ | _ | _ | i <;> simp at hi
  · subst hi; exact h0
  · subst hi; exact h1
  · subst hi; exact h2
  · subst hi; exact h3
  · subst hi; exact h4

set_option maxHeartbeats 2000000 in
theorem font_Scaled_range (g : Gly) (p : Int) (w : World) (hp : ¬ (1 ≤ p ∧ p ≤ 1000)) :
    Calls Try.prog 44 #[.agg #[.string g.name, .int .i64 g.w, .int .i64 g.h, .int .i64 g.d, .int .i64 g.it, .int .i64 g.at_], .int .i64 p] w (Gives (gePair zeroG 2) w) := by
  have hr : allIn 1 1000 [p] = false := by simp [allIn]; omega
  go_enter Try.func44, Try.ntmps44
  go_wp2_with fail
  refine (font_within_calls 1 1000 [p] _ 0 1 _ (by simp) (within_one (by simp [go_sem]))).mono ?_
  rintro e w' ⟨rfl, rfl⟩
  go_wp2_with fail
  refine bodyPost_ret (v := gePair zeroG 2) (by simp [results, Try.results44, gePair, zeroG, go_sem]) rfl ⟨rfl, bnew (bnew (bnew (bnew (bself w) _) _) _) _⟩

set_option maxHeartbeats 2000000 in
theorem font_Scaled_arg (g : Gly) (p : Int) (w : World) (hp : 1 ≤ p ∧ p ≤ 1000) (hm : metricsOk g = false) :
    Calls Try.prog 44 #[.agg #[.string g.name, .int .i64 g.w, .int .i64 g.h, .int .i64 g.d, .int .i64 g.it, .int .i64 g.at_], .int .i64 p] w (Gives (gePair zeroG 1) w) := by
  have hr : allIn 1 1000 [p] = true := by simp [allIn]; omega
  have hm' : allIn (-20000) 20000 [g.w, g.h, g.d, g.it, g.at_] = false := hm
  clear hm
  go_enter Try.func44, Try.ntmps44
  go_wp2_with fail
  refine (font_within_calls 1 1000 [p] _ 0 1 _ (by simp) (within_one (by simp [go_sem]))).mono ?_
  rintro e w' ⟨rfl, rfl⟩
  go_wp2_with fail
  refine (font_within_calls (-20000) 20000 [g.w, g.h, g.d, g.it, g.at_] _ 0 5 _ (by simp) (within_five (by simp [go_sem]) (by simp [go_sem]) (by simp [go_sem]) (by simp [go_sem]) (by simp [go_sem]))).mono ?_
  rintro e w' ⟨rfl, rfl⟩
  go_wp2_with fail
  refine bodyPost_ret (v := gePair zeroG 1) (by simp [results, Try.results44, gePair, zeroG, go_sem]) rfl ⟨rfl, bnew (bnew (bnew (bnew (bnew (bself w) _) _) _) _) _⟩

set_option maxHeartbeats 4000000 in
theorem font_Scaled_ok (g : Gly) (p : Int) (w : World) (hp : 1 ≤ p ∧ p ≤ 1000) (hm : metricsOk g = true) :
    Calls Try.prog 44 #[.agg #[.string g.name, .int .i64 g.w, .int .i64 g.h, .int .i64 g.d, .int .i64 g.it, .int .i64 g.at_], .int .i64 p] w (Gives (gePair (sclG g p) 0) w) := by
  have hr : allIn 1 1000 [p] = true := by simp [allIn]; omega
  have hm' : allIn (-20000) 20000 [g.w, g.h, g.d, g.it, g.at_] = true := hm
  clear hm
  go_enter Try.func44, Try.ntmps44
  go_wp2_with fail
  refine (font_within_calls 1 1000 [p] _ 0 1 _ (by simp) (within_one (by simp [go_sem]))).mono ?_
  rintro e w' ⟨rfl, rfl⟩
  go_wp2_with fail
  refine (font_within_calls (-20000) 20000 [g.w, g.h, g.d, g.it, g.at_] _ 0 5 _ (by simp) (within_five (by simp [go_sem]) (by simp [go_sem]) (by simp [go_sem]) (by simp [go_sem]) (by simp [go_sem]))).mono ?_
  rintro e w' ⟨rfl, rfl⟩
  go_wp2_with fail
  refine wp_region_cls_tail [(⟨w.heap.size, 0, none⟩, .string g.name), (⟨w.heap.size, 1, none⟩, .int .i64 g.w), (⟨w.heap.size, 2, none⟩, .int .i64 g.h), (⟨w.heap.size, 3, none⟩, .int .i64 g.d), (⟨w.heap.size, 4, none⟩, .int .i64 g.it), (⟨w.heap.size, 5, none⟩, .int .i64 g.at_), (⟨w.heap.size + 1, 0, none⟩, .int .i64 p)] 23 (by kernel_rfl) (by kernel_rfl) (by simp [go_sem]) (fun C hC => ?_)
  simp only [List.take_succ_cons, List.take_zero, List.drop_succ_cons, List.drop_zero]
  repeat (first
      | (refine quiet_plain (by with_reducible rfl) ?_
         apply Exists.intro
         refine ⟨?_, ?_⟩
         focus (intro wq hq;have hc := hC.cells _ hq;simp at hc;go_simp;first|(go_at_call 61;exact hC.call hq (scaled1_gives _ p _ _ hc.2.2.2.2.2.2))|(with_reducible rfl))
         simp only [Act.put, List.setIfInBounds_toArray, List.set_cons_zero, List.set_cons_succ])
      | (refine quiet_at (by with_reducible rfl) (by rfl) (by rfl) (by simp only [List.getElem?_toArray, List.getElem?_cons_succ, List.getElem?_cons_zero];rfl) ?_
         first|(with_reducible refine QG_tt ?_)|(with_reducible refine QG_ff ?_)
         apply Exists.intro
         refine ⟨?_, ?_⟩
         focus (intro wq hq;have hc := hC.cells _ hq;simp at hc;go_simp;first|(go_at_call 61;exact hC.call hq (scaled1_gives _ p _ _ hc.2.2.2.2.2.2))|(with_reducible rfl))
         simp only [Act.put, List.setIfInBounds_toArray, List.set_cons_zero, List.set_cons_succ])
      | (refine quiet_at (by with_reducible rfl) (by rfl) (by rfl) (by simp only [List.getElem?_toArray, List.getElem?_cons_succ, List.getElem?_cons_zero];rfl) ?_
         first|(with_reducible refine QG_tf ?_)|(with_reducible refine QG_ft ?_)|(with_reducible refine QG_u ?_)
         simp only [Act.put, List.setIfInBounds_toArray, List.set_cons_zero, List.set_cons_succ]))
  refine wpQuiet_nil ?_
  intro wz hz
  have hbz := hC.below _ hz
  have d0 := hbz.cell (p := ⟨w.heap.size + 1 + 1, 0, none⟩) (by go_size)
  have d1 := hbz.cell (p := ⟨w.heap.size + 1 + 1, 1, none⟩) (by go_size)
  have d2 := hbz.cell (p := ⟨w.heap.size + 1 + 1, 2, none⟩) (by go_size)
  have d3 := hbz.cell (p := ⟨w.heap.size + 1 + 1, 3, none⟩) (by go_size)
  have d4 := hbz.cell (p := ⟨w.heap.size + 1 + 1, 4, none⟩) (by go_size)
  have d5 := hbz.cell (p := ⟨w.heap.size + 1 + 1, 5, none⟩) (by go_size)
  have f0 := hbz.frozen (p := ⟨w.heap.size + 1 + 1, 0, none⟩) (by go_size)
  have f1 := hbz.frozen (p := ⟨w.heap.size + 1 + 1, 1, none⟩) (by go_size)
  have f2 := hbz.frozen (p := ⟨w.heap.size + 1 + 1, 2, none⟩) (by go_size)
  have f3 := hbz.frozen (p := ⟨w.heap.size + 1 + 1, 3, none⟩) (by go_size)
  have f4 := hbz.frozen (p := ⟨w.heap.size + 1 + 1, 4, none⟩) (by go_size)
  have f5 := hbz.frozen (p := ⟨w.heap.size + 1 + 1, 5, none⟩) (by go_size)
  simp [go_sem] at d0 d1 d2 d3 d4 d5 f0 f1 f2 f3 f4 f5
  go_wp2_with fail
  refine bodyPost_ret (v := gePair (sclG g p) 0) (by simp [results, Try.results44, gePair, sclG, go_sem, *]) rfl ⟨rfl, ?_⟩
  have hb0 := bthen (bnew (bnew (bnew (bnew (bnew (bself w) _) _) _) _) _) hbz
  clear hbz
  repeat (first|(with_reducible exact hb0)|(with_reducible refine Below.setCell ?_ ?_ _)|go_size)

theorem font_Scaled_calls (g : Gly) (p : Int) (w : World) :
    Calls Try.prog 44 #[.agg #[.string g.name, .int .i64 g.w, .int .i64 g.h, .int .i64 g.d, .int .i64 g.it, .int .i64 g.at_], .int .i64 p] w (Gives (gePair (scaledG g p) (scaledErr g p)) w) := by
  unfold scaledG scaledErr
  by_cases hp : 1 ≤ p ∧ p ≤ 1000
  · rw [if_pos hp]
    cases hm : metricsOk g
    · exact font_Scaled_arg g p w hp hm
    · exact font_Scaled_ok g p w hp hm
  · rw [if_neg hp]
    exact font_Scaled_range g p w hp

end Go.Proofs.Ytdbcdjiclkmknaa
namespace Go.Proofs.Ytdbcdjiclkmknaa
open Go.RowKit



set_option maxHeartbeats 2000000 in
theorem ref05_metrics_calls (g : Gly) (w : World) :
    Calls Try.prog 75 #[.agg #[.string g.name, .int .i64 g.w, .int .i64 g.h, .int .i64 g.d, .int .i64 g.it, .int .i64 g.at_]] w (Gives (.bool (metricsOk g)) w) := by
  obtain ⟨ns, hns⟩ : ∃ ns, ns = g.nums := ⟨_, rfl⟩
  have hm := Lib.hid (show metricsOk g = allIn (-20000) 20000 ns by rw [hns]; rfl)
  have hlen : ns.length = 5 := by rw [hns]; rfl
  have hat : ∀ k n, ns[k]? = some n → ((w.alloc (.cells #[.string g.name, .int .i64 g.w, .int .i64 g.h, .int .i64 g.d, .int .i64 g.it, .int .i64 g.at_] 65)).alloc (.cells #[.int .i64 g.w, .int .i64 g.h, .int .i64 g.d, .int .i64 g.it, .int .i64 g.at_] 3)).cell? ⟨w.heap.size + 1, k, none⟩ = some (.int .i64 n) := by
    intro k n hk
    rw [hns] at hk
    simp only [Gly.nums] at hk
    rcases k with _ | _ | _ | _ | _ | k <;> simp at hk <;> subst hk <;> simp [go_sem]
  have HAT := Lib.hid hat
  have HLEN := Lib.hid hlen
  clear hat hns hlen
  go_enter Try.func75, Try.ntmps75
  go_wp2_with fail
  generalize hW : (w.alloc (.cells #[.string g.name, .int .i64 g.w, .int .i64 g.h, .int .i64 g.d, .int .i64 g.it, .int .i64 g.at_] 65)).alloc (.cells #[.int .i64 g.w, .int .i64 g.h, .int .i64 g.d, .int .i64 g.it, .int .i64 g.at_] 3) = W at *
  have hb : Below w.heap.size w W := by rw [← hW]; exact bnew (bnew (bself w) _) _
  clear hW
  go_loop [4] (fun i => ∃ k : Nat, k ≤ 5 ∧ i = .int .i64 k ∧ allIn (-20000) 20000 ns = allIn (-20000) 20000 (ns.drop k)) (fun i => 5 - (intOf i).toNat)
  case atStart => exact ⟨0, Nat.zero_le _, rfl, rfl⟩
  case round =>
    obtain ⟨k, hk, rfl, hf⟩ := hrel
    by_cases hlt : k < 5
    · obtain ⟨n, hg⟩ : ∃ n, ns[k]? = some n := ⟨ns[k]'(by rw [HLEN.out]; omega), by simp [HLEN.out, hlt]⟩
      have g0 := HAT.out k n hg
      rw [allIn_drop _ _ ns k n hg] at hf
      have HF := Lib.hid hf
      clear hf hg
      by_cases h1 : (decide (-20000 ≤ n) && decide (n ≤ 20000)) = true
      · have E1 := Lib.hid (show allIn (-20000) 20000 ns = allIn (-20000) 20000 (ns.drop (k + 1)) by rw [HF.out, h1, Bool.true_and])
        go_wp2_with fail
        refine (ref05_within_calls _ _ _ _).mono ?_
        rintro e w' ⟨rfl, rfl⟩
        go_wp2_with fail
        go_round
        case rel => exact ⟨k + 1, by omega, by go_num, E1.out⟩
        case measure => simp [intOf]; omega
      · have h1' : (decide (-20000 ≤ n) && decide (n ≤ 20000)) = false := by simpa using h1
        have E1 := Lib.hid (show allIn (-20000) 20000 ns = false by rw [HF.out, h1', Bool.false_and])
        clear h1
        go_wp2_with fail
        refine (ref05_within_calls _ _ _ _).mono ?_
        rintro e w' ⟨rfl, rfl⟩
        go_wp2_with fail
        go_ret
        refine ⟨ret_bool ?_, hb⟩
        rw [hm.out, E1.out]
    · have E1 := Lib.hid (show allIn (-20000) 20000 ns = true by rw [hf, List.drop_of_length_le (by rw [HLEN.out]; omega)]; rfl)
      clear hf
      go_wp2_with fail
      go_ret
      refine ⟨ret_bool ?_, hb⟩
      rw [hm.out, E1.out]





theorem ref05_Scale_gives (n p : Int) (w : World) (h : -20000 ≤ n ∧ n ≤ 20000) (p0 : 1 ≤ p ∧ p ≤ 1000) :
    Calls Try.prog 33 #[.int .i64 n, .int .i64 p] w (Gives (.int .i64 (scl n p)) w) :=
  (ref05_Scale_calls n p w (by omega) (by omega) (by omega)).mono fun _ _ ⟨he, hw⟩ => ⟨he, hw ▸ bself w⟩





end Go.Proofs.Ytdbcdjiclkmknaa
namespace Go.Proofs.Ytdbcdjiclkmknaa
open Go.RowKit

attribute [local irreducible] wpQuiet wpList Code.wp

/-- A glyph by itself. -/
def gIn (g : Gly) : Bool := nameOk g.name && metricsOk g && decide (0 ≤ g.w)
/-- No glyph ahead has its name. -/
def freshG (gs : List Gly) (k : Nat) (g : Gly) : Prop := ∀ j, j < k → ∀ g', gs[j]? = some g' → (g'.name.toList == g.name.toList) = false
/-- All glyphs are as required. -/
def GlysOk (gs : List Gly) : Prop := ∀ k g, gs[k]? = some g → gIn g = true ∧ freshG gs k g

theorem GlysOk.not_in {gs : List Gly} {k : Nat} {g : Gly} {b : Bool} (hb : Hid (b = true ↔ GlysOk gs)) (h : gs[k]? = some g) (hn : gIn g = false) : false = b := by
  cases b
  · rfl
  · have := (hb.out.1 rfl k g h).1
    rw [hn] at this; cases this
theorem GlysOk.not_fresh {gs : List Gly} {k j : Nat} {g g' : Gly} {b : Bool} (hb : Hid (b = true ↔ GlysOk gs)) (h : gs[k]? = some g) (hj : j < k) (h' : gs[j]? = some g') (hn : (g'.name.toList == g.name.toList) = true) : false = b := by
  cases b
  · rfl
  · have := (hb.out.1 rfl k g h).2 j hj g' h'
    rw [hn] at this; cases this
theorem GlysOk.all {gs : List Gly} {b : Bool} (hb : Hid (b = true ↔ GlysOk gs)) (h : ∀ j, j < gs.length → ∀ g, gs[j]? = some g → gIn g = true ∧ freshG gs j g) : true = b :=
  (hb.out.2 fun k g hk => h k (List.getElem?_eq_some_iff.1 hk).1 g hk).symm
theorem glys_next {gs : List Gly} {k : Nat} {g : Gly} (h : Hid (∀ j, j < k → ∀ g, gs[j]? = some g → gIn g = true ∧ freshG gs j g)) (hg : gs[k]? = some g) (h1 : gIn g = true) (h2 : freshG gs k g) : ∀ j, j < k + 1 → ∀ g, gs[j]? = some g → gIn g = true ∧ freshG gs j g := by
  intro j hj g' hg'
  by_cases he : j = k
  · subst he
    rw [hg] at hg'
    cases hg'
    exact ⟨h1, h2⟩
  · exact h.out j (by omega) g' hg'

theorem ref05_Name_v {s : ByteArray} {w : World} {v : Bool} (hs : s.size ≤ maxLen) (hv : Hid (nameOk s = v)) : Calls Try.prog 74 #[.string s] w fun e w' => e = .returned (.bool v) ∧ w = w' := by
  have := ref05_Name_calls s w hs
  rwa [hv.out] at this
theorem ref05_metrics_v {g : Gly} {w : World} {v : Bool} (hv : Hid (metricsOk g = v)) : Calls Try.prog 75 #[.agg #[.string g.name, .int .i64 g.w, .int .i64 g.h, .int .i64 g.d, .int .i64 g.it, .int .i64 g.at_]] w (Gives (.bool v) w) := by
  have := ref05_metrics_calls g w
  rwa [hv.out] at this

set_option maxHeartbeats 8000000 in
set_option maxRecDepth 100000 in
theorem ref05_glyphs_calls (gx : Option Addr) (gc : Nat) (gs : List Gly) (w : World) (hr : RowAt w gx 6 Gly.cells gs) (hl : ∀ g ∈ gs, g.name.size ≤ maxLen) (hn : gs.length ≤ 1000000) (b : Bool) (hb : b = true ↔ GlysOk gs) :
    Calls Try.prog 64 #[.slice gx gs.length gc] w (Gives (.bool b) w) := by
  have HR := Lib.hid hr
  have HL := Lib.hid hl
  have HB := Lib.hid hb
  clear hr hl hb
  go_enter Try.func64, Try.ntmps64
  have hS := own_start w
  go_wp2_with (first|(refine own_unguard (by rfl) ?_)|(refine w_ld rfl _ rfl (by rfl) (by first|exact rd_1 (by repeat constructor) (by first|rfl|assumption)|exact rd_w (by repeat constructor) (by rfl)|((first|refine rd_o ‹_› (by rfl) ?_|refine rd_h ‹_› (by rfl) ?_|refine rd_1o ‹_› ?_|refine rd_1h ‹_› (by first|rfl|assumption) ?_);first|exact nmn|assumption|simp)) hS ?_)|(refine own_box rfl _ _ rfl (by rfl) hS ?_;clear hS;(try clear ww);intro bb ww hS)|((first|refine w_st rfl _ _ rfl (by rfl) (by rfl) (by repeat constructor) (by rfl) (by rfl) (by first|rfl|assumption) hS ?_|refine w_s1 rfl _ _ rfl (by rfl) (by repeat constructor) (by first|exact .c|exact .t rfl) (by rfl) (by repeat constructor) hS ?_);clear hS;(try clear ww);intro ww hS))
  go_loopw [3] (fun i wr => ∃ k : Nat, k ≤ gs.length ∧ i = .int .i64 k ∧ (∀ j, j < k → ∀ g, gs[j]? = some g → gIn g = true ∧ freshG gs j g) ∧ Own [] w [] wr) (fun i _ => gs.length - (intOf i).toNat)
  case atStart => exact ⟨0, Nat.zero_le _, rfl, fun j hj => absurd hj (Nat.not_lt_zero j), hS⟩
  case round =>
    clear hS
    obtain ⟨k, hk, rfl, hp, hS⟩ := hrel
    have HP := Lib.hid hp
    clear hp
    by_cases hlt : k < gs.length
    · obtain ⟨g, hg⟩ : ∃ g, gs[k]? = some g := ⟨gs[k], by simp [hlt]⟩
      obtain ⟨b0, o0, hx, r0⟩ := HR.out.get hg
      obtain rfl : gx = some ⟨b0, o0, none⟩ := hx
      have HG := Lib.hid hg
      have hsz := Lib.hid (HL.out g (List.mem_of_getElem? hg))
      clear hg
      have s0 : w.rangeAt b0 (o0 + k * 6) [.string g.name, .int .i64 g.w, .int .i64 g.h, .int .i64 g.d, .int .i64 g.it, .int .i64 g.at_] := r0
      have c0 : w.cell? ⟨b0, o0 + k * 6, none⟩ = some (.string g.name) := r0 0 _ rfl
      have c1 : w.cell? ⟨b0, o0 + k * 6 + 1, none⟩ = some (.int .i64 g.w) := r0 1 _ rfl
      clear r0
      cases h1 : nameOk g.name
      · have H1 := Lib.hid h1
        have E1 := Lib.hid (GlysOk.not_in HB HG.out (show gIn g = false by simp [gIn, h1]))
        clear h1
        go_wp2_with (first|(refine own_unguard (by rfl) ?_)|(go_at_call 74;refine own_callsS hS (ref05_Name_v hsz.out H1) ?_)|(refine w_ld rfl _ rfl (by rfl) (by first|exact rd_1 (by repeat constructor) (by first|rfl|assumption)|exact rd_w (by repeat constructor) (by rfl)|((first|refine rd_o ‹_› (by rfl) ?_|refine rd_h ‹_› (by rfl) ?_|refine rd_1o ‹_› ?_|refine rd_1h ‹_› (by first|rfl|assumption) ?_);first|exact nmn|assumption|simp)) hS ?_)|(refine own_box rfl _ _ rfl (by rfl) hS ?_;clear hS;(try clear ww);intro bb ww hS)|((first|refine w_st rfl _ _ rfl (by rfl) (by rfl) (by repeat constructor) (by rfl) (by rfl) (by first|rfl|assumption) hS ?_|refine w_s1 rfl _ _ rfl (by rfl) (by repeat constructor) (by first|exact .c|exact .t rfl) (by rfl) (by repeat constructor) hS ?_);clear hS;(try clear ww);intro ww hS))
        go_ret
        exact ⟨ret_bool E1.out, hS.below⟩
      · have H1 := Lib.hid h1
        cases h2 : metricsOk g
        · have H2 := Lib.hid h2
          have E1 := Lib.hid (GlysOk.not_in HB HG.out (show gIn g = false by simp [gIn, h2]))
          clear h1 h2
          go_wp2_with (first|(refine own_unguard (by rfl) ?_)|(go_at_call 74;refine own_callsS hS (ref05_Name_v hsz.out H1) ?_)|(go_at_call 75;refine own_calls hS (ref05_metrics_v (g := g) H2) ?_;clear hS;(try clear ww);intro ww hS)|(refine w_ld rfl _ rfl (by rfl) (by first|exact rd_1 (by repeat constructor) (by first|rfl|assumption)|exact rd_w (by repeat constructor) (by rfl)|((first|refine rd_o ‹_› (by rfl) ?_|refine rd_h ‹_› (by rfl) ?_|refine rd_1o ‹_› ?_|refine rd_1h ‹_› (by first|rfl|assumption) ?_);first|exact nmn|assumption|simp)) hS ?_)|(refine own_box rfl _ _ rfl (by rfl) hS ?_;clear hS;(try clear ww);intro bb ww hS)|((first|refine w_st rfl _ _ rfl (by rfl) (by rfl) (by repeat constructor) (by rfl) (by rfl) (by first|rfl|assumption) hS ?_|refine w_s1 rfl _ _ rfl (by rfl) (by repeat constructor) (by first|exact .c|exact .t rfl) (by rfl) (by repeat constructor) hS ?_);clear hS;(try clear ww);intro ww hS))
          go_ret
          exact ⟨ret_bool E1.out, hS.below⟩
        · have H2 := Lib.hid h2
          cases h3 : decide (g.w < 0)
          · have E1 := Lib.hid (show gIn g = true by simp at h3; simp [gIn, h1, h2, h3])
            clear h1 h2
            go_wp2_with (first|(refine own_unguard (by rfl) ?_)|(go_at_call 74;refine own_callsS hS (ref05_Name_v hsz.out H1) ?_)|(go_at_call 75;refine own_calls hS (ref05_metrics_v (g := g) H2) ?_;clear hS;(try clear ww);intro ww hS)|(refine w_ld rfl _ rfl (by rfl) (by first|exact rd_1 (by repeat constructor) (by first|rfl|assumption)|exact rd_w (by repeat constructor) (by rfl)|((first|refine rd_o ‹_› (by rfl) ?_|refine rd_h ‹_› (by rfl) ?_|refine rd_1o ‹_› ?_|refine rd_1h ‹_› (by first|rfl|assumption) ?_);first|exact nmn|assumption|simp)) hS ?_)|(refine own_box rfl _ _ rfl (by rfl) hS ?_;clear hS;(try clear ww);intro bb ww hS)|((first|refine w_st rfl _ _ rfl (by rfl) (by rfl) (by repeat constructor) (by rfl) (by rfl) (by first|rfl|assumption) hS ?_|refine w_s1 rfl _ _ rfl (by rfl) (by repeat constructor) (by first|exact .c|exact .t rfl) (by rfl) (by repeat constructor) hS ?_);clear hS;(try clear ww);intro ww hS))
            go_loopw [4] (fun i wr => ∃ m : Nat, m ≤ k ∧ i = .int .i64 m ∧ freshG gs m g ∧ Own [] w [] wr) (fun i _ => k - (intOf i).toNat)
            case atStart => exact ⟨0, Nat.zero_le _, rfl, fun j hj => absurd hj (Nat.not_lt_zero j), hS⟩
            case round =>
              clear hS
              obtain ⟨m, hm, rfl, hf, hS⟩ := hrel
              have HF := Lib.hid hf
              clear hf
              by_cases hlm : m < k
              · have hmn : m < gs.length := by omega
                obtain ⟨g2, hg2⟩ : ∃ g, gs[m]? = some g := ⟨gs[m], by simp [hmn]⟩
                obtain ⟨b2, o2, hx2, r2⟩ := HR.out.get hg2
                obtain ⟨rfl, rfl⟩ : b0 = b2 ∧ o0 = o2 := by simpa using hx2
                have d0 : w.cell? ⟨b0, o0 + m * 6, none⟩ = some (.string g2.name) := r2 0 _ rfl
                have HG2 := Lib.hid hg2
                clear r2 hx2 hg2
                cases he : (g2.name.toList == g.name.toList)
                · have E2 := Lib.hid (show freshG gs (m + 1) g by
                    intro j hj g' hg'
                    by_cases e : j = m
                    · subst e
                      rw [HG2.out] at hg'
                      cases hg'
                      exact he
                    · exact HF.out j (by omega) g' hg')
                  go_wp2_with (first|(refine own_unguard (by rfl) ?_)|(refine w_ld rfl _ rfl (by rfl) (by first|exact rd_1 (by repeat constructor) (by first|rfl|assumption)|exact rd_w (by repeat constructor) (by rfl)|((first|refine rd_o ‹_› (by rfl) ?_|refine rd_h ‹_› (by rfl) ?_|refine rd_1o ‹_› ?_|refine rd_1h ‹_› (by first|rfl|assumption) ?_);first|exact nmn|assumption|simp)) hS ?_)|(refine own_box rfl _ _ rfl (by rfl) hS ?_;clear hS;(try clear ww);intro bb ww hS)|((first|refine w_st rfl _ _ rfl (by rfl) (by rfl) (by repeat constructor) (by rfl) (by rfl) (by first|rfl|assumption) hS ?_|refine w_s1 rfl _ _ rfl (by rfl) (by repeat constructor) (by first|exact .c|exact .t rfl) (by rfl) (by repeat constructor) hS ?_);clear hS;(try clear ww);intro ww hS))
                  refine own_region hS (by kernel_rfl) (by kernel_rfl) ?_
                  (try simp only);(try simp only [List.drop_succ_cons]);(try simp only [List.drop_zero]);(try simp only [List.take_succ_cons]);(try simp only [List.take_zero])
                  repeat (first
                      | (first|(refine quiet_plain rfl ?_)|(refine quiet_yes rfl rfl rfl (by simp only [List.getElem?_toArray, List.getElem?_cons_succ, List.getElem?_cons_zero];rfl) (by with_reducible constructor) ?_)
                         apply Exists.intro; refine ⟨?_, ?_⟩
                         focus (intro wq hq0;have hq : Own _ _ _ wq := hq0;first|(exact quietAt_rd rfl (by rfl) (by first|exact rd_1 (by repeat constructor) (by first|rfl|assumption)|exact rd_w (by repeat constructor) (by rfl)|((first|refine rd_o ‹_› (by rfl) ?_|refine rd_h ‹_› (by rfl) ?_|refine rd_1o ‹_› ?_|refine rd_1h ‹_› (by first|rfl|assumption) ?_);first|exact nmn|assumption|simp)) hq)|(go_simp;first|(with_reducible rfl)))
                         simp only [Act.put, List.setIfInBounds_toArray, List.set_cons_zero, List.set_cons_succ])
                      | (refine quiet_no rfl rfl rfl (by simp only [List.getElem?_toArray, List.getElem?_cons_succ, List.getElem?_cons_zero];rfl) (by with_reducible constructor) ?_;simp only [Act.put, List.setIfInBounds_toArray, List.set_cons_zero, List.set_cons_succ]))
                  refine wpQuiet_nil ?_
                  clear hS
                  intro ww hS
                  go_wp2_with (first|(refine own_unguard (by rfl) ?_)|(refine w_ld rfl _ rfl (by rfl) (by first|exact rd_1 (by repeat constructor) (by first|rfl|assumption)|exact rd_w (by repeat constructor) (by rfl)|((first|refine rd_o ‹_› (by rfl) ?_|refine rd_h ‹_› (by rfl) ?_|refine rd_1o ‹_› ?_|refine rd_1h ‹_› (by first|rfl|assumption) ?_);first|exact nmn|assumption|simp)) hS ?_)|(refine own_box rfl _ _ rfl (by rfl) hS ?_;clear hS;(try clear ww);intro bb ww hS)|((first|refine w_st rfl _ _ rfl (by rfl) (by rfl) (by repeat constructor) (by rfl) (by rfl) (by first|rfl|assumption) hS ?_|refine w_s1 rfl _ _ rfl (by rfl) (by repeat constructor) (by first|exact .c|exact .t rfl) (by rfl) (by repeat constructor) hS ?_);clear hS;(try clear ww);intro ww hS))
                  go_roundw
                  case rel => exact ⟨m + 1, hlm, by go_num, E2.out, hS⟩
                  case measure => exact loop_meas hlm
                · have E2 := Lib.hid (GlysOk.not_fresh HB HG.out hlm HG2.out he)
                  go_wp2_with (first|(refine own_unguard (by rfl) ?_)|(refine w_ld rfl _ rfl (by rfl) (by first|exact rd_1 (by repeat constructor) (by first|rfl|assumption)|exact rd_w (by repeat constructor) (by rfl)|((first|refine rd_o ‹_› (by rfl) ?_|refine rd_h ‹_› (by rfl) ?_|refine rd_1o ‹_› ?_|refine rd_1h ‹_› (by first|rfl|assumption) ?_);first|exact nmn|assumption|simp)) hS ?_)|(refine own_box rfl _ _ rfl (by rfl) hS ?_;clear hS;(try clear ww);intro bb ww hS)|((first|refine w_st rfl _ _ rfl (by rfl) (by rfl) (by repeat constructor) (by rfl) (by rfl) (by first|rfl|assumption) hS ?_|refine w_s1 rfl _ _ rfl (by rfl) (by repeat constructor) (by first|exact .c|exact .t rfl) (by rfl) (by repeat constructor) hS ?_);clear hS;(try clear ww);intro ww hS))
                  refine own_region hS (by kernel_rfl) (by kernel_rfl) ?_
                  (try simp only);(try simp only [List.drop_succ_cons]);(try simp only [List.drop_zero]);(try simp only [List.take_succ_cons]);(try simp only [List.take_zero])
                  repeat (first
                      | (first|(refine quiet_plain rfl ?_)|(refine quiet_yes rfl rfl rfl (by simp only [List.getElem?_toArray, List.getElem?_cons_succ, List.getElem?_cons_zero];rfl) (by with_reducible constructor) ?_)
                         apply Exists.intro; refine ⟨?_, ?_⟩
                         focus (intro wq hq0;have hq : Own _ _ _ wq := hq0;first|(exact quietAt_rd rfl (by rfl) (by first|exact rd_1 (by repeat constructor) (by first|rfl|assumption)|exact rd_w (by repeat constructor) (by rfl)|((first|refine rd_o ‹_› (by rfl) ?_|refine rd_h ‹_› (by rfl) ?_|refine rd_1o ‹_› ?_|refine rd_1h ‹_› (by first|rfl|assumption) ?_);first|exact nmn|assumption|simp)) hq)|(go_simp;first|(with_reducible rfl)))
                         simp only [Act.put, List.setIfInBounds_toArray, List.set_cons_zero, List.set_cons_succ])
                      | (refine quiet_no rfl rfl rfl (by simp only [List.getElem?_toArray, List.getElem?_cons_succ, List.getElem?_cons_zero];rfl) (by with_reducible constructor) ?_;simp only [Act.put, List.setIfInBounds_toArray, List.set_cons_zero, List.set_cons_succ]))
                  refine wpQuiet_nil ?_
                  clear hS
                  intro ww hS
                  go_wp2_with (first|(refine own_unguard (by rfl) ?_)|(refine w_ld rfl _ rfl (by rfl) (by first|exact rd_1 (by repeat constructor) (by first|rfl|assumption)|exact rd_w (by repeat constructor) (by rfl)|((first|refine rd_o ‹_› (by rfl) ?_|refine rd_h ‹_› (by rfl) ?_|refine rd_1o ‹_› ?_|refine rd_1h ‹_› (by first|rfl|assumption) ?_);first|exact nmn|assumption|simp)) hS ?_)|(refine own_box rfl _ _ rfl (by rfl) hS ?_;clear hS;(try clear ww);intro bb ww hS)|((first|refine w_st rfl _ _ rfl (by rfl) (by rfl) (by repeat constructor) (by rfl) (by rfl) (by first|rfl|assumption) hS ?_|refine w_s1 rfl _ _ rfl (by rfl) (by repeat constructor) (by first|exact .c|exact .t rfl) (by rfl) (by repeat constructor) hS ?_);clear hS;(try clear ww);intro ww hS))
                  go_ret
                  exact ⟨ret_bool E2.out, hS.below⟩
              · obtain rfl : m = k := by omega
                go_wp2_with (first|(refine own_unguard (by rfl) ?_)|(refine w_ld rfl _ rfl (by rfl) (by first|exact rd_1 (by repeat constructor) (by first|rfl|assumption)|exact rd_w (by repeat constructor) (by rfl)|((first|refine rd_o ‹_› (by rfl) ?_|refine rd_h ‹_› (by rfl) ?_|refine rd_1o ‹_› ?_|refine rd_1h ‹_› (by first|rfl|assumption) ?_);first|exact nmn|assumption|simp)) hS ?_)|(refine own_box rfl _ _ rfl (by rfl) hS ?_;clear hS;(try clear ww);intro bb ww hS)|((first|refine w_st rfl _ _ rfl (by rfl) (by rfl) (by repeat constructor) (by rfl) (by rfl) (by first|rfl|assumption) hS ?_|refine w_s1 rfl _ _ rfl (by rfl) (by repeat constructor) (by first|exact .c|exact .t rfl) (by rfl) (by repeat constructor) hS ?_);clear hS;(try clear ww);intro ww hS))
                go_roundw
                case rel => exact ⟨m + 1, hlt, by go_num, glys_next HP HG.out E1.out HF.out, hS⟩
                case measure => exact loop_meas hlt
          · have E1 := Lib.hid (GlysOk.not_in HB HG.out (show gIn g = false by simp at h3; simp [gIn]; intro _ _; omega))
            clear h1 h2
            go_wp2_with (first|(refine own_unguard (by rfl) ?_)|(go_at_call 74;refine own_callsS hS (ref05_Name_v hsz.out H1) ?_)|(go_at_call 75;refine own_calls hS (ref05_metrics_v (g := g) H2) ?_;clear hS;(try clear ww);intro ww hS)|(refine w_ld rfl _ rfl (by rfl) (by first|exact rd_1 (by repeat constructor) (by first|rfl|assumption)|exact rd_w (by repeat constructor) (by rfl)|((first|refine rd_o ‹_› (by rfl) ?_|refine rd_h ‹_› (by rfl) ?_|refine rd_1o ‹_› ?_|refine rd_1h ‹_› (by first|rfl|assumption) ?_);first|exact nmn|assumption|simp)) hS ?_)|(refine own_box rfl _ _ rfl (by rfl) hS ?_;clear hS;(try clear ww);intro bb ww hS)|((first|refine w_st rfl _ _ rfl (by rfl) (by rfl) (by repeat constructor) (by rfl) (by rfl) (by first|rfl|assumption) hS ?_|refine w_s1 rfl _ _ rfl (by rfl) (by repeat constructor) (by first|exact .c|exact .t rfl) (by rfl) (by repeat constructor) hS ?_);clear hS;(try clear ww);intro ww hS))
            go_ret
            exact ⟨ret_bool E1.out, hS.below⟩
    · have E1 := Lib.hid (GlysOk.all HB (fun j hj => HP.out j (by omega)))
      go_wp2_with (first|(refine own_unguard (by rfl) ?_)|(refine w_ld rfl _ rfl (by rfl) (by first|exact rd_1 (by repeat constructor) (by first|rfl|assumption)|exact rd_w (by repeat constructor) (by rfl)|((first|refine rd_o ‹_› (by rfl) ?_|refine rd_h ‹_› (by rfl) ?_|refine rd_1o ‹_› ?_|refine rd_1h ‹_› (by first|rfl|assumption) ?_);first|exact nmn|assumption|simp)) hS ?_)|(refine own_box rfl _ _ rfl (by rfl) hS ?_;clear hS;(try clear ww);intro bb ww hS)|((first|refine w_st rfl _ _ rfl (by rfl) (by rfl) (by repeat constructor) (by rfl) (by rfl) (by first|rfl|assumption) hS ?_|refine w_s1 rfl _ _ rfl (by rfl) (by repeat constructor) (by first|exact .c|exact .t rfl) (by rfl) (by repeat constructor) hS ?_);clear hS;(try clear ww);intro ww hS))
      go_ret
      exact ⟨ret_bool E1.out, hS.below⟩

end Go.Proofs.Ytdbcdjiclkmknaa
