/- Texts Few, Num, Prm, Deep, Bxf, Ofl, Anb, Bls. -/
import Derived.Test.YtgpabckipmhobaaK03
import Derived.Test.YtgpabckipmhobaaK01
import Derived.Test.YtgpabckipmhobaaK00
import Derived.Great.Walk
import Derived.Test.YtgpabckipmhobaaK02
namespace Go.Proofs.Ytgpabckipmhobaa
open Go.RowKit

attribute [local irreducible] wpQuiet wpList Code.wp

theorem not_lt_dec {a b : Nat} (h : a ≤ b) : decide (b < a) = false ∧ decide ((b : Int) < (a : Int)) = false := by
  constructor <;> simp <;> omega
theorem lt_dec {a b : Nat} (h : ¬ a ≤ b) : decide (b < a) = true ∧ decide ((b : Int) < (a : Int)) = true := by
  constructor <;> simp <;> omega

set_option maxHeartbeats 4000000 in
set_option maxRecDepth 100000 in
theorem ref05_Few_g (F : Fnt) (w : World) (h : ¬ F.gs.length ≤ 500) : Calls Try.prog 12 #[F.val] w (Gives (.bool false) w) := by
  obtain ⟨d1, d2⟩ := lt_dec h
  simp only [Int.cast_ofNat_Int] at d2
  clear h
  go_enter Try.func12, Try.ntmps12
  have hS := own_start w
  go_wp2_with (first | (refine own_unguard (by rfl) ?_) | (refine w_ld rfl _ rfl (by rfl) (by first | exact rd_1 (by repeat constructor) (by first | rfl | assumption) | exact rd_w (by repeat constructor) (by rfl) | exact rd_o (by assumption) (by rfl) (by first | exact nmn | assumption | simp) | exact rd_h (by assumption) (by rfl) (by first | exact nmn | assumption | simp) | exact rd_1o (by assumption) (by first | exact nmn | assumption | simp) | exact rd_1h (by assumption) (by first | rfl | assumption) (by first | exact nmn | assumption | simp)) hS ?_) | (refine own_box rfl _ _ rfl (by rfl) hS ?_; clear hS; (try clear ww); intro bb ww hS) | (refine w_al rfl rfl hS ?_; clear hS; (try clear ww); intro bb ww hS) | (refine w_st rfl _ _ rfl (by rfl) (by rfl) (by repeat constructor) (by rfl) (by rfl) (by first | rfl | assumption) hS ?_; clear hS; (try clear ww); intro ww hS) | (refine w_s1 rfl _ _ rfl (by rfl) (by repeat constructor) (by first | exact .c | exact .t rfl) (by rfl) (by repeat constructor) hS ?_; clear hS; (try clear ww); intro ww hS))
  go_ret
  exact own_gives hS
set_option maxHeartbeats 4000000 in
set_option maxRecDepth 100000 in
theorem ref05_Few_s (F : Fnt) (w : World) (h0 : F.gs.length ≤ 500) (h : ¬ F.ss.length ≤ 50) : Calls Try.prog 12 #[F.val] w (Gives (.bool false) w) := by
  obtain ⟨d1, d2⟩ := lt_dec h
  obtain ⟨d3, d4⟩ := not_lt_dec h0
  simp only [Int.cast_ofNat_Int] at d2 d4
  clear h h0
  go_enter Try.func12, Try.ntmps12
  have hS := own_start w
  go_wp2_with (first | (refine own_unguard (by rfl) ?_) | (refine w_ld rfl _ rfl (by rfl) (by first | exact rd_1 (by repeat constructor) (by first | rfl | assumption) | exact rd_w (by repeat constructor) (by rfl) | exact rd_o (by assumption) (by rfl) (by first | exact nmn | assumption | simp) | exact rd_h (by assumption) (by rfl) (by first | exact nmn | assumption | simp) | exact rd_1o (by assumption) (by first | exact nmn | assumption | simp) | exact rd_1h (by assumption) (by first | rfl | assumption) (by first | exact nmn | assumption | simp)) hS ?_) | (refine own_box rfl _ _ rfl (by rfl) hS ?_; clear hS; (try clear ww); intro bb ww hS) | (refine w_al rfl rfl hS ?_; clear hS; (try clear ww); intro bb ww hS) | (refine w_st rfl _ _ rfl (by rfl) (by rfl) (by repeat constructor) (by rfl) (by rfl) (by first | rfl | assumption) hS ?_; clear hS; (try clear ww); intro ww hS) | (refine w_s1 rfl _ _ rfl (by rfl) (by repeat constructor) (by first | exact .c | exact .t rfl) (by rfl) (by repeat constructor) hS ?_; clear hS; (try clear ww); intro ww hS))
  go_ret
  exact own_gives hS

set_option maxHeartbeats 4000000 in
set_option maxRecDepth 100000 in
theorem ref05_Few_loop (F : Fnt) (w : World) (hF : FntOk w F) (h0 : F.gs.length ≤ 500) (h1 : F.ss.length ≤ 50) : Calls Try.prog 12 #[F.val] w (Gives (.bool (F.ss.all fewS)) w) := by
  obtain ⟨gx, gc, gs, sx, sc, ss, q0, q1, q2, q3, q4, q5, q6, q7, q8, q9, q10, q11, q12, q13, q14, q15, q16, q17, q18, q19⟩ := F
  simp only at h0 h1
  obtain ⟨d1, d2⟩ := not_lt_dec h1
  obtain ⟨d3, d4⟩ := not_lt_dec h0
  simp only [Int.cast_ofNat_Int] at d2 d4
  have HF := Lib.hid hF
  clear hF
  go_enter Try.func12, Try.ntmps12
  have hS := own_start w
  go_wp2_with (first | (refine own_unguard (by rfl) ?_) | (refine w_ld rfl _ rfl (by rfl) (by first | exact rd_1 (by repeat constructor) (by first | rfl | assumption) | exact rd_w (by repeat constructor) (by rfl) | exact rd_o (by assumption) (by rfl) (by first | exact nmn | assumption | simp) | exact rd_h (by assumption) (by rfl) (by first | exact nmn | assumption | simp) | exact rd_1o (by assumption) (by first | exact nmn | assumption | simp) | exact rd_1h (by assumption) (by first | rfl | assumption) (by first | exact nmn | assumption | simp)) hS ?_) | (refine own_box rfl _ _ rfl (by rfl) hS ?_; clear hS; (try clear ww); intro bb ww hS) | (refine w_al rfl rfl hS ?_; clear hS; (try clear ww); intro bb ww hS) | (refine w_st rfl _ _ rfl (by rfl) (by rfl) (by repeat constructor) (by rfl) (by rfl) (by first | rfl | assumption) hS ?_; clear hS; (try clear ww); intro ww hS) | (refine w_s1 rfl _ _ rfl (by rfl) (by repeat constructor) (by first | exact .c | exact .t rfl) (by rfl) (by repeat constructor) hS ?_; clear hS; (try clear ww); intro ww hS))
  obtain ⟨L0, HL, hS⟩ := hS.named
  go_loopw [3] (fun i wr => ∃ k : Nat, k ≤ ss.length ∧ i = .int .i64 k ∧ ss.all fewS = (ss.drop k).all fewS ∧ Own [] w L0 wr) (fun i _ => ss.length - (intOf i).toNat)
  case atStart => exact ⟨0, Nat.zero_le _, rfl, rfl, hS⟩
  case round =>
    clear hS
    obtain ⟨k, hk, rfl, hf, hS⟩ := hrel
    by_cases hlt : k < ss.length
    · obtain ⟨t, ht⟩ : ∃ t, ss[k]? = some t := ⟨ss[k], by simp [hlt]⟩
      obtain ⟨b, o, hx, hr0⟩ := HF.out.strs.get ht
      obtain rfl : sx = some ⟨b, o, none⟩ := hx
      obtain rfl := HL.out
      clear HL
      rw [fewS_drop ht] at hf
      have HE := Lib.hid hf
      clear hf ht
      have c1 : w.cell? ⟨b, o + k * 4 + 1, none⟩ = some (.slice t.sx t.sizes.length t.sc) := hr0 1 _ rfl
      have c2 : w.cell? ⟨b, o + k * 4 + 2, none⟩ = some (.slice t.px t.parts.length t.pc) := hr0 2 _ rfl
      clear hr0
      by_cases hs : t.sizes.length ≤ 50
      · obtain ⟨e1, e2⟩ := not_lt_dec hs
        simp only [Int.cast_ofNat_Int] at e2
        by_cases hp : t.parts.length ≤ 50
        · obtain ⟨e3, e4⟩ := not_lt_dec hp
          simp only [Int.cast_ofNat_Int] at e4
          have E1 := Lib.hid (show ss.all fewS = (ss.drop (k + 1)).all fewS by rw [HE.out]; simp [fewS, hs, hp])
          clear HE hs hp
          go_wp2_with (first | (refine own_unguard (by rfl) ?_) | (refine w_ld rfl _ rfl (by rfl) (by first | exact rd_1 (by repeat constructor) (by first | rfl | assumption) | exact rd_w (by repeat constructor) (by rfl) | exact rd_o (by assumption) (by rfl) (by first | exact nmn | assumption | simp) | exact rd_h (by assumption) (by rfl) (by first | exact nmn | assumption | simp) | exact rd_1o (by assumption) (by first | exact nmn | assumption | simp) | exact rd_1h (by assumption) (by first | rfl | assumption) (by first | exact nmn | assumption | simp)) hS ?_) | (refine own_box rfl _ _ rfl (by rfl) hS ?_; clear hS; (try clear ww); intro bb ww hS) | (refine w_al rfl rfl hS ?_; clear hS; (try clear ww); intro bb ww hS) | (refine w_st rfl _ _ rfl (by rfl) (by rfl) (by repeat constructor) (by rfl) (by rfl) (by first | rfl | assumption) hS ?_; clear hS; (try clear ww); intro ww hS) | (refine w_s1 rfl _ _ rfl (by rfl) (by repeat constructor) (by first | exact .c | exact .t rfl) (by rfl) (by repeat constructor) hS ?_; clear hS; (try clear ww); intro ww hS))
          go_roundw
          case rel => exact ⟨k + 1, hlt, by go_num, E1.out, hS⟩
          case measure => exact loop_meas hlt
        · obtain ⟨e3, e4⟩ := lt_dec hp
          simp only [Int.cast_ofNat_Int] at e4
          have E1 := Lib.hid (show ss.all fewS = false by rw [HE.out]; simp [fewS, hp])
          clear HE hs hp
          go_wp2_with (first | (refine own_unguard (by rfl) ?_) | (refine w_ld rfl _ rfl (by rfl) (by first | exact rd_1 (by repeat constructor) (by first | rfl | assumption) | exact rd_w (by repeat constructor) (by rfl) | exact rd_o (by assumption) (by rfl) (by first | exact nmn | assumption | simp) | exact rd_h (by assumption) (by rfl) (by first | exact nmn | assumption | simp) | exact rd_1o (by assumption) (by first | exact nmn | assumption | simp) | exact rd_1h (by assumption) (by first | rfl | assumption) (by first | exact nmn | assumption | simp)) hS ?_) | (refine own_box rfl _ _ rfl (by rfl) hS ?_; clear hS; (try clear ww); intro bb ww hS) | (refine w_al rfl rfl hS ?_; clear hS; (try clear ww); intro bb ww hS) | (refine w_st rfl _ _ rfl (by rfl) (by rfl) (by repeat constructor) (by rfl) (by rfl) (by first | rfl | assumption) hS ?_; clear hS; (try clear ww); intro ww hS) | (refine w_s1 rfl _ _ rfl (by rfl) (by repeat constructor) (by first | exact .c | exact .t rfl) (by rfl) (by repeat constructor) hS ?_; clear hS; (try clear ww); intro ww hS))
          go_ret
          exact ⟨ret_bool E1.out.symm, hS.below⟩
      · obtain ⟨e1, e2⟩ := lt_dec hs
        simp only [Int.cast_ofNat_Int] at e2
        have E1 := Lib.hid (show ss.all fewS = false by rw [HE.out]; simp [fewS, hs])
        clear HE hs
        go_wp2_with (first | (refine own_unguard (by rfl) ?_) | (refine w_ld rfl _ rfl (by rfl) (by first | exact rd_1 (by repeat constructor) (by first | rfl | assumption) | exact rd_w (by repeat constructor) (by rfl) | exact rd_o (by assumption) (by rfl) (by first | exact nmn | assumption | simp) | exact rd_h (by assumption) (by rfl) (by first | exact nmn | assumption | simp) | exact rd_1o (by assumption) (by first | exact nmn | assumption | simp) | exact rd_1h (by assumption) (by first | rfl | assumption) (by first | exact nmn | assumption | simp)) hS ?_) | (refine own_box rfl _ _ rfl (by rfl) hS ?_; clear hS; (try clear ww); intro bb ww hS) | (refine w_al rfl rfl hS ?_; clear hS; (try clear ww); intro bb ww hS) | (refine w_st rfl _ _ rfl (by rfl) (by rfl) (by repeat constructor) (by rfl) (by rfl) (by first | rfl | assumption) hS ?_; clear hS; (try clear ww); intro ww hS) | (refine w_s1 rfl _ _ rfl (by rfl) (by repeat constructor) (by first | exact .c | exact .t rfl) (by rfl) (by repeat constructor) hS ?_; clear hS; (try clear ww); intro ww hS))
        go_ret
        exact ⟨ret_bool E1.out.symm, hS.below⟩
    · have E1 := Lib.hid (show ss.all fewS = true by rw [hf, List.drop_of_length_le (by omega)]; rfl)
      obtain rfl := HL.out
      clear hf HL
      go_wp2_with (first | (refine own_unguard (by rfl) ?_) | (refine w_ld rfl _ rfl (by rfl) (by first | exact rd_1 (by repeat constructor) (by first | rfl | assumption) | exact rd_w (by repeat constructor) (by rfl) | exact rd_o (by assumption) (by rfl) (by first | exact nmn | assumption | simp) | exact rd_h (by assumption) (by rfl) (by first | exact nmn | assumption | simp) | exact rd_1o (by assumption) (by first | exact nmn | assumption | simp) | exact rd_1h (by assumption) (by first | rfl | assumption) (by first | exact nmn | assumption | simp)) hS ?_) | (refine own_box rfl _ _ rfl (by rfl) hS ?_; clear hS; (try clear ww); intro bb ww hS) | (refine w_al rfl rfl hS ?_; clear hS; (try clear ww); intro bb ww hS) | (refine w_st rfl _ _ rfl (by rfl) (by rfl) (by repeat constructor) (by rfl) (by rfl) (by first | rfl | assumption) hS ?_; clear hS; (try clear ww); intro ww hS) | (refine w_s1 rfl _ _ rfl (by rfl) (by repeat constructor) (by first | exact .c | exact .t rfl) (by rfl) (by repeat constructor) hS ?_; clear hS; (try clear ww); intro ww hS))
      go_ret
      exact ⟨ret_bool E1.out.symm, hS.below⟩

theorem ref05_Few_calls (F : Fnt) (w : World) (hF : FntOk w F) : Calls Try.prog 12 #[F.val] w (Gives (.bool (fewB F)) w) := by
  by_cases h0 : F.gs.length ≤ 500
  · by_cases h1 : F.ss.length ≤ 50
    · have := ref05_Few_loop F w hF h0 h1
      rwa [show fewB F = F.ss.all fewS by simp [fewB, h0, h1]]
    · have := ref05_Few_s F w h0 h1
      rwa [show fewB F = false by simp [fewB, h1]]
  · have := ref05_Few_g F w h0
    rwa [show fewB F = false by simp [fewB, h0]]

end Go.Proofs.Ytgpabckipmhobaa
namespace Go.Proofs.Ytgpabckipmhobaa
open Go.RowKit

/-- All bytes of a name are from 32 to 126. -/
def bytesOk (l : List UInt8) : Bool := l.all fun c => decide (32 ≤ (c.toNat : Int)) && decide ((c.toNat : Int) ≤ 126)
/-- Is it a name? -/
def nameOk (s : ByteArray) : Bool := bytesOk s.data.toList && decide (1 ≤ (s.size : Int)) && decide ((s.size : Int) ≤ 16)

theorem bytesOk_drop (s : ByteArray) (k : Nat) (h : k < s.size) :
    bytesOk (s.data.toList.drop k) = (decide (32 ≤ (s[k].toNat : Int)) && decide ((s[k].toNat : Int) ≤ 126) && bytesOk (s.data.toList.drop (k + 1))) := by
  have h' : k < s.data.toList.length := by simpa using h
  rw [List.drop_eq_getElem_cons h']
  simp [bytesOk]
  rfl

set_option maxHeartbeats 1000000 in
theorem font_named_calls (s : ByteArray) (w : World) (hs : s.size ≤ 9223372036854775807) :
    Calls Try.prog 58 #[.string s] w fun e w' => e = .returned (.bool (nameOk s)) ∧ w = w' := by
  go_enter Try.func58, Try.ntmps58
  go_wp2
  go_loop [3] (fun i => ∃ k : Nat, k ≤ s.size ∧ i = .int .i64 k ∧ bytesOk s.data.toList = bytesOk (s.data.toList.drop k)) (fun i => s.size - (intOf i).toNat)
  case atStart => exact ⟨0, Nat.zero_le _, rfl, rfl⟩
  case round =>
    obtain ⟨k, hk, rfl, hf⟩ := hrel
    by_cases hlt : k < s.size
    · rw [bytesOk_drop s k hlt] at hf
      have HF := Lib.hid hf
      clear hf
      by_cases h1 : (s[k].toNat : Int) < 32
      · have e1 : bytesOk s.data.toList = false := by rw [HF.out]; simp; omega
        have E1 := Lib.hid e1
        clear e1
        go_wp2
        go_ret
        refine ⟨ret_bool ?_, rfl⟩
        unfold nameOk
        rw [E1.out]; rfl
      · by_cases h2 : 126 < (s[k].toNat : Int)
        · have e1 : bytesOk s.data.toList = false := by rw [HF.out]; simp; omega
          have E1 := Lib.hid e1
          clear e1
          go_wp2
          go_ret
          refine ⟨ret_bool ?_, rfl⟩
          unfold nameOk
          rw [E1.out]; rfl
        · have e1 : bytesOk s.data.toList = bytesOk (s.data.toList.drop (k + 1)) := by rw [HF.out]; simp; omega
          have E1 := Lib.hid e1
          clear e1
          go_wp2
          go_round
          case rel => exact ⟨k + 1, by omega, by go_num, E1.out⟩
          case measure => simp [intOf]; omega
    · have e1 : bytesOk s.data.toList = true := by rw [hf, List.drop_of_length_le (by simp; omega)]; rfl
      have E1 := Lib.hid e1
      clear e1 hf
      go_wp2
      all_goals
        go_ret
        refine ⟨ret_bool ?_, rfl⟩
        unfold nameOk
        rw [E1.out]
        simp
        try omega

set_option maxHeartbeats 1000000 in
theorem ref05_Name_calls (s : ByteArray) (w : World) (hs : s.size ≤ 9223372036854775807) :
    Calls Try.prog 52 #[.string s] w fun e w' => e = .returned (.bool (nameOk s)) ∧ w = w' := by
  go_enter Try.func52, Try.ntmps52
  go_wp2
  go_loop [3] (fun i => ∃ k : Nat, k ≤ s.size ∧ i = .int .i64 k ∧ bytesOk s.data.toList = bytesOk (s.data.toList.drop k)) (fun i => s.size - (intOf i).toNat)
  case atStart => exact ⟨0, Nat.zero_le _, rfl, rfl⟩
  case round =>
    obtain ⟨k, hk, rfl, hf⟩ := hrel
    by_cases hlt : k < s.size
    · rw [bytesOk_drop s k hlt] at hf
      have HF := Lib.hid hf
      clear hf
      by_cases h1 : (s[k].toNat : Int) < 32
      · have e1 : bytesOk s.data.toList = false := by rw [HF.out]; simp; omega
        have E1 := Lib.hid e1
        clear e1
        go_wp2
        go_ret
        refine ⟨ret_bool ?_, rfl⟩
        unfold nameOk
        rw [E1.out]; rfl
      · by_cases h2 : 126 < (s[k].toNat : Int)
        · have e1 : bytesOk s.data.toList = false := by rw [HF.out]; simp; omega
          have E1 := Lib.hid e1
          clear e1
          go_wp2
          go_ret
          refine ⟨ret_bool ?_, rfl⟩
          unfold nameOk
          rw [E1.out]; rfl
        · have e1 : bytesOk s.data.toList = bytesOk (s.data.toList.drop (k + 1)) := by rw [HF.out]; simp; omega
          have E1 := Lib.hid e1
          clear e1
          go_wp2
          go_round
          case rel => exact ⟨k + 1, by omega, by go_num, E1.out⟩
          case measure => simp [intOf]; omega
    · have e1 : bytesOk s.data.toList = true := by rw [hf, List.drop_of_length_le (by simp; omega)]; rfl
      have E1 := Lib.hid e1
      clear e1 hf
      go_wp2
      all_goals
        go_ret
        refine ⟨ret_bool ?_, rfl⟩
        unfold nameOk
        rw [E1.out]
        simp
        try omega

set_option maxHeartbeats 400000 in
theorem ref05_within_calls (n a b : Int) (w : World) :
    Calls Try.prog 51 #[.int .i64 n, .int .i64 a, .int .i64 b] w fun e w' => e = .returned (.bool (decide (a ≤ n) && decide (n ≤ b))) ∧ w = w' := by
  go_enter Try.func51, Try.ntmps51
  go_wp2
  all_goals (go_ret; refine ⟨ret_bool ?_, rfl⟩; simp; omega)

/-- All numbers are in a range. -/
def allIn (a b : Int) (ns : List Int) : Bool := ns.all fun n => decide (a ≤ n) && decide (n ≤ b)
theorem allIn_drop (a b : Int) (ns : List Int) (k : Nat) (n : Int) (h : ns[k]? = some n) : allIn a b (ns.drop k) = (decide (a ≤ n) && decide (n ≤ b) && allIn a b (ns.drop (k + 1))) := by
  obtain ⟨hk, rfl⟩ := List.getElem?_eq_some_iff.1 h
  unfold allIn
  rw [List.drop_eq_getElem_cons hk, List.all_cons]

set_option maxHeartbeats 1000000 in
theorem font_within_calls (lo hi : Int) (ns : List Int) (b o c : Nat) (w : World) (hn : ns.length ≤ 1000000)
    (hc : ∀ i n, ns[i]? = some n → w.cell? ⟨b, o + i, none⟩ = some (.int .i64 n)) :
    Calls Try.prog 59 #[.int .i64 lo, .int .i64 hi, .slice (some ⟨b, o, none⟩) ns.length c] w fun e w' => e = .returned (.bool (allIn lo hi ns)) ∧ w = w' := by
  have HC := Lib.hid hc
  clear hc
  go_enter Try.func59, Try.ntmps59
  go_wp2
  go_loop [11] (fun i => ∃ k : Nat, k ≤ ns.length ∧ i = .int .i64 k ∧ allIn lo hi ns = allIn lo hi (ns.drop k)) (fun i => ns.length - (intOf i).toNat)
  case atStart => exact ⟨0, Nat.zero_le _, rfl, rfl⟩
  case round =>
    obtain ⟨k, hk, rfl, hf⟩ := hrel
    by_cases hlt : k < ns.length
    · obtain ⟨n, hg⟩ : ∃ n, ns[k]? = some n := ⟨ns[k], by simp [hlt]⟩
      have g0 := HC.out k n hg
      rw [allIn_drop lo hi ns k n hg] at hf
      have HF := Lib.hid hf
      clear hf hg
      by_cases h1 : n < lo
      · have E1 := Lib.hid (show allIn lo hi ns = false by rw [HF.out]; simp; omega)
        go_wp2
        go_ret
        exact ⟨ret_bool E1.out.symm, rfl⟩
      · by_cases h2 : hi < n
        · have E1 := Lib.hid (show allIn lo hi ns = false by rw [HF.out]; simp; omega)
          go_wp2
          go_ret
          exact ⟨ret_bool E1.out.symm, rfl⟩
        · have E1 := Lib.hid (show allIn lo hi ns = allIn lo hi (ns.drop (k + 1)) by rw [HF.out]; simp; omega)
          go_wp2
          go_round
          case rel => exact ⟨k + 1, by omega, by go_num, E1.out⟩
          case measure => simp [intOf]; omega
    · have E1 := Lib.hid (show allIn lo hi ns = true by rw [hf, List.drop_of_length_le (by omega)]; rfl)
      clear hf
      go_wp2
      go_ret
      exact ⟨ret_bool E1.out.symm, rfl⟩

set_option maxHeartbeats 1000000 in
theorem ref05_Scale_pos (n p : Int) (w : World) (h0 : 0 ≤ n) (h1 : n ≤ 1073741824) (p0 : 0 ≤ p) (p1 : p ≤ 10000) :
    Calls Try.prog 36 #[.int .i64 n, .int .i64 p] w fun e w' => e = .returned (.int .i64 (scl n p)) ∧ w = w' := by
  have hb := mul_bd (n := n) ⟨by omega, h1⟩ p0 p1
  have hp : 0 ≤ n * p := Int.mul_nonneg h0 p0
  have hs := Lib.hid (show scl n p = (2 * n * p + 100) / 200 by rw [scl_ok ⟨by omega, h1⟩ p0 p1]; unfold rdiv; rw [if_pos hp, Int.mul_assoc]; rfl)
  have hm : wrap64 (2 * n * p) = 2 * n * p := IntWalk.wrap64_in _ (by rw [Int.mul_assoc]; omega)
  have hq : 0 ≤ 2 * n * p ∧ 2 * n * p ≤ 21474836480000 := by rw [Int.mul_assoc]; omega
  go_enter Try.func36, Try.ntmps36
  go_wp2_with fail
  go_ret
  exact ⟨ret_int hs.out.symm, rfl⟩

set_option maxHeartbeats 1000000 in
theorem ref05_Scale_calls (n p : Int) (w : World) (h : -1073741824 ≤ n ∧ n ≤ 1073741824) (p0 : 0 ≤ p) (p1 : p ≤ 10000) :
    Calls Try.prog 36 #[.int .i64 n, .int .i64 p] w fun e w' => e = .returned (.int .i64 (scl n p)) ∧ w = w' := by
  by_cases h0 : 0 ≤ n
  · exact ref05_Scale_pos n p w h0 h.2 p0 p1
  · have hb := mul_bd (n := -n) (by omega) p0 p1
    have hp : 0 ≤ -n * p := Int.mul_nonneg (by omega) p0
    have hs := Lib.hid (show scl n p = - scl (-n) p by
      rw [scl_ok h p0 p1, scl_ok (by omega) p0 p1]
      have e : -n * p = -(n * p) := Int.neg_mul _ _
      rw [e] at hp ⊢
      unfold rdiv
      rw [if_pos hp]
      split <;> omega)
    have hr : -10737418240000 ≤ scl (-n) p ∧ scl (-n) p ≤ 10737418240000 := by
      rw [scl_ok (by omega) p0 p1]; unfold rdiv; rw [if_pos hp]; omega
    go_enter Try.func36, Try.ntmps36
    go_wp2_with fail
    refine (ref05_Scale_pos (-n) p _ (by omega) (by omega) p0 p1).mono ?_
    rintro e w' ⟨rfl, rfl⟩
    go_wp2_with fail
    go_ret
    exact ⟨ret_int hs.out.symm, rfl⟩

end Go.Proofs.Ytgpabckipmhobaa
namespace Go.Proofs.Ytgpabckipmhobaa
open Go.RowKit

attribute [local irreducible] wpQuiet wpList Code.wp

/-- A small slice literal. -/
theorem own_buildSlice {P : Program} {rest : List Oper} {ops' : Array Oper} {o : Oper} {a : Act} {Q : Exit → Act → World → Prop} {D : List Nat} {W w : World} {L : List (Nat × List Value)} (hgd : o.guard = none) (t e : TypeId) (len : Nat) (parts : Array (Nat × Operand)) (ho : o.op = .buildSlice t len parts) (cells : List Value) (hS : Own D W L w) (hu : P.underlying t = some (.slice e))
    (hf : P.builtSlice e len (parts.map fun (i, x) => (i, a.eval x)).toList = some cells.toArray)
    (h : ∀ b w', Own D W ((b, cells) :: L) w' → wpList P ops' Q rest (a.put o.dst (.slice (some ⟨b, 0, none⟩) len len)) w') : wpList P ops' Q (o :: rest) a w :=
  Great.wpList_buildSliceTo hgd t e len parts ho w.heap.size rfl o.dst rfl hu cells.toArray hf (h _ _ (hS.new cells e))

theorem font_within_has {lo hi : Int} (ns : List Int) {b c : Nat} {w : World} {v : Bool} (hh : Has w b (ns.map (Value.int .i64))) (hn : ns.length ≤ 1000000) (hv : allIn lo hi ns = v) :
    Calls Try.prog 59 #[.int .i64 lo, .int .i64 hi, .slice (some ⟨b, 0, none⟩) ns.length c] w fun e w' => e = .returned (.bool v) ∧ w = w' := by
  subst hv
  refine font_within_calls lo hi ns b 0 c w hn fun i n hi => ?_
  rw [hh.cell, Nat.zero_add, List.getElem?_map, hi]
  rfl

/-- The lengths among the parameters; the percentages. -/
@[reducible] def Fnt.lens (F : Fnt) : List Int := [F.quad, F.xheight, F.axis, F.rule, F.num1, F.num2, F.den1, F.den2, F.sup1, F.sup2, F.sup3, F.sub1, F.sub2, F.supdrop, F.subdrop, F.dshort, F.acc]
@[reducible] def Fnt.pers (F : Fnt) : List Int := [F.script, F.sscript, F.dpercent]
def prmOk (F : Fnt) : Bool := allIn 1 100 F.pers && allIn 0 20000 F.lens

instance rt_params : RowTy Try.prog 25 20 := ⟨⟨_, Try.underlying25, rfl⟩, by kernel_rfl⟩

set_option maxHeartbeats 4000000 in
set_option maxRecDepth 100000 in
theorem font_validParams_no (F : Fnt) (w : World) (h : allIn 1 100 F.pers = false) : Calls Try.prog 57 #[.agg F.prm.toArray] w (Gives (.bool false) w) := by
  have HV := Lib.hid h
  clear h
  go_enter Try.func57, Try.ntmps57
  have hS := own_start w
  go_wp2_with (first | (refine own_unguard (by rfl) ?_) | (refine own_buildSlice rfl _ _ 3 _ rfl [.int .i64 F.script, .int .i64 F.sscript, .int .i64 F.dpercent] hS Try.underlying31 (by kernel_rfl) ?_; clear hS; (try clear ww); intro bb ww hS) | (go_at_call 59; refine own_callsS hS (font_within_has F.pers (hS.get at0) (by simp) HV.out) ?_) | (refine w_ld rfl _ rfl (by rfl) (by first | exact rd_1 (by repeat constructor) (by first | rfl | assumption) | exact rd_w (by repeat constructor) (by rfl) | exact rd_o (by assumption) (by rfl) (by first | exact nmn | assumption | simp) | exact rd_h (by assumption) (by rfl) (by first | exact nmn | assumption | simp) | exact rd_1o (by assumption) (by first | exact nmn | assumption | simp) | exact rd_1h (by assumption) (by first | rfl | assumption) (by first | exact nmn | assumption | simp)) hS ?_) | (refine own_box rfl _ _ rfl (by rfl) hS ?_; clear hS; (try clear ww); intro bb ww hS) | (refine w_st rfl _ _ rfl (by rfl) (by rfl) (by repeat constructor) (by rfl) (by rfl) (by first | rfl | assumption) hS ?_; clear hS; (try clear ww); intro ww hS) | (refine w_s1 rfl _ _ rfl (by rfl) (by repeat constructor) (by first | exact .c | exact .t rfl) (by rfl) (by repeat constructor) hS ?_; clear hS; (try clear ww); intro ww hS))
  go_ret
  exact own_gives hS

set_option maxHeartbeats 4000000 in
set_option maxRecDepth 100000 in
theorem font_validParams_yes (F : Fnt) (w : World) (v : Bool) (h : allIn 1 100 F.pers = true) (h2 : allIn 0 20000 F.lens = v) : Calls Try.prog 57 #[.agg F.prm.toArray] w (Gives (.bool v) w) := by
  have HV := Lib.hid h
  have HL := Lib.hid h2
  have tok1 : True := trivial
  clear h h2
  go_enter Try.func57, Try.ntmps57
  have hS := own_start w
  go_wp2_with (first | (refine own_unguard (by rfl) ?_) | (refine own_buildSlice rfl _ _ 3 _ rfl [.int .i64 F.script, .int .i64 F.sscript, .int .i64 F.dpercent] hS Try.underlying31 (by kernel_rfl) ?_; clear hS; (try clear ww); intro bb ww hS) | (refine own_buildSlice rfl _ _ 17 _ rfl (F.lens.map (Value.int .i64)) hS Try.underlying31 (by kernel_rfl) ?_; clear hS; (try clear ww); intro bb ww hS) | (go_at_call 59; have _t := tok1; refine own_callsS hS (font_within_has F.pers (hS.get at0) (by simp) HV.out) ?_; clear tok1) | (go_at_call 59; refine own_callsS hS (font_within_has F.lens (hS.get at0) (by simp) HL.out) ?_) | (refine w_ld rfl _ rfl (by rfl) (by first | exact rd_1 (by repeat constructor) (by first | rfl | assumption) | exact rd_w (by repeat constructor) (by rfl) | exact rd_o (by assumption) (by rfl) (by first | exact nmn | assumption | simp) | exact rd_h (by assumption) (by rfl) (by first | exact nmn | assumption | simp) | exact rd_1o (by assumption) (by first | exact nmn | assumption | simp) | exact rd_1h (by assumption) (by first | rfl | assumption) (by first | exact nmn | assumption | simp)) hS ?_) | (refine own_box rfl _ _ rfl (by rfl) hS ?_; clear hS; (try clear ww); intro bb ww hS) | (refine w_st rfl _ _ rfl (by rfl) (by rfl) (by repeat constructor) (by rfl) (by rfl) (by first | rfl | assumption) hS ?_; clear hS; (try clear ww); intro ww hS) | (refine w_s1 rfl _ _ rfl (by rfl) (by repeat constructor) (by first | exact .c | exact .t rfl) (by rfl) (by repeat constructor) hS ?_; clear hS; (try clear ww); intro ww hS))
  go_ret
  exact own_gives hS

theorem font_validParams_calls (F : Fnt) (w : World) : Calls Try.prog 57 #[.agg F.prm.toArray] w (Gives (.bool (prmOk F)) w) := by
  unfold prmOk
  cases h : allIn 1 100 F.pers
  · exact font_validParams_no F w h
  · exact font_validParams_yes F w _ h rfl

end Go.Proofs.Ytgpabckipmhobaa
namespace Go.Proofs.Ytgpabckipmhobaa
open Go.RowKit

attribute [local irreducible] wpQuiet wpList Code.wp Calls

instance rt_box : RowTy Try.prog 33 11 := ⟨⟨_, Try.underlying33, rfl⟩, by kernel_rfl⟩
instance zt_box : ZeroTy Try.prog 33 [.int .i64 0, .string ⟨#[]⟩, .int .i64 0, .int .i64 0, .int .i64 0, .int .i64 0, .int .i64 0, .int .i64 0, .slice none 0 0, .int .i64 0, .slice none 0 0] := ⟨.agg #[.int .i64 0, .string ⟨#[]⟩, .int .i64 0, .int .i64 0, .int .i64 0, .int .i64 0, .int .i64 0, .int .i64 0, .slice none 0 0, .int .i64 0, .slice none 0 0], by kernel_rfl, rfl⟩
instance ot_boxs : OneTy Try.prog 30 := ⟨⟨_, Try.underlying30, rfl⟩, by kernel_rfl⟩
instance ot_ptr : OneTy Try.prog 62 := ⟨⟨_, Try.underlying62, rfl⟩, by kernel_rfl⟩
theorem el_ptr : ElTy Try.prog 82 62 1 8 := ElTy.mk' (.pointer none) Try.underlying82 (by kernel_rfl) rfl
theorem el_box : ElTy Try.prog 30 33 11 128 := ElTy.mk' (.agg #[.int .i64 0, .string ⟨#[]⟩, .int .i64 0, .int .i64 0, .int .i64 0, .int .i64 0, .int .i64 0, .int .i64 0, .slice none 0 0, .int .i64 0, .slice none 0 0]) Try.underlying30 (by kernel_rfl) rfl

theorem front_back (Xs : List (Nat × List Value)) (x y : Nat × List Value) (R : List (Nat × List Value)) : (Xs ++ x :: y :: R).Perm (x :: y :: (R ++ Xs)) := List.perm_append_comm (l₁ := Xs) (l₂ := x :: y :: R)
theorem eleven {α : Type} {l : List α} (h : l.length = 11) : ∃ c0 c1 c2 c3 c4 c5 c6 c7 c8 c9 c10, l = [c0, c1, c2, c3, c4, c5, c6, c7, c8, c9, c10] := by
  match l, h with
  | [c0, c1, c2, c3, c4, c5, c6, c7, c8, c9, c10], _ => exact ⟨c0, c1, c2, c3, c4, c5, c6, c7, c8, c9, c10, rfl⟩

set_option maxHeartbeats 8000000 in
set_option maxRecDepth 100000 in
theorem deep_Box_calls (P : Nat → Prop) (N : Nat) (b : Bx N) (cs : List Value) (w : World) (hP : ∀ k, P k → k < w.heap.size) (hr : RepG (fun k _ => P k) P w N b cs) (hs : Small N b) (hc : bCount N b ≤ 1000000) : Calls Try.prog 29 #[.agg cs.toArray] w (fun e w' => ∃ cs', e = .returned (.agg cs'.toArray) ∧ RepG (fun k _ => P k ∨ w.heap.size ≤ k) (fun k => P k ∨ w.heap.size ≤ k) w' N b cs' ∧ Below w.heap.size w w') := by
  have hl := hr.len
  have HR := Lib.hid hr
  have HP := Lib.hid hP
  have HS := Lib.hid hs
  have HC := Lib.hid hc
  have HL := Lib.hid hl
  clear hr hs hc hl hP
  go_enter Try.func29, Try.ntmps29
  have hS := own_start w
  go_wp2_with (first | (refine own_unguard (by rfl) ?_) | (refine own_box rfl _ _ rfl rfl hS ?_; clear hS; (try clear ww); intro rb ww hS) | (refine own_alloc rfl _ rfl hS zt_box ?_; clear hS; (try clear ww); intro rv ww hS) | (refine own_buildSlice rfl _ _ 1 _ rfl [.pointer (some ⟨rb, 0, none⟩)] hS Try.underlying82 (by kernel_rfl) ?_; clear hS; (try clear ww); intro bb ww hS) | (refine w_ld rfl _ rfl (by rfl) (by first | exact rd_1 (by repeat constructor) (by first | rfl | assumption) | exact rd_w (by repeat constructor) (by rfl) | exact rd_o (by assumption) (by rfl) (by first | exact nmn | assumption | simp) | exact rd_h (by assumption) (by rfl) (by first | exact nmn | assumption | simp) | exact rd_1o (by assumption) (by first | exact nmn | assumption | simp) | exact rd_1h (by assumption) (by first | rfl | assumption) (by first | exact nmn | assumption | simp)) hS ?_) | (refine own_box rfl _ _ rfl (by rfl) hS ?_; clear hS; (try clear ww); intro bb ww hS) | (refine w_al rfl rfl hS ?_; clear hS; (try clear ww); intro bb ww hS) | (refine w_st rfl _ _ rfl (by rfl) (by rfl) (by repeat constructor) (by rfl) (by rfl) (by first | rfl | assumption) hS ?_; clear hS; (try clear ww); intro ww hS) | (refine w_s1 rfl _ _ rfl (by rfl) (by repeat constructor) (by first | exact .c | exact .t rfl) (by rfl) (by repeat constructor) hS ?_; clear hS; (try clear ww); intro ww hS))
  obtain ⟨zs, hzs, hS0⟩ : ∃ zs, Hid (zs = [Value.int .i64 0, .string ⟨#[]⟩, .int .i64 0, .int .i64 0, .int .i64 0, .int .i64 0, .int .i64 0, .int .i64 0, .slice none 0 0, .int .i64 0, .slice none 0 0]) ∧ Own [] w [(bb, [.pointer (some ⟨rb, 0, none⟩)]), (rv, zs), (rb, cs)] ww := ⟨_, rfl, hS⟩
  clear hS
  have hS := hS0
  clear hS0
  go_loopw [3] (fun v wr => ∃ t KL SL X ps, DeepInv P w N b rb rv zs t v wr KL SL X ps) (fun v wr => least (fun t => ∃ KL SL X ps, DeepInv P w N b rb rv zs t v wr KL SL X ps))
  case atStart => exact ⟨_, _, _, _, _, deep_start HR.out HS.out HC.out hS⟩
  case round =>
    clear hS
    have hspec := least_spec hrel
    clear hrel
    obtain ⟨T, hT⟩ : ∃ T, Hid (T = least (fun k => ∃ KL SL X ps, DeepInv P w N b rb rv zs k u3 wr KL SL X ps)) := ⟨_, rfl⟩
    rw [← hT.out] at hspec
    obtain ⟨KL, SL, X, ps, hI⟩ := hspec
    rcases List.eq_nil_or_concat ps with rfl | ⟨rest, ⟨⟨k0, o0⟩, wt⟩, rfl⟩
    · obtain ⟨y, c, hv⟩ := hI.stack.slice
      simp only [List.length_nil] at hv
      subst hv
      obtain ⟨cs0, hm, h11, hroot⟩ := hI.root
      obtain ⟨c0, c1, c2, c3, c4, c5, c6, c7, c8, c9, c10, rfl⟩ := eleven h11
      have hrt : RowTy Try.prog 33 ([c0, c1, c2, c3, c4, c5, c6, c7, c8, c9, c10] : List Value).length := rt_box
      have hall := rep_all hroot
      have hS : Own [] w ((rv, zs) :: ((KL ++ SL) ++ X)) wr := hI.own
      obtain ⟨n0, hat⟩ : ∃ n, At n ((rv, zs) :: ((KL ++ SL) ++ X)) rb [c0, c1, c2, c3, c4, c5, c6, c7, c8, c9, c10] := List.mem_iff_getElem?.1 (by simp [hm])
      have hzl : zs.length = ([c0, c1, c2, c3, c4, c5, c6, c7, c8, c9, c10] : List Value).length := by rw [hzs.out]; rfl
      have HI := Lib.hid hI
      have HRt := Lib.hid hroot
      clear hI hroot hm h11 hT
      go_wp2_with (first | (refine own_unguard (by rfl) ?_) | (refine own_load rfl _ _ rfl rfl hS hat hrt ?_) | (refine own_store rfl _ _ _ rfl rfl rfl hS at0 hrt hzl hall ?_; clear hS; intro ww hS) | (refine w_ld rfl _ rfl (by rfl) (by first | exact rd_1 (by repeat constructor) (by first | rfl | assumption) | exact rd_w (by repeat constructor) (by rfl) | exact rd_o (by assumption) (by rfl) (by first | exact nmn | assumption | simp) | exact rd_h (by assumption) (by rfl) (by first | exact nmn | assumption | simp) | exact rd_1o (by assumption) (by first | exact nmn | assumption | simp) | exact rd_1h (by assumption) (by first | rfl | assumption) (by first | exact nmn | assumption | simp)) hS ?_) | (refine own_box rfl _ _ rfl (by rfl) hS ?_; clear hS; (try clear ww); intro bb ww hS) | (refine w_al rfl rfl hS ?_; clear hS; (try clear ww); intro bb ww hS) | (refine w_st rfl _ _ rfl (by rfl) (by rfl) (by repeat constructor) (by rfl) (by rfl) (by first | rfl | assumption) hS ?_; clear hS; (try clear ww); intro ww hS) | (refine w_s1 rfl _ _ rfl (by rfl) (by repeat constructor) (by first | exact .c | exact .t rfl) (by rfl) (by repeat constructor) hS ?_; clear hS; (try clear ww); intro ww hS))
      have hc := (hS.get at0).cell
      refine bodyPost_ret (v := .agg #[c0, c1, c2, c3, c4, c5, c6, c7, c8, c9, c10]) (by simp [results, Try.results29, go_sem, hc]) rfl ⟨[c0, c1, c2, c3, c4, c5, c6, c7, c8, c9, c10], rfl, deep_end HP.out HI.out HRt.out hS, hS.below⟩
    · rw [List.concat_eq_append] at hI
      obtain ⟨xb, c, ys, ks, K1, K2, m, a, kids, kx, kc, sx, sc, rfl, hTop⟩ := deep_pop hI
      have hv := hTop.v
      subst hv
      have hlen := deep_len hI
      simp only [List.length_append, List.length_cons, List.length_nil] at hlen
      have h8 : ks[o0 + 8]? = some (.slice kx kids.length kc) := top_cell hTop.cells rfl
      have h10 : ks[o0 + 10]? = some (.slice sx a.src.length sc) := top_cell hTop.cells rfl
      have g8 : ∀ s v, ((ks.set (o0 + 10) s).set (o0 + 8) v)[o0 + 8]? = some v := fun s v => by
        have := hTop.len
        rw [List.getElem?_set_self (by simp; omega)]
      have hkl := hTop.small.2.1
      have hsl := hTop.small.1
      have hol := hTop.len
      have hroom := hTop.room
      have htop := hTop.top
      simp only at hkl hsl
      have HSr := Lib.hid hTop.srcs
      obtain ⟨R, hR, hS⟩ : ∃ R, Hid (R = ((rv, zs) :: (K1 ++ K2)) ++ SL) ∧ Own [] w ((k0, ks) :: (xb, ys) :: R) wr := ⟨_, rfl, hTop.own⟩
      have HI := Lib.hid hI
      have HTop := Lib.hid hTop
      clear hI hTop
      by_cases hk0 : kids.length = 0
      · obtain rfl : kids = [] := List.eq_nil_of_length_eq_zero hk0
        simp only [List.length_nil] at h8
        clear hk0
        go_wp2_with (first | (refine own_unguard (by rfl) ?_) | (refine own_load1 rfl _ _ rfl rfl hS at1 ot_ptr htop ?_) | (refine own_load1 rfl _ _ rfl rfl hS at0 ot_boxs h8 ?_) | (refine own_load1 rfl _ _ rfl rfl hS at0 ot_boxs (g8 _ _) ?_) | (refine own_load1 rfl _ _ rfl rfl hS at0 ot_ints h10 ?_) | (go_at_call 50; refine own_ints hS (clone_calls _ _ _ _ (HSr.out.own hS) hsl) ?_; clear hS; intro y2 c2 Xs ww hXs hrow hS1; have hS := hS1.perm (front_back Xs (k0, ks) (xb, ys) R); clear hS1) | (refine own_store1 (i := o0 + 10) (v := .slice y2 a.src.length c2) rfl _ _ _ rfl rfl rfl rfl hS at0 ot_ints (by omega) ?_; clear hS; intro ww hS; simp only [List.set_cons_zero] at hS) | (refine own_store1 (i := o0 + 8) (v := .slice none 0 0) rfl _ _ _ rfl rfl rfl rfl hS at0 ot_boxs (by simp; omega) ?_; clear hS; intro ww hS; simp only [List.set_cons_zero] at hS) | (refine own_copy0 rfl _ _ _ _ rfl el_box rfl rfl ?_) | (refine w_ld rfl _ rfl (by rfl) (by first | exact rd_1 (by repeat constructor) (by first | rfl | assumption) | exact rd_w (by repeat constructor) (by rfl) | exact rd_o (by assumption) (by rfl) (by first | exact nmn | assumption | simp) | exact rd_h (by assumption) (by rfl) (by first | exact nmn | assumption | simp) | exact rd_1o (by assumption) (by first | exact nmn | assumption | simp) | exact rd_1h (by assumption) (by first | rfl | assumption) (by first | exact nmn | assumption | simp)) hS ?_) | (refine own_box rfl _ _ rfl (by rfl) hS ?_; clear hS; (try clear ww); intro bb ww hS) | (refine w_al rfl rfl hS ?_; clear hS; (try clear ww); intro bb ww hS) | (refine w_st rfl _ _ rfl (by rfl) (by rfl) (by repeat constructor) (by rfl) (by rfl) (by first | rfl | assumption) hS ?_; clear hS; (try clear ww); intro ww hS) | (refine w_s1 rfl _ _ rfl (by rfl) (by repeat constructor) (by first | exact .c | exact .t rfl) (by rfl) (by repeat constructor) hS ?_; clear hS; (try clear ww); intro ww hS))
        refine wp_loop_once ?_
        go_wp2_with (first | (refine own_unguard (by rfl) ?_) | (refine w_ld rfl _ rfl (by rfl) (by first | exact rd_1 (by repeat constructor) (by first | rfl | assumption) | exact rd_w (by repeat constructor) (by rfl) | exact rd_o (by assumption) (by rfl) (by first | exact nmn | assumption | simp) | exact rd_h (by assumption) (by rfl) (by first | exact nmn | assumption | simp) | exact rd_1o (by assumption) (by first | exact nmn | assumption | simp) | exact rd_1h (by assumption) (by first | rfl | assumption) (by first | exact nmn | assumption | simp)) hS ?_) | (refine own_box rfl _ _ rfl (by rfl) hS ?_; clear hS; (try clear ww); intro bb ww hS) | (refine w_al rfl rfl hS ?_; clear hS; (try clear ww); intro bb ww hS) | (refine w_st rfl _ _ rfl (by rfl) (by rfl) (by repeat constructor) (by rfl) (by rfl) (by first | rfl | assumption) hS ?_; clear hS; (try clear ww); intro ww hS) | (refine w_s1 rfl _ _ rfl (by rfl) (by repeat constructor) (by first | exact .c | exact .t rfl) (by rfl) (by repeat constructor) hS ?_; clear hS; (try clear ww); intro ww hS))
        obtain rfl := hR.out
        obtain ⟨t', KL', SL', ps', hlt', hI'⟩ := deep_push HP.out (A := []) (Xs := Xs) (X2 := [(xb, ys)]) (k' := 0) HI.out HTop.out hS ((two_last _ _ _).trans (deep_perm (k0, _) (rv, zs) [] (K1 ++ K2) SL Xs [(xb, ys)])) (sl_row hS (fun x hx => by simp [hx]) hXs) (sl_block hXs rfl) (.inl ⟨rfl, rfl⟩) (by simpa using HTop.out.stack)
        have HI' := Lib.hid hI'
        clear hI'
        go_roundw
        case rel => exact ⟨t', KL', SL', _, ps', HI'.out⟩
        case measure => exact Nat.lt_of_le_of_lt (least_le ⟨KL', SL', _, ps', HI'.out⟩) (by rw [← hT.out]; exact hlt')
      · obtain ⟨kb, ko, news, hkx, hnl, hnr, hn1⟩ := kids_flat HTop.out.rep (by intro h; subst h; simp at hk0)
        subst hkx
        have HNr := Lib.hid hnr
        clear hnr
        go_wp2_with (first | (refine own_unguard (by rfl) ?_) | (refine own_load1 rfl _ _ rfl rfl hS at1 ot_ptr htop ?_) | (refine own_load1 rfl _ _ rfl rfl hS at0 ot_boxs h8 ?_) | (refine own_load1 rfl _ _ rfl rfl hS at0 ot_boxs (g8 _ _) ?_) | (refine own_load1 rfl _ _ rfl rfl hS at0 ot_ints h10 ?_) | (go_at_call 50; refine own_ints hS (clone_calls _ _ _ _ (HSr.out.own hS) hsl) ?_; clear hS; intro y2 c2 Xs ww hXs hrow hS1; have hS := hS1.perm (front_back Xs (k0, ks) (xb, ys) R); clear hS1) | (refine own_store1 (i := o0 + 10) (v := .slice y2 a.src.length c2) rfl _ _ _ rfl rfl rfl rfl hS at0 ot_ints (by omega) ?_; clear hS; intro ww hS; simp only [List.set_cons_zero] at hS) | (refine own_store1 (i := o0 + 8) (v := .slice none 0 0) rfl _ _ _ rfl rfl rfl rfl hS at0 ot_boxs (by simp; omega) ?_; clear hS; intro ww hS; simp only [List.set_cons_zero] at hS) | (refine own_make (n := kids.length) rfl _ _ _ rfl el_box rfl rfl hS (by omega) (by omega) ?_; clear hS; intro k' arr0 ww hS harr) | (refine own_store1 (i := o0 + 8) (v := .slice (some ⟨k', 0, none⟩) kids.length kids.length) rfl _ _ _ rfl rfl rfl rfl hS at1 ot_boxs (by simp; omega) ?_; clear hS; intro ww hS; simp only [List.set_cons_zero, List.set_cons_succ, List.set_set] at hS) | (refine own_load1 rfl _ _ rfl rfl hS at1 ot_boxs (g8 _ _) ?_) | (refine own_copy (n := kids.length) rfl _ _ _ _ rfl el_box rfl rfl hS at0 hnl (src_cells hS HNr.out) (by omega) hn1 ?_; clear hS; intro ww hS; simp only [List.set_cons_zero] at hS; rw [setL_all (by omega)] at hS) | (refine w_ld rfl _ rfl (by rfl) (by first | exact rd_1 (by repeat constructor) (by first | rfl | assumption) | exact rd_w (by repeat constructor) (by rfl) | exact rd_o (by assumption) (by rfl) (by first | exact nmn | assumption | simp) | exact rd_h (by assumption) (by rfl) (by first | exact nmn | assumption | simp) | exact rd_1o (by assumption) (by first | exact nmn | assumption | simp) | exact rd_1h (by assumption) (by first | rfl | assumption) (by first | exact nmn | assumption | simp)) hS ?_) | (refine own_box rfl _ _ rfl (by rfl) hS ?_; clear hS; (try clear ww); intro bb ww hS) | (refine w_al rfl rfl hS ?_; clear hS; (try clear ww); intro bb ww hS) | (refine w_st rfl _ _ rfl (by rfl) (by rfl) (by repeat constructor) (by rfl) (by rfl) (by first | rfl | assumption) hS ?_; clear hS; (try clear ww); intro ww hS) | (refine w_s1 rfl _ _ rfl (by rfl) (by repeat constructor) (by first | exact .c | exact .t rfl) (by rfl) (by repeat constructor) hS ?_; clear hS; (try clear ww); intro ww hS))
        have hS1 := hS.perm (three_last _ _ _ _)
        clear hS
        have hS := hS1
        clear hS1
        go_loopw [3, 57] (fun v i wr2 => ∃ (j : Nat) (X2 : List (Nat × List Value)), j ≤ kids.length ∧ i = .int .i64 j ∧ Sl 1 (rest.length + j) v ((rest.map (·.1)).flatMap ptr ++ ((List.range j).map fun i => (k', i * 11)).flatMap ptr) X2 ∧ Own [] w (((k', news) :: (k0, (ks.set (o0 + 10) (.slice y2 a.src.length c2)).set (o0 + 8) (.slice (some ⟨k', 0, none⟩) kids.length kids.length)) :: (R ++ Xs)) ++ X2) wr2) (fun _ i _ => kids.length - (intOf i).toNat)
        case atStart => exact ⟨0, [(xb, ys)], Nat.zero_le _, rfl, by simpa using HTop.out.stack, hS⟩
        case round =>
          clear hS
          obtain ⟨j, X2, hj, rfl, hX2, hS⟩ := hrel
          by_cases hjl : j < kids.length
          · skip
            go_wp2_with (first | (refine own_unguard (by rfl) ?_) | (refine own_load1 rfl _ _ rfl rfl hS at1 ot_boxs (g8 _ _) ?_) | (refine own_buildSlice rfl _ _ 1 _ rfl [.pointer (some ⟨k', j * 11, none⟩)] hS Try.underlying82 (by kernel_rfl) ?_; clear hS; intro b1 ww hS) | (refine own_append_new (b := b1) rfl _ _ _ rfl hX2 rfl rfl (show Own [] w (((b1, [.pointer (some ⟨k', j * 11, none⟩)]) :: (_ :: _ :: _)) ++ X2) ww from hS) rfl rfl el_ptr (by decide) (by simp only [maxLen]; omega) (by omega) ?_; clear hS hX2; intro v' X' ww hS hX2) | (refine w_ld rfl _ rfl (by rfl) (by first | exact rd_1 (by repeat constructor) (by first | rfl | assumption) | exact rd_w (by repeat constructor) (by rfl) | exact rd_o (by assumption) (by rfl) (by first | exact nmn | assumption | simp) | exact rd_h (by assumption) (by rfl) (by first | exact nmn | assumption | simp) | exact rd_1o (by assumption) (by first | exact nmn | assumption | simp) | exact rd_1h (by assumption) (by first | rfl | assumption) (by first | exact nmn | assumption | simp)) hS ?_) | (refine own_box rfl _ _ rfl (by rfl) hS ?_; clear hS; (try clear ww); intro bb ww hS) | (refine w_al rfl rfl hS ?_; clear hS; (try clear ww); intro bb ww hS) | (refine w_st rfl _ _ rfl (by rfl) (by rfl) (by repeat constructor) (by rfl) (by rfl) (by first | rfl | assumption) hS ?_; clear hS; (try clear ww); intro ww hS) | (refine w_s1 rfl _ _ rfl (by rfl) (by repeat constructor) (by first | exact .c | exact .t rfl) (by rfl) (by repeat constructor) hS ?_; clear hS; (try clear ww); intro ww hS))
            have HX2 := Lib.hid (show Sl 1 (rest.length + (j + 1)) v' ((rest.map (·.1)).flatMap ptr ++ ((List.range (j + 1)).map fun i => (k', i * 11)).flatMap ptr) X' by rw [range_next, ← Nat.add_assoc]; exact hX2)
            clear hX2
            go_roundw
            case rel => exact ⟨j + 1, X', hjl, by go_num, HX2.out, hS⟩
            case measure => exact loop_meas hjl
          · obtain rfl : j = kids.length := by omega
            go_wp2_with (first | (refine own_unguard (by rfl) ?_) | (refine w_ld rfl _ rfl (by rfl) (by first | exact rd_1 (by repeat constructor) (by first | rfl | assumption) | exact rd_w (by repeat constructor) (by rfl) | exact rd_o (by assumption) (by rfl) (by first | exact nmn | assumption | simp) | exact rd_h (by assumption) (by rfl) (by first | exact nmn | assumption | simp) | exact rd_1o (by assumption) (by first | exact nmn | assumption | simp) | exact rd_1h (by assumption) (by first | rfl | assumption) (by first | exact nmn | assumption | simp)) hS ?_) | (refine own_box rfl _ _ rfl (by rfl) hS ?_; clear hS; (try clear ww); intro bb ww hS) | (refine w_al rfl rfl hS ?_; clear hS; (try clear ww); intro bb ww hS) | (refine w_st rfl _ _ rfl (by rfl) (by rfl) (by repeat constructor) (by rfl) (by rfl) (by first | rfl | assumption) hS ?_; clear hS; (try clear ww); intro ww hS) | (refine w_s1 rfl _ _ rfl (by rfl) (by repeat constructor) (by first | exact .c | exact .t rfl) (by rfl) (by repeat constructor) hS ?_; clear hS; (try clear ww); intro ww hS))
            obtain rfl := hR.out
            obtain ⟨t', KL', SL', ps', hlt', hI'⟩ := deep_push HP.out (A := [(k', news)]) (Xs := Xs) (X2 := X2) (k' := k') HI.out HTop.out hS (deep_perm (k0, _) (rv, zs) [(k', news)] (K1 ++ K2) SL Xs X2) (sl_row hS (fun x hx => by simp [hx]) hXs) (sl_block hXs rfl) (.inr ⟨news, rfl, rfl, hnl, fun k o he => by obtain ⟨rfl, rfl⟩ : kb = k ∧ ko = o := (by simpa using he); exact HNr.out⟩) hX2
            have HI' := Lib.hid hI'
            clear hI'
            go_roundw
            case rel => exact ⟨t', KL', SL', _, ps', HI'.out⟩
            case measure => exact Nat.lt_of_le_of_lt (least_le ⟨KL', SL', _, ps', HI'.out⟩) (by rw [← hT.out]; exact hlt')

end Go.Proofs.Ytgpabckipmhobaa
namespace Go.Proofs.Ytgpabckipmhobaa
open Go.RowKit

attribute [local irreducible] wpQuiet wpG wpP wpK wpList Code.wp Calls

/-- A box at another place. -/
def atXY : (n : Nat) → Bx n → Int → Int → Bx n
  | 0, b, _, _ => b
  | _ + 1, b, x, y => ({ b.1 with x := x, y := y }, b.2)
def listB (n : Nat) (bw bh bd : Int) (kids : List (Bx n)) : Bx (n + 1) := (⟨3, ⟨#[]⟩, 0, bw, bh, bd, 0, 0, 0, []⟩, kids)
/-- A list of boxes lies there. -/
def RepL (w : World) (n : Nat) (x : Option Addr) (kids : List (Bx n)) : Prop := ∀ i kid, kids[i]? = some kid → ∃ k o css, x = some ⟨k, o, none⟩ ∧ w.rangeAt k (o + i * 11) css ∧ Rep w n kid css
theorem RepL.step {w w' : World} {n : Nat} {x : Option Addr} {kids : List (Bx n)} (h : RepL w n x kids) (hb : Below w.heap.size w w') : RepL w' n x kids := fun i kid hi => by
  obtain ⟨k, o, css, e, hr, hp⟩ := h i kid hi
  exact ⟨k, o, css, e, rangeAt_below hr hb, hp.step hb⟩
theorem rep_mk {w : World} {n : Nat} {a : Hd} {kids : List (Bx n)} {kx sx : Option Addr} {kc sc : Nat} (ha : HdOk a) (hl : kids.length ≤ maxLen) (hs : RowAt w sx 1 intCells a.src) (hk : RepL w n kx kids) : Rep w (n + 1) (a, kids) (a.cells (.slice kx kids.length kc) (.slice sx a.src.length sc)) :=
  ⟨kx, kc, sx, sc, rfl, ha, hl, hs, fun _ _ _ _ => trivial, fun i kid hi => by
    obtain ⟨k, o, css, e, hr, hp⟩ := hk i kid hi
    exact ⟨k, o, css, e, trivial, hr, hp⟩⟩
theorem rep_out {w : World} {n : Nat} {a : Hd} {kids : List (Bx n)} {cs : List Value} (h : Rep w (n + 1) (a, kids) cs) : ∃ kx kc sx sc, cs = a.cells (.slice kx kids.length kc) (.slice sx a.src.length sc) ∧ HdOk a ∧ kids.length ≤ maxLen ∧ RowAt w sx 1 intCells a.src ∧ RepL w n kx kids := by
  obtain ⟨kx, kc, sx, sc, h1, h2, h3, h4, _, h6⟩ := h
  exact ⟨kx, kc, sx, sc, h1, h2, h3, h4, fun i kid hi => by
    obtain ⟨k, o, css, e, _, hr, hp⟩ := h6 i kid hi
    exact ⟨k, o, css, e, hr, hp⟩⟩
theorem i64_0 : I64 0 := by unfold I64; omega
theorem hdOk_new {k bw bh bd : Int} (hk : I64 k) (h1 : I64 bw) (h2 : I64 bh) (h3 : I64 bd) : HdOk ⟨k, ⟨#[]⟩, 0, bw, bh, bd, 0, 0, 0, []⟩ := ⟨hk, i64_0, h1, h2, h3, i64_0, i64_0, i64_0, by simp, by simp, by simp [ByteArray.size]⟩





end Go.Proofs.Ytgpabckipmhobaa
namespace Go.Proofs.Ytgpabckipmhobaa
open Go.RowKit

theorem givesAt_rd {P : Program} {o : Oper} {a : Act} {D : List Nat} {W w : World} {L : List (Nat × List Value)} {ty : TypeId} {x : Operand} {p : Addr} {v : Value} (ho : o.op = .load ty x) (hx : a.eval x = .pointer (some p)) (hr : Reads P D W L ty p v) (hS : Own D W L w) : givesAt P o a w v := by
  unfold givesAt execOp
  simp only [ho, hx, Sem.run_bind, hr w hS, Sem.run_pure, Result.andThen_ok, givesUpon]
  first | done | exact ⟨rfl, rfl⟩ | exact ⟨trivial, trivial⟩ | trivial

theorem own_float {P : Program} {id : Nat} {Q : Exit → Act → World → Prop} {a : Act} {l : List Oper} {om : Oper} {D : List Nat} {W w : World} {L : List (Nat × List Value)} (hS : Own D W L w) (n m : Nat) (z : List Value) (t : TypeId) (hm : P.follows .mixedOrders = true) (hB : floatB .any l.toArray n m = true)
    (hom : l[m]? = some om) (hQ : ∀ c a (d : Tmp) v w, Q (.panic c) (Act.put a (some d) v) w → Q (.panic c) a w)
    (hal : ∀ (a : Act) (w : World), (execOp a.eval om).run P w = .ok (.value (.pointer (some ⟨w.heap.size, 0, none⟩))) (w.alloc (.cells z.toArray t)))
    (h : ∀ C : World → Prop, (∀ w', C w' → Own D W L w') → wpG P l.toArray C (fun a1 => wpP P l.toArray (fun a2 => ∀ b w', Own D W ((b, z) :: L) w' → wpList P l.toArray Q (l.drop (m + 1)) (a2.put om.dst (.pointer (some ⟨b, 0, none⟩))) w') ((l.take m).drop n) a1) (l.take n) a) :
    (Code.region id l.toArray true).wp P Q a w := by
  have wpP_mono : ∀ (l' : List Oper) (R R' : Act → Prop) (a : Act), (∀ a, R a → R' a) → wpP P l.toArray R l' a → wpP P l.toArray R' l' a := by
    intro l'
    induction l' with
    | nil => intro R R' a hR h; exact hR a h
    | cons o l' ih => intro R R' a hR ⟨v, h1, h2⟩; exact ⟨v, h1, ih R R' _ hR h2⟩
  have wpG_mono : ∀ (C : World → Prop) (l' : List Oper) (R R' : Act → Prop) (a : Act), (∀ a, R a → R' a) → wpG P l.toArray C R l' a → wpG P l.toArray C R' l' a := by
    intro C l'
    induction l' with
    | nil => intro R R' a hR h; exact hR a h
    | cons o l' ih => intro R R' a hR ⟨v, h1, h2⟩; exact ⟨v, h1, ih R R' _ hR h2⟩
  refine wp_region_float [] n m (.cells z.toArray t) hm hB hom hQ hal (by simp) fun C hC => ?_
  refine wpG_mono C _ _ _ _ (fun a1 h1 => ?_) (h C fun w' hw' => hS.step (hC.below w' hw'))
  refine wpP_mono _ _ _ _ (fun a2 h2 b w' hw' hb hO => ?_) h1
  exact h2 b w' (hS.add (hC.below w' hw') ⟨t, hO⟩ hb)

end Go.Proofs.Ytgpabckipmhobaa
namespace Go.Proofs.Ytgpabckipmhobaa
open Go.RowKit

section
variable {P : Program} {l : List Oper} {Q : Exit → Act → World → Prop} {D : List Nat} {W w : World} {L : List (Nat × List Value)} {a : Act}

/-- A part of the list has turned. -/
theorem Own.replace {K L1 : List (Nat × List Value)} {w' : World} (hS : Own D W (K ++ L) w) (h1 : Own (K.map (·.1)) w L1 w') : Own D W (L1 ++ L) w' := by
  have hSK : Own D W K w := hS.forget (List.sublist_append_left _ _)
  have hSL : Own D W L w := hS.forget (List.sublist_append_right _ _)
  have hdis : ∀ x ∈ L, x.1 ∉ K.map (·.1) := by
    have h0 := hS.apart
    rw [List.map_append, List.nodup_append] at h0
    intro x hx hk
    exact h0.2.2 _ hk _ (List.mem_map_of_mem hx) rfl
  refine ⟨h1.os.trans hS.os, h1.tape.trans hS.tape, h1.output.trans hS.output, Nat.le_trans hS.size h1.size, fun k hk hd => ?_, fun x hx => ?_, fun x hx => ?_, ?_⟩
  · rw [h1.block k (Nat.lt_of_lt_of_le hk hS.size) (fun hm => ?_)]
    · exact hS.block k hk hd
    · obtain ⟨x, hx, rfl⟩ := List.mem_map.1 hm
      rcases hSK.ge x hx with h | h
      · exact hd h
      · omega
  · rcases List.mem_append.1 hx with hx | hx
    · exact h1.has x hx
    · exact h1.hasOld (hdis x hx) (hSL.has x hx)
  · rcases List.mem_append.1 hx with hx | hx
    · rcases h1.ge x hx with h | h
      · obtain ⟨y, hy, he⟩ := List.mem_map.1 h
        rw [← he]; exact hSK.ge y hy
      · exact .inr (Nat.le_trans hS.size h)
    · exact hSL.ge x hx
  · rw [List.map_append, List.nodup_append]
    refine ⟨h1.apart, hSL.apart, fun x hx y hy he => ?_⟩
    obtain ⟨p, hp, rfl⟩ := List.mem_map.1 hx
    obtain ⟨q, hq, rfl⟩ := List.mem_map.1 hy
    rcases h1.ge p hp with h | h
    · rw [he] at h; exact hdis q hq h
    · have := (hSL.has q hq).lt; omega

theorem Own.chain {K L1 : List (Nat × List Value)} {w' : World} (hS : Own D W K w) (h1 : Own (K.map (·.1)) w L1 w') : Own D W L1 w' := by
  have := Own.replace (K := K) (L := []) (by simpa using hS) h1
  simpa using this
section
variable {B : Nat} {mid hard : List Nat} {m : Nat} {done : List Nat}
theorem own_softB (hS : Own D W L w) (i : Nat) {oi : Oper} (hcl : Closed l.toArray (mk l.toArray.size done)) (hi : l.toArray[i]? = some oi) (hr : (decide (Region.ready .any l.toArray (mk l.toArray.size done) = [i]) && (!hard.contains i && !mid.contains i)) = true)
    (h : Own [] w [] w → wpList P l.toArray (fun e a' w' => e = .normal ∧ ∃ L1, Own [] w L1 w' ∧ (Closed l.toArray (mk l.toArray.size (i :: done)) → ∀ w'', Own D W (L1 ++ L) w'' → Below w'.heap.size w' w'' → wpK P l.toArray Q (relOf B mid hard) m (mk l.toArray.size (i :: done)) a' w'')) [oi] a w) :
    wpK P l.toArray Q (relOf B mid hard) (m + 1) (mk l.toArray.size done) a w := by
  rw [Bool.and_eq_true, decide_eq_true_eq] at hr
  refine wpK_one hr.1 (point_go i hi (wpList_mono (fun e a' w' ⟨he, L1, h1, h2⟩ => ⟨he, by rw [relOf_soft hr.2]; exact h1.below, fun w'' hb => ?_⟩) _ _ _ (h (own_start w))))
  exact h2 (hcl.next (by rw [hr.1]; simp)) w'' ((hS.join h1).step hb) hb
end
end
end Go.Proofs.Ytgpabckipmhobaa
namespace Go.Proofs.Ytgpabckipmhobaa
open Go.RowKit

attribute [local irreducible] wpQuiet wpG wpP wpK wpList Code.wp Calls

/-- A box whose blocks are there stays a box where they stay. -/
theorem rep_keep2 {Q : Nat → Prop} {w w' : World} (h1 : ∀ k, Q k → k < w.heap.size → w'.heap[k]? = w.heap[k]?) :
    ∀ (n : Nat) (b : Bx n) (cs : List Value), RepG (fun k _ => Q k) Q w n b cs → RepG (fun k _ => Q k ∧ k < w.heap.size) (fun k => Q k ∧ k < w.heap.size) w' n b cs := by
  have hc : ∀ (k i : Nat) (v : Value), Q k → w.cell? ⟨k, i, none⟩ = some v → w'.cell? ⟨k, i, none⟩ = some v := fun k i v hk hv => by
    have hlt := World.block_lt_of_cell? w _ hv
    rw [← hv]
    exact World.cell?_of_block (w := w) (a := ⟨k, i, none⟩) (h1 k hk hlt)
  intro n
  induction n with
  | zero => intro b cs h; exact h
  | succ n ih =>
    rintro b cs ⟨kx, kc, sx, sc, hcs, hok, hlen, hrow, hso, hkids⟩
    have hs2 : ∀ (hne : b.1.src ≠ []) (k o : Nat), sx = some ⟨k, o, none⟩ → k < w.heap.size := fun hne k o hx => by
      obtain ⟨z, hz⟩ : ∃ z, b.1.src[0]? = some z := by
        cases hb : b.1.src with
        | nil => exact absurd hb hne
        | cons z l => exact ⟨z, rfl⟩
      obtain ⟨b', o', hx', hr⟩ := hrow.get hz
      rw [hx] at hx'
      obtain ⟨rfl, rfl⟩ : k = b' ∧ o = o' := by simpa using hx'
      exact World.block_lt_of_cell? w _ (hr 0 _ rfl)
    refine ⟨kx, kc, sx, sc, hcs, hok, hlen, ?_, fun hne k o hx => ⟨hso hne k o hx, hs2 hne k o hx⟩, fun i kid hi => ?_⟩
    · by_cases hne : b.1.src = []
      · exact .inl hne
      · rcases hrow with h | ⟨k, o, hx, hr⟩
        · exact .inl h
        · exact .inr ⟨k, o, hx, fun i z hi j v hj => hc k _ v (hso hne k o hx) (hr i z hi j v hj)⟩
    · obtain ⟨k, o, css, ek, hko, hr, hrep⟩ := hkids i kid hi
      obtain ⟨v, hv⟩ : ∃ v, css[0]? = some v := ⟨css[0]'(by rw [hrep.len]; omega), List.getElem?_eq_getElem _⟩
      exact ⟨k, o, css, ek, ⟨hko, World.block_lt_of_cell? w _ (hr 0 v hv)⟩, fun j v hj => hc k _ v hko (hr j v hj), ih kid css hrep⟩

/-- The kids that have been copied, away from the blocks B. -/
def Done (w : World) (n : Nat) (kids : List (Bx n)) (B : List Nat) (l : List { c : List Value // c.length = 11 }) : Prop :=
  ∀ (q : Nat) (css : { c : List Value // c.length = 11 }) (kid : Bx n), l[q]? = some css → kids[q]? = some kid → RepG (fun k _ => k ∉ B) (fun k => k ∉ B) w n kid css.1
theorem Done.turn {w w' : World} {n : Nat} {kids : List (Bx n)} {B B' D : List Nat} {l : List { c : List Value // c.length = 11 }} {L : List (Nat × List Value)} (h : Done w n kids B l) (hS : Own D w L w') (hD : ∀ k ∈ D, k ∈ B) (hB : ∀ k ∈ B', k ∈ B ∨ w.heap.size ≤ k) : Done w' n kids B' l := fun q css kid hq hk =>
  (rep_keep2 (Q := fun k => k ∉ B) (fun k hk hlt => hS.block k hlt (fun hd => hk (hD k hd))) n kid css.1 (h q css kid hq hk)).mono
    (fun k _ hk2 hb => (hB k hb).elim (fun h => hk2.1 h) (fun h => by have := hk2.2; omega)) (fun k hk2 hb => (hB k hb).elim (fun h => hk2.1 h) (fun h => by have := hk2.2; omega))
theorem Done.next {w : World} {n : Nat} {kids : List (Bx n)} {B : List Nat} {l : List { c : List Value // c.length = 11 }} {css : { c : List Value // c.length = 11 }} {kid : Bx n} (h : Done w n kids B l) (hk : kids[l.length]? = some kid) (hr : RepG (fun k _ => k ∉ B) (fun k => k ∉ B) w n kid css.1) : Done w n kids B (l ++ [css]) := by
  intro q c2 kid2 hq hk2
  by_cases hlt : q < l.length
  · rw [List.getElem?_append_left hlt] at hq
    exact h q c2 kid2 hq hk2
  · have hqe : q = l.length := by
      have := (List.getElem?_eq_some_iff.1 hq).1
      simp at this
      omega
    subst hqe
    rw [List.getElem?_append_right (Nat.le_refl _), Nat.sub_self] at hq
    obtain rfl : css = c2 := by simpa using hq
    obtain rfl : kid = kid2 := Option.some.inj (hk.symm.trans hk2)
    exact hr
end Go.Proofs.Ytgpabckipmhobaa
