/- Texts Rvl, Par, Lte. -/
import Derived.Test.YtfmoghkffffmmaaJ19
import Derived.Test.YtfmoghkffffmmaaJ11
import Derived.Test.YtfmoghkffffmmaaJ15
import Derived.Test.YtfmoghkffffmmaaJ12
namespace Go.Proofs.Ytfmoghkffffmmaa
open Go.RowKit

attribute [local irreducible] wpQuiet wpG wpP wpK wpList Code.wp Calls

theorem ref28_proper_calls : ∀ (n : Nat) (b : Bx n) (cs : List Value) (w : World) (v : Bool), Rep w n b cs → Wide n b → v = allOwn n b → Calls Try.prog 62 #[.agg cs.toArray] w (Gives (.bool v) w) := by
  intro n
  induction n with
  | zero => intro b cs w v h; exact h.elim
  | succ n ih => intro b cs w v h1 h2 h3; exact ref28_proper_step n ih b cs w v h1 h2 h3

set_option maxHeartbeats 8000000 in
set_option maxRecDepth 100000 in
theorem ref28_Valid_calls (n : Nat) (b : Bx n) (cs : List Value) (w : World) (hr : Rep w n b cs) (hs : Wide n b) (hc : bCount n b ≤ 1000000) (v : Bool) (hv : v = true ↔ validB n b) : Calls Try.prog 49 #[.agg cs.toArray] w (Gives (.bool v) w) := by
  have h11 := hr.len
  obtain ⟨c0, c1, c2, c3, c4, c5, c6, c7, c8, c9, c10, rfl⟩ := eleven h11
  have hn := nested_le n b
  have HP := Lib.hid (fun w' (h : Below w.heap.size w w') => ref28_proper_calls n b _ w' _ (hr.step h) hs rfl)
  have HC := Lib.hid (fun w' (h : Below w.heap.size w w') => ref28_Count_calls n b _ w' (hr.step h) hc)
  have HN := Lib.hid (fun w' (h : Below w.heap.size w w') => ref28_Nested_calls n b _ w' (hr.step h) hc)
  have hv2 : v = (allOwn n b && (decide ((bCount n b : Int) ≤ 20000) && decide ((bNested n b : Int) ≤ 100))) := by
    rw [Bool.eq_iff_iff, hv]
    unfold validB okV
    simp only [Bool.and_eq_true, decide_eq_true_eq]
    constructor
    · rintro ⟨h1, h2, h3⟩; exact ⟨h1, by omega, by omega⟩
    · rintro ⟨h1, h2, h3⟩; exact ⟨h1, by omega, by omega⟩
  generalize allOwn n b = A at *
  generalize bCount n b = C at *
  generalize bNested n b = E at *
  have HV := Lib.hid hv2
  clear hr hs hv hv2 h11
  cases A
  · have E1 := Lib.hid (show v = false by rw [HV.out]; rfl)
    clear HV
    go_enter Try.func49, Try.ntmps49
    have hS := own_start w
    go_wp2_with (first | (refine own_unguard (by rfl) ?_) | (go_at_call 62; refine own_calls hS (HP.out _ hS.below) ?_; clear hS; (try clear ww); intro ww hS) | (refine own_load1 rfl _ _ rfl rfl hS (atl (by repeat constructor)) (by first | exact ot_int) (by first | rfl | assumption) ?_) | (refine own_load rfl _ _ rfl rfl hS (atl (by repeat constructor)) (by first | exact rt_box) ?_) | (refine own_load_old rfl _ _ rfl rfl hS (by assumption) (by first | exact List.not_mem_nil | assumption) (by first | exact rt_box) ?_) | (refine own_load_has rfl _ _ rfl rfl hS (by assumption) (by first | exact List.not_mem_nil | assumption) (by first | exact rt_box) ?_) | (refine own_load1_old rfl _ _ rfl rfl hS (by assumption) (by first | exact List.not_mem_nil | assumption) (by first | exact ot_int) ?_) | (refine own_load1_has rfl _ _ rfl rfl hS (by assumption) (by first | exact List.not_mem_nil | assumption) (by first | exact ot_int) (by first | rfl | assumption) ?_) | (refine own_box rfl _ _ rfl rfl hS ?_; clear hS; (try clear ww); intro bb ww hS) | (refine own_store rfl _ _ _ rfl rfl rfl hS (atl (by repeat constructor)) (by first | exact rt_box) (by rfl) (by rfl) ?_; clear hS; (try clear ww); intro ww hS; (try simp only at hS); (try simp only [List.set_cons_succ] at hS); (try simp only [List.set_cons_zero] at hS)) | (refine own_store1 rfl _ _ _ rfl rfl rfl rfl hS (atl (by repeat constructor)) (by first | exact ot_int) (by simp) ?_; clear hS; (try clear ww); intro ww hS; (try simp only at hS); (try simp only [List.set_cons_succ] at hS); (try simp only [List.set_cons_zero] at hS); (try simp only [Act.eval] at hS); (try simp only [Array.getD_eq_getD_getElem?] at hS); (try simp only [List.getElem?_toArray] at hS); (try simp only [List.getElem?_cons_succ] at hS); (try simp only [List.getElem?_cons_zero] at hS); (try simp only [Option.getD_some] at hS)))
    go_ret
    exact ⟨ret_bool E1.out.symm, hS.below⟩
  · by_cases h1 : (C : Int) ≤ 20000
    · have E1 := Lib.hid (show v = decide ((E : Int) ≤ 100) by rw [HV.out]; simp [h1])
      have d1 : decide ((C : Int) ≤ 20000) = true := decide_eq_true h1
      clear HV
      go_enter Try.func49, Try.ntmps49
      have hS := own_start w
      go_wp2_with (first | (refine own_unguard (by rfl) ?_) | (go_at_call 62; refine own_calls hS (HP.out _ hS.below) ?_; clear hS; (try clear ww); intro ww hS) | (go_at_call 63; refine own_calls hS (HC.out _ hS.below) ?_; clear hS; (try clear ww); intro ww hS) | (go_at_call 64; refine own_calls hS (HN.out _ hS.below) ?_; clear hS; (try clear ww); intro ww hS) | (refine own_load1 rfl _ _ rfl rfl hS (atl (by repeat constructor)) (by first | exact ot_int) (by first | rfl | assumption) ?_) | (refine own_load rfl _ _ rfl rfl hS (atl (by repeat constructor)) (by first | exact rt_box) ?_) | (refine own_load_old rfl _ _ rfl rfl hS (by assumption) (by first | exact List.not_mem_nil | assumption) (by first | exact rt_box) ?_) | (refine own_load_has rfl _ _ rfl rfl hS (by assumption) (by first | exact List.not_mem_nil | assumption) (by first | exact rt_box) ?_) | (refine own_load1_old rfl _ _ rfl rfl hS (by assumption) (by first | exact List.not_mem_nil | assumption) (by first | exact ot_int) ?_) | (refine own_load1_has rfl _ _ rfl rfl hS (by assumption) (by first | exact List.not_mem_nil | assumption) (by first | exact ot_int) (by first | rfl | assumption) ?_) | (refine own_box rfl _ _ rfl rfl hS ?_; clear hS; (try clear ww); intro bb ww hS) | (refine own_store rfl _ _ _ rfl rfl rfl hS (atl (by repeat constructor)) (by first | exact rt_box) (by rfl) (by rfl) ?_; clear hS; (try clear ww); intro ww hS; (try simp only at hS); (try simp only [List.set_cons_succ] at hS); (try simp only [List.set_cons_zero] at hS)) | (refine own_store1 rfl _ _ _ rfl rfl rfl rfl hS (atl (by repeat constructor)) (by first | exact ot_int) (by simp) ?_; clear hS; (try clear ww); intro ww hS; (try simp only at hS); (try simp only [List.set_cons_succ] at hS); (try simp only [List.set_cons_zero] at hS); (try simp only [Act.eval] at hS); (try simp only [Array.getD_eq_getD_getElem?] at hS); (try simp only [List.getElem?_toArray] at hS); (try simp only [List.getElem?_cons_succ] at hS); (try simp only [List.getElem?_cons_zero] at hS); (try simp only [Option.getD_some] at hS)))
      go_ret
      exact ⟨ret_bool E1.out.symm, hS.below⟩
    · have E1 := Lib.hid (show v = false by rw [HV.out]; simp [h1])
      have d1 : decide ((C : Int) ≤ 20000) = false := decide_eq_false h1
      clear HV
      go_enter Try.func49, Try.ntmps49
      have hS := own_start w
      go_wp2_with (first | (refine own_unguard (by rfl) ?_) | (go_at_call 62; refine own_calls hS (HP.out _ hS.below) ?_; clear hS; (try clear ww); intro ww hS) | (go_at_call 63; refine own_calls hS (HC.out _ hS.below) ?_; clear hS; (try clear ww); intro ww hS) | (refine own_load1 rfl _ _ rfl rfl hS (atl (by repeat constructor)) (by first | exact ot_int) (by first | rfl | assumption) ?_) | (refine own_load rfl _ _ rfl rfl hS (atl (by repeat constructor)) (by first | exact rt_box) ?_) | (refine own_load_old rfl _ _ rfl rfl hS (by assumption) (by first | exact List.not_mem_nil | assumption) (by first | exact rt_box) ?_) | (refine own_load_has rfl _ _ rfl rfl hS (by assumption) (by first | exact List.not_mem_nil | assumption) (by first | exact rt_box) ?_) | (refine own_load1_old rfl _ _ rfl rfl hS (by assumption) (by first | exact List.not_mem_nil | assumption) (by first | exact ot_int) ?_) | (refine own_load1_has rfl _ _ rfl rfl hS (by assumption) (by first | exact List.not_mem_nil | assumption) (by first | exact ot_int) (by first | rfl | assumption) ?_) | (refine own_box rfl _ _ rfl rfl hS ?_; clear hS; (try clear ww); intro bb ww hS) | (refine own_store rfl _ _ _ rfl rfl rfl hS (atl (by repeat constructor)) (by first | exact rt_box) (by rfl) (by rfl) ?_; clear hS; (try clear ww); intro ww hS; (try simp only at hS); (try simp only [List.set_cons_succ] at hS); (try simp only [List.set_cons_zero] at hS)) | (refine own_store1 rfl _ _ _ rfl rfl rfl rfl hS (atl (by repeat constructor)) (by first | exact ot_int) (by simp) ?_; clear hS; (try clear ww); intro ww hS; (try simp only at hS); (try simp only [List.set_cons_succ] at hS); (try simp only [List.set_cons_zero] at hS); (try simp only [Act.eval] at hS); (try simp only [Array.getD_eq_getD_getElem?] at hS); (try simp only [List.getElem?_toArray] at hS); (try simp only [List.getElem?_cons_succ] at hS); (try simp only [List.getElem?_cons_zero] at hS); (try simp only [Option.getD_some] at hS)))
      go_ret
      exact ⟨ret_bool E1.out.symm, hS.below⟩

end Go.Proofs.Ytfmoghkffffmmaa
namespace Go.Proofs.Ytfmoghkffffmmaa
open Go.RowKit

attribute [local irreducible] wpQuiet wpG wpP wpK wpList Code.wp Calls

theorem prm_sz {F : Fnt} (h : ValidF F) : (1 ≤ F.script ∧ F.script ≤ 100) ∧ (1 ≤ F.sscript ∧ F.sscript ≤ 100) := by
  have := h.2.2.1
  simp [prmOk, allIn] at this
  omega
theorem size_in {F : Fnt} {l : Int} (h : ValidF F) : 1 ≤ sizeOf' F l ∧ sizeOf' F l ≤ 100 := by
  have := prm_sz h
  unfold sizeOf'
  repeat' split
  all_goals omega
/-- A parameter at the size of a style. -/
def par (F : Fnt) (l n : Int) : Int := scl n (sizeOf' F l)
/-- A scaled parameter lies between 0 and itself. -/
theorem par_in {F : Fnt} {l n : Int} (h : ValidF F) (h0 : 0 ≤ n) (h1 : n ≤ 20000) : 0 ≤ par F l n ∧ par F l n ≤ n := by
  have hs := size_in (l := l) h
  unfold par
  rw [scl_ok (by omega) (by omega) (by omega)]
  have h2 : 0 ≤ n * sizeOf' F l := Int.mul_nonneg h0 (by omega)
  have h3 : n * sizeOf' F l ≤ n * 100 := Int.mul_le_mul_of_nonneg_left hs.2 h0
  unfold rdiv
  rw [if_pos h2]
  omega

set_option maxHeartbeats 1000000 in
theorem ref32_Half_calls (n : Int) (w : World) : Calls Try.prog 30 #[.int .i64 n] w (Gives (.int .i64 (hlf n)) w) := by
  go_enter Try.func30, Try.ntmps30
  have hS := own_start w
  go_wp2_with (first | (refine own_unguard (by rfl) ?_) | (go_at_call 50; refine own_calls hS (ref01_Half_gives _ _) ?_; clear hS; (try clear ww); intro ww hS) | (refine own_load1 rfl _ _ rfl rfl hS (atl (by repeat constructor)) (by first | exact ot_int | exact ot_bool) (by first | rfl | assumption) ?_) | (refine own_load rfl _ _ rfl rfl hS (atl (by repeat constructor)) (by first | exact rt_font | exact rt_style) ?_) | (refine own_load_old rfl _ _ rfl rfl hS (by assumption) (by first | exact List.not_mem_nil | assumption) (by first | exact rt_font | exact rt_style) ?_) | (refine own_load_has rfl _ _ rfl rfl hS (by assumption) (by first | exact List.not_mem_nil | assumption) (by first | exact rt_font | exact rt_style) ?_) | (refine own_load1_old rfl _ _ rfl rfl hS (by assumption) (by first | exact List.not_mem_nil | assumption) (by first | exact ot_int | exact ot_bool) ?_) | (refine own_load1_has rfl _ _ rfl rfl hS (by assumption) (by first | exact List.not_mem_nil | assumption) (by first | exact ot_int | exact ot_bool) (by first | rfl | assumption) ?_) | (refine own_box rfl _ _ rfl rfl hS ?_; clear hS; (try clear ww); intro bb ww hS) | (refine own_alloc rfl _ rfl hS (by first | exact zt_style) ?_; clear hS; (try clear ww); intro bb ww hS) | (refine own_store rfl _ _ _ rfl rfl rfl hS (atl (by repeat constructor)) (by first | exact rt_font | exact rt_style) (by rfl) (by rfl) ?_; clear hS; (try clear ww); intro ww hS; (try simp only at hS); (try simp only [List.set_cons_succ] at hS); (try simp only [List.set_cons_zero] at hS)) | (refine own_store1 rfl _ _ _ rfl rfl rfl rfl hS (atl (by repeat constructor)) (by first | exact ot_int | exact ot_bool) (by simp) ?_; clear hS; (try clear ww); intro ww hS; (try simp only at hS); (try simp only [List.set_cons_succ] at hS); (try simp only [List.set_cons_zero] at hS); (try simp only [Act.eval] at hS); (try simp only [Array.getD_eq_getD_getElem?] at hS); (try simp only [List.getElem?_toArray] at hS); (try simp only [List.getElem?_cons_succ] at hS); (try simp only [List.getElem?_cons_zero] at hS); (try simp only [Option.getD_some] at hS)))
  go_ret
  exact own_gives hS

set_option maxHeartbeats 4000000 in
set_option maxRecDepth 100000 in
theorem ref32_Par_calls (F : Fnt) (l n : Int) (c : Bool) (w : World) (hl : lvlOk l = true) (hv : ValidF F) (hn : -1073741824 ≤ n ∧ n ≤ 1073741824) : Calls Try.prog 16 #[F.val, .agg #[.int .i64 l, .bool c], .int .i64 n] w (Gives (.int .i64 (par F l n)) w) := by
  have HL := Lib.hid hl
  have HN := Lib.hid hn
  have HZ := Lib.hid (size_in (l := l) hv)
  have HC := Lib.hid (fun w' => ref01_Scale_gives n (sizeOf' F l) w' HN.out (by have := HZ.out; omega) (by have := HZ.out; omega))
  have HP := Lib.hid (show par F l n = scl n (sizeOf' F l) from rfl)
  have HS := Lib.hid (fun w' => ref25_Size_in F l c w' HL.out)
  generalize sizeOf' F l = Z at *
  clear hl hv hn
  go_enter Try.func16, Try.ntmps16
  have hS := own_start w
  go_wp2_with (first | (refine own_unguard (by rfl) ?_) | (go_at_call 36; refine own_calls hS (HS.out _) ?_; clear hS; (try clear ww); intro ww hS) | (go_at_call 35; refine own_calls hS (HC.out _) ?_; clear hS; (try clear ww); intro ww hS) | (refine own_load1 rfl _ _ rfl rfl hS (atl (by repeat constructor)) (by first | exact ot_int | exact ot_bool) (by first | rfl | assumption) ?_) | (refine own_load rfl _ _ rfl rfl hS (atl (by repeat constructor)) (by first | exact rt_font | exact rt_style) ?_) | (refine own_load_old rfl _ _ rfl rfl hS (by assumption) (by first | exact List.not_mem_nil | assumption) (by first | exact rt_font | exact rt_style) ?_) | (refine own_load_has rfl _ _ rfl rfl hS (by assumption) (by first | exact List.not_mem_nil | assumption) (by first | exact rt_font | exact rt_style) ?_) | (refine own_load1_old rfl _ _ rfl rfl hS (by assumption) (by first | exact List.not_mem_nil | assumption) (by first | exact ot_int | exact ot_bool) ?_) | (refine own_load1_has rfl _ _ rfl rfl hS (by assumption) (by first | exact List.not_mem_nil | assumption) (by first | exact ot_int | exact ot_bool) (by first | rfl | assumption) ?_) | (refine own_box rfl _ _ rfl rfl hS ?_; clear hS; (try clear ww); intro bb ww hS) | (refine own_alloc rfl _ rfl hS (by first | exact zt_style) ?_; clear hS; (try clear ww); intro bb ww hS) | (refine own_store rfl _ _ _ rfl rfl rfl hS (atl (by repeat constructor)) (by first | exact rt_font | exact rt_style) (by rfl) (by rfl) ?_; clear hS; (try clear ww); intro ww hS; (try simp only at hS); (try simp only [List.set_cons_succ] at hS); (try simp only [List.set_cons_zero] at hS)) | (refine own_store1 rfl _ _ _ rfl rfl rfl rfl hS (atl (by repeat constructor)) (by first | exact ot_int | exact ot_bool) (by simp) ?_; clear hS; (try clear ww); intro ww hS; (try simp only at hS); (try simp only [List.set_cons_succ] at hS); (try simp only [List.set_cons_zero] at hS); (try simp only [Act.eval] at hS); (try simp only [Array.getD_eq_getD_getElem?] at hS); (try simp only [List.getElem?_toArray] at hS); (try simp only [List.getElem?_cons_succ] at hS); (try simp only [List.getElem?_cons_zero] at hS); (try simp only [Option.getD_some] at hS)))
  go_ret
  exact ⟨ret_int HP.out.symm, hS.below⟩

end Go.Proofs.Ytfmoghkffffmmaa
namespace Go.Proofs.Ytfmoghkffffmmaa
open Go.RowKit
section
variable {P : Program} {ops : Array Oper} {Q : Exit → Act → World → Prop} {rel : Nat → World → World → Prop} {D : List Nat} {W : World}

/-- Operation j in a frame in which operation k has yielded, from the frame in which it has not. -/
theorem wpOp_put {j : Nat} {ok oj : Oper} {v : Value} (hj : ops[j]? = some oj) (hap : ok.apart ops oj = true) (hsj : ∀ cs b, oj.op ≠ .select cs b)
    {K : Act → World → Prop} {a : Act} {w : World} (h : wpOp P ops Qno j K a w) : wpOp P ops Qno j (fun a' w' => ∃ a0, a' = a0.put ok.dst v ∧ K a0 w') (a.put ok.dst v) w := by
  obtain ⟨h1, h2, h3⟩ := Oper.apart_spec hap
  have comm : ∀ (a : Act) (u : Value), (a.put ok.dst v).put oj.dst u = (a.put oj.dst u).put ok.dst v := fun a u => Act.put_comm a v u h2
  unfold wpOp at *
  simp only [hj] at *
  rw [wanted_put oj a ok.dst v h1]
  by_cases hw : Region.wanted oj (yielded ops a.tmps) = true
  · simp only [hw, if_true] at h ⊢
    rcases h with h | ⟨_, _, _, h⟩
    case inr => exact h.elim
    refine .inl ?_
    unfold Oper.wp at *
    rw [execOp_put oj hsj a ok.dst v h1]
    generalize (execOp a.eval oj).run P w = r at *
    cases r with
    | halt x w' => cases x <;> exact h
    | ok n w' =>
      cases n <;> simp only [Oper.upon] at h ⊢
      case value u => exact ⟨_, comm a u, h⟩
      case skip => exact ⟨_, comm a _, h⟩
      case defer d =>
        refine ⟨_, ?_, h⟩
        rw [← comm]
        cases ok.dst <;> rfl
      case enter f args =>
        refine Calls.mono h fun e w'' he => ?_
        cases e with
        | returned u => exact ⟨_, comm a u, he⟩
        | panicked c => exact he
        | outgrown => exact he
      case row r args =>
        refine Rows.mono h fun u w'' he => ?_
        exact ⟨_, comm a u, he⟩
  · simp only [hw] at h ⊢
    exact ⟨_, comm a _, h⟩

theorem wpOp_go {K : Act → World → Prop} {a : Act} {w : World} {i : Nat} {oi : Oper} (hi : ops[i]? = some oi) (h : wpList P ops (fun e a' w' => e = .normal ∧ K a' w') [oi] a w) : wpOp P ops Qno i K a w := by
  unfold wpOp
  simp only [hi]
  unfold wpList at h
  by_cases hwt : Region.wanted oi (yielded ops a.tmps) = true
  · simp only [hwt, if_true] at h ⊢
    rcases h with h | ⟨_, _, _, h⟩
    · refine .inl ?_
      unfold Oper.wp Oper.upon at h ⊢
      generalize (execOp a.eval oi).run P w = r at h ⊢
      cases r with
      | ok x w' =>
        cases x with
        | enter f args =>
          refine Calls.mono h (fun e w'' he => ?_)
          cases e with
          | returned u => exact he.2
          | panicked c => exact absurd he.1 (by simp)
          | outgrown => obtain ⟨_, _, he, _⟩ := he; exact absurd he (by simp)
        | row r args => exact Rows.mono h (fun _ _ he => he.2)
        | value u => exact h.2
        | skip => exact h.2
        | defer d => exact h.2
        | _ => exact h
      | halt x w' => cases x <;> first | exact h | exact absurd h.1 (by simp)
    · exact absurd h.1 (by simp)
  · simp only [hwt] at h ⊢
    exact h.2

/-- The operations of the list, one after the other, each making memory at most; then R of what is owned, of the spans of blocks that they have made, of the frame and the world. -/
def Chn (P : Program) (ops : Array Oper) (D : List Nat) (W : World) (R : List (Nat × List Value) → List (Nat × Nat) → Act → World → Prop) : List Nat → List (Nat × List Value) → List (Nat × Nat) → Act → World → Prop
  | [], L, S, a, w => R L S a w
  | i :: is, L, S, a, w => wpOp P ops Qno i (fun a' w' => ∃ L1, Own [] w L1 w' ∧ ∀ w'', Own D W (L1 ++ L) w'' → Below w'.heap.size w' w'' → Chn P ops D W R is (L1 ++ L) ((w.heap.size, w'.heap.size) :: S) a' w'') a w
/-- Block b lies in none of the spans. -/
def Off (b : Nat) (S : List (Nat × Nat)) : Prop := ∀ p ∈ S, b < p.1 ∨ p.2 ≤ b

theorem mk_swap (m i k : Nat) (l : List Nat) : mk m (i :: k :: l) = mk m (k :: i :: l) := by
  by_cases h : i = k
  · subst h; rfl
  · show ((mk m l).setIfInBounds k true).setIfInBounds i true = ((mk m l).setIfInBounds i true).setIfInBounds k true
    exact Array.setIfInBounds_comm _ _ (fun e => h e.symm)

/-- The operations of the list come in this order, with operation k at any time. -/
def lateB (ops : Array Oper) (k : Nat) : List Nat → List Nat → Bool
  | [], done => decide (Region.ready .any ops (mk ops.size done) = [k])
  | i :: is, done => ((Region.ready .any ops (mk ops.size done)).all fun j => j == i || j == k) && (Region.ready .any ops (mk ops.size done)).contains i && decide (Region.ready .any ops (mk ops.size (k :: done)) = [i]) &&
      (match ops[k]?, ops[i]? with | some ok, some oi => ok.apart ops oi | _, _ => false) && lateB ops k is (i :: done)

theorem off_new {b : Nat} {zs : List Value} {w w' : World} {S : List (Nat × Nat)} (h : Own [] w [(b, zs)] w') (hO : ∀ p ∈ S, p.2 ≤ w.heap.size) : Off b S := fun p hp => by
  have h1 := hO p hp
  rcases h.ge (b, zs) (by simp) with h2 | h2
  · cases h2
  · exact .inr (Nat.le_trans h1 h2)
theorem spans_next {w w' w'' : World} {S : List (Nat × Nat)} (hO : ∀ p ∈ S, p.2 ≤ w.heap.size) (h1 : w.heap.size ≤ w'.heap.size) (h2 : w'.heap.size ≤ w''.heap.size) : ∀ p ∈ (w.heap.size, w'.heap.size) :: S, p.2 ≤ w''.heap.size := fun p hp => by
  rcases List.mem_cons.1 hp with rfl | hp
  · exact h2
  · exact Nat.le_trans (hO p hp) (Nat.le_trans h1 h2)
theorem chn_done {R : List (Nat × List Value) → List (Nat × Nat) → Act → World → Prop} {k : Nat} {ok : Oper} {v : Value} {b n : Nat} {zs : List Value} {all : List Nat} (hk : ops[k]? = some ok) (hsel : Region.noSelect ops = true)
    (hfin : ∀ L S a w, R L S a w → Off b S → Own D W ((b, zs) :: L) w → wpK P ops Q rel n (mk ops.size (k :: all)) (a.put ok.dst v) w) :
    ∀ (is done : List Nat) (L : List (Nat × List Value)) (S : List (Nat × Nat)) (a : Act) (w : World), lateB ops k is done = true → is.reverse ++ done = all → (∀ i ∈ is, ∀ w w', Below w.heap.size w w' → rel i w w') →
      (∀ w'', Own D W L w'' → Below w.heap.size w w'' → Chn P ops D W R is L S a w'') → Off b S → Own D W ((b, zs) :: L) w → wpK P ops Q rel (n + is.length) (mk ops.size (k :: done)) (a.put ok.dst v) w := by
  intro is
  induction is with
  | nil =>
    intro done L S a w hB hall hrel H hOff hS
    obtain rfl : done = all := by simpa using hall
    exact hfin L S a w (H w (hS.forget (List.sublist_cons_self _ _)) (bself w)) hOff hS
  | cons i is ih =>
    intro done L S a w hB hall hrel H hOff hS
    simp only [lateB, Bool.and_eq_true, decide_eq_true_eq] at hB
    obtain ⟨⟨⟨⟨h1, h2⟩, h3⟩, h4⟩, h5⟩ := hB
    have hi : ∃ oi, ops[i]? = some oi := by
      rw [hk] at h4
      cases hq : ops[i]? with
      | none => rw [hq] at h4; cases h4
      | some oi => exact ⟨oi, rfl⟩
    obtain ⟨oi, hi⟩ := hi
    rw [hk, hi] at h4
    refine wpK_one (n := n + is.length) h3 ?_
    have h6 := H w (hS.forget (List.sublist_cons_self _ _)) (bself w)
    refine wpOp_mono (fun a' w' h' => ?_) (wpOp_put (v := v) hi h4 (Region.noSelect_spec hsel i oi · · hi) h6)
    obtain ⟨a0, rfl, L1, hL1, hc⟩ := h'
    refine ⟨hrel i (by simp) _ _ hL1.below, fun w'' hb => ?_⟩
    rw [mk_swap]
    refine ih (i :: done) (L1 ++ L) ((w.heap.size, w'.heap.size) :: S) a0 w'' h5 (by rw [← hall]; simp) (fun j hj => hrel j (by simp [hj])) (fun w3 hO hb3 => hc w3 hO (bthen hb hb3)) (fun p hp => ?_) ?_
    · rcases List.mem_cons.1 hp with rfl | hp
      · exact .inl (hS.has (b, zs) (by simp)).lt
      · exact hOff p hp
    · exact ((hS.join hL1).perm List.perm_middle).step hb

theorem chn_late {R : List (Nat × List Value) → List (Nat × Nat) → Act → World → Prop} {k : Nat} {ok : Oper} {n : Nat} {zs : List Value} {all : List Nat} {t : TypeId} (hk : ops[k]? = some ok) (hg : ok.guard = none) (hop : ok.op = .alloc t) (Z : ZeroTy P t zs) (hsel : Region.noSelect ops = true)
    (hrk : ∀ w w', Below w.heap.size w w' → rel k w w')
    (hfin : ∀ L S a b w, R L S a w → Off b S → Own D W ((b, zs) :: L) w → wpK P ops Q rel n (mk ops.size (k :: all)) (a.put ok.dst (.pointer (some ⟨b, 0, none⟩))) w) :
    ∀ (is done : List Nat) (L : List (Nat × List Value)) (S : List (Nat × Nat)) (a : Act) (w : World), lateB ops k is done = true → is.reverse ++ done = all → (∀ i ∈ is, ∀ w w', Below w.heap.size w w' → rel i w w') →
      (∀ w'', Own D W L w'' → Below w.heap.size w w'' → Chn P ops D W R is L S a w'') → (∀ p ∈ S, p.2 ≤ w.heap.size) → Own D W L w → wpK P ops Q rel (n + is.length + 1) (mk ops.size done) a w := by
  intro is
  induction is with
  | nil =>
    intro done L S a w hB hall hrel H hO hS
    obtain rfl : done = all := by simpa using hall
    simp only [lateB, decide_eq_true_eq] at hB
    refine wpK_one (n := n) hB (point_go k hk (own_alloc hg t hop (own_start w) Z fun b w' h1 => ?_))
    unfold wpList
    exact ⟨rfl, hrk _ _ h1.below, fun w'' hb => hfin L S a b w'' (H w'' ((hS.step h1.below).step hb) (bthen h1.below hb)) (off_new h1 hO) ((hS.join h1).step hb)⟩
  | cons i is ih =>
    intro done L S a w hB hall hrel H hO hS
    have hB0 := hB
    simp only [lateB, Bool.and_eq_true, decide_eq_true_eq] at hB
    obtain ⟨⟨⟨⟨h1, h2⟩, h3⟩, h4⟩, h5⟩ := hB
    refine ⟨List.ne_nil_of_mem (by simpa using h2), fun j hj => ?_⟩
    have h7 := List.all_eq_true.1 h1 j hj
    simp only [Bool.or_eq_true, beq_iff_eq] at h7
    rcases h7 with rfl | rfl
    · refine wpOp_mono (fun a' w' h' => ?_) (H w hS (bself w))
      obtain ⟨L1, hL1, hc⟩ := h'
      refine ⟨hrel j (by simp) _ _ hL1.below, fun w'' hb => ?_⟩
      exact ih (j :: done) (L1 ++ L) ((w.heap.size, w'.heap.size) :: S) a' w'' h5 (by rw [← hall]; simp) (fun i hi => hrel i (by simp [hi])) (fun w3 hO hb3 => hc w3 hO (bthen hb hb3)) (spans_next hO hL1.below.size hb.size) ((hS.join hL1).step hb)
    · refine point_go j hk (own_alloc hg t hop (own_start w) Z fun b w' h1 => ?_)
      unfold wpList
      refine ⟨rfl, hrk _ _ h1.below, fun w'' hb => ?_⟩
      exact chn_done (P := P) (Q := Q) hk hsel (fun L S a w hR hF hO => hfin L S a b w hR hF hO) (i :: is) done L S a w'' hB0 hall hrel (fun w3 hO hb3 => H w3 hO (bthen (bthen h1.below hb) hb3)) (off_new h1 hO) ((hS.join h1).step hb)
end
section
variable {P : Program} {l : List Oper} {Q : Exit → Act → World → Prop} {D : List Nat} {W w : World} {L : List (Nat × List Value)} {a : Act} {B : Nat} {mid hard : List Nat} {done : List Nat}

theorem late_closed {ops : Array Oper} {k : Nat} : ∀ (is done : List Nat), Closed ops (mk ops.size done) → lateB ops k is done = true → Closed ops (mk ops.size (k :: (is.reverse ++ done))) := by
  intro is
  induction is with
  | nil =>
    intro done h hb
    simp only [lateB, decide_eq_true_eq] at hb
    exact h.set (i := k) (by rw [hb]; simp)
  | cons i is ih =>
    intro done h hb
    simp only [lateB, Bool.and_eq_true, decide_eq_true_eq] at hb
    have := ih (i :: done) (h.set (by simpa using hb.1.1.1.2)) hb.2
    simpa using this
/-- A chain of operations that make memory at most, with a free alloc (k) beside it; n operations remain behind. -/
theorem own_late (hS : Own D W L w) (k : Nat) (is : List Nat) (n : Nat) {m : Nat} (hmn : n + is.length + 1 = m) {ok : Oper} {t : TypeId} {zs : List Value} (hk : l.toArray[k]? = some ok) (hg : ok.guard = none) (hop : ok.op = .alloc t) (Z : ZeroTy P t zs)
    (hcl : Closed l.toArray (mk l.toArray.size done)) (hB : (Region.noSelect l.toArray && lateB l.toArray k is done && ((k :: is).all fun i => !hard.contains i && !mid.contains i)) = true)
    (h : ∀ w', Own D W L w' → Below w.heap.size w w' → Chn P l.toArray D W (fun L S a w => Closed l.toArray (mk l.toArray.size (k :: (is.reverse ++ done))) → ∀ b w', Off b S → Own D W ((b, zs) :: L) w' → Below w.heap.size w w' → wpK P l.toArray Q (relOf B mid hard) n (mk l.toArray.size (k :: (is.reverse ++ done))) (a.put ok.dst (.pointer (some ⟨b, 0, none⟩))) w') is L [] a w') :
    wpK P l.toArray Q (relOf B mid hard) m (mk l.toArray.size done) a w := by
  subst hmn
  simp only [Bool.and_eq_true] at hB
  have hs : ∀ i ∈ k :: is, ∀ w w', Below w.heap.size w w' → relOf B mid hard i w w' := fun i hi w w' hb => by
    rw [relOf_soft (List.all_eq_true.1 hB.2 i hi)]; exact hb
  exact chn_late (P := P) (Q := Q) (all := is.reverse ++ done) hk hg hop Z hB.1.1 (hs k (by simp)) (fun L S a b w hR hF hO => hR (late_closed is done hcl hB.1.2) b w hF hO (bself w)) is done L [] a w hB.1.2 rfl (fun i hi => hs i (by simp [hi])) h (fun p hp => by cases hp) hS
/-- One operation of the chain. -/
theorem chn_soft {R : List (Nat × List Value) → List (Nat × Nat) → Act → World → Prop} {S : List (Nat × Nat)} (i : Nat) {is : List Nat} {oi : Oper} (hi : l.toArray[i]? = some oi)
    (h : Own [] w [] w → wpList P l.toArray (fun e a' w' => e = .normal ∧ ∃ L1, Own [] w L1 w' ∧ ∀ w'', Own D W (L1 ++ L) w'' → Below w'.heap.size w' w'' → Chn P l.toArray D W R is (L1 ++ L) ((w.heap.size, w'.heap.size) :: S) a' w'') [oi] a w) : Chn P l.toArray D W R (i :: is) L S a w :=
  wpOp_go hi (h (own_start w))
end
end Go.Proofs.Ytfmoghkffffmmaa
