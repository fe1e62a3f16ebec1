/- Texts Par, Lte, Mea, Chk, Avo. -/
import Derived.Test.YtdbcdjiclkmknaaK08
import Derived.Test.YtdbcdjiclkmknaaK13
import Derived.Test.YtdbcdjiclkmknaaK10
namespace Go.Proofs.Ytdbcdjiclkmknaa
open Go.RowKit

attribute [local irreducible] wpQuiet wpG wpP wpK wpList Code.wp Calls

theorem prm_sz {F : Fnt} (h : ValidF F) : (1 ≤ F.script ∧ F.script ≤ 100) ∧ (1 ≤ F.sscript ∧ F.sscript ≤ 100) := by
  have := h.2.2.1
  simp [prmOk, allIn] at this
  omega
theorem size_in {F : Fnt} {l : Int} (h : ValidF F) : 1 ≤ sizeOf' F l ∧ sizeOf' F l ≤ 100 := by
  have := prm_sz h
  unfold sizeOf'
  repeat' split
  all_goals omega
/-- A parameter at the size of a style. -/
def par (F : Fnt) (l n : Int) : Int := scl n (sizeOf' F l)
/-- A scaled parameter lies between 0 and itself. -/
theorem par_in {F : Fnt} {l n : Int} (h : ValidF F) (h0 : 0 ≤ n) (h1 : n ≤ 20000) : 0 ≤ par F l n ∧ par F l n ≤ n := by
  have hs := size_in (l := l) h
  unfold par
  rw [scl_ok (by omega) (by omega) (by omega)]
  have h2 : 0 ≤ n * sizeOf' F l := Int.mul_nonneg h0 (by omega)
  have h3 : n * sizeOf' F l ≤ n * 100 := Int.mul_le_mul_of_nonneg_left hs.2 h0
  unfold rdiv
  rw [if_pos h2]
  omega

set_option maxHeartbeats 1000000 in
theorem ref32_Half_calls (n : Int) (w : World) : Calls Try.prog 28 #[.int .i64 n] w (Gives (.int .i64 (hlf n)) w) := by
  go_enter Try.func28, Try.ntmps28
  have hS := own_start w
  go_wp2_with (first|(refine own_unguard (by rfl) ?_)|(go_at_call 51;refine own_calls hS (ref01_Half_gives _ _) ?_;clear hS;(try clear ww);intro ww hS)|(refine w_ld rfl _ rfl (by rfl) (by first|exact rd_1 (by repeat constructor) (by first|rfl|assumption)|exact rd_w (by repeat constructor) (by rfl)|((first|refine rd_o ‹_› (by rfl) ?_|refine rd_h ‹_› (by rfl) ?_|refine rd_1o ‹_› ?_|refine rd_1h ‹_› (by first|rfl|assumption) ?_);first|exact nmn|assumption|simp)) hS ?_)|((first|refine own_box rfl _ _ rfl (by rfl) hS ?_|refine w_al rfl rfl hS ?_);clear hS;(try clear ww);intro bb ww hS)|((first|refine w_st rfl _ _ rfl (by rfl) (by rfl) (by repeat constructor) (by rfl) (by rfl) (by first|rfl|assumption) hS ?_|refine w_s1 rfl _ _ rfl (by rfl) (by repeat constructor) (by first|exact .c|exact .t rfl) (by rfl) (by repeat constructor) hS ?_);clear hS;(try clear ww);intro ww hS))
  go_ret
  exact own_gives hS

set_option maxHeartbeats 4000000 in
set_option maxRecDepth 100000 in
theorem ref32_Par_calls (F : Fnt) (l n : Int) (c : Bool) (w : World) (hl : lvlOk l = true) (hv : ValidF F) (hn : -1073741824 ≤ n ∧ n ≤ 1073741824) : Calls Try.prog 34 #[F.val, .agg #[.int .i64 l, .bool c], .int .i64 n] w (Gives (.int .i64 (par F l n)) w) := by
  have HL := Lib.hid hl
  have HN := Lib.hid hn
  have HZ := Lib.hid (size_in (l := l) hv)
  have HC := Lib.hid (fun w' => ref01_Scale_gives n (sizeOf' F l) w' HN.out (by have := HZ.out; omega) (by have := HZ.out; omega))
  have HP := Lib.hid (show par F l n = scl n (sizeOf' F l) from rfl)
  have HS := Lib.hid (fun w' => ref25_Size_in F l c w' HL.out)
  generalize sizeOf' F l = Z at *
  clear hl hv hn
  go_enter Try.func34, Try.ntmps34
  have hS := own_start w
  go_wp2_with (first|(refine own_unguard (by rfl) ?_)|(go_at_call 53;refine own_calls hS (HS.out _) ?_;clear hS;(try clear ww);intro ww hS)|(go_at_call 52;refine own_calls hS (HC.out _) ?_;clear hS;(try clear ww);intro ww hS)|(refine w_ld rfl _ rfl (by rfl) (by first|exact rd_1 (by repeat constructor) (by first|rfl|assumption)|exact rd_w (by repeat constructor) (by rfl)|((first|refine rd_o ‹_› (by rfl) ?_|refine rd_h ‹_› (by rfl) ?_|refine rd_1o ‹_› ?_|refine rd_1h ‹_› (by first|rfl|assumption) ?_);first|exact nmn|assumption|simp)) hS ?_)|((first|refine own_box rfl _ _ rfl (by rfl) hS ?_|refine w_al rfl rfl hS ?_);clear hS;(try clear ww);intro bb ww hS)|((first|refine w_st rfl _ _ rfl (by rfl) (by rfl) (by repeat constructor) (by rfl) (by rfl) (by first|rfl|assumption) hS ?_|refine w_s1 rfl _ _ rfl (by rfl) (by repeat constructor) (by first|exact .c|exact .t rfl) (by rfl) (by repeat constructor) hS ?_);clear hS;(try clear ww);intro ww hS))
  go_ret
  exact ⟨ret_int HP.out.symm, hS.below⟩

end Go.Proofs.Ytdbcdjiclkmknaa
namespace Go.Proofs.Ytdbcdjiclkmknaa
open Go.RowKit
section
variable {P : Program} {ops : Array Oper} {Q : Exit → Act → World → Prop} {rel : Nat → World → World → Prop} {D : List Nat} {W : World}

theorem mk_swap (m i k : Nat) (l : List Nat) : mk m (i :: k :: l) = mk m (k :: i :: l) := by
  by_cases h : i = k
  · subst h; rfl
  · show ((mk m l).setIfInBounds k true).setIfInBounds i true = ((mk m l).setIfInBounds i true).setIfInBounds k true
    exact Array.setIfInBounds_comm _ _ (fun e => h e.symm)

end
section
variable {P : Program} {l : List Oper} {Q : Exit → Act → World → Prop} {D : List Nat} {W w : World} {L : List (Nat × List Value)} {a : Act} {B : Nat} {mid hard : List Nat} {done : List Nat}

end
end Go.Proofs.Ytdbcdjiclkmknaa
namespace Go.Proofs.Ytdbcdjiclkmknaa
open Go.RowKit

attribute [local irreducible] wpQuiet wpG wpP wpK wpList Code.wp Calls

end Go.Proofs.Ytdbcdjiclkmknaa
namespace Go.Proofs.Ytdbcdjiclkmknaa
open Go.RowKit

attribute [local irreducible] wpQuiet wpG wpP wpK wpList Code.wp Calls

/-- What Check asks. -/
def ChkOk (F : Fnt) (l : Int) (n : Nat) (kids : List (Bx n)) : Prop := ValidF F ∧ lvlOk l = true ∧ ∀ k ∈ kids, validB n k

set_option maxHeartbeats 4000000 in
set_option maxRecDepth 100000 in
theorem ref32_Check_font (F : Fnt) (l : Int) (c : Bool) (kx : Option Addr) (nk kc : Nat) (w : World) (hF : FntOk w F) (hq : F.gs.length ≤ 500 ∧ F.ss.length ≤ 50) (hv : ¬ ValidF F) : Calls Try.prog 27 #[F.val, .agg #[.int .i64 l, .bool c], .slice kx nk kc] w (Gives (.int .i64 1) w) := by
  have HF := Lib.hid hF
  have HV := Lib.hid hv
  have HQ := Lib.hid hq
  clear hF hv hq
  go_enter Try.func27, Try.ntmps27
  have hS := own_start w
  go_wp2_with (first|(refine own_unguard (by rfl) ?_)|(go_at_call 48;refine own_calls hS (ref05_Valid_calls F _ (HF.out.below hS.below) HQ.out _ (iff_f HV.out)) ?_;clear hS;(try clear ww);intro ww hS)|(refine w_ld rfl _ rfl (by rfl) (by first|exact rd_1 (by repeat constructor) (by first|rfl|assumption)|exact rd_w (by repeat constructor) (by rfl)|((first|refine rd_o ‹_› (by rfl) ?_|refine rd_h ‹_› (by rfl) ?_|refine rd_1o ‹_› ?_|refine rd_1h ‹_› (by first|rfl|assumption) ?_);first|exact nmn|assumption|simp)) hS ?_)|((first|refine own_box rfl _ _ rfl (by rfl) hS ?_|refine w_al rfl rfl hS ?_);clear hS;(try clear ww);intro bb ww hS)|((first|refine w_st rfl _ _ rfl (by rfl) (by rfl) (by repeat constructor) (by rfl) (by rfl) (by first|rfl|assumption) hS ?_|refine w_s1 rfl _ _ rfl (by rfl) (by repeat constructor) (by first|exact .c|exact .t rfl) (by rfl) (by repeat constructor) hS ?_);clear hS;(try clear ww);intro ww hS))
  go_ret
  exact own_gives hS

set_option maxHeartbeats 4000000 in
set_option maxRecDepth 100000 in
theorem ref32_Check_style (F : Fnt) (l : Int) (c : Bool) (kx : Option Addr) (nk kc : Nat) (w : World) (hF : FntOk w F) (hq : F.gs.length ≤ 500 ∧ F.ss.length ≤ 50) (hv : ValidF F) (hl : lvlOk l = false) : Calls Try.prog 27 #[F.val, .agg #[.int .i64 l, .bool c], .slice kx nk kc] w (Gives (.int .i64 1) w) := by
  have HF := Lib.hid hF
  have HV := Lib.hid hv
  have HQ := Lib.hid hq
  have HL := Lib.hid hl
  clear hF hv hq hl
  go_enter Try.func27, Try.ntmps27
  have hS := own_start w
  go_wp2_with (first|(refine own_unguard (by rfl) ?_)|(go_at_call 48;refine own_calls hS (ref05_Valid_calls F _ (HF.out.below hS.below) HQ.out _ (iff_t HV.out)) ?_;clear hS;(try clear ww);intro ww hS)|(go_at_call 49;refine own_calls hS (ref25_Valid_v HL) ?_;clear hS;(try clear ww);intro ww hS)|(refine w_ld rfl _ rfl (by rfl) (by first|exact rd_1 (by repeat constructor) (by first|rfl|assumption)|exact rd_w (by repeat constructor) (by rfl)|((first|refine rd_o ‹_› (by rfl) ?_|refine rd_h ‹_› (by rfl) ?_|refine rd_1o ‹_› ?_|refine rd_1h ‹_› (by first|rfl|assumption) ?_);first|exact nmn|assumption|simp)) hS ?_)|((first|refine own_box rfl _ _ rfl (by rfl) hS ?_|refine w_al rfl rfl hS ?_);clear hS;(try clear ww);intro bb ww hS)|((first|refine w_st rfl _ _ rfl (by rfl) (by rfl) (by repeat constructor) (by rfl) (by rfl) (by first|rfl|assumption) hS ?_|refine w_s1 rfl _ _ rfl (by rfl) (by repeat constructor) (by first|exact .c|exact .t rfl) (by rfl) (by repeat constructor) hS ?_);clear hS;(try clear ww);intro ww hS))
  go_ret
  exact own_gives hS

set_option maxHeartbeats 8000000 in
set_option maxRecDepth 100000 in
theorem ref32_Check_list (F : Fnt) (l : Int) (c : Bool) (n : Nat) (kids : List (Bx n)) (kx : Option Addr) (kc : Nat) (w : World) (hF : FntOk w F) (hq : F.gs.length ≤ 500 ∧ F.ss.length ≤ 50) (hv : ValidF F) (hl : lvlOk l = true)
    (hk : RepL w n kx kids) (hc : ∀ k ∈ kids, bCount n k ≤ 1000000) (hkl2 : kids.length ≤ 1000000) (e : Int) (he : (e = 0 ∧ ∀ k ∈ kids, validB n k) ∨ (e = 1 ∧ ¬ ∀ k ∈ kids, validB n k)) : Calls Try.prog 27 #[F.val, .agg #[.int .i64 l, .bool c], .slice kx kids.length kc] w (Gives (.int .i64 e) w) := by
  have HF := Lib.hid hF
  have HV := Lib.hid hv
  have HQ := Lib.hid hq
  have HL := Lib.hid hl
  have HK := Lib.hid hk
  have HC := Lib.hid hc
  have HE := Lib.hid he
  clear hF hv hq hl hk hc he
  go_enter Try.func27, Try.ntmps27
  have hS := own_start w
  go_wp2_with (first|(refine own_unguard (by rfl) ?_)|(go_at_call 48;refine own_calls hS (ref05_Valid_calls F _ (HF.out.below hS.below) HQ.out _ (iff_t HV.out)) ?_;clear hS;(try clear ww);intro ww hS)|(go_at_call 49;refine own_calls hS (ref25_Valid_v HL) ?_;clear hS;(try clear ww);intro ww hS)|(refine w_ld rfl _ rfl (by rfl) (by first|exact rd_1 (by repeat constructor) (by first|rfl|assumption)|exact rd_w (by repeat constructor) (by rfl)|((first|refine rd_o ‹_› (by rfl) ?_|refine rd_h ‹_› (by rfl) ?_|refine rd_1o ‹_› ?_|refine rd_1h ‹_› (by first|rfl|assumption) ?_);first|exact nmn|assumption|simp)) hS ?_)|((first|refine own_box rfl _ _ rfl (by rfl) hS ?_|refine w_al rfl rfl hS ?_);clear hS;(try clear ww);intro bb ww hS)|((first|refine w_st rfl _ _ rfl (by rfl) (by rfl) (by repeat constructor) (by rfl) (by rfl) (by first|rfl|assumption) hS ?_|refine w_s1 rfl _ _ rfl (by rfl) (by repeat constructor) (by first|exact .c|exact .t rfl) (by rfl) (by repeat constructor) hS ?_);clear hS;(try clear ww);intro ww hS))
  obtain ⟨L0, HL0, hS0⟩ := hS.named
  clear hS
  have hS := hS0
  clear hS0
  go_loopw [7] (fun i wr => ∃ j : Nat, j ≤ kids.length ∧ i = .int .i64 j ∧ (∀ k ∈ kids.take j, validB n k) ∧ Own [] w L0 wr) (fun i _ => kids.length - (intOf i).toNat)
  case atStart => exact ⟨0, Nat.zero_le _, rfl, by simp, hS⟩
  case round =>
    clear hS
    obtain ⟨j, hj, rfl, hf, hS⟩ := hrel
    obtain rfl := HL0.out
    clear HL0
    have HFo := Lib.hid hf
    clear hf
    by_cases hlt : j < kids.length
    · obtain ⟨kid, hkid⟩ : ∃ kid, kids[j]? = some kid := ⟨kids[j], by simp [hlt]⟩
      obtain ⟨kb, ko, css, hkx, hrg, hrep⟩ := HK.out j kid hkid
      obtain rfl : kx = some ⟨kb, ko, none⟩ := hkx
      obtain ⟨c0, c1, c2, c3, c4, c5, c6, c7, c8, c9, c10, rfl⟩ := eleven hrep.len
      have HKid := Lib.hid hkid
      have hcc := HC.out kid (List.mem_of_getElem? hkid)
      by_cases hvk : validB n kid
      · have HR := Lib.hid (fun w' (h : Below w.heap.size w w') => ref28_Valid_calls n kid _ w' (hrep.step h) hrep.wide hcc _ (iff_t hvk))
        have HF2 := Lib.hid (show ∀ k ∈ kids.take (j + 1), validB n k by
          intro k hk
          rw [List.take_add_one, HKid.out] at hk
          rcases List.mem_append.1 hk with hk | hk
          · exact HFo.out k hk
          · obtain rfl : k = kid := by simpa using hk
            exact hvk)
        clear hrep hkid hcc hvk
        go_wp2_with (first|(refine own_unguard (by rfl) ?_)|(refine own_load_old rfl _ _ rfl rfl hS hrg List.not_mem_nil rt_box ?_)|(go_at_call 50;refine own_calls hS (HR.out _ hS.below) ?_;clear hS;(try clear ww);intro ww hS)|(refine w_ld rfl _ rfl (by rfl) (by first|exact rd_1 (by repeat constructor) (by first|rfl|assumption)|exact rd_w (by repeat constructor) (by rfl)|((first|refine rd_o ‹_› (by rfl) ?_|refine rd_h ‹_› (by rfl) ?_|refine rd_1o ‹_› ?_|refine rd_1h ‹_› (by first|rfl|assumption) ?_);first|exact nmn|assumption|simp)) hS ?_)|(refine own_box rfl _ _ rfl (by rfl) hS ?_;clear hS;(try clear ww);intro bb ww hS)|((first|refine w_st rfl _ _ rfl (by rfl) (by rfl) (by repeat constructor) (by rfl) (by rfl) (by first|rfl|assumption) hS ?_|refine w_s1 rfl _ _ rfl (by rfl) (by repeat constructor) (by first|exact .c|exact .t rfl) (by rfl) (by repeat constructor) hS ?_);clear hS;(try clear ww);intro ww hS))
        go_roundw
        case rel => exact ⟨j + 1, hlt, by go_num, HF2.out, hS⟩
        case measure => exact loop_meas hlt
      · have HR := Lib.hid (fun w' (h : Below w.heap.size w w') => ref28_Valid_calls n kid _ w' (hrep.step h) hrep.wide hcc _ (iff_f hvk))
        have HE1 := Lib.hid (show e = 1 by
          rcases HE.out with ⟨_, h⟩ | ⟨h, _⟩
          · exact absurd (h kid (List.mem_of_getElem? hkid)) hvk
          · exact h)
        clear hrep hkid hcc hvk
        go_wp2_with (first|(refine own_unguard (by rfl) ?_)|(refine own_load_old rfl _ _ rfl rfl hS hrg List.not_mem_nil rt_box ?_)|(go_at_call 50;refine own_calls hS (HR.out _ hS.below) ?_;clear hS;(try clear ww);intro ww hS)|(refine w_ld rfl _ rfl (by rfl) (by first|exact rd_1 (by repeat constructor) (by first|rfl|assumption)|exact rd_w (by repeat constructor) (by rfl)|((first|refine rd_o ‹_› (by rfl) ?_|refine rd_h ‹_› (by rfl) ?_|refine rd_1o ‹_› ?_|refine rd_1h ‹_› (by first|rfl|assumption) ?_);first|exact nmn|assumption|simp)) hS ?_)|(refine own_box rfl _ _ rfl (by rfl) hS ?_;clear hS;(try clear ww);intro bb ww hS)|((first|refine w_st rfl _ _ rfl (by rfl) (by rfl) (by repeat constructor) (by rfl) (by rfl) (by first|rfl|assumption) hS ?_|refine w_s1 rfl _ _ rfl (by rfl) (by repeat constructor) (by first|exact .c|exact .t rfl) (by rfl) (by repeat constructor) hS ?_);clear hS;(try clear ww);intro ww hS))
        go_ret
        exact ⟨ret_int HE1.out.symm, hS.below⟩
    · have HE0 := Lib.hid (show e = 0 by
        rcases HE.out with ⟨h, _⟩ | ⟨_, h⟩
        · exact h
        · exact absurd (by rw [List.take_of_length_le (by omega)] at HFo; exact HFo.out) h)
      go_wp2_with (first|(refine own_unguard (by rfl) ?_)|(refine w_ld rfl _ rfl (by rfl) (by first|exact rd_1 (by repeat constructor) (by first|rfl|assumption)|exact rd_w (by repeat constructor) (by rfl)|((first|refine rd_o ‹_› (by rfl) ?_|refine rd_h ‹_› (by rfl) ?_|refine rd_1o ‹_› ?_|refine rd_1h ‹_› (by first|rfl|assumption) ?_);first|exact nmn|assumption|simp)) hS ?_)|(refine own_box rfl _ _ rfl (by rfl) hS ?_;clear hS;(try clear ww);intro bb ww hS)|((first|refine w_st rfl _ _ rfl (by rfl) (by rfl) (by repeat constructor) (by rfl) (by rfl) (by first|rfl|assumption) hS ?_|refine w_s1 rfl _ _ rfl (by rfl) (by repeat constructor) (by first|exact .c|exact .t rfl) (by rfl) (by repeat constructor) hS ?_);clear hS;(try clear ww);intro ww hS))
      go_ret
      exact ⟨ret_int HE0.out.symm, hS.below⟩

/-- What Check returns. -/
theorem ref32_Check_calls (F : Fnt) (l : Int) (c : Bool) (n : Nat) (kids : List (Bx n)) (kx : Option Addr) (kc : Nat) (w : World) (hF : FntOk w F) (hq : F.gs.length ≤ 500 ∧ F.ss.length ≤ 50)
    (hk : RepL w n kx kids) (hc : ∀ k ∈ kids, bCount n k ≤ 1000000) (hkl2 : kids.length ≤ 1000000) (e : Int) (he : (e = 0 ∧ ChkOk F l n kids) ∨ (e = 1 ∧ ¬ ChkOk F l n kids)) : Calls Try.prog 27 #[F.val, .agg #[.int .i64 l, .bool c], .slice kx kids.length kc] w (Gives (.int .i64 e) w) := by
  by_cases hv : ValidF F
  · cases hl : lvlOk l
    · obtain rfl : e = 1 := by
        rcases he with ⟨_, h⟩ | ⟨h, _⟩
        · exact absurd h.2.1 (by rw [hl]; simp)
        · exact h
      exact ref32_Check_style F l c kx _ kc w hF hq hv hl
    · refine ref32_Check_list F l c n kids kx kc w hF hq hv hl hk hc hkl2 e ?_
      rcases he with ⟨h, h2⟩ | ⟨h, h2⟩
      · exact .inl ⟨h, h2.2.2⟩
      · exact .inr ⟨h, fun h3 => h2 ⟨hv, hl, h3⟩⟩
  · obtain rfl : e = 1 := by
      rcases he with ⟨_, h⟩ | ⟨h, _⟩
      · exact absurd h.1 hv
      · exact h
    exact ref32_Check_font F l c kx _ kc w hF hq hv

/-- The call gives a box and an error. -/
def GivesBE (n : Nat) (b : Bx n) (err : Int) (w : World) (e : Ending) (w' : World) : Prop := ∃ cs, e = .returned (.tuple #[.agg cs.toArray, .int .i64 err]) ∧ Rep w' n b cs ∧ Below w.heap.size w w'
theorem own_be {P : Program} {D : List Nat} {W w : World} {L : List (Nat × List Value)} {f : FuncId} {args : Array Value} {n : Nat} {b : Bx n} {err : Int} {R : Ending → World → Prop} (hS : Own D W L w) (hc : Calls P f args w (GivesBE n b err w))
    (h : ∀ cs w', Rep w' n b cs → Own D W L w' → Below w.heap.size w w' → R (.returned (.tuple #[.agg cs.toArray, .int .i64 err])) w') : Calls P f args w R :=
  hc.mono fun _ _ ⟨cs, he, hr, hb⟩ => by rw [he]; exact h cs _ hr (hS.step hb) hb
/-- The empty box. -/
def zeroB (n : Nat) : Bx (n + 1) := (⟨0, ⟨#[]⟩, 0, 0, 0, 0, 0, 0, 0, []⟩, [])
theorem rep_zero (n : Nat) (w : World) : Rep w (n + 1) (zeroB n) [.int .i64 0, .string ⟨#[]⟩, .int .i64 0, .int .i64 0, .int .i64 0, .int .i64 0, .int .i64 0, .int .i64 0, .slice none 0 0, .int .i64 0, .slice none 0 0] :=
  rep_mk (kx := none) (sx := none) (kc := 0) (sc := 0) (hdOk_new i64_0 i64_0 i64_0 i64_0) (by simp) (.inl rfl) (fun i kid hi => by simp at hi)

set_option maxHeartbeats 4000000 in
set_option maxRecDepth 100000 in
theorem ref32_Done_ok (n : Nat) (b : Bx n) (cs : List Value) (w : World) (hr : Rep w n b cs) (hc : bCount n b ≤ 1000000) (hv : validB n b) : Calls Try.prog 29 #[.agg cs.toArray] w (Gives (.tuple #[.agg cs.toArray, .int .i64 0]) w) := by
  have h11 := hr.len
  obtain ⟨c0, c1, c2, c3, c4, c5, c6, c7, c8, c9, c10, rfl⟩ := eleven h11
  have HR := Lib.hid (fun w' (h : Below w.heap.size w w') => ref28_Valid_calls n b _ w' (hr.step h) hr.wide hc _ (iff_t hv))
  have hall := rep_all hr
  clear hr hc hv h11
  go_enter Try.func29, Try.ntmps29
  have hS := own_start w
  go_wp2_with (first|(refine own_unguard (by rfl) ?_)|(go_at_call 50;refine own_calls hS (HR.out _ hS.below) ?_;clear hS;(try clear ww);intro ww hS)|(refine own_store rfl _ _ _ rfl rfl rfl hS at0 rt_box (by rfl) hall ?_;clear hS;intro ww hS;simp only [List.set_cons_zero] at hS)|(refine w_ld rfl _ rfl (by rfl) (by first|exact rd_1 (by repeat constructor) (by first|rfl|assumption)|exact rd_w (by repeat constructor) (by rfl)|((first|refine rd_o ‹_› (by rfl) ?_|refine rd_h ‹_› (by rfl) ?_|refine rd_1o ‹_› ?_|refine rd_1h ‹_› (by first|rfl|assumption) ?_);first|exact nmn|assumption|simp)) hS ?_)|((first|refine own_box rfl _ _ rfl (by rfl) hS ?_|refine w_al rfl rfl hS ?_);clear hS;(try clear ww);intro bb ww hS)|((first|refine w_st rfl _ _ rfl (by rfl) (by rfl) (by repeat constructor) (by rfl) (by rfl) (by first|rfl|assumption) hS ?_|refine w_s1 rfl _ _ rfl (by rfl) (by repeat constructor) (by first|exact .c|exact .t rfl) (by rfl) (by repeat constructor) hS ?_);clear hS;(try clear ww);intro ww hS))
  have hc := (hS.get at0).cell
  refine bodyPost_ret (v := .tuple #[.agg #[c0, c1, c2, c3, c4, c5, c6, c7, c8, c9, c10], .int .i64 0]) (by simp [results, Try.results29, go_sem, hc]) rfl ⟨rfl, hS.below⟩

set_option maxHeartbeats 4000000 in
set_option maxRecDepth 100000 in
theorem ref32_Done_bad (n : Nat) (b : Bx n) (cs : List Value) (w : World) (hr : Rep w n b cs) (hc : bCount n b ≤ 1000000) (hv : ¬ validB n b) : Calls Try.prog 29 #[.agg cs.toArray] w (Gives (.tuple #[.agg #[.int .i64 0, .string ⟨#[]⟩, .int .i64 0, .int .i64 0, .int .i64 0, .int .i64 0, .int .i64 0, .int .i64 0, .slice none 0 0, .int .i64 0, .slice none 0 0], .int .i64 6]) w) := by
  have h11 := hr.len
  obtain ⟨c0, c1, c2, c3, c4, c5, c6, c7, c8, c9, c10, rfl⟩ := eleven h11
  have HR := Lib.hid (fun w' (h : Below w.heap.size w w') => ref28_Valid_calls n b _ w' (hr.step h) hr.wide hc _ (iff_f hv))
  clear hr hc hv h11
  go_enter Try.func29, Try.ntmps29
  have hS := own_start w
  go_wp2_with (first|(refine own_unguard (by rfl) ?_)|(go_at_call 50;refine own_calls hS (HR.out _ hS.below) ?_;clear hS;(try clear ww);intro ww hS)|(refine w_ld rfl _ rfl (by rfl) (by first|exact rd_1 (by repeat constructor) (by first|rfl|assumption)|exact rd_w (by repeat constructor) (by rfl)|((first|refine rd_o ‹_› (by rfl) ?_|refine rd_h ‹_› (by rfl) ?_|refine rd_1o ‹_› ?_|refine rd_1h ‹_› (by first|rfl|assumption) ?_);first|exact nmn|assumption|simp)) hS ?_)|((first|refine own_box rfl _ _ rfl (by rfl) hS ?_|refine w_al rfl rfl hS ?_);clear hS;(try clear ww);intro bb ww hS)|((first|refine w_st rfl _ _ rfl (by rfl) (by rfl) (by repeat constructor) (by rfl) (by rfl) (by first|rfl|assumption) hS ?_|refine w_s1 rfl _ _ rfl (by rfl) (by repeat constructor) (by first|exact .c|exact .t rfl) (by rfl) (by repeat constructor) hS ?_);clear hS;(try clear ww);intro ww hS))
  have hc := (hS.get at0).cell
  refine bodyPost_ret (v := .tuple #[.agg #[.int .i64 0, .string ⟨#[]⟩, .int .i64 0, .int .i64 0, .int .i64 0, .int .i64 0, .int .i64 0, .int .i64 0, .slice none 0 0, .int .i64 0, .slice none 0 0], .int .i64 6]) (by simp [results, Try.results29, go_sem, hc]) rfl ⟨rfl, hS.below⟩

end Go.Proofs.Ytdbcdjiclkmknaa
namespace Go.Proofs.Ytdbcdjiclkmknaa
open Go.RowKit

attribute [local irreducible] wpQuiet wpG wpP wpK wpList Code.wp Calls

/-- The cells are the box, none of whose lists lies in the blocks B. -/
@[reducible] def RepA (B : List Nat) (w : World) (n : Nat) (b : Bx n) (cs : List Value) : Prop := RepG (fun k _ => k ∉ B) (fun k => k ∉ B) w n b cs
theorem RepG.rep {ko : Nat → Nat → Prop} {so : Nat → Prop} {w : World} {n : Nat} {b : Bx n} {cs : List Value} (h : RepG ko so w n b cs) : Rep w n b cs := h.mono (fun _ _ _ => trivial) (fun _ _ => trivial)
theorem repA_step {B : List Nat} {w w' : World} {n : Nat} {b : Bx n} {cs : List Value} (h : RepA B w n b cs) (hb : Below w.heap.size w w') : RepA B w' n b cs := RepG.step hb n b cs h
/-- The block of a slice of the call's own. -/
theorem sl_where {size n : Nat} {y : Option Addr} {c : Nat} {xs : List Value} {X : List (Nat × List Value)} (h : Sl size n (.slice y n c) xs X) (hn : n ≠ 0) {k o : Nat} (hx : y = some ⟨k, o, none⟩) : ∃ z, (k, z) ∈ X := by
  rcases h.2 with ⟨_, _, _, h0, _⟩ | ⟨b, c', junk, he, _, _, _, rfl⟩
  · exact absurd h0 hn
  · subst hx
    have hb : k = b := by
      simp at he
      exact he.1.1
    exact ⟨xs ++ junk, by rw [hb]; simp⟩
/-- A list of boxes lies there; K: where. -/
def RepLA (K : Nat → Prop) (B : List Nat) (w : World) (n : Nat) (x : Option Addr) (kids : List (Bx n)) : Prop := ∀ i kid, kids[i]? = some kid → ∃ k o css, x = some ⟨k, o, none⟩ ∧ K k ∧ w.rangeAt k (o + i * 11) css ∧ RepA B w n kid css
theorem rep_mkA {B : List Nat} {w : World} {n : Nat} {a : Hd} {kids : List (Bx n)} {kx sx : Option Addr} {kc sc : Nat} (ha : HdOk a) (hl : kids.length ≤ maxLen) (hs : RowAt w sx 1 intCells a.src) (hso : a.src ≠ [] → ∀ k o, sx = some ⟨k, o, none⟩ → k ∉ B) (hk : RepLA (fun k => k ∉ B) B w n kx kids) : RepA B w (n + 1) (a, kids) (a.cells (.slice kx kids.length kc) (.slice sx a.src.length sc)) :=
  ⟨kx, kc, sx, sc, rfl, ha, hl, hs, hso, hk⟩
theorem rep_outA {B : List Nat} {w : World} {n : Nat} {a : Hd} {kids : List (Bx n)} {cs : List Value} (h : RepA B w (n + 1) (a, kids) cs) : ∃ kx kc sx sc, cs = a.cells (.slice kx kids.length kc) (.slice sx a.src.length sc) ∧ HdOk a ∧ kids.length ≤ maxLen ∧ RowAt w sx 1 intCells a.src ∧ (a.src ≠ [] → ∀ k o, sx = some ⟨k, o, none⟩ → k ∉ B) ∧ RepLA (fun k => k ∉ B) B w n kx kids := by
  obtain ⟨kx, kc, sx, sc, h1, h2, h3, h4, h5, h6⟩ := h
  exact ⟨kx, kc, sx, sc, h1, h2, h3, h4, h5, h6⟩
theorem RepLA.step {K : Nat → Prop} {B : List Nat} {w w' : World} {n : Nat} {x : Option Addr} {kids : List (Bx n)} (h : RepLA K B w n x kids) (hb : Below w.heap.size w w') : RepLA K B w' n x kids := fun i kid hi => by
  obtain ⟨k, o, css, e, hK, hr, hp⟩ := h i kid hi
  exact ⟨k, o, css, e, hK, rangeAt_below hr hb, repA_step hp hb⟩
/-- The call gives a box away from the blocks B. -/
def GivesA (B : List Nat) (n : Nat) (b : Bx n) (w : World) (e : Ending) (w' : World) : Prop := ∃ cs, e = .returned (.agg cs.toArray) ∧ RepA B w' n b cs ∧ Below w.heap.size w w'

set_option maxHeartbeats 4000000 in
set_option maxRecDepth 100000 in
theorem ref28_At_A (B : List Nat) (n : Nat) (b : Bx (n + 1)) (cs : List Value) (x y : Int) (w : World) (hr : RepA B w (n + 1) b cs) (hx : I64 x) (hy : I64 y) : Calls Try.prog 16 #[.agg cs.toArray, .int .i64 x, .int .i64 y] w (GivesA B (n + 1) (atXY (n + 1) b x y) w) := by
  obtain ⟨⟨kind, name, size, bw, bh, bd, bx, by_, of, src⟩, kids⟩ := b
  obtain ⟨kx, kc, sx, sc, rfl, ha, hkl, hrow0, hso, hkids⟩ := rep_outA hr
  have HH := Lib.hid (show HdOk ⟨kind, name, size, bw, bh, bd, x, y, of, src⟩ from ⟨ha.kind, ha.size, ha.w, ha.h, ha.d, hx, hy, ha.of, ha.src, ha.srcLen, ha.nameLen⟩)
  have HL := Lib.hid hkl
  have HSr := Lib.hid hrow0
  have HK := Lib.hid hkids
  have HSo := Lib.hid hso
  simp only at HSr
  clear hr ha hkl hrow0 hkids hx hy hso
  go_enter Try.func16, Try.ntmps16
  have hS := own_start w
  go_wp2_with (first|(refine own_unguard (by rfl) ?_)|(refine w_ld rfl _ rfl (by rfl) (by first|exact rd_1 (by repeat constructor) (by first|rfl|assumption)|exact rd_w (by repeat constructor) (by rfl)|((first|refine rd_o ‹_› (by rfl) ?_|refine rd_h ‹_› (by rfl) ?_|refine rd_1o ‹_› ?_|refine rd_1h ‹_› (by first|rfl|assumption) ?_);first|exact nmn|assumption|simp)) hS ?_)|((first|refine own_box rfl _ _ rfl (by rfl) hS ?_|refine w_al rfl rfl hS ?_);clear hS;(try clear ww);intro bb ww hS)|((first|refine w_st rfl _ _ rfl (by rfl) (by rfl) (by repeat constructor) (by rfl) (by rfl) (by first|rfl|assumption) hS ?_|refine w_s1 rfl _ _ rfl (by rfl) (by repeat constructor) (by first|exact .c|exact .t rfl) (by rfl) (by repeat constructor) hS ?_);clear hS;(try clear ww);intro ww hS))
  have hc := (hS.get at0).cell
  refine bodyPost_ret (v := .agg #[.int .i64 kind, .string name, .int .i64 size, .int .i64 bw, .int .i64 bh, .int .i64 bd, .int .i64 x, .int .i64 y, .slice kx kids.length kc, .int .i64 of, .slice sx src.length sc]) (by simp [results, Try.results16, go_sem, hc]) rfl ⟨_, rfl, rep_mkA HH.out HL.out (HSr.out.own hS) HSo.out (HK.out.step hS.below), hS.below⟩

set_option maxHeartbeats 4000000 in
set_option maxRecDepth 100000 in
theorem box_At_A (B : List Nat) (n : Nat) (b : Bx (n + 1)) (cs : List Value) (x y : Int) (w : World) (hr : RepA B w (n + 1) b cs) (hB : ∀ k ∈ B, k < w.heap.size) (hx : I64 x) (hy : I64 y) (hsl : b.1.src.length ≤ 17592186044416) : Calls Try.prog 25 #[.agg cs.toArray, .int .i64 x, .int .i64 y] w (GivesA B (n + 1) (atXY (n + 1) b x y) w) := by
  obtain ⟨⟨kind, name, size, bw, bh, bd, bx, by_, of, src⟩, kids⟩ := b
  obtain ⟨kx, kc, sx, sc, rfl, ha, hkl, hrow0, hso, hkids⟩ := rep_outA hr
  have HH := Lib.hid (show HdOk ⟨kind, name, size, bw, bh, bd, x, y, of, src⟩ from ⟨ha.kind, ha.size, ha.w, ha.h, ha.d, hx, hy, ha.of, ha.src, ha.srcLen, ha.nameLen⟩)
  have HL := Lib.hid hkl
  have HSr := Lib.hid hrow0
  have HK := Lib.hid hkids
  have HB := Lib.hid hB
  simp only at HSr
  clear hr ha hkl hrow0 hkids hx hy hso hB
  go_enter Try.func25, Try.ntmps25
  have hS := own_start w
  go_wp2_with (first|(refine own_unguard (by rfl) ?_)|(go_at_call 46;refine own_ints hS (clone_calls _ _ _ _ (HSr.out.own hS) hsl) ?_;clear hS;intro y2 c2 Xs ww hXs hrow hS1;have hS := hS1.perm (front_back Xs _ _ []);clear hS1)|(refine w_ld rfl _ rfl (by rfl) (by first|exact rd_1 (by repeat constructor) (by first|rfl|assumption)|exact rd_w (by repeat constructor) (by rfl)|((first|refine rd_o ‹_› (by rfl) ?_|refine rd_h ‹_› (by rfl) ?_|refine rd_1o ‹_› ?_|refine rd_1h ‹_› (by first|rfl|assumption) ?_);first|exact nmn|assumption|simp)) hS ?_)|((first|refine own_box rfl _ _ rfl (by rfl) hS ?_|refine w_al rfl rfl hS ?_);clear hS;(try clear ww);intro bb ww hS)|((first|refine w_st rfl _ _ rfl (by rfl) (by rfl) (by repeat constructor) (by rfl) (by rfl) (by first|rfl|assumption) hS ?_|refine w_s1 rfl _ _ rfl (by rfl) (by repeat constructor) (by first|exact .c|exact .t rfl) (by rfl) (by repeat constructor) hS ?_);clear hS;(try clear ww);intro ww hS))
  have hc := (hS.get at0).cell
  have hso2 : src ≠ [] → ∀ k o, y2 = some ⟨k, o, none⟩ → k ∉ B := fun hne k o hx hm => by
    have h1 := HB.out k hm
    rcases sl_where hXs (by intro h0; exact hne (List.eq_nil_of_length_eq_zero h0)) hx with ⟨z, hz⟩
    rcases hS.ge (k, z) (by simp [hz]) with h2 | h2
    · cases h2
    · simp only at h2; omega
  refine bodyPost_ret (v := .agg #[.int .i64 kind, .string name, .int .i64 size, .int .i64 bw, .int .i64 bh, .int .i64 bd, .int .i64 x, .int .i64 y, .slice kx kids.length kc, .int .i64 of, .slice y2 src.length c2]) (by simp [results, Try.results25, go_sem, hc]) rfl ⟨_, rfl, rep_mkA HH.out HL.out (sl_row hS (fun x hx => by simp [hx]) hXs) hso2 (HK.out.step hS.below), hS.below⟩

end Go.Proofs.Ytdbcdjiclkmknaa
