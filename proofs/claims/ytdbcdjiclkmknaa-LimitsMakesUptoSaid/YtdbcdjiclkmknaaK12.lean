/- Texts Bvl, Rfn. -/
import Derived.Test.YtdbcdjiclkmknaaK11
namespace Go.Proofs.Ytdbcdjiclkmknaa
open Go.RowKit

attribute [local irreducible] wpQuiet wpG wpP wpK wpList Code.wp Calls

/-- All fields of all boxes are as required. -/
def allOwn : (n : Nat) → Bx n → Bool
  | 0, _ => true
  | n + 1, b => ownOk b.1 b.2.length && b.2.all (allOwn n)
/-- The box is valid where c boxes have been counted, at a depth. -/
def okV (n : Nat) (b : Bx n) (c depth : Int) : Prop := allOwn n b = true ∧ c + bCount n b ≤ 20000 ∧ depth + bNested n b ≤ 101
def validB (n : Nat) (b : Bx n) : Prop := okV n b 0 1

theorem nest_le {α : Type} (f : α → Nat) (l : List α) : ∀ (m M : Nat), l.foldl (fun m k => max m (f k)) m ≤ M ↔ m ≤ M ∧ ∀ k ∈ l, f k ≤ M := by
  induction l with
  | nil => intro m M; simp
  | cons x l ih =>
    intro m M
    rw [List.foldl_cons, ih]
    constructor
    · rintro ⟨h1, h2⟩
      refine ⟨by omega, fun k hk => ?_⟩
      rcases List.mem_cons.1 hk with rfl | hk
      · omega
      · exact h2 k hk
    · rintro ⟨h1, h2⟩
      have := h2 x (by simp)
      exact ⟨by omega, fun k hk => h2 k (by simp [hk])⟩
theorem sum_take_le {α : Type} (f : α → Nat) (l : List α) (j : Nat) {x : α} (h : l[j]? = some x) : ((l.take j).map f).sum + f x ≤ (l.map f).sum := by
  obtain ⟨hlt, rfl⟩ := List.getElem?_eq_some_iff.1 h
  have h1 : l = l.take j ++ l[j] :: l.drop (j + 1) := by simp
  have h2 : (l.map f).sum = ((l.take j ++ l[j] :: l.drop (j + 1)).map f).sum := by rw [← h1]
  rw [h2, List.map_append, List.sum_append, List.map_cons, List.sum_cons]
  omega
theorem sum_take_succ {α : Type} (f : α → Nat) (l : List α) (j : Nat) {x : α} (h : l[j]? = some x) : ((l.take (j + 1)).map f).sum = ((l.take j).map f).sum + f x := by
  rw [List.take_add_one, h]
  simp
/-- Where the loop over the kids stands. -/
structure VInv (n : Nat) (a : Hd) (kids : List (Bx n)) (c depth : Int) (j : Nat) (x : Int) : Prop where
  le : j ≤ kids.length
  cnt : x = c + 1 + ((kids.take j).map (bCount n)).sum
  mx : x ≤ 20000
  ok : ∀ kid ∈ kids.take j, allOwn n kid = true ∧ depth + 1 + bNested n kid ≤ 101
theorem VInv.start {n : Nat} {a : Hd} {kids : List (Bx n)} {c depth : Int} (h : c + 1 ≤ 20000) : VInv n a kids c depth 0 (c + 1) := ⟨Nat.zero_le _, by simp, h, by simp⟩
theorem VInv.bad {n : Nat} {a : Hd} {kids : List (Bx n)} {c depth : Int} {j : Nat} {x : Int} {kid : Bx n} (h : VInv n a kids c depth j x) (hk : kids[j]? = some kid) (hn : ¬ okV n kid x (depth + 1)) : ¬ okV (n + 1) (a, kids) c depth := by
  rintro ⟨h1, h2, h3⟩
  simp only [allOwn, Bool.and_eq_true] at h1
  refine hn ⟨List.all_eq_true.1 h1.2 kid (List.mem_of_getElem? hk), ?_, ?_⟩
  · have h4 := sum_take_le (bCount n) kids j hk
    have h5 := h.cnt
    simp only [bCount] at h2
    omega
  · simp only [bNested] at h3
    have h4 := ((nest_le (bNested n) kids 0 (kids.foldl (fun m k => max m (bNested n k)) 0)).1 (Nat.le_refl _)).2 kid (List.mem_of_getElem? hk)
    omega
theorem VInv.next {n : Nat} {a : Hd} {kids : List (Bx n)} {c depth : Int} {j : Nat} {x : Int} {kid : Bx n} (h : VInv n a kids c depth j x) (hk : kids[j]? = some kid) (hn : okV n kid x (depth + 1)) : VInv n a kids c depth (j + 1) (x + bCount n kid) := by
  have hlt : j < kids.length := (List.getElem?_eq_some_iff.1 hk).1
  refine ⟨hlt, ?_, hn.2.1, fun k hm => ?_⟩
  · rw [sum_take_succ (bCount n) kids j hk, h.cnt]
    push_cast
    omega
  · rw [List.take_add_one, hk] at hm
    rcases List.mem_append.1 hm with hm | hm
    · exact h.ok k hm
    · obtain rfl : k = kid := by simpa using hm
      exact ⟨hn.1, by have := hn.2.2; omega⟩
theorem VInv.good {n : Nat} {a : Hd} {kids : List (Bx n)} {c depth x : Int} (h : VInv n a kids c depth kids.length x) (ho : ownOk a kids.length = true) (hd : depth ≤ 100) : okV (n + 1) (a, kids) c depth ∧ x = c + bCount (n + 1) (a, kids) := by
  have h1 := h.cnt
  have h2 := h.mx
  have h3 := h.ok
  rw [List.take_length] at h1 h3
  refine ⟨⟨?_, ?_, ?_⟩, ?_⟩
  · simp only [allOwn, Bool.and_eq_true]
    exact ⟨ho, List.all_eq_true.2 fun k hk => (h3 k hk).1⟩
  · simp only [bCount]; push_cast; omega
  · simp only [bNested]
    have h4 := (nest_le (bNested n) kids 0 (100 - depth).toNat).2 ⟨Nat.zero_le _, fun k hk => by have := (h3 k hk).2; omega⟩
    push_cast
    omega
  · simp only [bCount]; push_cast; omega

theorem iff_no {p : Prop} (h : ¬ p) : false = true ↔ p := ⟨fun h => (by cases h), fun h' => absurd h' h⟩
theorem iff_yes {p : Prop} (h : p) : true = true ↔ p := ⟨fun _ => h, fun _ => rfl⟩
theorem rep_away {w w' : World} {q n : Nat} {L : List (Nat × List Value)} {b : Bx n} {cs : List Value} (hS : Own [q] w L w') (h : RepG (fun k _ => k ≠ q) (fun k => k ≠ q) w n b cs) : RepG (fun k _ => k ≠ q) (fun k => k ≠ q) w' n b cs :=
  (rep_keep2 (Q := fun k => k ≠ q) (fun k hk hlt => hS.block k hlt (by simpa using hk)) n b cs h).mono (fun _ _ h => h.1) (fun _ h => h.1)
theorem VInv.bounds {n : Nat} {a : Hd} {kids : List (Bx n)} {c depth : Int} {j : Nat} {x : Int} (h : VInv n a kids c depth j x) (hc : 0 ≤ c) : 0 ≤ x ∧ x ≤ 20000 := ⟨by have := h.cnt; omega, h.mx⟩
theorem own_start2 {w : World} {q : Nat} {cs : List Value} (h : Has w q cs) : Own [q] w [(q, cs)] w where
  os := rfl
  tape := rfl
  output := rfl
  size := Nat.le_refl _
  block := fun _ _ _ => rfl
  has := fun x hx => by
    obtain rfl : x = (q, cs) := by simpa using hx
    exact h
  ge := fun x hx => by
    obtain rfl : x = (q, cs) := by simpa using hx
    exact .inl (by simp)
  apart := by simp
theorem box_own_v {a : Hd} {k o : Nat} {kx : Option Addr} {nk kc : Nat} {sx : Option Addr} {sc : Nat} {w : World} {v : Bool} (hr : w.rangeAt k o (a.cells (.slice kx nk kc) (.slice sx a.src.length sc))) (hs : RowAt w sx 1 intCells a.src) (hl : a.src.length ≤ 9223372036854775807) (hnm : a.name.size ≤ maxLen) (hv : Hid (ownOk a nk = v)) :
    Calls Try.prog 60 #[.pointer (some ⟨k, o, none⟩)] w (Gives (.bool v) w) := by
  have := box_own_calls a k o kx nk kc sx sc w hr hs hl hnm
  rwa [hv.out] at this
/-- The sources of a box lie where they lay, whatever has become of the count. -/
theorem row_away {w w' : World} {q : Nat} {L : List (Nat × List Value)} {sx : Option Addr} {l : List Int} (hS : Own [q] w L w') (hr : RowAt w sx 1 intCells l) (hs : l ≠ [] → ∀ k o, sx = some ⟨k, o, none⟩ → k ≠ q) : RowAt w' sx 1 intCells l := by
  by_cases hne : l = []
  · exact .inl hne
  · rcases hr with h | ⟨k, o, hx, hr⟩
    · exact .inl h
    · exact .inr ⟨k, o, hx, fun i a hi j v hj => hS.cell (by simpa using hs hne k o hx) (hr i a hi j v hj)⟩
/-- What valid does. -/
def ValidGives (n : Nat) (b : Bx n) (c depth : Int) (q : Nat) (w : World) (e : Ending) (w' : World) : Prop :=
  ∃ (r : Bool) (x : Int), e = .returned (.bool r) ∧ Own [q] w [(q, [.int .i64 x])] w' ∧ (r = true ↔ okV n b c depth) ∧ (r = true → x = c + bCount n b)

set_option maxHeartbeats 8000000 in
set_option maxRecDepth 100000 in
theorem box_valid_step (n : Nat) (ih : ∀ (b : Bx n) (cs : List Value) (k o q : Nat) (c depth : Int) (w : World), w.rangeAt k o cs → RepG (fun k _ => k ≠ q) (fun k => k ≠ q) w n b cs → Wide n b → k ≠ q → Has w q [.int .i64 c] → 0 ≤ c → c ≤ 20000 → 1 ≤ depth → depth ≤ 101 → Calls Try.prog 40 #[.pointer (some ⟨k, o, none⟩), .int .i64 depth, .pointer (some ⟨q, 0, none⟩)] w (ValidGives n b c depth q w))
    (b : Bx (n + 1)) (cs : List Value) (k o q : Nat) (c depth : Int) (w : World) (hrg : w.rangeAt k o cs) (hrep : RepG (fun k _ => k ≠ q) (fun k => k ≠ q) w (n + 1) b cs) (hsm : Wide (n + 1) b) (hkq : k ≠ q) (hq : Has w q [.int .i64 c]) (hc0 : 0 ≤ c) (hc1 : c ≤ 20000) (hd0 : 1 ≤ depth) (hd1 : depth ≤ 101) :
    Calls Try.prog 40 #[.pointer (some ⟨k, o, none⟩), .int .i64 depth, .pointer (some ⟨q, 0, none⟩)] w (ValidGives (n + 1) b c depth q w) := by
  obtain ⟨a, kids⟩ := b
  obtain ⟨kx, kc, sx, sc, rfl, hok, hkl, hrow, hso, hkids⟩ := hrep
  simp only at hkl hrow hso hkids
  have c8 : w.cell? ⟨k, o + 8, none⟩ = some (.slice kx kids.length kc) := hrg 8 _ rfl
  have hkl2 : kids.length ≤ 9223372036854775807 := hsm.2.1
  have hsl : a.src.length ≤ 9223372036854775807 := hsm.1
  have hkD : k ∉ [q] := by simpa using hkq
  have IH := Lib.hid ih
  have HRg := Lib.hid hrg
  have HOk := Lib.hid hok
  have HRow := Lib.hid hrow
  have HSo := Lib.hid hso
  have HK := Lib.hid hkids
  have HSm := Lib.hid hsm
  have hS := own_start2 hq
  clear ih hrg hok hrow hso hkids hsm hq hkl
  go_enter Try.func40, Try.ntmps40
  by_cases h1 : c + 1 ≤ 20000
  · by_cases h2 : depth ≤ 100
    · cases ho : ownOk a kids.length
      · have HO := Lib.hid ho
        have E1 := Lib.hid (show ¬ okV (n + 1) (a, kids) c depth from fun h => by have h3 := h.1; simp only [allOwn, ho, Bool.false_and] at h3; cases h3)
        clear ho
        go_wp2_with (first|(refine own_unguard (by rfl) ?_)|(go_at_call 60;refine own_calls hS (box_own_v (hS.range hkD HRg.out) (row_away hS HRow.out HSo.out) hsl HOk.out.nameLen HO) ?_;clear hS;(try clear ww);intro ww hS)|(refine w_ld rfl _ rfl (by rfl) (by first|exact rd_1 (by repeat constructor) (by first|rfl|assumption)|exact rd_w (by repeat constructor) (by rfl)|((first|refine rd_o ‹_› (by rfl) ?_|refine rd_h ‹_› (by rfl) ?_|refine rd_1o ‹_› ?_|refine rd_1h ‹_› (by first|rfl|assumption) ?_);first|exact nmn|assumption|simp)) hS ?_)|(refine own_box rfl _ _ rfl (by rfl) hS ?_;clear hS;(try clear ww);intro bb ww hS)|((first|refine w_st rfl _ _ rfl (by rfl) (by rfl) (by repeat constructor) (by rfl) (by rfl) (by first|rfl|assumption) hS ?_|refine w_s1 rfl _ _ rfl (by rfl) (by repeat constructor) (by first|exact .c|exact .t rfl) (by rfl) (by repeat constructor) hS ?_);clear hS;(try clear ww);intro ww hS))
        go_ret
        exact ⟨false, _, rfl, hS, iff_no E1.out, fun h => by cases h⟩
      · have HO := Lib.hid ho
        clear ho
        go_wp2_with (first|(refine own_unguard (by rfl) ?_)|(go_at_call 60;refine own_calls hS (box_own_v (hS.range hkD HRg.out) (row_away hS HRow.out HSo.out) hsl HOk.out.nameLen HO) ?_;clear hS;(try clear ww);intro ww hS)|(refine w_ld rfl _ rfl (by rfl) (by first|exact rd_1 (by repeat constructor) (by first|rfl|assumption)|exact rd_w (by repeat constructor) (by rfl)|((first|refine rd_o ‹_› (by rfl) ?_|refine rd_h ‹_› (by rfl) ?_|refine rd_1o ‹_› ?_|refine rd_1h ‹_› (by first|rfl|assumption) ?_);first|exact nmn|assumption|simp)) hS ?_)|(refine own_box rfl _ _ rfl (by rfl) hS ?_;clear hS;(try clear ww);intro bb ww hS)|((first|refine w_st rfl _ _ rfl (by rfl) (by rfl) (by repeat constructor) (by rfl) (by rfl) (by first|rfl|assumption) hS ?_|refine w_s1 rfl _ _ rfl (by rfl) (by repeat constructor) (by first|exact .c|exact .t rfl) (by rfl) (by repeat constructor) hS ?_);clear hS;(try clear ww);intro ww hS))
        go_loopw [31] (fun i wr => ∃ (j : Nat) (x : Int), i = .int .i64 j ∧ VInv n a kids c depth j x ∧ Own [q] w [(q, [.int .i64 x])] wr) (fun i _ => kids.length - (intOf i).toNat)
        case atStart => exact ⟨0, c + 1, rfl, VInv.start h1, hS⟩
        case round =>
          clear hS
          obtain ⟨j, x, rfl, hV, hS⟩ := hrel
          have hx := hV.bounds hc0
          by_cases hlt : j < kids.length
          · obtain ⟨kid, hkid⟩ : ∃ kid, kids[j]? = some kid := ⟨kids[j], by simp [hlt]⟩
            obtain ⟨kb, ko, css, hkx, hkbq, hkr, hkrep⟩ := HK.out j kid hkid
            obtain rfl : kx = some ⟨kb, ko, none⟩ := hkx
            have hkb : kb ∉ [q] := by simpa using hkbq
            have HKr := Lib.hid hkr
            have HKp := Lib.hid hkrep
            have HSk := Lib.hid (HSm.out.2.2 kid (List.mem_of_getElem? hkid))
            have HV := Lib.hid hV
            have HKid := Lib.hid hkid
            clear hkr hkrep hV hkid
            by_cases hok : okV n kid x (depth + 1)
            · have HOk2 := Lib.hid hok
              clear hok
              go_wp2_with (first|(refine own_unguard (by rfl) ?_)|(go_at_call 40;refine Calls.mono (IH.out kid css kb (ko + j * 11) q x (depth + 1) _ (hS.range hkb HKr.out) (rep_away hS HKp.out) HSk.out hkbq (hS.get at0) hx.1 hx.2 (by omega) (by omega)) ?_;rintro e w3 ⟨r, x', rfl, hS3, hr, hx'⟩;have hS9 := hS.chain hS3;obtain rfl : r = true := hr.2 HOk2.out;obtain rfl : x' = x + bCount n kid := hx' rfl;clear hS hS3 hr hx';have hS := hS9;clear hS9)|(refine w_ld rfl _ rfl (by rfl) (by first|exact rd_1 (by repeat constructor) (by first|rfl|assumption)|exact rd_w (by repeat constructor) (by rfl)|((first|refine rd_o ‹_› (by rfl) ?_|refine rd_h ‹_› (by rfl) ?_|refine rd_1o ‹_› ?_|refine rd_1h ‹_› (by first|rfl|assumption) ?_);first|exact nmn|assumption|simp)) hS ?_)|(refine own_box rfl _ _ rfl (by rfl) hS ?_;clear hS;(try clear ww);intro bb ww hS)|((first|refine w_st rfl _ _ rfl (by rfl) (by rfl) (by repeat constructor) (by rfl) (by rfl) (by first|rfl|assumption) hS ?_|refine w_s1 rfl _ _ rfl (by rfl) (by repeat constructor) (by first|exact .c|exact .t rfl) (by rfl) (by repeat constructor) hS ?_);clear hS;(try clear ww);intro ww hS))
              go_roundw
              case rel => exact ⟨j + 1, _, by go_num, HV.out.next HKid.out HOk2.out, hS⟩
              case measure => exact loop_meas hlt
            · have E1 := Lib.hid (HV.out.bad HKid.out hok)
              have HN2 := Lib.hid hok
              clear hok
              go_wp2_with (first|(refine own_unguard (by rfl) ?_)|(go_at_call 40;refine Calls.mono (IH.out kid css kb (ko + j * 11) q x (depth + 1) _ (hS.range hkb HKr.out) (rep_away hS HKp.out) HSk.out hkbq (hS.get at0) hx.1 hx.2 (by omega) (by omega)) ?_;rintro e w3 ⟨r, x', rfl, hS3, hr, hx'⟩;have hS9 := hS.chain hS3;obtain rfl : r = false := Bool.eq_false_iff.2 (fun h => HN2.out (hr.1 h));clear hS hS3 hr hx';have hS := hS9;clear hS9)|(refine w_ld rfl _ rfl (by rfl) (by first|exact rd_1 (by repeat constructor) (by first|rfl|assumption)|exact rd_w (by repeat constructor) (by rfl)|((first|refine rd_o ‹_› (by rfl) ?_|refine rd_h ‹_› (by rfl) ?_|refine rd_1o ‹_› ?_|refine rd_1h ‹_› (by first|rfl|assumption) ?_);first|exact nmn|assumption|simp)) hS ?_)|(refine own_box rfl _ _ rfl (by rfl) hS ?_;clear hS;(try clear ww);intro bb ww hS)|((first|refine w_st rfl _ _ rfl (by rfl) (by rfl) (by repeat constructor) (by rfl) (by rfl) (by first|rfl|assumption) hS ?_|refine w_s1 rfl _ _ rfl (by rfl) (by repeat constructor) (by first|exact .c|exact .t rfl) (by rfl) (by repeat constructor) hS ?_);clear hS;(try clear ww);intro ww hS))
              go_ret
              exact ⟨false, _, rfl, hS, iff_no E1.out, fun h => by cases h⟩
          · have hjl : j = kids.length := by have := hV.le; omega
            subst hjl
            have HG := Lib.hid (hV.good HO.out h2)
            clear hV
            go_wp2_with (first|(refine own_unguard (by rfl) ?_)|(refine w_ld rfl _ rfl (by rfl) (by first|exact rd_1 (by repeat constructor) (by first|rfl|assumption)|exact rd_w (by repeat constructor) (by rfl)|((first|refine rd_o ‹_› (by rfl) ?_|refine rd_h ‹_› (by rfl) ?_|refine rd_1o ‹_› ?_|refine rd_1h ‹_› (by first|rfl|assumption) ?_);first|exact nmn|assumption|simp)) hS ?_)|(refine own_box rfl _ _ rfl (by rfl) hS ?_;clear hS;(try clear ww);intro bb ww hS)|((first|refine w_st rfl _ _ rfl (by rfl) (by rfl) (by repeat constructor) (by rfl) (by rfl) (by first|rfl|assumption) hS ?_|refine w_s1 rfl _ _ rfl (by rfl) (by repeat constructor) (by first|exact .c|exact .t rfl) (by rfl) (by repeat constructor) hS ?_);clear hS;(try clear ww);intro ww hS))
            go_ret
            exact ⟨true, _, rfl, hS, iff_yes HG.out.1, fun _ => HG.out.2⟩
    · have E1 := Lib.hid (show ¬ okV (n + 1) (a, kids) c depth from fun h => by have h3 := h.2.2; simp only [bNested] at h3; push_cast at h3; omega)
      go_wp2_with (first|(refine own_unguard (by rfl) ?_)|(refine w_ld rfl _ rfl (by rfl) (by first|exact rd_1 (by repeat constructor) (by first|rfl|assumption)|exact rd_w (by repeat constructor) (by rfl)|((first|refine rd_o ‹_› (by rfl) ?_|refine rd_h ‹_› (by rfl) ?_|refine rd_1o ‹_› ?_|refine rd_1h ‹_› (by first|rfl|assumption) ?_);first|exact nmn|assumption|simp)) hS ?_)|(refine own_box rfl _ _ rfl (by rfl) hS ?_;clear hS;(try clear ww);intro bb ww hS)|((first|refine w_st rfl _ _ rfl (by rfl) (by rfl) (by repeat constructor) (by rfl) (by rfl) (by first|rfl|assumption) hS ?_|refine w_s1 rfl _ _ rfl (by rfl) (by repeat constructor) (by first|exact .c|exact .t rfl) (by rfl) (by repeat constructor) hS ?_);clear hS;(try clear ww);intro ww hS))
      go_ret
      exact ⟨false, _, rfl, hS, iff_no E1.out, fun h => by cases h⟩
  · have E1 := Lib.hid (show ¬ okV (n + 1) (a, kids) c depth from fun h => by have h3 := h.2.1; simp only [bCount] at h3; push_cast at h3; omega)
    go_wp2_with (first|(refine own_unguard (by rfl) ?_)|(refine w_ld rfl _ rfl (by rfl) (by first|exact rd_1 (by repeat constructor) (by first|rfl|assumption)|exact rd_w (by repeat constructor) (by rfl)|((first|refine rd_o ‹_› (by rfl) ?_|refine rd_h ‹_› (by rfl) ?_|refine rd_1o ‹_› ?_|refine rd_1h ‹_› (by first|rfl|assumption) ?_);first|exact nmn|assumption|simp)) hS ?_)|(refine own_box rfl _ _ rfl (by rfl) hS ?_;clear hS;(try clear ww);intro bb ww hS)|((first|refine w_st rfl _ _ rfl (by rfl) (by rfl) (by repeat constructor) (by rfl) (by rfl) (by first|rfl|assumption) hS ?_|refine w_s1 rfl _ _ rfl (by rfl) (by repeat constructor) (by first|exact .c|exact .t rfl) (by rfl) (by repeat constructor) hS ?_);clear hS;(try clear ww);intro ww hS))
    go_ret
    exact ⟨false, _, rfl, hS, iff_no E1.out, fun h => by cases h⟩

theorem has_range {w : World} {b : Nat} {cs : List Value} (h : Has w b cs) : w.rangeAt b 0 cs := fun j v hj => by rw [h.cell, Nat.zero_add]; exact hj
theorem rep_apart {w w' : World} {n q : Nat} {b : Bx n} {cs : List Value} (hq : q ∈ ([] : List Nat) ∨ w.heap.size ≤ q) (h : Rep w n b cs) (hb : Below w.heap.size w w') : RepG (fun k _ => k ≠ q) (fun k => k ≠ q) w' n b cs :=
  RepG.step hb n b cs ((rep_old n b cs h).mono (fun k _ hk he => hq.elim (fun h => by cases h) (fun h => by omega)) (fun k hk he => hq.elim (fun h => by cases h) (fun h => by omega)))
theorem own_ne {D : List Nat} {W w : World} {L : List (Nat × List Value)} {q rb : Nat} {x y : List Value} (hS : Own D W ((q, x) :: (rb, y) :: L) w) : rb ≠ q := by
  have := hS.apart
  simp only [List.map_cons, List.nodup_cons, List.mem_cons] at this
  exact fun h => this.1 (.inl h.symm)
theorem box_valid_calls : ∀ (n : Nat) (b : Bx n) (cs : List Value) (k o q : Nat) (c depth : Int) (w : World), w.rangeAt k o cs → RepG (fun k _ => k ≠ q) (fun k => k ≠ q) w n b cs → Wide n b → k ≠ q → Has w q [.int .i64 c] → 0 ≤ c → c ≤ 20000 → 1 ≤ depth → depth ≤ 101 → Calls Try.prog 40 #[.pointer (some ⟨k, o, none⟩), .int .i64 depth, .pointer (some ⟨q, 0, none⟩)] w (ValidGives n b c depth q w) := by
  intro n
  induction n with
  | zero => intro b cs k o q c depth w _ h; exact h.elim
  | succ n ih => intro b cs k o q c depth w h1 h2 h3 h4 h5 h6 h7 h8 h9; exact box_valid_step n ih b cs k o q c depth w h1 h2 h3 h4 h5 h6 h7 h8 h9

instance zt_int : ZeroTy Try.prog 3 [.int .i64 0] := ⟨.int .i64 0, by kernel_rfl, rfl⟩

set_option maxHeartbeats 8000000 in
set_option maxRecDepth 100000 in
theorem box_Valid_calls (n : Nat) (b : Bx n) (cs : List Value) (w : World) (hr : Rep w n b cs) (hs : Wide n b) (v : Bool) (hv : v = true ↔ validB n b) : Calls Try.prog 20 #[.agg cs.toArray] w (Gives (.bool v) w) := by
  have h11 := hr.len
  have hall := rep_all hr
  have HR := Lib.hid hr
  have HS := Lib.hid hs
  have HV := Lib.hid hv
  clear hr hs hv
  obtain ⟨c0, c1, c2, c3, c4, c5, c6, c7, c8, c9, c10, rfl⟩ := eleven h11
  clear h11
  go_enter Try.func20, Try.ntmps20
  have hS := own_start w
  go_wp2_with (first|(refine own_unguard (by rfl) ?_)|(refine own_box rfl _ _ rfl rfl hS ?_;clear hS;(try clear ww);intro rb ww hS)|(refine own_alloc rfl _ rfl hS zt_int ?_;clear hS;(try clear ww);intro q ww hS)|(go_at_call 40;refine Calls.mono (box_valid_calls n b [c0, c1, c2, c3, c4, c5, c6, c7, c8, c9, c10] rb 0 q 0 1 _ (has_range (hS.get at1)) (rep_apart (hS.geAt at0) HR.out hS.below) HS.out (own_ne hS) (hS.get at0) (by omega) (by omega) (by omega) (by omega)) ?_;rintro e w3 ⟨r, x, rfl, hS3, hr, _⟩;have hS9 := Own.chain (K := [(q, [.int .i64 0])]) (hS.forget (by simp)) hS3;obtain rfl : r = v := Bool.eq_iff_iff.2 (hr.trans HV.out.symm);clear hS hS3 hr;have hS := hS9;clear hS9)|(refine w_ld rfl _ rfl (by rfl) (by first|exact rd_1 (by repeat constructor) (by first|rfl|assumption)|exact rd_w (by repeat constructor) (by rfl)|((first|refine rd_o ‹_› (by rfl) ?_|refine rd_h ‹_› (by rfl) ?_|refine rd_1o ‹_› ?_|refine rd_1h ‹_› (by first|rfl|assumption) ?_);first|exact nmn|assumption|simp)) hS ?_)|((first|refine own_box rfl _ _ rfl (by rfl) hS ?_|refine w_al rfl rfl hS ?_);clear hS;(try clear ww);intro bb ww hS)|((first|refine w_st rfl _ _ rfl (by rfl) (by rfl) (by repeat constructor) (by rfl) (by rfl) (by first|rfl|assumption) hS ?_|refine w_s1 rfl _ _ rfl (by rfl) (by repeat constructor) (by first|exact .c|exact .t rfl) (by rfl) (by repeat constructor) hS ?_);clear hS;(try clear ww);intro ww hS))
  go_ret
  exact own_gives hS

theorem count_pos : ∀ (n : Nat) (b : Bx n), 1 ≤ bCount n b := by
  intro n
  cases n with
  | zero => intro b; exact b.elim
  | succ n => intro b; simp only [bCount]; omega
theorem len_le_count (n : Nat) : ∀ l : List (Bx n), l.length ≤ (l.map (bCount n)).sum := by
  intro l
  induction l with
  | nil => simp
  | cons k l ih =>
    have := count_pos n k
    simp only [List.map_cons, List.sum_cons, List.length_cons]
    omega
theorem ownOk_src {a : Hd} {nk : Nat} (h : ownOk a nk = true) : srcOk a = true := by
  unfold ownOk at h
  simp only [Bool.and_eq_true] at h
  exact h.2
/-- A valid box is not too great. -/
theorem small_of : ∀ (n : Nat) (b : Bx n), allOwn n b = true → bCount n b ≤ 20000 → Small n b := by
  intro n
  induction n with
  | zero => intro b _ _; trivial
  | succ n ih =>
    intro b h hc
    simp only [allOwn, Bool.and_eq_true] at h
    have hk : ∀ k ∈ b.2, bCount n k ≤ 20000 ∧ bCount n k + 1 ≤ bCount (n + 1) b := fun k hk => by
      obtain ⟨i, hi⟩ := List.mem_iff_getElem?.1 hk
      have := sum_take_le (bCount n) b.2 i hi
      simp only [bCount] at hc ⊢
      omega
    refine ⟨?_, ?_, fun k hm => ih k (List.all_eq_true.1 h.2 k hm) (hk k hm).1⟩
    · have hs : srcOk b.1 = true := ownOk_src h.1
      unfold srcOk srcEnd at hs
      simp only [Bool.and_eq_true] at hs
      have h2 := hs.2
      repeat' split at h2
      all_goals (simp only [Bool.and_eq_true, decide_eq_true_eq, Bool.false_eq_true] at h2; try omega)
    · have := len_le_count n b.2
      simp only [bCount] at hc
      omega
theorem validB_small {n : Nat} {b : Bx n} (h : validB n b) : Small n b ∧ bCount n b ≤ 20000 := by
  have h2 := h.2.1
  exact ⟨small_of n b h.1 (by omega), by omega⟩

end Go.Proofs.Ytdbcdjiclkmknaa
namespace Go.Proofs.Ytdbcdjiclkmknaa
open Go.RowKit

attribute [local irreducible] wpQuiet wpG wpP wpK wpList Code.wp Calls

theorem sum_take_all {α : Type} (f : α → Nat) (l : List α) (j : Nat) : ((l.take j).map f).sum ≤ (l.map f).sum := by
  have h1 : (l.map f).sum = ((l.take j ++ l.drop j).map f).sum := by rw [List.take_append_drop]
  rw [h1, List.map_append, List.sum_append]
  omega
theorem nest_take {n : Nat} {kids : List (Bx n)} {j : Nat} {kid : Bx n} (h : kids[j]? = some kid) : (kids.take (j + 1)).foldl (fun m k => max m (bNested n k)) 0 = max ((kids.take j).foldl (fun m k => max m (bNested n k)) 0) (bNested n kid) := by
  rw [List.take_add_one, h]
  simp

set_option maxHeartbeats 8000000 in
set_option maxRecDepth 100000 in
theorem ref28_Count_step (n : Nat) (ih : ∀ (b : Bx n) (cs : List Value) (w : World), Rep w n b cs → bCount n b ≤ 1000000 → Calls Try.prog 67 #[.agg cs.toArray] w (Gives (.int .i64 (bCount n b)) w))
    (b : Bx (n + 1)) (cs : List Value) (w : World) (hr : Rep w (n + 1) b cs) (hp : bCount (n + 1) b ≤ 1000000) : Calls Try.prog 67 #[.agg cs.toArray] w (Gives (.int .i64 (bCount (n + 1) b)) w) := by
  obtain ⟨⟨kind, name, size, bw, bh, bd, bx, by_, of, src⟩, kids⟩ := b
  obtain ⟨kx, kc, sx, sc, rfl, ha, hkl, hrow0, hkids⟩ := rep_out hr
  have IH := Lib.hid ih
  have HK := Lib.hid hkids
  have HP := Lib.hid hp
  have hb1 : kids.length ≤ 1000000 := by
    have := hp
    have key : ∀ l : List (Bx n), (∀ k ∈ l, 1 ≤ bCount n k) → l.length ≤ (l.map (bCount n)).sum := by
      intro l
      induction l with
      | nil => intro _; simp
      | cons p l ih2 =>
        intro hp
        have h1 := hp p (by simp)
        have h2 := ih2 fun q hq => hp q (by simp [hq])
        simp only [List.length_cons, List.map_cons, List.sum_cons]
        omega
    have h1 := key kids fun k hk => by
      obtain ⟨i, hi⟩ := List.mem_iff_getElem?.1 hk
      obtain ⟨_, _, _, _, _, h⟩ := hkids i k hi
      cases n with
      | zero => exact h.elim
      | succ n => simp [bCount]
    simp only [bCount] at this
    omega
  clear ih hr ha hkl hrow0 hkids hp
  go_enter Try.func67, Try.ntmps67
  have hS := own_start w
  go_wp2_with (first|(refine own_unguard (by rfl) ?_)|(refine w_ld rfl _ rfl (by rfl) (by first|exact rd_1 (by repeat constructor) (by first|rfl|assumption)|exact rd_w (by repeat constructor) (by rfl)|((first|refine rd_o ‹_› (by rfl) ?_|refine rd_h ‹_› (by rfl) ?_|refine rd_1o ‹_› ?_|refine rd_1h ‹_› (by first|rfl|assumption) ?_);first|exact nmn|assumption|simp)) hS ?_)|(refine own_box rfl _ _ rfl (by rfl) hS ?_;clear hS;(try clear ww);intro bb ww hS)|((first|refine w_st rfl _ _ rfl (by rfl) (by rfl) (by repeat constructor) (by rfl) (by rfl) (by first|rfl|assumption) hS ?_|refine w_s1 rfl _ _ rfl (by rfl) (by repeat constructor) (by first|exact .c|exact .t rfl) (by rfl) (by repeat constructor) hS ?_);clear hS;(try clear ww);intro ww hS))
  obtain ⟨L0, HL, hS0⟩ := hS.named
  clear hS
  have hS := hS0
  clear hS0
  go_loopw [4, 3] (fun i x wr => ∃ j : Nat, j ≤ kids.length ∧ i = .int .i64 j ∧ x = .int .i64 (((1 + ((kids.take j).map (bCount n)).sum : Nat) : Int)) ∧ Own [] w L0 wr) (fun i _ _ => kids.length - (intOf i).toNat)
  case atStart => exact ⟨0, Nat.zero_le _, rfl, by simp, hS⟩
  case round =>
    clear hS
    obtain ⟨j, hj, rfl, rfl, hS⟩ := hrel
    obtain rfl := HL.out
    clear HL
    by_cases hlt : j < kids.length
    · obtain ⟨kid, hkid⟩ : ∃ kid, kids[j]? = some kid := ⟨kids[j], by simp [hlt]⟩
      obtain ⟨kb, ko, css, hkx, hrg, hrep⟩ := HK.out j kid hkid
      obtain rfl : kx = some ⟨kb, ko, none⟩ := hkx
      obtain ⟨c0, c1, c2, c3, c4, c5, c6, c7, c8, c9, c10, rfl⟩ := eleven hrep.len
      have hkc : bCount n kid ≤ 1000000 := by
        have h1 := sum_take_le (bCount n) kids j hkid
        have h2 := HP.out
        simp only [bCount] at h2
        omega
      have hsum : ((kids.take j).map (bCount n)).sum + bCount n kid ≤ 1000000 := by
        have h1 := sum_take_le (bCount n) kids j hkid
        have h2 := HP.out
        simp only [bCount] at h2
        omega
      have HRp := Lib.hid hrep
      have HKid := Lib.hid hkid
      clear hrep hkid
      have E1 := Lib.hid (sum_take_succ (bCount n) kids j HKid.out)
      generalize ((kids.take j).map (bCount n)).sum = S at *
      go_wp2_with (first|(refine own_unguard (by rfl) ?_)|(refine own_load_old rfl _ _ rfl rfl hS hrg List.not_mem_nil rt_box ?_)|(go_at_call 67;refine own_calls hS (IH.out kid _ _ (HRp.out.step hS.below) hkc) ?_;clear hS;(try clear ww);intro ww hS)|(refine w_ld rfl _ rfl (by rfl) (by first|exact rd_1 (by repeat constructor) (by first|rfl|assumption)|exact rd_w (by repeat constructor) (by rfl)|((first|refine rd_o ‹_› (by rfl) ?_|refine rd_h ‹_› (by rfl) ?_|refine rd_1o ‹_› ?_|refine rd_1h ‹_› (by first|rfl|assumption) ?_);first|exact nmn|assumption|simp)) hS ?_)|(refine own_box rfl _ _ rfl (by rfl) hS ?_;clear hS;(try clear ww);intro bb ww hS)|((first|refine w_st rfl _ _ rfl (by rfl) (by rfl) (by repeat constructor) (by rfl) (by rfl) (by first|rfl|assumption) hS ?_|refine w_s1 rfl _ _ rfl (by rfl) (by repeat constructor) (by first|exact .c|exact .t rfl) (by rfl) (by repeat constructor) hS ?_);clear hS;(try clear ww);intro ww hS))
      go_roundw
      case rel => exact ⟨j + 1, hlt, by go_num, by rw [E1.out]; congr 1; push_cast; omega, hS⟩
      case measure => exact loop_meas hlt
    · obtain rfl : j = kids.length := by omega
      have E1 := Lib.hid (show 1 + ((kids.take kids.length).map (bCount n)).sum = bCount (n + 1) (⟨kind, name, size, bw, bh, bd, bx, by_, of, src⟩, kids) by rw [List.take_length]; rfl)
      generalize ((kids.take kids.length).map (bCount n)).sum = S at *
      go_wp2_with (first|(refine own_unguard (by rfl) ?_)|(refine w_ld rfl _ rfl (by rfl) (by first|exact rd_1 (by repeat constructor) (by first|rfl|assumption)|exact rd_w (by repeat constructor) (by rfl)|((first|refine rd_o ‹_› (by rfl) ?_|refine rd_h ‹_› (by rfl) ?_|refine rd_1o ‹_› ?_|refine rd_1h ‹_› (by first|rfl|assumption) ?_);first|exact nmn|assumption|simp)) hS ?_)|(refine own_box rfl _ _ rfl (by rfl) hS ?_;clear hS;(try clear ww);intro bb ww hS)|((first|refine w_st rfl _ _ rfl (by rfl) (by rfl) (by repeat constructor) (by rfl) (by rfl) (by first|rfl|assumption) hS ?_|refine w_s1 rfl _ _ rfl (by rfl) (by repeat constructor) (by first|exact .c|exact .t rfl) (by rfl) (by repeat constructor) hS ?_);clear hS;(try clear ww);intro ww hS))
      go_ret
      exact ⟨ret_int (by have := E1.out; omega), hS.below⟩

theorem ref28_Count_calls : ∀ (n : Nat) (b : Bx n) (cs : List Value) (w : World), Rep w n b cs → bCount n b ≤ 1000000 → Calls Try.prog 67 #[.agg cs.toArray] w (Gives (.int .i64 (bCount n b)) w) := by
  intro n
  induction n with
  | zero => intro b cs w h; exact h.elim
  | succ n ih => intro b cs w h1 h2; exact ref28_Count_step n ih b cs w h1 h2

theorem nested_le : ∀ (n : Nat) (b : Bx n), bNested n b ≤ bCount n b := by
  intro n
  induction n with
  | zero => intro b; exact b.elim
  | succ n ih =>
    intro b
    simp only [bNested, bCount]
    have h := (nest_le (bNested n) b.2 0 ((b.2.map (bCount n)).sum)).2 ⟨Nat.zero_le _, fun k hk => by
      obtain ⟨i, hi⟩ := List.mem_iff_getElem?.1 hk
      have h1 := sum_take_le (bCount n) b.2 i hi
      have h2 := ih k
      omega⟩
    omega

set_option maxHeartbeats 8000000 in
set_option maxRecDepth 100000 in
theorem ref28_Nested_step (n : Nat) (ih : ∀ (b : Bx n) (cs : List Value) (w : World), Rep w n b cs → bCount n b ≤ 1000000 → Calls Try.prog 68 #[.agg cs.toArray] w (Gives (.int .i64 (bNested n b)) w))
    (b : Bx (n + 1)) (cs : List Value) (w : World) (hr : Rep w (n + 1) b cs) (hp : bCount (n + 1) b ≤ 1000000) : Calls Try.prog 68 #[.agg cs.toArray] w (Gives (.int .i64 (bNested (n + 1) b)) w) := by
  obtain ⟨⟨kind, name, size, bw, bh, bd, bx, by_, of, src⟩, kids⟩ := b
  obtain ⟨kx, kc, sx, sc, rfl, ha, hkl, hrow0, hkids⟩ := rep_out hr
  have IH := Lib.hid ih
  have HK := Lib.hid hkids
  have HP := Lib.hid hp
  have hb1 : kids.length ≤ 1000000 := by
    have := hp
    have key : ∀ l : List (Bx n), (∀ k ∈ l, 1 ≤ bCount n k) → l.length ≤ (l.map (bCount n)).sum := by
      intro l
      induction l with
      | nil => intro _; simp
      | cons p l ih2 =>
        intro hp
        have h1 := hp p (by simp)
        have h2 := ih2 fun q hq => hp q (by simp [hq])
        simp only [List.length_cons, List.map_cons, List.sum_cons]
        omega
    have h1 := key kids fun k hk => by
      obtain ⟨i, hi⟩ := List.mem_iff_getElem?.1 hk
      obtain ⟨_, _, _, _, _, h⟩ := hkids i k hi
      cases n with
      | zero => exact h.elim
      | succ n => simp [bCount]
    simp only [bCount] at this
    omega
  clear ih hr ha hkl hrow0 hkids hp
  go_enter Try.func68, Try.ntmps68
  have hS := own_start w
  go_wp2_with (first|(refine own_unguard (by rfl) ?_)|(refine w_ld rfl _ rfl (by rfl) (by first|exact rd_1 (by repeat constructor) (by first|rfl|assumption)|exact rd_w (by repeat constructor) (by rfl)|((first|refine rd_o ‹_› (by rfl) ?_|refine rd_h ‹_› (by rfl) ?_|refine rd_1o ‹_› ?_|refine rd_1h ‹_› (by first|rfl|assumption) ?_);first|exact nmn|assumption|simp)) hS ?_)|(refine own_box rfl _ _ rfl (by rfl) hS ?_;clear hS;(try clear ww);intro bb ww hS)|((first|refine w_st rfl _ _ rfl (by rfl) (by rfl) (by repeat constructor) (by rfl) (by rfl) (by first|rfl|assumption) hS ?_|refine w_s1 rfl _ _ rfl (by rfl) (by repeat constructor) (by first|exact .c|exact .t rfl) (by rfl) (by repeat constructor) hS ?_);clear hS;(try clear ww);intro ww hS))
  obtain ⟨L0, HL, hS0⟩ := hS.named
  clear hS
  have hS := hS0
  clear hS0
  go_loopw [4, 3] (fun i x wr => ∃ j : Nat, j ≤ kids.length ∧ i = .int .i64 j ∧ x = .int .i64 ((((kids.take j).foldl (fun m k => max m (bNested n k)) 0 : Nat) : Int)) ∧ Own [] w L0 wr) (fun i _ _ => kids.length - (intOf i).toNat)
  case atStart => exact ⟨0, Nat.zero_le _, rfl, by simp, hS⟩
  case round =>
    clear hS
    obtain ⟨j, hj, rfl, rfl, hS⟩ := hrel
    obtain rfl := HL.out
    clear HL
    by_cases hlt : j < kids.length
    · obtain ⟨kid, hkid⟩ : ∃ kid, kids[j]? = some kid := ⟨kids[j], by simp [hlt]⟩
      obtain ⟨kb, ko, css, hkx, hrg, hrep⟩ := HK.out j kid hkid
      obtain rfl : kx = some ⟨kb, ko, none⟩ := hkx
      obtain ⟨c0, c1, c2, c3, c4, c5, c6, c7, c8, c9, c10, rfl⟩ := eleven hrep.len
      have hkc : bCount n kid ≤ 1000000 := by
        have h1 := sum_take_le (bCount n) kids j hkid
        have h2 := HP.out
        simp only [bCount] at h2
        omega
      have hsum : ((kids.take j).map (bCount n)).sum + bCount n kid ≤ 1000000 := by
        have h1 := sum_take_le (bCount n) kids j hkid
        have h2 := HP.out
        simp only [bCount] at h2
        omega
      have HRp := Lib.hid hrep
      have HKid := Lib.hid hkid
      clear hrep hkid
      have hnk := nested_le n kid
      have hnj : (kids.take j).foldl (fun m k => max m (bNested n k)) 0 ≤ 1000000 := (nest_le (bNested n) _ 0 1000000).2 ⟨Nat.zero_le _, fun k hk => by
        obtain ⟨i, hi⟩ := List.mem_iff_getElem?.1 (List.mem_of_mem_take hk)
        have h1 := sum_take_le (bCount n) kids i hi
        have h2 := HP.out
        simp only [bCount] at h2
        have h3 := nested_le n k
        omega⟩
      have E1 := Lib.hid (nest_take HKid.out)
      generalize (kids.take j).foldl (fun m k => max m (bNested n k)) 0 = S at *
      generalize hNK : bNested n kid = NK at *
      clear hsum
      go_wp2_with (first|(refine own_unguard (by rfl) ?_)|(refine own_load_old rfl _ _ rfl rfl hS hrg List.not_mem_nil rt_box ?_)|(go_at_call 68;refine own_calls hS (IH.out kid _ _ (HRp.out.step hS.below) hkc) ?_;clear hS;(try clear ww);intro ww hS)|(refine w_ld rfl _ rfl (by rfl) (by first|exact rd_1 (by repeat constructor) (by first|rfl|assumption)|exact rd_w (by repeat constructor) (by rfl)|((first|refine rd_o ‹_› (by rfl) ?_|refine rd_h ‹_› (by rfl) ?_|refine rd_1o ‹_› ?_|refine rd_1h ‹_› (by first|rfl|assumption) ?_);first|exact nmn|assumption|simp)) hS ?_)|(refine own_box rfl _ _ rfl (by rfl) hS ?_;clear hS;(try clear ww);intro bb ww hS)|((first|refine w_st rfl _ _ rfl (by rfl) (by rfl) (by repeat constructor) (by rfl) (by rfl) (by first|rfl|assumption) hS ?_|refine w_s1 rfl _ _ rfl (by rfl) (by repeat constructor) (by first|exact .c|exact .t rfl) (by rfl) (by repeat constructor) hS ?_);clear hS;(try clear ww);intro ww hS))
      go_roundw
      case rel => exact ⟨j + 1, hlt, by go_num, by rw [E1.out]; congr 1; omega, hS⟩
      case measure => exact loop_meas hlt
    · obtain rfl : j = kids.length := by omega
      have E1 := Lib.hid (show (kids.take kids.length).foldl (fun m k => max m (bNested n k)) 0 + 1 = bNested (n + 1) (⟨kind, name, size, bw, bh, bd, bx, by_, of, src⟩, kids) by rw [List.take_length]; simp only [bNested]; omega)
      have hnj : bNested (n + 1) (⟨kind, name, size, bw, bh, bd, bx, by_, of, src⟩, kids) ≤ 1000000 := Nat.le_trans (nested_le _ _) HP.out
      rw [← E1.out] at hnj
      generalize (kids.take kids.length).foldl (fun m k => max m (bNested n k)) 0 = S at *
      go_wp2_with (first|(refine own_unguard (by rfl) ?_)|(refine w_ld rfl _ rfl (by rfl) (by first|exact rd_1 (by repeat constructor) (by first|rfl|assumption)|exact rd_w (by repeat constructor) (by rfl)|((first|refine rd_o ‹_› (by rfl) ?_|refine rd_h ‹_› (by rfl) ?_|refine rd_1o ‹_› ?_|refine rd_1h ‹_› (by first|rfl|assumption) ?_);first|exact nmn|assumption|simp)) hS ?_)|(refine own_box rfl _ _ rfl (by rfl) hS ?_;clear hS;(try clear ww);intro bb ww hS)|((first|refine w_st rfl _ _ rfl (by rfl) (by rfl) (by repeat constructor) (by rfl) (by rfl) (by first|rfl|assumption) hS ?_|refine w_s1 rfl _ _ rfl (by rfl) (by repeat constructor) (by first|exact .c|exact .t rfl) (by rfl) (by repeat constructor) hS ?_);clear hS;(try clear ww);intro ww hS))
      go_ret
      exact ⟨ret_int (by have := E1.out; omega), hS.below⟩

theorem ref28_Nested_calls : ∀ (n : Nat) (b : Bx n) (cs : List Value) (w : World), Rep w n b cs → bCount n b ≤ 1000000 → Calls Try.prog 68 #[.agg cs.toArray] w (Gives (.int .i64 (bNested n b)) w) := by
  intro n
  induction n with
  | zero => intro b cs w h; exact h.elim
  | succ n ih => intro b cs w h1 h2; exact ref28_Nested_step n ih b cs w h1 h2

/-- The number of boxes, at most so many. -/
def few (n : Nat) (b : Bx n) (most : Nat) : Nat := min (bCount n b) most
theorem few_pos {n : Nat} {w : World} {b : Bx n} {cs : List Value} (h : Rep w n b cs) : 1 ≤ bCount n b := by
  cases n with
  | zero => exact h.elim
  | succ n => simp [bCount]

set_option maxHeartbeats 8000000 in
set_option maxRecDepth 100000 in
theorem ref28_size_step (n : Nat) (ih : ∀ (b : Bx n) (cs : List Value) (most : Nat) (w : World), Rep w n b cs → 1 ≤ most → most ≤ 1000000 → Calls Try.prog 37 #[.agg cs.toArray, .int .i64 most] w (Gives (.int .i64 ((few n b most : Nat) : Int)) w))
    (b : Bx (n + 1)) (cs : List Value) (most : Nat) (w : World) (hr : Rep w (n + 1) b cs) (hm1 : 1 ≤ most) (hm2 : most ≤ 1000000) : Calls Try.prog 37 #[.agg cs.toArray, .int .i64 most] w (Gives (.int .i64 ((few (n + 1) b most : Nat) : Int)) w) := by
  obtain ⟨⟨kind, name, size, bw, bh, bd, bx, by_, of, src⟩, kids⟩ := b
  obtain ⟨kx, kc, sx, sc, rfl, ha, hkl, hrow0, hkids⟩ := rep_out hr
  have IH := Lib.hid ih
  have HK := Lib.hid hkids
  simp only [maxLen] at hkl
  clear ih hr ha hrow0 hkids
  go_enter Try.func37, Try.ntmps37
  have hS := own_start w
  go_wp2_with (first|(refine own_unguard (by rfl) ?_)|(refine w_ld rfl _ rfl (by rfl) (by first|exact rd_1 (by repeat constructor) (by first|rfl|assumption)|exact rd_w (by repeat constructor) (by rfl)|((first|refine rd_o ‹_› (by rfl) ?_|refine rd_h ‹_› (by rfl) ?_|refine rd_1o ‹_› ?_|refine rd_1h ‹_› (by first|rfl|assumption) ?_);first|exact nmn|assumption|simp)) hS ?_)|(refine own_box rfl _ _ rfl (by rfl) hS ?_;clear hS;(try clear ww);intro bb ww hS)|((first|refine w_st rfl _ _ rfl (by rfl) (by rfl) (by repeat constructor) (by rfl) (by rfl) (by first|rfl|assumption) hS ?_|refine w_s1 rfl _ _ rfl (by rfl) (by repeat constructor) (by first|exact .c|exact .t rfl) (by rfl) (by repeat constructor) hS ?_);clear hS;(try clear ww);intro ww hS))
  obtain ⟨L0, HL, hS0⟩ := hS.named
  clear hS
  have hS := hS0
  clear hS0
  go_loopw [6, 5] (fun i x wr => ∃ (j S : Nat), j ≤ kids.length ∧ i = .int .i64 j ∧ x = .int .i64 S ∧ S = min (1 + ((kids.take j).map (bCount n)).sum) most ∧ j + 1 ≤ S ∧ Own [] w L0 wr) (fun i _ _ => kids.length - (intOf i).toNat)
  case atStart => exact ⟨0, 1, Nat.zero_le _, rfl, rfl, by simp; omega, by omega, hS⟩
  case round =>
    clear hS
    obtain ⟨j, S, hj, rfl, rfl, hSe, hjS, hS⟩ := hrel
    obtain rfl := HL.out
    clear HL
    by_cases hlt : j < kids.length
    · obtain ⟨kid, hkid⟩ : ∃ kid, kids[j]? = some kid := ⟨kids[j], by simp [hlt]⟩
      by_cases hSm : S < most
      · obtain ⟨kb, ko, css, hkx, hrg, hrep⟩ := HK.out j kid hkid
        obtain rfl : kx = some ⟨kb, ko, none⟩ := hkx
        obtain ⟨c0, c1, c2, c3, c4, c5, c6, c7, c8, c9, c10, rfl⟩ := eleven hrep.len
        have hpos := few_pos hrep
        have E1 := Lib.hid (sum_take_succ (bCount n) kids j hkid)
        have HSe := Lib.hid hSe
        have HRp := Lib.hid hrep
        have hfe : few n kid (most - S) ≤ most - S ∧ 1 ≤ few n kid (most - S) := by unfold few; omega
        have HF := Lib.hid (show few n kid (most - S) = min (bCount n kid) (most - S) from rfl)
        have hsub : ((most - S : Nat) : Int) = (most : Int) - (S : Int) := by omega
        obtain ⟨M2, hM2⟩ : ∃ M2, M2 = most - S := ⟨_, rfl⟩
        rw [← hM2] at hfe HF hsub
        have HC := Lib.hid (fun w' (h : Below w.heap.size w w') => IH.out kid _ M2 w' (HRp.out.step h) (by omega) (by omega))
        rw [hsub] at HC
        generalize few n kid M2 = G at *
        clear hrep hkid hSe hsub
        go_wp2_with (first|(refine own_unguard (by rfl) ?_)|(refine own_load_old rfl _ _ rfl rfl hS hrg List.not_mem_nil rt_box ?_)|(go_at_call 37;refine own_calls hS (HC.out _ hS.below) ?_;clear hS;(try clear ww);intro ww hS)|(refine w_ld rfl _ rfl (by rfl) (by first|exact rd_1 (by repeat constructor) (by first|rfl|assumption)|exact rd_w (by repeat constructor) (by rfl)|((first|refine rd_o ‹_› (by rfl) ?_|refine rd_h ‹_› (by rfl) ?_|refine rd_1o ‹_› ?_|refine rd_1h ‹_› (by first|rfl|assumption) ?_);first|exact nmn|assumption|simp)) hS ?_)|(refine own_box rfl _ _ rfl (by rfl) hS ?_;clear hS;(try clear ww);intro bb ww hS)|((first|refine w_st rfl _ _ rfl (by rfl) (by rfl) (by repeat constructor) (by rfl) (by rfl) (by first|rfl|assumption) hS ?_|refine w_s1 rfl _ _ rfl (by rfl) (by repeat constructor) (by first|exact .c|exact .t rfl) (by rfl) (by repeat constructor) hS ?_);clear hS;(try clear ww);intro ww hS))
        have HE2 := Lib.hid (show S + G = min (1 + ((kids.take (j + 1)).map (bCount n)).sum) most by have h1 := E1.out; have h2 := HSe.out; have h3 := HF.out; omega)
        go_roundw
        case rel => exact ⟨j + 1, S + G, hlt, by go_num, by simp, HE2.out, by omega, hS⟩
        case measure => exact loop_meas hlt
      · have HE := Lib.hid (show S = few (n + 1) (⟨kind, name, size, bw, bh, bd, bx, by_, of, src⟩, kids) most by have h1 := sum_take_all (bCount n) kids j; unfold few; simp only [bCount]; omega)
        clear hSe
        go_wp2_with (first|(refine own_unguard (by rfl) ?_)|(refine w_ld rfl _ rfl (by rfl) (by first|exact rd_1 (by repeat constructor) (by first|rfl|assumption)|exact rd_w (by repeat constructor) (by rfl)|((first|refine rd_o ‹_› (by rfl) ?_|refine rd_h ‹_› (by rfl) ?_|refine rd_1o ‹_› ?_|refine rd_1h ‹_› (by first|rfl|assumption) ?_);first|exact nmn|assumption|simp)) hS ?_)|(refine own_box rfl _ _ rfl (by rfl) hS ?_;clear hS;(try clear ww);intro bb ww hS)|((first|refine w_st rfl _ _ rfl (by rfl) (by rfl) (by repeat constructor) (by rfl) (by rfl) (by first|rfl|assumption) hS ?_|refine w_s1 rfl _ _ rfl (by rfl) (by repeat constructor) (by first|exact .c|exact .t rfl) (by rfl) (by repeat constructor) hS ?_);clear hS;(try clear ww);intro ww hS))
        go_ret
        exact ⟨ret_int (by rw [← HE.out]), hS.below⟩
    · obtain rfl : j = kids.length := by omega
      have HE := Lib.hid (show S = few (n + 1) (⟨kind, name, size, bw, bh, bd, bx, by_, of, src⟩, kids) most by rw [hSe, List.take_length]; rfl)
      clear hSe
      go_wp2_with (first|(refine own_unguard (by rfl) ?_)|(refine w_ld rfl _ rfl (by rfl) (by first|exact rd_1 (by repeat constructor) (by first|rfl|assumption)|exact rd_w (by repeat constructor) (by rfl)|((first|refine rd_o ‹_› (by rfl) ?_|refine rd_h ‹_› (by rfl) ?_|refine rd_1o ‹_› ?_|refine rd_1h ‹_› (by first|rfl|assumption) ?_);first|exact nmn|assumption|simp)) hS ?_)|(refine own_box rfl _ _ rfl (by rfl) hS ?_;clear hS;(try clear ww);intro bb ww hS)|((first|refine w_st rfl _ _ rfl (by rfl) (by rfl) (by repeat constructor) (by rfl) (by rfl) (by first|rfl|assumption) hS ?_|refine w_s1 rfl _ _ rfl (by rfl) (by repeat constructor) (by first|exact .c|exact .t rfl) (by rfl) (by repeat constructor) hS ?_);clear hS;(try clear ww);intro ww hS))
      go_ret
      exact ⟨ret_int (by rw [← HE.out]), hS.below⟩

theorem ref28_size_calls : ∀ (n : Nat) (b : Bx n) (cs : List Value) (most : Nat) (w : World), Rep w n b cs → 1 ≤ most → most ≤ 1000000 → Calls Try.prog 37 #[.agg cs.toArray, .int .i64 most] w (Gives (.int .i64 ((few n b most : Nat) : Int)) w) := by
  intro n
  induction n with
  | zero => intro b cs most w h; exact h.elim
  | succ n ih => intro b cs most w h1 h2 h3; exact ref28_size_step n ih b cs most w h1 h2 h3

set_option maxHeartbeats 8000000 in
set_option maxRecDepth 100000 in
theorem ref28_Few_calls (n : Nat) (b : Bx n) (cs : List Value) (most : Nat) (w : World) (hr : Rep w n b cs) (hm : most ≤ 100000) (v : Bool) (hv : v = decide (bCount n b ≤ most)) : Calls Try.prog 18 #[.agg cs.toArray, .int .i64 most] w (Gives (.bool v) w) := by
  have h11 := hr.len
  have HR := Lib.hid hr
  have HV := Lib.hid hv
  have HC := Lib.hid (fun w' (h : Below w.heap.size w w') => ref28_size_calls n b cs (most + 1) w' (hr.step h) (by omega) (by omega))
  rw [show ((most + 1 : Nat) : Int) = (most : Int) + 1 by omega] at HC
  have hf : few n b (most + 1) = min (bCount n b) (most + 1) := rfl
  obtain ⟨c0, c1, c2, c3, c4, c5, c6, c7, c8, c9, c10, rfl⟩ := eleven h11
  generalize few n b (most + 1) = G at *
  have HF := Lib.hid hf
  clear hf hr hv h11
  go_enter Try.func18, Try.ntmps18
  have hS := own_start w
  go_wp2_with (first|(refine own_unguard (by rfl) ?_)|(go_at_call 37;refine own_calls hS (HC.out _ hS.below) ?_;clear hS;(try clear ww);intro ww hS)|(refine w_ld rfl _ rfl (by rfl) (by first|exact rd_1 (by repeat constructor) (by first|rfl|assumption)|exact rd_w (by repeat constructor) (by rfl)|((first|refine rd_o ‹_› (by rfl) ?_|refine rd_h ‹_› (by rfl) ?_|refine rd_1o ‹_› ?_|refine rd_1h ‹_› (by first|rfl|assumption) ?_);first|exact nmn|assumption|simp)) hS ?_)|(refine own_box rfl _ _ rfl (by rfl) hS ?_;clear hS;(try clear ww);intro bb ww hS)|((first|refine w_st rfl _ _ rfl (by rfl) (by rfl) (by repeat constructor) (by rfl) (by rfl) (by first|rfl|assumption) hS ?_|refine w_s1 rfl _ _ rfl (by rfl) (by repeat constructor) (by first|exact .c|exact .t rfl) (by rfl) (by repeat constructor) hS ?_);clear hS;(try clear ww);intro ww hS))
  go_ret
  refine ⟨ret_bool ?_, hS.below⟩
  rw [HV.out, Bool.eq_iff_iff]
  have := HF.out
  simp only [decide_eq_true_eq]
  omega

end Go.Proofs.Ytdbcdjiclkmknaa
