/- Texts Bvl, Rfn, Rpr, Rvl, Par, Lte, Mea, Chk, Avo. -/
import Derived.Test.YtdbcdjiclkmknaaJ08
import Derived.Test.YtdbcdjiclkmknaaJ05
import Derived.Test.YtdbcdjiclkmknaaJ07
namespace Go.Proofs.Ytdbcdjiclkmknaa
open Go.RowKit

attribute [local irreducible] wpQuiet wpG wpP wpK wpList Code.wp Calls

/-- All fields of all boxes are as required. -/
def allOwn : (n : Nat) → Bx n → Bool
  | 0, _ => true
  | n + 1, b => ownOk b.1 b.2.length && b.2.all (allOwn n)
/-- The box is valid where c boxes have been counted, at a depth. -/
def okV (n : Nat) (b : Bx n) (c depth : Int) : Prop := allOwn n b = true ∧ c + bCount n b ≤ 20000 ∧ depth + bNested n b ≤ 101
def validB (n : Nat) (b : Bx n) : Prop := okV n b 0 1

theorem nest_le {α : Type} (f : α → Nat) (l : List α) : ∀ (m M : Nat), l.foldl (fun m k => max m (f k)) m ≤ M ↔ m ≤ M ∧ ∀ k ∈ l, f k ≤ M := by
  induction l with
  | nil => intro m M; simp
  | cons x l ih =>
    intro m M
    rw [List.foldl_cons, ih]
    constructor
    · rintro ⟨h1, h2⟩
      refine ⟨by omega, fun k hk => ?_⟩
      rcases List.mem_cons.1 hk with rfl | hk
      · omega
      · exact h2 k hk
    · rintro ⟨h1, h2⟩
      have := h2 x (by simp)
      exact ⟨by omega, fun k hk => h2 k (by simp [hk])⟩
theorem sum_take_le {α : Type} (f : α → Nat) (l : List α) (j : Nat) {x : α} (h : l[j]? = some x) : ((l.take j).map f).sum + f x ≤ (l.map f).sum := by
  obtain ⟨hlt, rfl⟩ := List.getElem?_eq_some_iff.1 h
  have h1 : l = l.take j ++ l[j] :: l.drop (j + 1) := by simp
  have h2 : (l.map f).sum = ((l.take j ++ l[j] :: l.drop (j + 1)).map f).sum := by rw [← h1]
  rw [h2, List.map_append, List.sum_append, List.map_cons, List.sum_cons]
  omega
theorem sum_take_succ {α : Type} (f : α → Nat) (l : List α) (j : Nat) {x : α} (h : l[j]? = some x) : ((l.take (j + 1)).map f).sum = ((l.take j).map f).sum + f x := by
  rw [List.take_add_one, h]
  simp
/-- Where the loop over the kids stands. -/
structure VInv (n : Nat) (a : Hd) (kids : List (Bx n)) (c depth : Int) (j : Nat) (x : Int) : Prop where
  le : j ≤ kids.length
  cnt : x = c + 1 + ((kids.take j).map (bCount n)).sum
  mx : x ≤ 20000
  ok : ∀ kid ∈ kids.take j, allOwn n kid = true ∧ depth + 1 + bNested n kid ≤ 101
theorem VInv.start {n : Nat} {a : Hd} {kids : List (Bx n)} {c depth : Int} (h : c + 1 ≤ 20000) : VInv n a kids c depth 0 (c + 1) := ⟨Nat.zero_le _, by simp, h, by simp⟩
theorem VInv.bad {n : Nat} {a : Hd} {kids : List (Bx n)} {c depth : Int} {j : Nat} {x : Int} {kid : Bx n} (h : VInv n a kids c depth j x) (hk : kids[j]? = some kid) (hn : ¬ okV n kid x (depth + 1)) : ¬ okV (n + 1) (a, kids) c depth := by
  rintro ⟨h1, h2, h3⟩
  simp only [allOwn, Bool.and_eq_true] at h1
  refine hn ⟨List.all_eq_true.1 h1.2 kid (List.mem_of_getElem? hk), ?_, ?_⟩
  · have h4 := sum_take_le (bCount n) kids j hk
    have h5 := h.cnt
    simp only [bCount] at h2
    omega
  · simp only [bNested] at h3
    have h4 := ((nest_le (bNested n) kids 0 (kids.foldl (fun m k => max m (bNested n k)) 0)).1 (Nat.le_refl _)).2 kid (List.mem_of_getElem? hk)
    omega
theorem VInv.next {n : Nat} {a : Hd} {kids : List (Bx n)} {c depth : Int} {j : Nat} {x : Int} {kid : Bx n} (h : VInv n a kids c depth j x) (hk : kids[j]? = some kid) (hn : okV n kid x (depth + 1)) : VInv n a kids c depth (j + 1) (x + bCount n kid) := by
  have hlt : j < kids.length := (List.getElem?_eq_some_iff.1 hk).1
  refine ⟨hlt, ?_, hn.2.1, fun k hm => ?_⟩
  · rw [sum_take_succ (bCount n) kids j hk, h.cnt]
    push_cast
    omega
  · rw [List.take_add_one, hk] at hm
    rcases List.mem_append.1 hm with hm | hm
    · exact h.ok k hm
    · obtain rfl : k = kid := by simpa using hm
      exact ⟨hn.1, by have := hn.2.2; omega⟩
theorem VInv.good {n : Nat} {a : Hd} {kids : List (Bx n)} {c depth x : Int} (h : VInv n a kids c depth kids.length x) (ho : ownOk a kids.length = true) (hd : depth ≤ 100) : okV (n + 1) (a, kids) c depth ∧ x = c + bCount (n + 1) (a, kids) := by
  have h1 := h.cnt
  have h2 := h.mx
  have h3 := h.ok
  rw [List.take_length] at h1 h3
  refine ⟨⟨?_, ?_, ?_⟩, ?_⟩
  · simp only [allOwn, Bool.and_eq_true]
    exact ⟨ho, List.all_eq_true.2 fun k hk => (h3 k hk).1⟩
  · simp only [bCount]; push_cast; omega
  · simp only [bNested]
    have h4 := (nest_le (bNested n) kids 0 (100 - depth).toNat).2 ⟨Nat.zero_le _, fun k hk => by have := (h3 k hk).2; omega⟩
    push_cast
    omega
  · simp only [bCount]; push_cast; omega

theorem iff_no {p : Prop} (h : ¬ p) : false = true ↔ p := ⟨fun h => (by cases h), fun h' => absurd h' h⟩
theorem iff_yes {p : Prop} (h : p) : true = true ↔ p := ⟨fun _ => h, fun _ => rfl⟩
theorem rep_away {w w' : World} {q n : Nat} {L : List (Nat × List Value)} {b : Bx n} {cs : List Value} (hS : Own [q] w L w') (h : RepG (fun k _ => k ≠ q) (fun k => k ≠ q) w n b cs) : RepG (fun k _ => k ≠ q) (fun k => k ≠ q) w' n b cs :=
  (rep_keep2 (Q := fun k => k ≠ q) (fun k hk hlt => hS.block k hlt (by simpa using hk)) n b cs h).mono (fun _ _ h => h.1) (fun _ h => h.1)
theorem VInv.bounds {n : Nat} {a : Hd} {kids : List (Bx n)} {c depth : Int} {j : Nat} {x : Int} (h : VInv n a kids c depth j x) (hc : 0 ≤ c) : 0 ≤ x ∧ x ≤ 20000 := ⟨by have := h.cnt; omega, h.mx⟩
theorem own_start2 {w : World} {q : Nat} {cs : List Value} (h : Has w q cs) : Own [q] w [(q, cs)] w where
  os := rfl
  tape := rfl
  output := rfl
  size := Nat.le_refl _
  block := fun _ _ _ => rfl
  has := fun x hx => by
    obtain rfl : x = (q, cs) := by simpa using hx
    exact h
  ge := fun x hx => by
    obtain rfl : x = (q, cs) := by simpa using hx
    exact .inl (by simp)
  apart := by simp
theorem box_own_v {a : Hd} {k o : Nat} {kx : Option Addr} {nk kc : Nat} {sx : Option Addr} {sc : Nat} {w : World} {v : Bool} (hr : w.rangeAt k o (a.cells (.slice kx nk kc) (.slice sx a.src.length sc))) (hs : RowAt w sx 1 intCells a.src) (hl : a.src.length ≤ 9223372036854775807) (hnm : a.name.size ≤ maxLen) (hv : Hid (ownOk a nk = v)) :
    Calls Try.prog 60 #[.pointer (some ⟨k, o, none⟩)] w (Gives (.bool v) w) := by
  have := box_own_calls a k o kx nk kc sx sc w hr hs hl hnm
  rwa [hv.out] at this
/-- The sources of a box lie where they lay, whatever has become of the count. -/
theorem row_away {w w' : World} {q : Nat} {L : List (Nat × List Value)} {sx : Option Addr} {l : List Int} (hS : Own [q] w L w') (hr : RowAt w sx 1 intCells l) (hs : l ≠ [] → ∀ k o, sx = some ⟨k, o, none⟩ → k ≠ q) : RowAt w' sx 1 intCells l := by
  by_cases hne : l = []
  · exact .inl hne
  · rcases hr with h | ⟨k, o, hx, hr⟩
    · exact .inl h
    · exact .inr ⟨k, o, hx, fun i a hi j v hj => hS.cell (by simpa using hs hne k o hx) (hr i a hi j v hj)⟩
/-- What valid does. -/
def ValidGives (n : Nat) (b : Bx n) (c depth : Int) (q : Nat) (w : World) (e : Ending) (w' : World) : Prop :=
  ∃ (r : Bool) (x : Int), e = .returned (.bool r) ∧ Own [q] w [(q, [.int .i64 x])] w' ∧ (r = true ↔ okV n b c depth) ∧ (r = true → x = c + bCount n b)

set_option maxHeartbeats 8000000 in
set_option maxRecDepth 100000 in
theorem box_valid_step (n : Nat) (ih : ∀ (b : Bx n) (cs : List Value) (k o q : Nat) (c depth : Int) (w : World), w.rangeAt k o cs → RepG (fun k _ => k ≠ q) (fun k => k ≠ q) w n b cs → Wide n b → k ≠ q → Has w q [.int .i64 c] → 0 ≤ c → c ≤ 20000 → 1 ≤ depth → depth ≤ 101 → Calls Try.prog 40 #[.pointer (some ⟨k, o, none⟩), .int .i64 depth, .pointer (some ⟨q, 0, none⟩)] w (ValidGives n b c depth q w))
    (b : Bx (n + 1)) (cs : List Value) (k o q : Nat) (c depth : Int) (w : World) (hrg : w.rangeAt k o cs) (hrep : RepG (fun k _ => k ≠ q) (fun k => k ≠ q) w (n + 1) b cs) (hsm : Wide (n + 1) b) (hkq : k ≠ q) (hq : Has w q [.int .i64 c]) (hc0 : 0 ≤ c) (hc1 : c ≤ 20000) (hd0 : 1 ≤ depth) (hd1 : depth ≤ 101) :
    Calls Try.prog 40 #[.pointer (some ⟨k, o, none⟩), .int .i64 depth, .pointer (some ⟨q, 0, none⟩)] w (ValidGives (n + 1) b c depth q w) := by
  obtain ⟨a, kids⟩ := b
  obtain ⟨kx, kc, sx, sc, rfl, hok, hkl, hrow, hso, hkids⟩ := hrep
  simp only at hkl hrow hso hkids
  have c8 : w.cell? ⟨k, o + 8, none⟩ = some (.slice kx kids.length kc) := hrg 8 _ rfl
  have hkl2 : kids.length ≤ 9223372036854775807 := hsm.2.1
  have hsl : a.src.length ≤ 9223372036854775807 := hsm.1
  have hkD : k ∉ [q] := by simpa using hkq
  have IH := Lib.hid ih
  have HRg := Lib.hid hrg
  have HOk := Lib.hid hok
  have HRow := Lib.hid hrow
  have HSo := Lib.hid hso
  have HK := Lib.hid hkids
  have HSm := Lib.hid hsm
  have hS := own_start2 hq
  clear ih hrg hok hrow hso hkids hsm hq hkl
  go_enter Try.func40, Try.ntmps40
  by_cases h1 : c + 1 ≤ 20000
  · by_cases h2 : depth ≤ 100
    · cases ho : ownOk a kids.length
      · have HO := Lib.hid ho
        have E1 := Lib.hid (show ¬ okV (n + 1) (a, kids) c depth from fun h => by have h3 := h.1; simp only [allOwn, ho, Bool.false_and] at h3; cases h3)
        clear ho
        go_wp2_with (first | (refine own_unguard (by rfl) ?_) | (go_at_call 60; refine own_calls hS (box_own_v (hS.range hkD HRg.out) (row_away hS HRow.out HSo.out) hsl HOk.out.nameLen HO) ?_; clear hS; (try clear ww); intro ww hS) | (refine w_ld rfl _ rfl (by rfl) (by first | exact rd_1 (by repeat constructor) (by first | rfl | assumption) | exact rd_w (by repeat constructor) (by rfl) | exact rd_o (by assumption) (by rfl) (by first | exact nmn | assumption | simp) | exact rd_h (by assumption) (by rfl) (by first | exact nmn | assumption | simp) | exact rd_1o (by assumption) (by first | exact nmn | assumption | simp) | exact rd_1h (by assumption) (by first | rfl | assumption) (by first | exact nmn | assumption | simp)) hS ?_) | (refine own_box rfl _ _ rfl (by rfl) hS ?_; clear hS; (try clear ww); intro bb ww hS) | (refine w_st rfl _ _ rfl (by rfl) (by rfl) (by repeat constructor) (by rfl) (by rfl) (by first | rfl | assumption) hS ?_; clear hS; (try clear ww); intro ww hS) | (refine w_s1 rfl _ _ rfl (by rfl) (by repeat constructor) (by first | exact .c | exact .t rfl) (by rfl) (by repeat constructor) hS ?_; clear hS; (try clear ww); intro ww hS))
        go_ret
        exact ⟨false, _, rfl, hS, iff_no E1.out, fun h => by cases h⟩
      · have HO := Lib.hid ho
        clear ho
        go_wp2_with (first | (refine own_unguard (by rfl) ?_) | (go_at_call 60; refine own_calls hS (box_own_v (hS.range hkD HRg.out) (row_away hS HRow.out HSo.out) hsl HOk.out.nameLen HO) ?_; clear hS; (try clear ww); intro ww hS) | (refine w_ld rfl _ rfl (by rfl) (by first | exact rd_1 (by repeat constructor) (by first | rfl | assumption) | exact rd_w (by repeat constructor) (by rfl) | exact rd_o (by assumption) (by rfl) (by first | exact nmn | assumption | simp) | exact rd_h (by assumption) (by rfl) (by first | exact nmn | assumption | simp) | exact rd_1o (by assumption) (by first | exact nmn | assumption | simp) | exact rd_1h (by assumption) (by first | rfl | assumption) (by first | exact nmn | assumption | simp)) hS ?_) | (refine own_box rfl _ _ rfl (by rfl) hS ?_; clear hS; (try clear ww); intro bb ww hS) | (refine w_st rfl _ _ rfl (by rfl) (by rfl) (by repeat constructor) (by rfl) (by rfl) (by first | rfl | assumption) hS ?_; clear hS; (try clear ww); intro ww hS) | (refine w_s1 rfl _ _ rfl (by rfl) (by repeat constructor) (by first | exact .c | exact .t rfl) (by rfl) (by repeat constructor) hS ?_; clear hS; (try clear ww); intro ww hS))
        go_loopw [31] (fun i wr => ∃ (j : Nat) (x : Int), i = .int .i64 j ∧ VInv n a kids c depth j x ∧ Own [q] w [(q, [.int .i64 x])] wr) (fun i _ => kids.length - (intOf i).toNat)
        case atStart => exact ⟨0, c + 1, rfl, VInv.start h1, hS⟩
        case round =>
          clear hS
          obtain ⟨j, x, rfl, hV, hS⟩ := hrel
          have hx := hV.bounds hc0
          by_cases hlt : j < kids.length
          · obtain ⟨kid, hkid⟩ : ∃ kid, kids[j]? = some kid := ⟨kids[j], by simp [hlt]⟩
            obtain ⟨kb, ko, css, hkx, hkbq, hkr, hkrep⟩ := HK.out j kid hkid
            obtain rfl : kx = some ⟨kb, ko, none⟩ := hkx
            have hkb : kb ∉ [q] := by simpa using hkbq
            have HKr := Lib.hid hkr
            have HKp := Lib.hid hkrep
            have HSk := Lib.hid (HSm.out.2.2 kid (List.mem_of_getElem? hkid))
            have HV := Lib.hid hV
            have HKid := Lib.hid hkid
            clear hkr hkrep hV hkid
            by_cases hok : okV n kid x (depth + 1)
            · have HOk2 := Lib.hid hok
              clear hok
              go_wp2_with (first | (refine own_unguard (by rfl) ?_) | (go_at_call 40; refine Calls.mono (IH.out kid css kb (ko + j * 11) q x (depth + 1) _ (hS.range hkb HKr.out) (rep_away hS HKp.out) HSk.out hkbq (hS.get at0) hx.1 hx.2 (by omega) (by omega)) ?_; rintro e w3 ⟨r, x', rfl, hS3, hr, hx'⟩; have hS9 := hS.chain hS3; obtain rfl : r = true := hr.2 HOk2.out; obtain rfl : x' = x + bCount n kid := hx' rfl; clear hS hS3 hr hx'; have hS := hS9; clear hS9) | (refine w_ld rfl _ rfl (by rfl) (by first | exact rd_1 (by repeat constructor) (by first | rfl | assumption) | exact rd_w (by repeat constructor) (by rfl) | exact rd_o (by assumption) (by rfl) (by first | exact nmn | assumption | simp) | exact rd_h (by assumption) (by rfl) (by first | exact nmn | assumption | simp) | exact rd_1o (by assumption) (by first | exact nmn | assumption | simp) | exact rd_1h (by assumption) (by first | rfl | assumption) (by first | exact nmn | assumption | simp)) hS ?_) | (refine own_box rfl _ _ rfl (by rfl) hS ?_; clear hS; (try clear ww); intro bb ww hS) | (refine w_st rfl _ _ rfl (by rfl) (by rfl) (by repeat constructor) (by rfl) (by rfl) (by first | rfl | assumption) hS ?_; clear hS; (try clear ww); intro ww hS) | (refine w_s1 rfl _ _ rfl (by rfl) (by repeat constructor) (by first | exact .c | exact .t rfl) (by rfl) (by repeat constructor) hS ?_; clear hS; (try clear ww); intro ww hS))
              go_roundw
              case rel => exact ⟨j + 1, _, by go_num, HV.out.next HKid.out HOk2.out, hS⟩
              case measure => exact loop_meas hlt
            · have E1 := Lib.hid (HV.out.bad HKid.out hok)
              have HN2 := Lib.hid hok
              clear hok
              go_wp2_with (first | (refine own_unguard (by rfl) ?_) | (go_at_call 40; refine Calls.mono (IH.out kid css kb (ko + j * 11) q x (depth + 1) _ (hS.range hkb HKr.out) (rep_away hS HKp.out) HSk.out hkbq (hS.get at0) hx.1 hx.2 (by omega) (by omega)) ?_; rintro e w3 ⟨r, x', rfl, hS3, hr, hx'⟩; have hS9 := hS.chain hS3; obtain rfl : r = false := Bool.eq_false_iff.2 (fun h => HN2.out (hr.1 h)); clear hS hS3 hr hx'; have hS := hS9; clear hS9) | (refine w_ld rfl _ rfl (by rfl) (by first | exact rd_1 (by repeat constructor) (by first | rfl | assumption) | exact rd_w (by repeat constructor) (by rfl) | exact rd_o (by assumption) (by rfl) (by first | exact nmn | assumption | simp) | exact rd_h (by assumption) (by rfl) (by first | exact nmn | assumption | simp) | exact rd_1o (by assumption) (by first | exact nmn | assumption | simp) | exact rd_1h (by assumption) (by first | rfl | assumption) (by first | exact nmn | assumption | simp)) hS ?_) | (refine own_box rfl _ _ rfl (by rfl) hS ?_; clear hS; (try clear ww); intro bb ww hS) | (refine w_st rfl _ _ rfl (by rfl) (by rfl) (by repeat constructor) (by rfl) (by rfl) (by first | rfl | assumption) hS ?_; clear hS; (try clear ww); intro ww hS) | (refine w_s1 rfl _ _ rfl (by rfl) (by repeat constructor) (by first | exact .c | exact .t rfl) (by rfl) (by repeat constructor) hS ?_; clear hS; (try clear ww); intro ww hS))
              go_ret
              exact ⟨false, _, rfl, hS, iff_no E1.out, fun h => by cases h⟩
          · have hjl : j = kids.length := by have := hV.le; omega
            subst hjl
            have HG := Lib.hid (hV.good HO.out h2)
            clear hV
            go_wp2_with (first | (refine own_unguard (by rfl) ?_) | (refine w_ld rfl _ rfl (by rfl) (by first | exact rd_1 (by repeat constructor) (by first | rfl | assumption) | exact rd_w (by repeat constructor) (by rfl) | exact rd_o (by assumption) (by rfl) (by first | exact nmn | assumption | simp) | exact rd_h (by assumption) (by rfl) (by first | exact nmn | assumption | simp) | exact rd_1o (by assumption) (by first | exact nmn | assumption | simp) | exact rd_1h (by assumption) (by first | rfl | assumption) (by first | exact nmn | assumption | simp)) hS ?_) | (refine own_box rfl _ _ rfl (by rfl) hS ?_; clear hS; (try clear ww); intro bb ww hS) | (refine w_st rfl _ _ rfl (by rfl) (by rfl) (by repeat constructor) (by rfl) (by rfl) (by first | rfl | assumption) hS ?_; clear hS; (try clear ww); intro ww hS) | (refine w_s1 rfl _ _ rfl (by rfl) (by repeat constructor) (by first | exact .c | exact .t rfl) (by rfl) (by repeat constructor) hS ?_; clear hS; (try clear ww); intro ww hS))
            go_ret
            exact ⟨true, _, rfl, hS, iff_yes HG.out.1, fun _ => HG.out.2⟩
    · have E1 := Lib.hid (show ¬ okV (n + 1) (a, kids) c depth from fun h => by have h3 := h.2.2; simp only [bNested] at h3; push_cast at h3; omega)
      go_wp2_with (first | (refine own_unguard (by rfl) ?_) | (refine w_ld rfl _ rfl (by rfl) (by first | exact rd_1 (by repeat constructor) (by first | rfl | assumption) | exact rd_w (by repeat constructor) (by rfl) | exact rd_o (by assumption) (by rfl) (by first | exact nmn | assumption | simp) | exact rd_h (by assumption) (by rfl) (by first | exact nmn | assumption | simp) | exact rd_1o (by assumption) (by first | exact nmn | assumption | simp) | exact rd_1h (by assumption) (by first | rfl | assumption) (by first | exact nmn | assumption | simp)) hS ?_) | (refine own_box rfl _ _ rfl (by rfl) hS ?_; clear hS; (try clear ww); intro bb ww hS) | (refine w_st rfl _ _ rfl (by rfl) (by rfl) (by repeat constructor) (by rfl) (by rfl) (by first | rfl | assumption) hS ?_; clear hS; (try clear ww); intro ww hS) | (refine w_s1 rfl _ _ rfl (by rfl) (by repeat constructor) (by first | exact .c | exact .t rfl) (by rfl) (by repeat constructor) hS ?_; clear hS; (try clear ww); intro ww hS))
      go_ret
      exact ⟨false, _, rfl, hS, iff_no E1.out, fun h => by cases h⟩
  · have E1 := Lib.hid (show ¬ okV (n + 1) (a, kids) c depth from fun h => by have h3 := h.2.1; simp only [bCount] at h3; push_cast at h3; omega)
    go_wp2_with (first | (refine own_unguard (by rfl) ?_) | (refine w_ld rfl _ rfl (by rfl) (by first | exact rd_1 (by repeat constructor) (by first | rfl | assumption) | exact rd_w (by repeat constructor) (by rfl) | exact rd_o (by assumption) (by rfl) (by first | exact nmn | assumption | simp) | exact rd_h (by assumption) (by rfl) (by first | exact nmn | assumption | simp) | exact rd_1o (by assumption) (by first | exact nmn | assumption | simp) | exact rd_1h (by assumption) (by first | rfl | assumption) (by first | exact nmn | assumption | simp)) hS ?_) | (refine own_box rfl _ _ rfl (by rfl) hS ?_; clear hS; (try clear ww); intro bb ww hS) | (refine w_st rfl _ _ rfl (by rfl) (by rfl) (by repeat constructor) (by rfl) (by rfl) (by first | rfl | assumption) hS ?_; clear hS; (try clear ww); intro ww hS) | (refine w_s1 rfl _ _ rfl (by rfl) (by repeat constructor) (by first | exact .c | exact .t rfl) (by rfl) (by repeat constructor) hS ?_; clear hS; (try clear ww); intro ww hS))
    go_ret
    exact ⟨false, _, rfl, hS, iff_no E1.out, fun h => by cases h⟩

theorem has_range {w : World} {b : Nat} {cs : List Value} (h : Has w b cs) : w.rangeAt b 0 cs := fun j v hj => by rw [h.cell, Nat.zero_add]; exact hj
theorem rep_apart {w w' : World} {n q : Nat} {b : Bx n} {cs : List Value} (hq : q ∈ ([] : List Nat) ∨ w.heap.size ≤ q) (h : Rep w n b cs) (hb : Below w.heap.size w w') : RepG (fun k _ => k ≠ q) (fun k => k ≠ q) w' n b cs :=
  RepG.step hb n b cs ((rep_old n b cs h).mono (fun k _ hk he => hq.elim (fun h => by cases h) (fun h => by omega)) (fun k hk he => hq.elim (fun h => by cases h) (fun h => by omega)))
theorem own_ne {D : List Nat} {W w : World} {L : List (Nat × List Value)} {q rb : Nat} {x y : List Value} (hS : Own D W ((q, x) :: (rb, y) :: L) w) : rb ≠ q := by
  have := hS.apart
  simp only [List.map_cons, List.nodup_cons, List.mem_cons] at this
  exact fun h => this.1 (.inl h.symm)
theorem box_valid_calls : ∀ (n : Nat) (b : Bx n) (cs : List Value) (k o q : Nat) (c depth : Int) (w : World), w.rangeAt k o cs → RepG (fun k _ => k ≠ q) (fun k => k ≠ q) w n b cs → Wide n b → k ≠ q → Has w q [.int .i64 c] → 0 ≤ c → c ≤ 20000 → 1 ≤ depth → depth ≤ 101 → Calls Try.prog 40 #[.pointer (some ⟨k, o, none⟩), .int .i64 depth, .pointer (some ⟨q, 0, none⟩)] w (ValidGives n b c depth q w) := by
  intro n
  induction n with
  | zero => intro b cs k o q c depth w _ h; exact h.elim
  | succ n ih => intro b cs k o q c depth w h1 h2 h3 h4 h5 h6 h7 h8 h9; exact box_valid_step n ih b cs k o q c depth w h1 h2 h3 h4 h5 h6 h7 h8 h9

instance zt_int : ZeroTy Try.prog 3 [.int .i64 0] := ⟨.int .i64 0, by kernel_rfl, rfl⟩

set_option maxHeartbeats 8000000 in
set_option maxRecDepth 100000 in
theorem box_Valid_calls (n : Nat) (b : Bx n) (cs : List Value) (w : World) (hr : Rep w n b cs) (hs : Wide n b) (v : Bool) (hv : v = true ↔ validB n b) : Calls Try.prog 20 #[.agg cs.toArray] w (Gives (.bool v) w) := by
  have h11 := hr.len
  have hall := rep_all hr
  have HR := Lib.hid hr
  have HS := Lib.hid hs
  have HV := Lib.hid hv
  clear hr hs hv
  obtain ⟨c0, c1, c2, c3, c4, c5, c6, c7, c8, c9, c10, rfl⟩ := eleven h11
  clear h11
  go_enter Try.func20, Try.ntmps20
  have hS := own_start w
  go_wp2_with (first | (refine own_unguard (by rfl) ?_) | (refine own_box rfl _ _ rfl rfl hS ?_; clear hS; (try clear ww); intro rb ww hS) | (refine own_alloc rfl _ rfl hS zt_int ?_; clear hS; (try clear ww); intro q ww hS) | (go_at_call 40; refine Calls.mono (box_valid_calls n b [c0, c1, c2, c3, c4, c5, c6, c7, c8, c9, c10] rb 0 q 0 1 _ (has_range (hS.get at1)) (rep_apart (hS.geAt at0) HR.out hS.below) HS.out (own_ne hS) (hS.get at0) (by omega) (by omega) (by omega) (by omega)) ?_; rintro e w3 ⟨r, x, rfl, hS3, hr, _⟩; have hS9 := Own.chain (K := [(q, [.int .i64 0])]) (hS.forget (by simp)) hS3; obtain rfl : r = v := Bool.eq_iff_iff.2 (hr.trans HV.out.symm); clear hS hS3 hr; have hS := hS9; clear hS9) | (refine w_ld rfl _ rfl (by rfl) (by first | exact rd_1 (by repeat constructor) (by first | rfl | assumption) | exact rd_w (by repeat constructor) (by rfl) | exact rd_o (by assumption) (by rfl) (by first | exact nmn | assumption | simp) | exact rd_h (by assumption) (by rfl) (by first | exact nmn | assumption | simp) | exact rd_1o (by assumption) (by first | exact nmn | assumption | simp) | exact rd_1h (by assumption) (by first | rfl | assumption) (by first | exact nmn | assumption | simp)) hS ?_) | (refine own_box rfl _ _ rfl (by rfl) hS ?_; clear hS; (try clear ww); intro bb ww hS) | (refine w_al rfl rfl hS ?_; clear hS; (try clear ww); intro bb ww hS) | (refine w_st rfl _ _ rfl (by rfl) (by rfl) (by repeat constructor) (by rfl) (by rfl) (by first | rfl | assumption) hS ?_; clear hS; (try clear ww); intro ww hS) | (refine w_s1 rfl _ _ rfl (by rfl) (by repeat constructor) (by first | exact .c | exact .t rfl) (by rfl) (by repeat constructor) hS ?_; clear hS; (try clear ww); intro ww hS))
  go_ret
  exact own_gives hS

theorem count_pos : ∀ (n : Nat) (b : Bx n), 1 ≤ bCount n b := by
  intro n
  cases n with
  | zero => intro b; exact b.elim
  | succ n => intro b; simp only [bCount]; omega
theorem len_le_count (n : Nat) : ∀ l : List (Bx n), l.length ≤ (l.map (bCount n)).sum := by
  intro l
  induction l with
  | nil => simp
  | cons k l ih =>
    have := count_pos n k
    simp only [List.map_cons, List.sum_cons, List.length_cons]
    omega
theorem ownOk_src {a : Hd} {nk : Nat} (h : ownOk a nk = true) : srcOk a = true := by
  unfold ownOk at h
  simp only [Bool.and_eq_true] at h
  exact h.2
/-- A valid box is not too great. -/
theorem small_of : ∀ (n : Nat) (b : Bx n), allOwn n b = true → bCount n b ≤ 20000 → Small n b := by
  intro n
  induction n with
  | zero => intro b _ _; trivial
  | succ n ih =>
    intro b h hc
    simp only [allOwn, Bool.and_eq_true] at h
    have hk : ∀ k ∈ b.2, bCount n k ≤ 20000 ∧ bCount n k + 1 ≤ bCount (n + 1) b := fun k hk => by
      obtain ⟨i, hi⟩ := List.mem_iff_getElem?.1 hk
      have := sum_take_le (bCount n) b.2 i hi
      simp only [bCount] at hc ⊢
      omega
    refine ⟨?_, ?_, fun k hm => ih k (List.all_eq_true.1 h.2 k hm) (hk k hm).1⟩
    · have hs : srcOk b.1 = true := ownOk_src h.1
      unfold srcOk srcEnd at hs
      simp only [Bool.and_eq_true] at hs
      have h2 := hs.2
      repeat' split at h2
      all_goals (simp only [Bool.and_eq_true, decide_eq_true_eq, Bool.false_eq_true] at h2; try omega)
    · have := len_le_count n b.2
      simp only [bCount] at hc
      omega
theorem validB_small {n : Nat} {b : Bx n} (h : validB n b) : Small n b ∧ bCount n b ≤ 20000 := by
  have h2 := h.2.1
  exact ⟨small_of n b h.1 (by omega), by omega⟩

end Go.Proofs.Ytdbcdjiclkmknaa
namespace Go.Proofs.Ytdbcdjiclkmknaa
open Go.RowKit

attribute [local irreducible] wpQuiet wpG wpP wpK wpList Code.wp Calls

theorem sum_take_all {α : Type} (f : α → Nat) (l : List α) (j : Nat) : ((l.take j).map f).sum ≤ (l.map f).sum := by
  have h1 : (l.map f).sum = ((l.take j ++ l.drop j).map f).sum := by rw [List.take_append_drop]
  rw [h1, List.map_append, List.sum_append]
  omega
/-- The number of boxes, at most so many. -/
def few (n : Nat) (b : Bx n) (most : Nat) : Nat := min (bCount n b) most
theorem few_pos {n : Nat} {w : World} {b : Bx n} {cs : List Value} (h : Rep w n b cs) : 1 ≤ bCount n b := by
  cases n with
  | zero => exact h.elim
  | succ n => simp [bCount]

set_option maxHeartbeats 8000000 in
set_option maxRecDepth 100000 in
theorem ref28_size_step (n : Nat) (ih : ∀ (b : Bx n) (cs : List Value) (most : Nat) (w : World), Rep w n b cs → 1 ≤ most → most ≤ 1000000 → Calls Try.prog 37 #[.agg cs.toArray, .int .i64 most] w (Gives (.int .i64 ((few n b most : Nat) : Int)) w))
    (b : Bx (n + 1)) (cs : List Value) (most : Nat) (w : World) (hr : Rep w (n + 1) b cs) (hm1 : 1 ≤ most) (hm2 : most ≤ 1000000) : Calls Try.prog 37 #[.agg cs.toArray, .int .i64 most] w (Gives (.int .i64 ((few (n + 1) b most : Nat) : Int)) w) := by
  obtain ⟨⟨kind, name, size, bw, bh, bd, bx, by_, of, src⟩, kids⟩ := b
  obtain ⟨kx, kc, sx, sc, rfl, ha, hkl, hrow0, hkids⟩ := rep_out hr
  have IH := Lib.hid ih
  have HK := Lib.hid hkids
  simp only [maxLen] at hkl
  clear ih hr ha hrow0 hkids
  go_enter Try.func37, Try.ntmps37
  have hS := own_start w
  go_wp2_with (first | (refine own_unguard (by rfl) ?_) | (refine w_ld rfl _ rfl (by rfl) (by first | exact rd_1 (by repeat constructor) (by first | rfl | assumption) | exact rd_w (by repeat constructor) (by rfl) | exact rd_o (by assumption) (by rfl) (by first | exact nmn | assumption | simp) | exact rd_h (by assumption) (by rfl) (by first | exact nmn | assumption | simp) | exact rd_1o (by assumption) (by first | exact nmn | assumption | simp) | exact rd_1h (by assumption) (by first | rfl | assumption) (by first | exact nmn | assumption | simp)) hS ?_) | (refine own_box rfl _ _ rfl (by rfl) hS ?_; clear hS; (try clear ww); intro bb ww hS) | (refine w_st rfl _ _ rfl (by rfl) (by rfl) (by repeat constructor) (by rfl) (by rfl) (by first | rfl | assumption) hS ?_; clear hS; (try clear ww); intro ww hS) | (refine w_s1 rfl _ _ rfl (by rfl) (by repeat constructor) (by first | exact .c | exact .t rfl) (by rfl) (by repeat constructor) hS ?_; clear hS; (try clear ww); intro ww hS))
  obtain ⟨L0, HL, hS0⟩ := hS.named
  clear hS
  have hS := hS0
  clear hS0
  go_loopw [6, 5] (fun i x wr => ∃ (j S : Nat), j ≤ kids.length ∧ i = .int .i64 j ∧ x = .int .i64 S ∧ S = min (1 + ((kids.take j).map (bCount n)).sum) most ∧ j + 1 ≤ S ∧ Own [] w L0 wr) (fun i _ _ => kids.length - (intOf i).toNat)
  case atStart => exact ⟨0, 1, Nat.zero_le _, rfl, rfl, by simp; omega, by omega, hS⟩
  case round =>
    clear hS
    obtain ⟨j, S, hj, rfl, rfl, hSe, hjS, hS⟩ := hrel
    obtain rfl := HL.out
    clear HL
    by_cases hlt : j < kids.length
    · obtain ⟨kid, hkid⟩ : ∃ kid, kids[j]? = some kid := ⟨kids[j], by simp [hlt]⟩
      by_cases hSm : S < most
      · obtain ⟨kb, ko, css, hkx, hrg, hrep⟩ := HK.out j kid hkid
        obtain rfl : kx = some ⟨kb, ko, none⟩ := hkx
        obtain ⟨c0, c1, c2, c3, c4, c5, c6, c7, c8, c9, c10, rfl⟩ := eleven hrep.len
        have hpos := few_pos hrep
        have E1 := Lib.hid (sum_take_succ (bCount n) kids j hkid)
        have HSe := Lib.hid hSe
        have HRp := Lib.hid hrep
        have hfe : few n kid (most - S) ≤ most - S ∧ 1 ≤ few n kid (most - S) := by unfold few; omega
        have HF := Lib.hid (show few n kid (most - S) = min (bCount n kid) (most - S) from rfl)
        have hsub : ((most - S : Nat) : Int) = (most : Int) - (S : Int) := by omega
        obtain ⟨M2, hM2⟩ : ∃ M2, M2 = most - S := ⟨_, rfl⟩
        rw [← hM2] at hfe HF hsub
        have HC := Lib.hid (fun w' (h : Below w.heap.size w w') => IH.out kid _ M2 w' (HRp.out.step h) (by omega) (by omega))
        rw [hsub] at HC
        generalize few n kid M2 = G at *
        clear hrep hkid hSe hsub
        go_wp2_with (first | (refine own_unguard (by rfl) ?_) | (refine own_load_old rfl _ _ rfl rfl hS hrg List.not_mem_nil rt_box ?_) | (go_at_call 37; refine own_calls hS (HC.out _ hS.below) ?_; clear hS; (try clear ww); intro ww hS) | (refine w_ld rfl _ rfl (by rfl) (by first | exact rd_1 (by repeat constructor) (by first | rfl | assumption) | exact rd_w (by repeat constructor) (by rfl) | exact rd_o (by assumption) (by rfl) (by first | exact nmn | assumption | simp) | exact rd_h (by assumption) (by rfl) (by first | exact nmn | assumption | simp) | exact rd_1o (by assumption) (by first | exact nmn | assumption | simp) | exact rd_1h (by assumption) (by first | rfl | assumption) (by first | exact nmn | assumption | simp)) hS ?_) | (refine own_box rfl _ _ rfl (by rfl) hS ?_; clear hS; (try clear ww); intro bb ww hS) | (refine w_st rfl _ _ rfl (by rfl) (by rfl) (by repeat constructor) (by rfl) (by rfl) (by first | rfl | assumption) hS ?_; clear hS; (try clear ww); intro ww hS) | (refine w_s1 rfl _ _ rfl (by rfl) (by repeat constructor) (by first | exact .c | exact .t rfl) (by rfl) (by repeat constructor) hS ?_; clear hS; (try clear ww); intro ww hS))
        have HE2 := Lib.hid (show S + G = min (1 + ((kids.take (j + 1)).map (bCount n)).sum) most by have h1 := E1.out; have h2 := HSe.out; have h3 := HF.out; omega)
        go_roundw
        case rel => exact ⟨j + 1, S + G, hlt, by go_num, by simp, HE2.out, by omega, hS⟩
        case measure => exact loop_meas hlt
      · have HE := Lib.hid (show S = few (n + 1) (⟨kind, name, size, bw, bh, bd, bx, by_, of, src⟩, kids) most by have h1 := sum_take_all (bCount n) kids j; unfold few; simp only [bCount]; omega)
        clear hSe
        go_wp2_with (first | (refine own_unguard (by rfl) ?_) | (refine w_ld rfl _ rfl (by rfl) (by first | exact rd_1 (by repeat constructor) (by first | rfl | assumption) | exact rd_w (by repeat constructor) (by rfl) | exact rd_o (by assumption) (by rfl) (by first | exact nmn | assumption | simp) | exact rd_h (by assumption) (by rfl) (by first | exact nmn | assumption | simp) | exact rd_1o (by assumption) (by first | exact nmn | assumption | simp) | exact rd_1h (by assumption) (by first | rfl | assumption) (by first | exact nmn | assumption | simp)) hS ?_) | (refine own_box rfl _ _ rfl (by rfl) hS ?_; clear hS; (try clear ww); intro bb ww hS) | (refine w_st rfl _ _ rfl (by rfl) (by rfl) (by repeat constructor) (by rfl) (by rfl) (by first | rfl | assumption) hS ?_; clear hS; (try clear ww); intro ww hS) | (refine w_s1 rfl _ _ rfl (by rfl) (by repeat constructor) (by first | exact .c | exact .t rfl) (by rfl) (by repeat constructor) hS ?_; clear hS; (try clear ww); intro ww hS))
        go_ret
        exact ⟨ret_int (by rw [← HE.out]), hS.below⟩
    · obtain rfl : j = kids.length := by omega
      have HE := Lib.hid (show S = few (n + 1) (⟨kind, name, size, bw, bh, bd, bx, by_, of, src⟩, kids) most by rw [hSe, List.take_length]; rfl)
      clear hSe
      go_wp2_with (first | (refine own_unguard (by rfl) ?_) | (refine w_ld rfl _ rfl (by rfl) (by first | exact rd_1 (by repeat constructor) (by first | rfl | assumption) | exact rd_w (by repeat constructor) (by rfl) | exact rd_o (by assumption) (by rfl) (by first | exact nmn | assumption | simp) | exact rd_h (by assumption) (by rfl) (by first | exact nmn | assumption | simp) | exact rd_1o (by assumption) (by first | exact nmn | assumption | simp) | exact rd_1h (by assumption) (by first | rfl | assumption) (by first | exact nmn | assumption | simp)) hS ?_) | (refine own_box rfl _ _ rfl (by rfl) hS ?_; clear hS; (try clear ww); intro bb ww hS) | (refine w_st rfl _ _ rfl (by rfl) (by rfl) (by repeat constructor) (by rfl) (by rfl) (by first | rfl | assumption) hS ?_; clear hS; (try clear ww); intro ww hS) | (refine w_s1 rfl _ _ rfl (by rfl) (by repeat constructor) (by first | exact .c | exact .t rfl) (by rfl) (by repeat constructor) hS ?_; clear hS; (try clear ww); intro ww hS))
      go_ret
      exact ⟨ret_int (by rw [← HE.out]), hS.below⟩

theorem ref28_size_calls : ∀ (n : Nat) (b : Bx n) (cs : List Value) (most : Nat) (w : World), Rep w n b cs → 1 ≤ most → most ≤ 1000000 → Calls Try.prog 37 #[.agg cs.toArray, .int .i64 most] w (Gives (.int .i64 ((few n b most : Nat) : Int)) w) := by
  intro n
  induction n with
  | zero => intro b cs most w h; exact h.elim
  | succ n ih => intro b cs most w h1 h2 h3; exact ref28_size_step n ih b cs most w h1 h2 h3

set_option maxHeartbeats 8000000 in
set_option maxRecDepth 100000 in
theorem ref28_Few_calls (n : Nat) (b : Bx n) (cs : List Value) (most : Nat) (w : World) (hr : Rep w n b cs) (hm : most ≤ 100000) (v : Bool) (hv : v = decide (bCount n b ≤ most)) : Calls Try.prog 18 #[.agg cs.toArray, .int .i64 most] w (Gives (.bool v) w) := by
  have h11 := hr.len
  have HR := Lib.hid hr
  have HV := Lib.hid hv
  have HC := Lib.hid (fun w' (h : Below w.heap.size w w') => ref28_size_calls n b cs (most + 1) w' (hr.step h) (by omega) (by omega))
  rw [show ((most + 1 : Nat) : Int) = (most : Int) + 1 by omega] at HC
  have hf : few n b (most + 1) = min (bCount n b) (most + 1) := rfl
  obtain ⟨c0, c1, c2, c3, c4, c5, c6, c7, c8, c9, c10, rfl⟩ := eleven h11
  generalize few n b (most + 1) = G at *
  have HF := Lib.hid hf
  clear hf hr hv h11
  go_enter Try.func18, Try.ntmps18
  have hS := own_start w
  go_wp2_with (first | (refine own_unguard (by rfl) ?_) | (go_at_call 37; refine own_calls hS (HC.out _ hS.below) ?_; clear hS; (try clear ww); intro ww hS) | (refine w_ld rfl _ rfl (by rfl) (by first | exact rd_1 (by repeat constructor) (by first | rfl | assumption) | exact rd_w (by repeat constructor) (by rfl) | exact rd_o (by assumption) (by rfl) (by first | exact nmn | assumption | simp) | exact rd_h (by assumption) (by rfl) (by first | exact nmn | assumption | simp) | exact rd_1o (by assumption) (by first | exact nmn | assumption | simp) | exact rd_1h (by assumption) (by first | rfl | assumption) (by first | exact nmn | assumption | simp)) hS ?_) | (refine own_box rfl _ _ rfl (by rfl) hS ?_; clear hS; (try clear ww); intro bb ww hS) | (refine w_st rfl _ _ rfl (by rfl) (by rfl) (by repeat constructor) (by rfl) (by rfl) (by first | rfl | assumption) hS ?_; clear hS; (try clear ww); intro ww hS) | (refine w_s1 rfl _ _ rfl (by rfl) (by repeat constructor) (by first | exact .c | exact .t rfl) (by rfl) (by repeat constructor) hS ?_; clear hS; (try clear ww); intro ww hS))
  go_ret
  refine ⟨ret_bool ?_, hS.below⟩
  rw [HV.out, Bool.eq_iff_iff]
  have := HF.out
  simp only [decide_eq_true_eq]
  omega

end Go.Proofs.Ytdbcdjiclkmknaa
namespace Go.Proofs.Ytdbcdjiclkmknaa
open Go.RowKit

attribute [local irreducible] wpQuiet wpG wpP wpK wpList Code.wp Calls

end Go.Proofs.Ytdbcdjiclkmknaa
namespace Go.Proofs.Ytdbcdjiclkmknaa
open Go.RowKit

attribute [local irreducible] wpQuiet wpG wpP wpK wpList Code.wp Calls

end Go.Proofs.Ytdbcdjiclkmknaa
namespace Go.Proofs.Ytdbcdjiclkmknaa
open Go.RowKit

attribute [local irreducible] wpQuiet wpG wpP wpK wpList Code.wp Calls

theorem prm_sz {F : Fnt} (h : ValidF F) : (1 ≤ F.script ∧ F.script ≤ 100) ∧ (1 ≤ F.sscript ∧ F.sscript ≤ 100) := by
  have := h.2.2.1
  simp [prmOk, allIn] at this
  omega
theorem size_in {F : Fnt} {l : Int} (h : ValidF F) : 1 ≤ sizeOf' F l ∧ sizeOf' F l ≤ 100 := by
  have := prm_sz h
  unfold sizeOf'
  repeat' split
  all_goals omega
/-- A parameter at the size of a style. -/
def par (F : Fnt) (l n : Int) : Int := scl n (sizeOf' F l)
/-- A scaled parameter lies between 0 and itself. -/
theorem par_in {F : Fnt} {l n : Int} (h : ValidF F) (h0 : 0 ≤ n) (h1 : n ≤ 20000) : 0 ≤ par F l n ∧ par F l n ≤ n := by
  have hs := size_in (l := l) h
  unfold par
  rw [scl_ok (by omega) (by omega) (by omega)]
  have h2 : 0 ≤ n * sizeOf' F l := Int.mul_nonneg h0 (by omega)
  have h3 : n * sizeOf' F l ≤ n * 100 := Int.mul_le_mul_of_nonneg_left hs.2 h0
  unfold rdiv
  rw [if_pos h2]
  omega

set_option maxHeartbeats 4000000 in
set_option maxRecDepth 100000 in
theorem ref32_Par_calls (F : Fnt) (l n : Int) (c : Bool) (w : World) (hl : lvlOk l = true) (hv : ValidF F) (hn : -1073741824 ≤ n ∧ n ≤ 1073741824) : Calls Try.prog 34 #[F.val, .agg #[.int .i64 l, .bool c], .int .i64 n] w (Gives (.int .i64 (par F l n)) w) := by
  have HL := Lib.hid hl
  have HN := Lib.hid hn
  have HZ := Lib.hid (size_in (l := l) hv)
  have HC := Lib.hid (fun w' => ref01_Scale_gives n (sizeOf' F l) w' HN.out (by have := HZ.out; omega) (by have := HZ.out; omega))
  have HP := Lib.hid (show par F l n = scl n (sizeOf' F l) from rfl)
  have HS := Lib.hid (fun w' => ref25_Size_in F l c w' HL.out)
  generalize sizeOf' F l = Z at *
  clear hl hv hn
  go_enter Try.func34, Try.ntmps34
  have hS := own_start w
  go_wp2_with (first | (refine own_unguard (by rfl) ?_) | (go_at_call 53; refine own_calls hS (HS.out _) ?_; clear hS; (try clear ww); intro ww hS) | (go_at_call 52; refine own_calls hS (HC.out _) ?_; clear hS; (try clear ww); intro ww hS) | (refine w_ld rfl _ rfl (by rfl) (by first | exact rd_1 (by repeat constructor) (by first | rfl | assumption) | exact rd_w (by repeat constructor) (by rfl) | exact rd_o (by assumption) (by rfl) (by first | exact nmn | assumption | simp) | exact rd_h (by assumption) (by rfl) (by first | exact nmn | assumption | simp) | exact rd_1o (by assumption) (by first | exact nmn | assumption | simp) | exact rd_1h (by assumption) (by first | rfl | assumption) (by first | exact nmn | assumption | simp)) hS ?_) | (refine own_box rfl _ _ rfl (by rfl) hS ?_; clear hS; (try clear ww); intro bb ww hS) | (refine w_al rfl rfl hS ?_; clear hS; (try clear ww); intro bb ww hS) | (refine w_st rfl _ _ rfl (by rfl) (by rfl) (by repeat constructor) (by rfl) (by rfl) (by first | rfl | assumption) hS ?_; clear hS; (try clear ww); intro ww hS) | (refine w_s1 rfl _ _ rfl (by rfl) (by repeat constructor) (by first | exact .c | exact .t rfl) (by rfl) (by repeat constructor) hS ?_; clear hS; (try clear ww); intro ww hS))
  go_ret
  exact ⟨ret_int HP.out.symm, hS.below⟩

/-- All lengths are modest. -/
def modL (l : List Int) : Bool := l.all fun n => decide (-100000000 ≤ n) && decide (n ≤ 100000000)
theorem modL_drop {l : List Int} {k : Nat} {n : Int} (h : l[k]? = some n) : modL (l.drop k) = ((decide (-100000000 ≤ n) && decide (n ≤ 100000000)) && modL (l.drop (k + 1))) := by
  obtain ⟨hlt, rfl⟩ := List.getElem?_eq_some_iff.1 h
  unfold modL
  rw [List.drop_eq_getElem_cons hlt, List.all_cons]
def modB (n : Nat) (b : Bx (n + 1)) : Bool := modL b.1.lens && decide (bCount (n + 1) b ≤ 200)

set_option maxHeartbeats 8000000 in
set_option maxRecDepth 100000 in
theorem ref32_Modest_calls (n : Nat) (b : Bx (n + 1)) (cs : List Value) (w : World) (hr : Rep w (n + 1) b cs) (v : Bool) (hv : v = modB n b) : Calls Try.prog 32 #[.agg cs.toArray] w (Gives (.bool v) w) := by
  obtain ⟨a, kids⟩ := b
  have HFw := Lib.hid (fun w' (h : Below w.heap.size w w') => ref28_Few_calls (n + 1) (a, kids) cs 200 w' (hr.step h) (by omega) _ rfl)
  obtain ⟨kx, kc, sx, sc, rfl, ha, hkl, hrow0, hkids⟩ := rep_out hr
  have hv2 : v = (modL a.lens && decide (bCount (n + 1) (a, kids) ≤ 200)) := hv
  have HV := Lib.hid hv2
  obtain ⟨lens, HLe⟩ : ∃ l, Hid (l = a.lens) := ⟨_, rfl⟩
  have hlen : lens.length ≤ 5 ∧ 5 ≤ lens.length := by rw [HLe.out]; exact ⟨Nat.le_refl _, Nat.le_refl _⟩
  generalize bCount (n + 1) (a, kids) = C at *
  clear hr ha hkl hrow0 hkids hv hv2
  go_enter Try.func32, Try.ntmps32
  have hS := own_start w
  go_wp2_with (first | (refine own_unguard (by rfl) ?_) | (refine own_buildSlice rfl _ _ 5 _ rfl (a.lens.map (Value.int .i64)) hS Try.underlying31 (by kernel_rfl) ?_; rw [← HLe.out]; clear hS; (try clear ww); intro bb ww hS) | (refine w_ld rfl _ rfl (by rfl) (by first | exact rd_1 (by repeat constructor) (by first | rfl | assumption) | exact rd_w (by repeat constructor) (by rfl) | exact rd_o (by assumption) (by rfl) (by first | exact nmn | assumption | simp) | exact rd_h (by assumption) (by rfl) (by first | exact nmn | assumption | simp) | exact rd_1o (by assumption) (by first | exact nmn | assumption | simp) | exact rd_1h (by assumption) (by first | rfl | assumption) (by first | exact nmn | assumption | simp)) hS ?_) | (refine own_box rfl _ _ rfl (by rfl) hS ?_; clear hS; (try clear ww); intro bb ww hS) | (refine w_st rfl _ _ rfl (by rfl) (by rfl) (by repeat constructor) (by rfl) (by rfl) (by first | rfl | assumption) hS ?_; clear hS; (try clear ww); intro ww hS) | (refine w_s1 rfl _ _ rfl (by rfl) (by repeat constructor) (by first | exact .c | exact .t rfl) (by rfl) (by repeat constructor) hS ?_; clear hS; (try clear ww); intro ww hS))
  obtain ⟨L0, HL, hS0⟩ := hS.named
  clear hS
  have hS := hS0
  clear hS0
  go_loopw [4] (fun i wr => ∃ j : Nat, j ≤ 5 ∧ i = .int .i64 j ∧ modL lens = modL (lens.drop j) ∧ Own [] w L0 wr) (fun i _ => 5 - (intOf i).toNat)
  case atStart => exact ⟨0, Nat.zero_le _, rfl, rfl, hS⟩
  case round =>
    clear hS
    obtain ⟨j, hj, rfl, hf, hS⟩ := hrel
    obtain rfl := HL.out
    clear HL
    by_cases hlt : j < 5
    · obtain ⟨z, hz⟩ : ∃ z, lens[j]? = some z := ⟨lens[j], by simp⟩
      rw [modL_drop hz] at hf
      have HF := Lib.hid hf
      have hcell : (lens.map (Value.int .i64))[j]? = some (.int .i64 z) := by rw [List.getElem?_map, hz]; rfl
      clear hf hz
      by_cases h1 : z < -100000000
      · have E1 := Lib.hid (show v = false by rw [HV.out, ← HLe.out, HF.out]; simp; omega)
        clear HF
        go_wp2_with (first | (refine own_unguard (by rfl) ?_) | (refine w_ld rfl _ rfl (by rfl) (by first | exact rd_1 (by repeat constructor) (by first | rfl | assumption) | exact rd_w (by repeat constructor) (by rfl) | exact rd_o (by assumption) (by rfl) (by first | exact nmn | assumption | simp) | exact rd_h (by assumption) (by rfl) (by first | exact nmn | assumption | simp) | exact rd_1o (by assumption) (by first | exact nmn | assumption | simp) | exact rd_1h (by assumption) (by first | rfl | assumption) (by first | exact nmn | assumption | simp)) hS ?_) | (refine own_box rfl _ _ rfl (by rfl) hS ?_; clear hS; (try clear ww); intro bb ww hS) | (refine w_st rfl _ _ rfl (by rfl) (by rfl) (by repeat constructor) (by rfl) (by rfl) (by first | rfl | assumption) hS ?_; clear hS; (try clear ww); intro ww hS) | (refine w_s1 rfl _ _ rfl (by rfl) (by repeat constructor) (by first | exact .c | exact .t rfl) (by rfl) (by repeat constructor) hS ?_; clear hS; (try clear ww); intro ww hS))
        go_ret
        exact ⟨ret_bool E1.out.symm, hS.below⟩
      · by_cases h2 : 100000000 < z
        · have E1 := Lib.hid (show v = false by rw [HV.out, ← HLe.out, HF.out]; simp; omega)
          clear HF
          go_wp2_with (first | (refine own_unguard (by rfl) ?_) | (refine w_ld rfl _ rfl (by rfl) (by first | exact rd_1 (by repeat constructor) (by first | rfl | assumption) | exact rd_w (by repeat constructor) (by rfl) | exact rd_o (by assumption) (by rfl) (by first | exact nmn | assumption | simp) | exact rd_h (by assumption) (by rfl) (by first | exact nmn | assumption | simp) | exact rd_1o (by assumption) (by first | exact nmn | assumption | simp) | exact rd_1h (by assumption) (by first | rfl | assumption) (by first | exact nmn | assumption | simp)) hS ?_) | (refine own_box rfl _ _ rfl (by rfl) hS ?_; clear hS; (try clear ww); intro bb ww hS) | (refine w_st rfl _ _ rfl (by rfl) (by rfl) (by repeat constructor) (by rfl) (by rfl) (by first | rfl | assumption) hS ?_; clear hS; (try clear ww); intro ww hS) | (refine w_s1 rfl _ _ rfl (by rfl) (by repeat constructor) (by first | exact .c | exact .t rfl) (by rfl) (by repeat constructor) hS ?_; clear hS; (try clear ww); intro ww hS))
          go_ret
          exact ⟨ret_bool E1.out.symm, hS.below⟩
        · have E1 := Lib.hid (show modL lens = modL (lens.drop (j + 1)) by rw [HF.out]; simp; omega)
          clear HF
          go_wp2_with (first | (refine own_unguard (by rfl) ?_) | (refine w_ld rfl _ rfl (by rfl) (by first | exact rd_1 (by repeat constructor) (by first | rfl | assumption) | exact rd_w (by repeat constructor) (by rfl) | exact rd_o (by assumption) (by rfl) (by first | exact nmn | assumption | simp) | exact rd_h (by assumption) (by rfl) (by first | exact nmn | assumption | simp) | exact rd_1o (by assumption) (by first | exact nmn | assumption | simp) | exact rd_1h (by assumption) (by first | rfl | assumption) (by first | exact nmn | assumption | simp)) hS ?_) | (refine own_box rfl _ _ rfl (by rfl) hS ?_; clear hS; (try clear ww); intro bb ww hS) | (refine w_st rfl _ _ rfl (by rfl) (by rfl) (by repeat constructor) (by rfl) (by rfl) (by first | rfl | assumption) hS ?_; clear hS; (try clear ww); intro ww hS) | (refine w_s1 rfl _ _ rfl (by rfl) (by repeat constructor) (by first | exact .c | exact .t rfl) (by rfl) (by repeat constructor) hS ?_; clear hS; (try clear ww); intro ww hS))
          go_roundw
          case rel => exact ⟨j + 1, hlt, by go_num, E1.out, hS⟩
          case measure => exact loop_meas hlt
    · have E0 := Lib.hid (show v = decide (C ≤ 200) by rw [HV.out, ← HLe.out, hf, List.drop_of_length_le (by omega)]; rfl)
      clear hf
      go_wp2_with (first | (refine own_unguard (by rfl) ?_) | (go_at_call 18; refine own_calls hS (HFw.out _ hS.below) ?_; clear hS; (try clear ww); intro ww hS) | (refine w_ld rfl _ rfl (by rfl) (by first | exact rd_1 (by repeat constructor) (by first | rfl | assumption) | exact rd_w (by repeat constructor) (by rfl) | exact rd_o (by assumption) (by rfl) (by first | exact nmn | assumption | simp) | exact rd_h (by assumption) (by rfl) (by first | exact nmn | assumption | simp) | exact rd_1o (by assumption) (by first | exact nmn | assumption | simp) | exact rd_1h (by assumption) (by first | rfl | assumption) (by first | exact nmn | assumption | simp)) hS ?_) | (refine own_box rfl _ _ rfl (by rfl) hS ?_; clear hS; (try clear ww); intro bb ww hS) | (refine w_st rfl _ _ rfl (by rfl) (by rfl) (by repeat constructor) (by rfl) (by rfl) (by first | rfl | assumption) hS ?_; clear hS; (try clear ww); intro ww hS) | (refine w_s1 rfl _ _ rfl (by rfl) (by repeat constructor) (by first | exact .c | exact .t rfl) (by rfl) (by repeat constructor) hS ?_; clear hS; (try clear ww); intro ww hS))
      go_ret
      exact ⟨ret_bool E0.out.symm, hS.below⟩

end Go.Proofs.Ytdbcdjiclkmknaa
namespace Go.Proofs.Ytdbcdjiclkmknaa
open Go.RowKit
section
variable {P : Program} {ops : Array Oper} {Q : Exit → Act → World → Prop} {rel : Nat → World → World → Prop} {D : List Nat} {W : World}

theorem mk_swap (m i k : Nat) (l : List Nat) : mk m (i :: k :: l) = mk m (k :: i :: l) := by
  by_cases h : i = k
  · subst h; rfl
  · show ((mk m l).setIfInBounds k true).setIfInBounds i true = ((mk m l).setIfInBounds i true).setIfInBounds k true
    exact Array.setIfInBounds_comm _ _ (fun e => h e.symm)

end
section
variable {P : Program} {l : List Oper} {Q : Exit → Act → World → Prop} {D : List Nat} {W w : World} {L : List (Nat × List Value)} {a : Act} {B : Nat} {mid hard : List Nat} {done : List Nat}

end
end Go.Proofs.Ytdbcdjiclkmknaa
namespace Go.Proofs.Ytdbcdjiclkmknaa
open Go.RowKit

attribute [local irreducible] wpQuiet wpG wpP wpK wpList Code.wp Calls

theorem hlf_in {n : Int} (h0 : 0 ≤ n) (h1 : n ≤ 1000000000) : 0 ≤ hlf n ∧ n ≤ 2 * hlf n ∧ 2 * hlf n ≤ n + 1 := by
  rw [hlf_ok (by omega)]
  unfold rdiv
  rw [if_pos h0]
  omega







end Go.Proofs.Ytdbcdjiclkmknaa
namespace Go.Proofs.Ytdbcdjiclkmknaa
open Go.RowKit

attribute [local irreducible] wpQuiet wpG wpP wpK wpList Code.wp Calls

/-- The call gives a box and an error. -/
def GivesBE (n : Nat) (b : Bx n) (err : Int) (w : World) (e : Ending) (w' : World) : Prop := ∃ cs, e = .returned (.tuple #[.agg cs.toArray, .int .i64 err]) ∧ Rep w' n b cs ∧ Below w.heap.size w w'
/-- The empty box. -/
def zeroB (n : Nat) : Bx (n + 1) := (⟨0, ⟨#[]⟩, 0, 0, 0, 0, 0, 0, 0, []⟩, [])
theorem rep_zero (n : Nat) (w : World) : Rep w (n + 1) (zeroB n) [.int .i64 0, .string ⟨#[]⟩, .int .i64 0, .int .i64 0, .int .i64 0, .int .i64 0, .int .i64 0, .int .i64 0, .slice none 0 0, .int .i64 0, .slice none 0 0] :=
  rep_mk (kx := none) (sx := none) (kc := 0) (sc := 0) (hdOk_new i64_0 i64_0 i64_0 i64_0) (by simp) (.inl rfl) (fun i kid hi => by simp at hi)

end Go.Proofs.Ytdbcdjiclkmknaa
namespace Go.Proofs.Ytdbcdjiclkmknaa
open Go.RowKit

attribute [local irreducible] wpQuiet wpG wpP wpK wpList Code.wp Calls

/-- The cells are the box, none of whose lists lies in the blocks B. -/
@[reducible] def RepA (B : List Nat) (w : World) (n : Nat) (b : Bx n) (cs : List Value) : Prop := RepG (fun k _ => k ∉ B) (fun k => k ∉ B) w n b cs
theorem RepG.rep {ko : Nat → Nat → Prop} {so : Nat → Prop} {w : World} {n : Nat} {b : Bx n} {cs : List Value} (h : RepG ko so w n b cs) : Rep w n b cs := h.mono (fun _ _ _ => trivial) (fun _ _ => trivial)
theorem repA_step {B : List Nat} {w w' : World} {n : Nat} {b : Bx n} {cs : List Value} (h : RepA B w n b cs) (hb : Below w.heap.size w w') : RepA B w' n b cs := RepG.step hb n b cs h
/-- The block of a slice of the call's own. -/
theorem sl_where {size n : Nat} {y : Option Addr} {c : Nat} {xs : List Value} {X : List (Nat × List Value)} (h : Sl size n (.slice y n c) xs X) (hn : n ≠ 0) {k o : Nat} (hx : y = some ⟨k, o, none⟩) : ∃ z, (k, z) ∈ X := by
  rcases h.2 with ⟨_, _, _, h0, _⟩ | ⟨b, c', junk, he, _, _, _, rfl⟩
  · exact absurd h0 hn
  · subst hx
    have hb : k = b := by
      simp at he
      exact he.1.1
    exact ⟨xs ++ junk, by rw [hb]; simp⟩
/-- A list of boxes lies there; K: where. -/
def RepLA (K : Nat → Prop) (B : List Nat) (w : World) (n : Nat) (x : Option Addr) (kids : List (Bx n)) : Prop := ∀ i kid, kids[i]? = some kid → ∃ k o css, x = some ⟨k, o, none⟩ ∧ K k ∧ w.rangeAt k (o + i * 11) css ∧ RepA B w n kid css
theorem rep_mkA {B : List Nat} {w : World} {n : Nat} {a : Hd} {kids : List (Bx n)} {kx sx : Option Addr} {kc sc : Nat} (ha : HdOk a) (hl : kids.length ≤ maxLen) (hs : RowAt w sx 1 intCells a.src) (hso : a.src ≠ [] → ∀ k o, sx = some ⟨k, o, none⟩ → k ∉ B) (hk : RepLA (fun k => k ∉ B) B w n kx kids) : RepA B w (n + 1) (a, kids) (a.cells (.slice kx kids.length kc) (.slice sx a.src.length sc)) :=
  ⟨kx, kc, sx, sc, rfl, ha, hl, hs, hso, hk⟩
theorem rep_outA {B : List Nat} {w : World} {n : Nat} {a : Hd} {kids : List (Bx n)} {cs : List Value} (h : RepA B w (n + 1) (a, kids) cs) : ∃ kx kc sx sc, cs = a.cells (.slice kx kids.length kc) (.slice sx a.src.length sc) ∧ HdOk a ∧ kids.length ≤ maxLen ∧ RowAt w sx 1 intCells a.src ∧ (a.src ≠ [] → ∀ k o, sx = some ⟨k, o, none⟩ → k ∉ B) ∧ RepLA (fun k => k ∉ B) B w n kx kids := by
  obtain ⟨kx, kc, sx, sc, h1, h2, h3, h4, h5, h6⟩ := h
  exact ⟨kx, kc, sx, sc, h1, h2, h3, h4, h5, h6⟩
theorem RepLA.step {K : Nat → Prop} {B : List Nat} {w w' : World} {n : Nat} {x : Option Addr} {kids : List (Bx n)} (h : RepLA K B w n x kids) (hb : Below w.heap.size w w') : RepLA K B w' n x kids := fun i kid hi => by
  obtain ⟨k, o, css, e, hK, hr, hp⟩ := h i kid hi
  exact ⟨k, o, css, e, hK, rangeAt_below hr hb, repA_step hp hb⟩
/-- The call gives a box away from the blocks B. -/
def GivesA (B : List Nat) (n : Nat) (b : Bx n) (w : World) (e : Ending) (w' : World) : Prop := ∃ cs, e = .returned (.agg cs.toArray) ∧ RepA B w' n b cs ∧ Below w.heap.size w w'

set_option maxHeartbeats 4000000 in
set_option maxRecDepth 100000 in
theorem box_At_A (B : List Nat) (n : Nat) (b : Bx (n + 1)) (cs : List Value) (x y : Int) (w : World) (hr : RepA B w (n + 1) b cs) (hB : ∀ k ∈ B, k < w.heap.size) (hx : I64 x) (hy : I64 y) (hsl : b.1.src.length ≤ 17592186044416) : Calls Try.prog 25 #[.agg cs.toArray, .int .i64 x, .int .i64 y] w (GivesA B (n + 1) (atXY (n + 1) b x y) w) := by
  obtain ⟨⟨kind, name, size, bw, bh, bd, bx, by_, of, src⟩, kids⟩ := b
  obtain ⟨kx, kc, sx, sc, rfl, ha, hkl, hrow0, hso, hkids⟩ := rep_outA hr
  have HH := Lib.hid (show HdOk ⟨kind, name, size, bw, bh, bd, x, y, of, src⟩ from ⟨ha.kind, ha.size, ha.w, ha.h, ha.d, hx, hy, ha.of, ha.src, ha.srcLen, ha.nameLen⟩)
  have HL := Lib.hid hkl
  have HSr := Lib.hid hrow0
  have HK := Lib.hid hkids
  have HB := Lib.hid hB
  simp only at HSr
  clear hr ha hkl hrow0 hkids hx hy hso hB
  go_enter Try.func25, Try.ntmps25
  have hS := own_start w
  go_wp2_with (first | (refine own_unguard (by rfl) ?_) | (go_at_call 46; refine own_ints hS (clone_calls _ _ _ _ (HSr.out.own hS) hsl) ?_; clear hS; intro y2 c2 Xs ww hXs hrow hS1; have hS := hS1.perm (front_back Xs _ _ []); clear hS1) | (refine w_ld rfl _ rfl (by rfl) (by first | exact rd_1 (by repeat constructor) (by first | rfl | assumption) | exact rd_w (by repeat constructor) (by rfl) | exact rd_o (by assumption) (by rfl) (by first | exact nmn | assumption | simp) | exact rd_h (by assumption) (by rfl) (by first | exact nmn | assumption | simp) | exact rd_1o (by assumption) (by first | exact nmn | assumption | simp) | exact rd_1h (by assumption) (by first | rfl | assumption) (by first | exact nmn | assumption | simp)) hS ?_) | (refine own_box rfl _ _ rfl (by rfl) hS ?_; clear hS; (try clear ww); intro bb ww hS) | (refine w_al rfl rfl hS ?_; clear hS; (try clear ww); intro bb ww hS) | (refine w_st rfl _ _ rfl (by rfl) (by rfl) (by repeat constructor) (by rfl) (by rfl) (by first | rfl | assumption) hS ?_; clear hS; (try clear ww); intro ww hS) | (refine w_s1 rfl _ _ rfl (by rfl) (by repeat constructor) (by first | exact .c | exact .t rfl) (by rfl) (by repeat constructor) hS ?_; clear hS; (try clear ww); intro ww hS))
  have hc := (hS.get at0).cell
  have hso2 : src ≠ [] → ∀ k o, y2 = some ⟨k, o, none⟩ → k ∉ B := fun hne k o hx hm => by
    have h1 := HB.out k hm
    rcases sl_where hXs (by intro h0; exact hne (List.eq_nil_of_length_eq_zero h0)) hx with ⟨z, hz⟩
    rcases hS.ge (k, z) (by simp [hz]) with h2 | h2
    · cases h2
    · simp only at h2; omega
  refine bodyPost_ret (v := .agg #[.int .i64 kind, .string name, .int .i64 size, .int .i64 bw, .int .i64 bh, .int .i64 bd, .int .i64 x, .int .i64 y, .slice kx kids.length kc, .int .i64 of, .slice y2 src.length c2]) (by simp [results, Try.results25, go_sem, hc]) rfl ⟨_, rfl, rep_mkA HH.out HL.out (sl_row hS (fun x hx => by simp [hx]) hXs) hso2 (HK.out.step hS.below), hS.below⟩

end Go.Proofs.Ytdbcdjiclkmknaa
