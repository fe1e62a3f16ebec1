/- Texts Bvl, Inn, Prr, Scal. -/
import Derived.Test.YtgpabckipmhobaaK05
import Derived.Test.YtgpabckipmhobaaK03
import Derived.WalkMore
import Derived.Test.YtgpabckipmhobaaK04
import Derived.Test.YtgpabckipmhobaaK00
namespace Go.Proofs.Ytgpabckipmhobaa
open Go.RowKit

attribute [local irreducible] wpQuiet wpG wpP wpK wpList Code.wp Calls

/-- All fields of all boxes are as required. -/
def allOwn : (n : Nat) → Bx n → Bool
  | 0, _ => true
  | n + 1, b => ownOk b.1 b.2.length && b.2.all (allOwn n)
/-- The box is valid where c boxes have been counted, at a depth. -/
def okV (n : Nat) (b : Bx n) (c depth : Int) : Prop := allOwn n b = true ∧ c + bCount n b ≤ 20000 ∧ depth + bNested n b ≤ 101
def validB (n : Nat) (b : Bx n) : Prop := okV n b 0 1

theorem nest_le {α : Type} (f : α → Nat) (l : List α) : ∀ (m M : Nat), l.foldl (fun m k => max m (f k)) m ≤ M ↔ m ≤ M ∧ ∀ k ∈ l, f k ≤ M := by
  induction l with
  | nil => intro m M; simp
  | cons x l ih =>
    intro m M
    rw [List.foldl_cons, ih]
    constructor
    · rintro ⟨h1, h2⟩
      refine ⟨by omega, fun k hk => ?_⟩
      rcases List.mem_cons.1 hk with rfl | hk
      · omega
      · exact h2 k hk
    · rintro ⟨h1, h2⟩
      have := h2 x (by simp)
      exact ⟨by omega, fun k hk => h2 k (by simp [hk])⟩
theorem sum_take_le {α : Type} (f : α → Nat) (l : List α) (j : Nat) {x : α} (h : l[j]? = some x) : ((l.take j).map f).sum + f x ≤ (l.map f).sum := by
  obtain ⟨hlt, rfl⟩ := List.getElem?_eq_some_iff.1 h
  have h1 : l = l.take j ++ l[j] :: l.drop (j + 1) := by simp
  have h2 : (l.map f).sum = ((l.take j ++ l[j] :: l.drop (j + 1)).map f).sum := by rw [← h1]
  rw [h2, List.map_append, List.sum_append, List.map_cons, List.sum_cons]
  omega
theorem sum_take_succ {α : Type} (f : α → Nat) (l : List α) (j : Nat) {x : α} (h : l[j]? = some x) : ((l.take (j + 1)).map f).sum = ((l.take j).map f).sum + f x := by
  rw [List.take_add_one, h]
  simp
/-- Where the loop over the kids stands. -/
structure VInv (n : Nat) (a : Hd) (kids : List (Bx n)) (c depth : Int) (j : Nat) (x : Int) : Prop where
  le : j ≤ kids.length
  cnt : x = c + 1 + ((kids.take j).map (bCount n)).sum
  mx : x ≤ 20000
  ok : ∀ kid ∈ kids.take j, allOwn n kid = true ∧ depth + 1 + bNested n kid ≤ 101
theorem VInv.start {n : Nat} {a : Hd} {kids : List (Bx n)} {c depth : Int} (h : c + 1 ≤ 20000) : VInv n a kids c depth 0 (c + 1) := ⟨Nat.zero_le _, by simp, h, by simp⟩
theorem VInv.bad {n : Nat} {a : Hd} {kids : List (Bx n)} {c depth : Int} {j : Nat} {x : Int} {kid : Bx n} (h : VInv n a kids c depth j x) (hk : kids[j]? = some kid) (hn : ¬ okV n kid x (depth + 1)) : ¬ okV (n + 1) (a, kids) c depth := by
  rintro ⟨h1, h2, h3⟩
  simp only [allOwn, Bool.and_eq_true] at h1
  refine hn ⟨List.all_eq_true.1 h1.2 kid (List.mem_of_getElem? hk), ?_, ?_⟩
  · have h4 := sum_take_le (bCount n) kids j hk
    have h5 := h.cnt
    simp only [bCount] at h2
    omega
  · simp only [bNested] at h3
    have h4 := ((nest_le (bNested n) kids 0 (kids.foldl (fun m k => max m (bNested n k)) 0)).1 (Nat.le_refl _)).2 kid (List.mem_of_getElem? hk)
    omega
theorem VInv.next {n : Nat} {a : Hd} {kids : List (Bx n)} {c depth : Int} {j : Nat} {x : Int} {kid : Bx n} (h : VInv n a kids c depth j x) (hk : kids[j]? = some kid) (hn : okV n kid x (depth + 1)) : VInv n a kids c depth (j + 1) (x + bCount n kid) := by
  have hlt : j < kids.length := (List.getElem?_eq_some_iff.1 hk).1
  refine ⟨hlt, ?_, hn.2.1, fun k hm => ?_⟩
  · rw [sum_take_succ (bCount n) kids j hk, h.cnt]
    push_cast
    omega
  · rw [List.take_add_one, hk] at hm
    rcases List.mem_append.1 hm with hm | hm
    · exact h.ok k hm
    · obtain rfl : k = kid := by simpa using hm
      exact ⟨hn.1, by have := hn.2.2; omega⟩
theorem VInv.good {n : Nat} {a : Hd} {kids : List (Bx n)} {c depth x : Int} (h : VInv n a kids c depth kids.length x) (ho : ownOk a kids.length = true) (hd : depth ≤ 100) : okV (n + 1) (a, kids) c depth ∧ x = c + bCount (n + 1) (a, kids) := by
  have h1 := h.cnt
  have h2 := h.mx
  have h3 := h.ok
  rw [List.take_length] at h1 h3
  refine ⟨⟨?_, ?_, ?_⟩, ?_⟩
  · simp only [allOwn, Bool.and_eq_true]
    exact ⟨ho, List.all_eq_true.2 fun k hk => (h3 k hk).1⟩
  · simp only [bCount]; push_cast; omega
  · simp only [bNested]
    have h4 := (nest_le (bNested n) kids 0 (100 - depth).toNat).2 ⟨Nat.zero_le _, fun k hk => by have := (h3 k hk).2; omega⟩
    push_cast
    omega
  · simp only [bCount]; push_cast; omega

theorem iff_no {p : Prop} (h : ¬ p) : false = true ↔ p := ⟨fun h => (by cases h), fun h' => absurd h' h⟩
theorem iff_yes {p : Prop} (h : p) : true = true ↔ p := ⟨fun _ => h, fun _ => rfl⟩
theorem rep_away {w w' : World} {q n : Nat} {L : List (Nat × List Value)} {b : Bx n} {cs : List Value} (hS : Own [q] w L w') (h : RepG (fun k _ => k ≠ q) (fun k => k ≠ q) w n b cs) : RepG (fun k _ => k ≠ q) (fun k => k ≠ q) w' n b cs :=
  (rep_keep2 (Q := fun k => k ≠ q) (fun k hk hlt => hS.block k hlt (by simpa using hk)) n b cs h).mono (fun _ _ h => h.1) (fun _ h => h.1)
theorem VInv.bounds {n : Nat} {a : Hd} {kids : List (Bx n)} {c depth : Int} {j : Nat} {x : Int} (h : VInv n a kids c depth j x) (hc : 0 ≤ c) : 0 ≤ x ∧ x ≤ 20000 := ⟨by have := h.cnt; omega, h.mx⟩
theorem own_start2 {w : World} {q : Nat} {cs : List Value} (h : Has w q cs) : Own [q] w [(q, cs)] w where
  os := rfl
  tape := rfl
  output := rfl
  size := Nat.le_refl _
  block := fun _ _ _ => rfl
  has := fun x hx => by
    obtain rfl : x = (q, cs) := by simpa using hx
    exact h
  ge := fun x hx => by
    obtain rfl : x = (q, cs) := by simpa using hx
    exact .inl (by simp)
  apart := by simp
theorem box_own_v {a : Hd} {k o : Nat} {kx : Option Addr} {nk kc : Nat} {sx : Option Addr} {sc : Nat} {w : World} {v : Bool} (hr : w.rangeAt k o (a.cells (.slice kx nk kc) (.slice sx a.src.length sc))) (hs : RowAt w sx 1 intCells a.src) (hl : a.src.length ≤ 9223372036854775807) (hnm : a.name.size ≤ maxLen) (hv : Hid (ownOk a nk = v)) :
    Calls Try.prog 73 #[.pointer (some ⟨k, o, none⟩)] w (Gives (.bool v) w) := by
  have := box_own_calls a k o kx nk kc sx sc w hr hs hl hnm
  rwa [hv.out] at this
/-- The sources of a box lie where they lay, whatever has become of the count. -/
theorem row_away {w w' : World} {q : Nat} {L : List (Nat × List Value)} {sx : Option Addr} {l : List Int} (hS : Own [q] w L w') (hr : RowAt w sx 1 intCells l) (hs : l ≠ [] → ∀ k o, sx = some ⟨k, o, none⟩ → k ≠ q) : RowAt w' sx 1 intCells l := by
  by_cases hne : l = []
  · exact .inl hne
  · rcases hr with h | ⟨k, o, hx, hr⟩
    · exact .inl h
    · exact .inr ⟨k, o, hx, fun i a hi j v hj => hS.cell (by simpa using hs hne k o hx) (hr i a hi j v hj)⟩
/-- What valid does. -/
def ValidGives (n : Nat) (b : Bx n) (c depth : Int) (q : Nat) (w : World) (e : Ending) (w' : World) : Prop :=
  ∃ (r : Bool) (x : Int), e = .returned (.bool r) ∧ Own [q] w [(q, [.int .i64 x])] w' ∧ (r = true ↔ okV n b c depth) ∧ (r = true → x = c + bCount n b)

set_option maxHeartbeats 8000000 in
set_option maxRecDepth 100000 in
theorem box_valid_step (n : Nat) (ih : ∀ (b : Bx n) (cs : List Value) (k o q : Nat) (c depth : Int) (w : World), w.rangeAt k o cs → RepG (fun k _ => k ≠ q) (fun k => k ≠ q) w n b cs → Wide n b → k ≠ q → Has w q [.int .i64 c] → 0 ≤ c → c ≤ 20000 → 1 ≤ depth → depth ≤ 101 → Calls Try.prog 62 #[.pointer (some ⟨k, o, none⟩), .int .i64 depth, .pointer (some ⟨q, 0, none⟩)] w (ValidGives n b c depth q w))
    (b : Bx (n + 1)) (cs : List Value) (k o q : Nat) (c depth : Int) (w : World) (hrg : w.rangeAt k o cs) (hrep : RepG (fun k _ => k ≠ q) (fun k => k ≠ q) w (n + 1) b cs) (hsm : Wide (n + 1) b) (hkq : k ≠ q) (hq : Has w q [.int .i64 c]) (hc0 : 0 ≤ c) (hc1 : c ≤ 20000) (hd0 : 1 ≤ depth) (hd1 : depth ≤ 101) :
    Calls Try.prog 62 #[.pointer (some ⟨k, o, none⟩), .int .i64 depth, .pointer (some ⟨q, 0, none⟩)] w (ValidGives (n + 1) b c depth q w) := by
  obtain ⟨a, kids⟩ := b
  obtain ⟨kx, kc, sx, sc, rfl, hok, hkl, hrow, hso, hkids⟩ := hrep
  simp only at hkl hrow hso hkids
  have c8 : w.cell? ⟨k, o + 8, none⟩ = some (.slice kx kids.length kc) := hrg 8 _ rfl
  have hkl2 : kids.length ≤ 9223372036854775807 := hsm.2.1
  have hsl : a.src.length ≤ 9223372036854775807 := hsm.1
  have hkD : k ∉ [q] := by simpa using hkq
  have IH := Lib.hid ih
  have HRg := Lib.hid hrg
  have HOk := Lib.hid hok
  have HRow := Lib.hid hrow
  have HSo := Lib.hid hso
  have HK := Lib.hid hkids
  have HSm := Lib.hid hsm
  have hS := own_start2 hq
  clear ih hrg hok hrow hso hkids hsm hq hkl
  go_enter Try.func62, Try.ntmps62
  by_cases h1 : c + 1 ≤ 20000
  · by_cases h2 : depth ≤ 100
    · cases ho : ownOk a kids.length
      · have HO := Lib.hid ho
        have E1 := Lib.hid (show ¬ okV (n + 1) (a, kids) c depth from fun h => by have h3 := h.1; simp only [allOwn, ho, Bool.false_and] at h3; cases h3)
        clear ho
        go_wp2_with (first | (refine own_unguard (by rfl) ?_) | (go_at_call 73; refine own_calls hS (box_own_v (hS.range hkD HRg.out) (row_away hS HRow.out HSo.out) hsl HOk.out.nameLen HO) ?_; clear hS; (try clear ww); intro ww hS) | (refine w_ld rfl _ rfl (by rfl) (by first | exact rd_1 (by repeat constructor) (by first | rfl | assumption) | exact rd_w (by repeat constructor) (by rfl) | exact rd_o (by assumption) (by rfl) (by first | exact nmn | assumption | simp) | exact rd_h (by assumption) (by rfl) (by first | exact nmn | assumption | simp) | exact rd_1o (by assumption) (by first | exact nmn | assumption | simp) | exact rd_1h (by assumption) (by first | rfl | assumption) (by first | exact nmn | assumption | simp)) hS ?_) | (refine own_box rfl _ _ rfl (by rfl) hS ?_; clear hS; (try clear ww); intro bb ww hS) | (refine w_st rfl _ _ rfl (by rfl) (by rfl) (by repeat constructor) (by rfl) (by rfl) (by first | rfl | assumption) hS ?_; clear hS; (try clear ww); intro ww hS) | (refine w_s1 rfl _ _ rfl (by rfl) (by repeat constructor) (by first | exact .c | exact .t rfl) (by rfl) (by repeat constructor) hS ?_; clear hS; (try clear ww); intro ww hS))
        go_ret
        exact ⟨false, _, rfl, hS, iff_no E1.out, fun h => by cases h⟩
      · have HO := Lib.hid ho
        clear ho
        go_wp2_with (first | (refine own_unguard (by rfl) ?_) | (go_at_call 73; refine own_calls hS (box_own_v (hS.range hkD HRg.out) (row_away hS HRow.out HSo.out) hsl HOk.out.nameLen HO) ?_; clear hS; (try clear ww); intro ww hS) | (refine w_ld rfl _ rfl (by rfl) (by first | exact rd_1 (by repeat constructor) (by first | rfl | assumption) | exact rd_w (by repeat constructor) (by rfl) | exact rd_o (by assumption) (by rfl) (by first | exact nmn | assumption | simp) | exact rd_h (by assumption) (by rfl) (by first | exact nmn | assumption | simp) | exact rd_1o (by assumption) (by first | exact nmn | assumption | simp) | exact rd_1h (by assumption) (by first | rfl | assumption) (by first | exact nmn | assumption | simp)) hS ?_) | (refine own_box rfl _ _ rfl (by rfl) hS ?_; clear hS; (try clear ww); intro bb ww hS) | (refine w_st rfl _ _ rfl (by rfl) (by rfl) (by repeat constructor) (by rfl) (by rfl) (by first | rfl | assumption) hS ?_; clear hS; (try clear ww); intro ww hS) | (refine w_s1 rfl _ _ rfl (by rfl) (by repeat constructor) (by first | exact .c | exact .t rfl) (by rfl) (by repeat constructor) hS ?_; clear hS; (try clear ww); intro ww hS))
        go_loopw [31] (fun i wr => ∃ (j : Nat) (x : Int), i = .int .i64 j ∧ VInv n a kids c depth j x ∧ Own [q] w [(q, [.int .i64 x])] wr) (fun i _ => kids.length - (intOf i).toNat)
        case atStart => exact ⟨0, c + 1, rfl, VInv.start h1, hS⟩
        case round =>
          clear hS
          obtain ⟨j, x, rfl, hV, hS⟩ := hrel
          have hx := hV.bounds hc0
          by_cases hlt : j < kids.length
          · obtain ⟨kid, hkid⟩ : ∃ kid, kids[j]? = some kid := ⟨kids[j], by simp [hlt]⟩
            obtain ⟨kb, ko, css, hkx, hkbq, hkr, hkrep⟩ := HK.out j kid hkid
            obtain rfl : kx = some ⟨kb, ko, none⟩ := hkx
            have hkb : kb ∉ [q] := by simpa using hkbq
            have HKr := Lib.hid hkr
            have HKp := Lib.hid hkrep
            have HSk := Lib.hid (HSm.out.2.2 kid (List.mem_of_getElem? hkid))
            have HV := Lib.hid hV
            have HKid := Lib.hid hkid
            clear hkr hkrep hV hkid
            by_cases hok : okV n kid x (depth + 1)
            · have HOk2 := Lib.hid hok
              clear hok
              go_wp2_with (first | (refine own_unguard (by rfl) ?_) | (go_at_call 62; refine Calls.mono (IH.out kid css kb (ko + j * 11) q x (depth + 1) _ (hS.range hkb HKr.out) (rep_away hS HKp.out) HSk.out hkbq (hS.get at0) hx.1 hx.2 (by omega) (by omega)) ?_; rintro e w3 ⟨r, x', rfl, hS3, hr, hx'⟩; have hS9 := hS.chain hS3; obtain rfl : r = true := hr.2 HOk2.out; obtain rfl : x' = x + bCount n kid := hx' rfl; clear hS hS3 hr hx'; have hS := hS9; clear hS9) | (refine w_ld rfl _ rfl (by rfl) (by first | exact rd_1 (by repeat constructor) (by first | rfl | assumption) | exact rd_w (by repeat constructor) (by rfl) | exact rd_o (by assumption) (by rfl) (by first | exact nmn | assumption | simp) | exact rd_h (by assumption) (by rfl) (by first | exact nmn | assumption | simp) | exact rd_1o (by assumption) (by first | exact nmn | assumption | simp) | exact rd_1h (by assumption) (by first | rfl | assumption) (by first | exact nmn | assumption | simp)) hS ?_) | (refine own_box rfl _ _ rfl (by rfl) hS ?_; clear hS; (try clear ww); intro bb ww hS) | (refine w_st rfl _ _ rfl (by rfl) (by rfl) (by repeat constructor) (by rfl) (by rfl) (by first | rfl | assumption) hS ?_; clear hS; (try clear ww); intro ww hS) | (refine w_s1 rfl _ _ rfl (by rfl) (by repeat constructor) (by first | exact .c | exact .t rfl) (by rfl) (by repeat constructor) hS ?_; clear hS; (try clear ww); intro ww hS))
              go_roundw
              case rel => exact ⟨j + 1, _, by go_num, HV.out.next HKid.out HOk2.out, hS⟩
              case measure => exact loop_meas hlt
            · have E1 := Lib.hid (HV.out.bad HKid.out hok)
              have HN2 := Lib.hid hok
              clear hok
              go_wp2_with (first | (refine own_unguard (by rfl) ?_) | (go_at_call 62; refine Calls.mono (IH.out kid css kb (ko + j * 11) q x (depth + 1) _ (hS.range hkb HKr.out) (rep_away hS HKp.out) HSk.out hkbq (hS.get at0) hx.1 hx.2 (by omega) (by omega)) ?_; rintro e w3 ⟨r, x', rfl, hS3, hr, hx'⟩; have hS9 := hS.chain hS3; obtain rfl : r = false := Bool.eq_false_iff.2 (fun h => HN2.out (hr.1 h)); clear hS hS3 hr hx'; have hS := hS9; clear hS9) | (refine w_ld rfl _ rfl (by rfl) (by first | exact rd_1 (by repeat constructor) (by first | rfl | assumption) | exact rd_w (by repeat constructor) (by rfl) | exact rd_o (by assumption) (by rfl) (by first | exact nmn | assumption | simp) | exact rd_h (by assumption) (by rfl) (by first | exact nmn | assumption | simp) | exact rd_1o (by assumption) (by first | exact nmn | assumption | simp) | exact rd_1h (by assumption) (by first | rfl | assumption) (by first | exact nmn | assumption | simp)) hS ?_) | (refine own_box rfl _ _ rfl (by rfl) hS ?_; clear hS; (try clear ww); intro bb ww hS) | (refine w_st rfl _ _ rfl (by rfl) (by rfl) (by repeat constructor) (by rfl) (by rfl) (by first | rfl | assumption) hS ?_; clear hS; (try clear ww); intro ww hS) | (refine w_s1 rfl _ _ rfl (by rfl) (by repeat constructor) (by first | exact .c | exact .t rfl) (by rfl) (by repeat constructor) hS ?_; clear hS; (try clear ww); intro ww hS))
              go_ret
              exact ⟨false, _, rfl, hS, iff_no E1.out, fun h => by cases h⟩
          · have hjl : j = kids.length := by have := hV.le; omega
            subst hjl
            have HG := Lib.hid (hV.good HO.out h2)
            clear hV
            go_wp2_with (first | (refine own_unguard (by rfl) ?_) | (refine w_ld rfl _ rfl (by rfl) (by first | exact rd_1 (by repeat constructor) (by first | rfl | assumption) | exact rd_w (by repeat constructor) (by rfl) | exact rd_o (by assumption) (by rfl) (by first | exact nmn | assumption | simp) | exact rd_h (by assumption) (by rfl) (by first | exact nmn | assumption | simp) | exact rd_1o (by assumption) (by first | exact nmn | assumption | simp) | exact rd_1h (by assumption) (by first | rfl | assumption) (by first | exact nmn | assumption | simp)) hS ?_) | (refine own_box rfl _ _ rfl (by rfl) hS ?_; clear hS; (try clear ww); intro bb ww hS) | (refine w_st rfl _ _ rfl (by rfl) (by rfl) (by repeat constructor) (by rfl) (by rfl) (by first | rfl | assumption) hS ?_; clear hS; (try clear ww); intro ww hS) | (refine w_s1 rfl _ _ rfl (by rfl) (by repeat constructor) (by first | exact .c | exact .t rfl) (by rfl) (by repeat constructor) hS ?_; clear hS; (try clear ww); intro ww hS))
            go_ret
            exact ⟨true, _, rfl, hS, iff_yes HG.out.1, fun _ => HG.out.2⟩
    · have E1 := Lib.hid (show ¬ okV (n + 1) (a, kids) c depth from fun h => by have h3 := h.2.2; simp only [bNested] at h3; push_cast at h3; omega)
      go_wp2_with (first | (refine own_unguard (by rfl) ?_) | (refine w_ld rfl _ rfl (by rfl) (by first | exact rd_1 (by repeat constructor) (by first | rfl | assumption) | exact rd_w (by repeat constructor) (by rfl) | exact rd_o (by assumption) (by rfl) (by first | exact nmn | assumption | simp) | exact rd_h (by assumption) (by rfl) (by first | exact nmn | assumption | simp) | exact rd_1o (by assumption) (by first | exact nmn | assumption | simp) | exact rd_1h (by assumption) (by first | rfl | assumption) (by first | exact nmn | assumption | simp)) hS ?_) | (refine own_box rfl _ _ rfl (by rfl) hS ?_; clear hS; (try clear ww); intro bb ww hS) | (refine w_st rfl _ _ rfl (by rfl) (by rfl) (by repeat constructor) (by rfl) (by rfl) (by first | rfl | assumption) hS ?_; clear hS; (try clear ww); intro ww hS) | (refine w_s1 rfl _ _ rfl (by rfl) (by repeat constructor) (by first | exact .c | exact .t rfl) (by rfl) (by repeat constructor) hS ?_; clear hS; (try clear ww); intro ww hS))
      go_ret
      exact ⟨false, _, rfl, hS, iff_no E1.out, fun h => by cases h⟩
  · have E1 := Lib.hid (show ¬ okV (n + 1) (a, kids) c depth from fun h => by have h3 := h.2.1; simp only [bCount] at h3; push_cast at h3; omega)
    go_wp2_with (first | (refine own_unguard (by rfl) ?_) | (refine w_ld rfl _ rfl (by rfl) (by first | exact rd_1 (by repeat constructor) (by first | rfl | assumption) | exact rd_w (by repeat constructor) (by rfl) | exact rd_o (by assumption) (by rfl) (by first | exact nmn | assumption | simp) | exact rd_h (by assumption) (by rfl) (by first | exact nmn | assumption | simp) | exact rd_1o (by assumption) (by first | exact nmn | assumption | simp) | exact rd_1h (by assumption) (by first | rfl | assumption) (by first | exact nmn | assumption | simp)) hS ?_) | (refine own_box rfl _ _ rfl (by rfl) hS ?_; clear hS; (try clear ww); intro bb ww hS) | (refine w_st rfl _ _ rfl (by rfl) (by rfl) (by repeat constructor) (by rfl) (by rfl) (by first | rfl | assumption) hS ?_; clear hS; (try clear ww); intro ww hS) | (refine w_s1 rfl _ _ rfl (by rfl) (by repeat constructor) (by first | exact .c | exact .t rfl) (by rfl) (by repeat constructor) hS ?_; clear hS; (try clear ww); intro ww hS))
    go_ret
    exact ⟨false, _, rfl, hS, iff_no E1.out, fun h => by cases h⟩

theorem has_range {w : World} {b : Nat} {cs : List Value} (h : Has w b cs) : w.rangeAt b 0 cs := fun j v hj => by rw [h.cell, Nat.zero_add]; exact hj
theorem rep_apart {w w' : World} {n q : Nat} {b : Bx n} {cs : List Value} (hq : q ∈ ([] : List Nat) ∨ w.heap.size ≤ q) (h : Rep w n b cs) (hb : Below w.heap.size w w') : RepG (fun k _ => k ≠ q) (fun k => k ≠ q) w' n b cs :=
  RepG.step hb n b cs ((rep_old n b cs h).mono (fun k _ hk he => hq.elim (fun h => by cases h) (fun h => by omega)) (fun k hk he => hq.elim (fun h => by cases h) (fun h => by omega)))
theorem own_ne {D : List Nat} {W w : World} {L : List (Nat × List Value)} {q rb : Nat} {x y : List Value} (hS : Own D W ((q, x) :: (rb, y) :: L) w) : rb ≠ q := by
  have := hS.apart
  simp only [List.map_cons, List.nodup_cons, List.mem_cons] at this
  exact fun h => this.1 (.inl h.symm)
theorem box_valid_calls : ∀ (n : Nat) (b : Bx n) (cs : List Value) (k o q : Nat) (c depth : Int) (w : World), w.rangeAt k o cs → RepG (fun k _ => k ≠ q) (fun k => k ≠ q) w n b cs → Wide n b → k ≠ q → Has w q [.int .i64 c] → 0 ≤ c → c ≤ 20000 → 1 ≤ depth → depth ≤ 101 → Calls Try.prog 62 #[.pointer (some ⟨k, o, none⟩), .int .i64 depth, .pointer (some ⟨q, 0, none⟩)] w (ValidGives n b c depth q w) := by
  intro n
  induction n with
  | zero => intro b cs k o q c depth w _ h; exact h.elim
  | succ n ih => intro b cs k o q c depth w h1 h2 h3 h4 h5 h6 h7 h8 h9; exact box_valid_step n ih b cs k o q c depth w h1 h2 h3 h4 h5 h6 h7 h8 h9

instance zt_int : ZeroTy Try.prog 3 [.int .i64 0] := ⟨.int .i64 0, by kernel_rfl, rfl⟩

set_option maxHeartbeats 8000000 in
set_option maxRecDepth 100000 in
theorem box_Valid_calls (n : Nat) (b : Bx n) (cs : List Value) (w : World) (hr : Rep w n b cs) (hs : Wide n b) (v : Bool) (hv : v = true ↔ validB n b) : Calls Try.prog 39 #[.agg cs.toArray] w (Gives (.bool v) w) := by
  have h11 := hr.len
  have hall := rep_all hr
  have HR := Lib.hid hr
  have HS := Lib.hid hs
  have HV := Lib.hid hv
  clear hr hs hv
  obtain ⟨c0, c1, c2, c3, c4, c5, c6, c7, c8, c9, c10, rfl⟩ := eleven h11
  clear h11
  go_enter Try.func39, Try.ntmps39
  have hS := own_start w
  go_wp2_with (first | (refine own_unguard (by rfl) ?_) | (refine own_box rfl _ _ rfl rfl hS ?_; clear hS; (try clear ww); intro rb ww hS) | (refine own_alloc rfl _ rfl hS zt_int ?_; clear hS; (try clear ww); intro q ww hS) | (go_at_call 62; refine Calls.mono (box_valid_calls n b [c0, c1, c2, c3, c4, c5, c6, c7, c8, c9, c10] rb 0 q 0 1 _ (has_range (hS.get at1)) (rep_apart (hS.geAt at0) HR.out hS.below) HS.out (own_ne hS) (hS.get at0) (by omega) (by omega) (by omega) (by omega)) ?_; rintro e w3 ⟨r, x, rfl, hS3, hr, _⟩; have hS9 := Own.chain (K := [(q, [.int .i64 0])]) (hS.forget (by simp)) hS3; obtain rfl : r = v := Bool.eq_iff_iff.2 (hr.trans HV.out.symm); clear hS hS3 hr; have hS := hS9; clear hS9) | (refine w_ld rfl _ rfl (by rfl) (by first | exact rd_1 (by repeat constructor) (by first | rfl | assumption) | exact rd_w (by repeat constructor) (by rfl) | exact rd_o (by assumption) (by rfl) (by first | exact nmn | assumption | simp) | exact rd_h (by assumption) (by rfl) (by first | exact nmn | assumption | simp) | exact rd_1o (by assumption) (by first | exact nmn | assumption | simp) | exact rd_1h (by assumption) (by first | rfl | assumption) (by first | exact nmn | assumption | simp)) hS ?_) | (refine own_box rfl _ _ rfl (by rfl) hS ?_; clear hS; (try clear ww); intro bb ww hS) | (refine w_al rfl rfl hS ?_; clear hS; (try clear ww); intro bb ww hS) | (refine w_st rfl _ _ rfl (by rfl) (by rfl) (by repeat constructor) (by rfl) (by rfl) (by first | rfl | assumption) hS ?_; clear hS; (try clear ww); intro ww hS) | (refine w_s1 rfl _ _ rfl (by rfl) (by repeat constructor) (by first | exact .c | exact .t rfl) (by rfl) (by repeat constructor) hS ?_; clear hS; (try clear ww); intro ww hS))
  go_ret
  exact own_gives hS

theorem count_pos : ∀ (n : Nat) (b : Bx n), 1 ≤ bCount n b := by
  intro n
  cases n with
  | zero => intro b; exact b.elim
  | succ n => intro b; simp only [bCount]; omega
theorem len_le_count (n : Nat) : ∀ l : List (Bx n), l.length ≤ (l.map (bCount n)).sum := by
  intro l
  induction l with
  | nil => simp
  | cons k l ih =>
    have := count_pos n k
    simp only [List.map_cons, List.sum_cons, List.length_cons]
    omega
theorem ownOk_src {a : Hd} {nk : Nat} (h : ownOk a nk = true) : srcOk a = true := by
  unfold ownOk at h
  simp only [Bool.and_eq_true] at h
  exact h.2
/-- A valid box is not too great. -/
theorem small_of : ∀ (n : Nat) (b : Bx n), allOwn n b = true → bCount n b ≤ 20000 → Small n b := by
  intro n
  induction n with
  | zero => intro b _ _; trivial
  | succ n ih =>
    intro b h hc
    simp only [allOwn, Bool.and_eq_true] at h
    have hk : ∀ k ∈ b.2, bCount n k ≤ 20000 ∧ bCount n k + 1 ≤ bCount (n + 1) b := fun k hk => by
      obtain ⟨i, hi⟩ := List.mem_iff_getElem?.1 hk
      have := sum_take_le (bCount n) b.2 i hi
      simp only [bCount] at hc ⊢
      omega
    refine ⟨?_, ?_, fun k hm => ih k (List.all_eq_true.1 h.2 k hm) (hk k hm).1⟩
    · have hs : srcOk b.1 = true := ownOk_src h.1
      unfold srcOk srcEnd at hs
      simp only [Bool.and_eq_true] at hs
      have h2 := hs.2
      repeat' split at h2
      all_goals (simp only [Bool.and_eq_true, decide_eq_true_eq, Bool.false_eq_true] at h2; try omega)
    · have := len_le_count n b.2
      simp only [bCount] at hc
      omega
theorem validB_small {n : Nat} {b : Bx n} (h : validB n b) : Small n b ∧ bCount n b ≤ 20000 := by
  have h2 := h.2.1
  exact ⟨small_of n b h.1 (by omega), by omega⟩

end Go.Proofs.Ytgpabckipmhobaa
namespace Go.Proofs.Ytgpabckipmhobaa
open Go.RowKit

attribute [local irreducible] wpQuiet wpG wpP wpK wpList Code.wp Calls

/-- A box is at 0, 0. -/
def atO : (n : Nat) → Bx n → Bool
  | 0, b => b.elim
  | _ + 1, b => decide (b.1.x = 0) && decide (b.1.y = 0)
/-- The glyph of a simple box. -/
def innerS : (n : Nat) → Bx n → Option (Σ m, Bx (m + 1))
  | 0, b => b.elim
  | n + 1, (a, ks) => if a.kind = 1 then some ⟨n, (a, ks)⟩ else if a.kind = 3 then (match ks with | [k] => if atO n k = true then innerS n k else none | _ => none) else none
theorem inner_glyph {n : Nat} {a : Hd} {ks : List (Bx n)} (h : a.kind = 1) : innerS (n + 1) (a, ks) = some ⟨n, (a, ks)⟩ := by unfold innerS; rw [if_pos h]
theorem inner_kind {n : Nat} {a : Hd} {ks : List (Bx n)} (h1 : a.kind ≠ 1) (h3 : a.kind ≠ 3) : innerS (n + 1) (a, ks) = none := by unfold innerS; rw [if_neg h1, if_neg h3]
theorem inner_len {n : Nat} {a : Hd} {ks : List (Bx n)} (h1 : a.kind ≠ 1) (h : ks.length ≠ 1) : innerS (n + 1) (a, ks) = none := by
  unfold innerS
  rw [if_neg h1]
  split
  · split
    · exact absurd rfl h
    · rfl
  · rfl
theorem inner_off {n : Nat} {a : Hd} {k : Bx n} (h1 : a.kind ≠ 1) (h : atO n k = false) : innerS (n + 1) (a, [k]) = none := by
  unfold innerS
  rw [if_neg h1]
  split
  · simp [h]
  · rfl
theorem inner_down {n : Nat} {a : Hd} {k : Bx n} (h3 : a.kind = 3) (h : atO n k = true) : innerS (n + 1) (a, [k]) = innerS n k := by
  unfold innerS
  rw [if_neg (by omega), if_pos h3]
  simp only [h, if_true]
  cases n <;> rfl
/-- The cells are the box, whose lists lie where P says. -/
@[reducible] def RepIn (P : Nat → Prop) (w : World) (n : Nat) (b : Bx n) (cs : List Value) : Prop := RepG (fun k _ => P k) P w n b cs
theorem repIn_out {P : Nat → Prop} {w : World} {n : Nat} {a : Hd} {kids : List (Bx n)} {cs : List Value} (h : RepIn P w (n + 1) (a, kids) cs) : ∃ kx kc sx sc, cs = a.cells (.slice kx kids.length kc) (.slice sx a.src.length sc) ∧ kids.length ≤ maxLen ∧ ∀ i kid, kids[i]? = some kid → ∃ k o css, kx = some ⟨k, o, none⟩ ∧ P k ∧ w.rangeAt k (o + i * 11) css ∧ RepIn P w n kid css := by
  obtain ⟨kx, kc, sx, sc, h1, _, h3, _, _, h6⟩ := h
  exact ⟨kx, kc, sx, sc, h1, h3, h6⟩
/-- What innermost returns: a pointer to the glyph (which lies in block K, or where P says), or none. -/
def InnerAt (P : Nat → Prop) (K : Nat) (w : World) (r : Option (Σ m, Bx (m + 1))) (v : Value) : Prop :=
  match r with
  | none => v = .pointer none
  | some g => ∃ k o cs, v = .pointer (some ⟨k, o, none⟩) ∧ (k = K ∨ P k) ∧ w.rangeAt k o cs ∧ RepIn P w (g.1 + 1) g.2 cs
/-- Where the loop stands: the pointer is that of a box of so many levels, whose glyph is that of the first. -/
def InnLoop (P : Nat → Prop) (K : Nat) (w : World) (N : Nat) (B : Bx N) (n : Nat) (v : Value) (wr : World) : Prop := ∃ (b : Bx n) (k o : Nat) (cs : List Value), v = .pointer (some ⟨k, o, none⟩) ∧ (k = K ∨ P k) ∧ w.rangeAt k o cs ∧ RepIn P w n b cs ∧ innerS n b = innerS N B ∧ Own [] w [] wr

set_option maxHeartbeats 8000000 in
set_option maxRecDepth 100000 in
theorem innermost_calls (P : Nat → Prop) (N : Nat) (B : Bx N) (cs : List Value) (K o : Nat) (w : World) (hr : w.rangeAt K o cs) (hR : RepIn P w N B cs) :
    Calls Try.prog 28 #[.pointer (some ⟨K, o, none⟩)] w (fun e w' => ∃ v, e = .returned v ∧ InnerAt P K w (innerS N B) v ∧ Below w.heap.size w w') := by
  go_enter Try.func28, Try.ntmps28
  have hS := own_start w
  go_wp2_with (first | (refine own_unguard (by rfl) ?_) | (refine w_ld rfl _ rfl (by rfl) (by first | exact rd_1 (by repeat constructor) (by first | rfl | assumption) | exact rd_w (by repeat constructor) (by rfl) | exact rd_o (by assumption) (by rfl) (by first | exact nmn | assumption | simp) | exact rd_h (by assumption) (by rfl) (by first | exact nmn | assumption | simp) | exact rd_1o (by assumption) (by first | exact nmn | assumption | simp) | exact rd_1h (by assumption) (by first | rfl | assumption) (by first | exact nmn | assumption | simp)) hS ?_) | (refine own_box rfl _ _ rfl (by rfl) hS ?_; clear hS; (try clear ww); intro bb ww hS) | (refine w_st rfl _ _ rfl (by rfl) (by rfl) (by repeat constructor) (by rfl) (by rfl) (by first | rfl | assumption) hS ?_; clear hS; (try clear ww); intro ww hS) | (refine w_s1 rfl _ _ rfl (by rfl) (by repeat constructor) (by first | exact .c | exact .t rfl) (by rfl) (by repeat constructor) hS ?_; clear hS; (try clear ww); intro ww hS))
  go_step3
  go_wp2_with (first | (refine own_unguard (by rfl) ?_) | (refine w_ld rfl _ rfl (by rfl) (by first | exact rd_1 (by repeat constructor) (by first | rfl | assumption) | exact rd_w (by repeat constructor) (by rfl) | exact rd_o (by assumption) (by rfl) (by first | exact nmn | assumption | simp) | exact rd_h (by assumption) (by rfl) (by first | exact nmn | assumption | simp) | exact rd_1o (by assumption) (by first | exact nmn | assumption | simp) | exact rd_1h (by assumption) (by first | rfl | assumption) (by first | exact nmn | assumption | simp)) hS ?_) | (refine own_box rfl _ _ rfl (by rfl) hS ?_; clear hS; (try clear ww); intro bb ww hS) | (refine w_st rfl _ _ rfl (by rfl) (by rfl) (by repeat constructor) (by rfl) (by rfl) (by first | rfl | assumption) hS ?_; clear hS; (try clear ww); intro ww hS) | (refine w_s1 rfl _ _ rfl (by rfl) (by repeat constructor) (by first | exact .c | exact .t rfl) (by rfl) (by repeat constructor) hS ?_; clear hS; (try clear ww); intro ww hS))
  go_step3
  go_wp2_with (first | (refine own_unguard (by rfl) ?_) | (refine w_ld rfl _ rfl (by rfl) (by first | exact rd_1 (by repeat constructor) (by first | rfl | assumption) | exact rd_w (by repeat constructor) (by rfl) | exact rd_o (by assumption) (by rfl) (by first | exact nmn | assumption | simp) | exact rd_h (by assumption) (by rfl) (by first | exact nmn | assumption | simp) | exact rd_1o (by assumption) (by first | exact nmn | assumption | simp) | exact rd_1h (by assumption) (by first | rfl | assumption) (by first | exact nmn | assumption | simp)) hS ?_) | (refine own_box rfl _ _ rfl (by rfl) hS ?_; clear hS; (try clear ww); intro bb ww hS) | (refine w_st rfl _ _ rfl (by rfl) (by rfl) (by repeat constructor) (by rfl) (by rfl) (by first | rfl | assumption) hS ?_; clear hS; (try clear ww); intro ww hS) | (refine w_s1 rfl _ _ rfl (by rfl) (by repeat constructor) (by first | exact .c | exact .t rfl) (by rfl) (by repeat constructor) hS ?_; clear hS; (try clear ww); intro ww hS))
  go_loopw [0] (fun v wr => ∃ n, InnLoop P K w N B n v wr) (fun v wr => least (fun n => InnLoop P K w N B n v wr))
  case atStart => exact ⟨N, B, K, o, cs, rfl, .inl rfl, hr, hR, rfl, hS⟩
  case round =>
    clear hS hr hR
    have hspec := least_spec hrel
    obtain ⟨T, hT⟩ : ∃ T, Hid (T = least (fun n => InnLoop P K w N B n u0 wr)) := ⟨_, rfl⟩
    rw [← hT.out] at hspec
    obtain ⟨b, k, o, cs, rfl, hkP, hrg, hrep, hin, hS⟩ := hspec
    cases T with
    | zero => exact hrep.elim
    | succ n =>
      obtain ⟨⟨kind, name, size, bw, bh, bd, bx, by_, of, src⟩, kids⟩ := b
      have HRp := Lib.hid hrep
      obtain ⟨kx, kc, sx, sc, rfl, hkl, hkids⟩ := repIn_out hrep
      have HRg := Lib.hid hrg
      have HIn := Lib.hid hin
      have c0 : w.cell? ⟨k, o, none⟩ = some (.int .i64 kind) := hrg 0 _ rfl
      have c8 : w.cell? ⟨k, o + 8, none⟩ = some (.slice kx kids.length kc) := hrg 8 _ rfl
      clear hrep hrg hin hrel
      by_cases h1 : kind = 1
      · subst h1
        go_wp2_with (first | (refine own_unguard (by rfl) ?_) | (refine w_ld rfl _ rfl (by rfl) (by first | exact rd_1 (by repeat constructor) (by first | rfl | assumption) | exact rd_w (by repeat constructor) (by rfl) | exact rd_o (by assumption) (by rfl) (by first | exact nmn | assumption | simp) | exact rd_h (by assumption) (by rfl) (by first | exact nmn | assumption | simp) | exact rd_1o (by assumption) (by first | exact nmn | assumption | simp) | exact rd_1h (by assumption) (by first | rfl | assumption) (by first | exact nmn | assumption | simp)) hS ?_) | (refine own_box rfl _ _ rfl (by rfl) hS ?_; clear hS; (try clear ww); intro bb ww hS) | (refine w_st rfl _ _ rfl (by rfl) (by rfl) (by repeat constructor) (by rfl) (by rfl) (by first | rfl | assumption) hS ?_; clear hS; (try clear ww); intro ww hS) | (refine w_s1 rfl _ _ rfl (by rfl) (by repeat constructor) (by first | exact .c | exact .t rfl) (by rfl) (by repeat constructor) hS ?_; clear hS; (try clear ww); intro ww hS))
        go_ret
        exact ⟨_, rfl, by rw [← HIn.out, inner_glyph rfl]; exact ⟨k, o, _, rfl, hkP, HRg.out, HRp.out⟩, hS.below⟩
      · have d1 : decide (kind = 1) = false := decide_eq_false h1
        by_cases h3 : kind = 3
        · subst h3
          by_cases hl : kids.length = 1
          · obtain ⟨kid, rfl⟩ := List.length_eq_one_iff.1 hl
            obtain ⟨k2, o2, css, rfl, hP2, hr2, hp2⟩ := hkids 0 kid rfl
            rw [Nat.zero_mul, Nat.add_zero] at hr2
            cases n with
            | zero => exact kid.elim
            | succ n =>
              obtain ⟨⟨kind2, name2, size2, bw2, bh2, bd2, x2, y2, of2, src2⟩, kids2⟩ := kid
              obtain ⟨_, _, _, _, rfl, _⟩ := repIn_out hp2
              have e6 : w.cell? ⟨k2, o2 + 6, none⟩ = some (.int .i64 x2) := hr2 6 _ rfl
              have e7 : w.cell? ⟨k2, o2 + 7, none⟩ = some (.int .i64 y2) := hr2 7 _ rfl
              have HR2 := Lib.hid hr2
              have HP2 := Lib.hid hp2
              clear hr2 hp2 hkids
              by_cases hx : x2 = 0
              · subst hx
                by_cases hy : y2 = 0
                · subst hy
                  go_wp2_with (first | (refine own_unguard (by rfl) ?_) | (refine w_ld rfl _ rfl (by rfl) (by first | exact rd_1 (by repeat constructor) (by first | rfl | assumption) | exact rd_w (by repeat constructor) (by rfl) | exact rd_o (by assumption) (by rfl) (by first | exact nmn | assumption | simp) | exact rd_h (by assumption) (by rfl) (by first | exact nmn | assumption | simp) | exact rd_1o (by assumption) (by first | exact nmn | assumption | simp) | exact rd_1h (by assumption) (by first | rfl | assumption) (by first | exact nmn | assumption | simp)) hS ?_) | (refine own_box rfl _ _ rfl (by rfl) hS ?_; clear hS; (try clear ww); intro bb ww hS) | (refine w_st rfl _ _ rfl (by rfl) (by rfl) (by repeat constructor) (by rfl) (by rfl) (by first | rfl | assumption) hS ?_; clear hS; (try clear ww); intro ww hS) | (refine w_s1 rfl _ _ rfl (by rfl) (by repeat constructor) (by first | exact .c | exact .t rfl) (by rfl) (by repeat constructor) hS ?_; clear hS; (try clear ww); intro ww hS))
                  go_roundw
                  case rel => exact ⟨_, _, k2, o2, _, rfl, .inr hP2, HR2.out, HP2.out, by rw [← HIn.out, inner_down rfl (by simp [atO])], hS⟩
                  case measure => exact Nat.lt_of_le_of_lt (least_le ⟨_, k2, o2, _, rfl, .inr hP2, HR2.out, HP2.out, by rw [← HIn.out, inner_down rfl (by simp [atO])], hS⟩) (by rw [← hT.out]; exact Nat.lt_succ_self _)
                · have dy : decide (y2 = 0) = false := decide_eq_false hy
                  go_wp2_with (first | (refine own_unguard (by rfl) ?_) | (refine w_ld rfl _ rfl (by rfl) (by first | exact rd_1 (by repeat constructor) (by first | rfl | assumption) | exact rd_w (by repeat constructor) (by rfl) | exact rd_o (by assumption) (by rfl) (by first | exact nmn | assumption | simp) | exact rd_h (by assumption) (by rfl) (by first | exact nmn | assumption | simp) | exact rd_1o (by assumption) (by first | exact nmn | assumption | simp) | exact rd_1h (by assumption) (by first | rfl | assumption) (by first | exact nmn | assumption | simp)) hS ?_) | (refine own_box rfl _ _ rfl (by rfl) hS ?_; clear hS; (try clear ww); intro bb ww hS) | (refine w_st rfl _ _ rfl (by rfl) (by rfl) (by repeat constructor) (by rfl) (by rfl) (by first | rfl | assumption) hS ?_; clear hS; (try clear ww); intro ww hS) | (refine w_s1 rfl _ _ rfl (by rfl) (by repeat constructor) (by first | exact .c | exact .t rfl) (by rfl) (by repeat constructor) hS ?_; clear hS; (try clear ww); intro ww hS))
                  go_ret
                  exact ⟨_, rfl, by rw [← HIn.out, inner_off (show (3 : Int) ≠ 1 by decide) (by simp [atO, hy])]; rfl, hS.below⟩
              · have dx : decide (x2 = 0) = false := decide_eq_false hx
                go_wp2_with (first | (refine own_unguard (by rfl) ?_) | (refine w_ld rfl _ rfl (by rfl) (by first | exact rd_1 (by repeat constructor) (by first | rfl | assumption) | exact rd_w (by repeat constructor) (by rfl) | exact rd_o (by assumption) (by rfl) (by first | exact nmn | assumption | simp) | exact rd_h (by assumption) (by rfl) (by first | exact nmn | assumption | simp) | exact rd_1o (by assumption) (by first | exact nmn | assumption | simp) | exact rd_1h (by assumption) (by first | rfl | assumption) (by first | exact nmn | assumption | simp)) hS ?_) | (refine own_box rfl _ _ rfl (by rfl) hS ?_; clear hS; (try clear ww); intro bb ww hS) | (refine w_st rfl _ _ rfl (by rfl) (by rfl) (by repeat constructor) (by rfl) (by rfl) (by first | rfl | assumption) hS ?_; clear hS; (try clear ww); intro ww hS) | (refine w_s1 rfl _ _ rfl (by rfl) (by repeat constructor) (by first | exact .c | exact .t rfl) (by rfl) (by repeat constructor) hS ?_; clear hS; (try clear ww); intro ww hS))
                go_ret
                exact ⟨_, rfl, by rw [← HIn.out, inner_off (show (3 : Int) ≠ 1 by decide) (by simp [atO, hx])]; rfl, hS.below⟩
          · have dl : decide ((kids.length : Int) = 1) = false := decide_eq_false (by omega)
            have hNn := Lib.hid hl
            clear hkids
            go_wp2_with (first | (refine own_unguard (by rfl) ?_) | (refine w_ld rfl _ rfl (by rfl) (by first | exact rd_1 (by repeat constructor) (by first | rfl | assumption) | exact rd_w (by repeat constructor) (by rfl) | exact rd_o (by assumption) (by rfl) (by first | exact nmn | assumption | simp) | exact rd_h (by assumption) (by rfl) (by first | exact nmn | assumption | simp) | exact rd_1o (by assumption) (by first | exact nmn | assumption | simp) | exact rd_1h (by assumption) (by first | rfl | assumption) (by first | exact nmn | assumption | simp)) hS ?_) | (refine own_box rfl _ _ rfl (by rfl) hS ?_; clear hS; (try clear ww); intro bb ww hS) | (refine w_st rfl _ _ rfl (by rfl) (by rfl) (by repeat constructor) (by rfl) (by rfl) (by first | rfl | assumption) hS ?_; clear hS; (try clear ww); intro ww hS) | (refine w_s1 rfl _ _ rfl (by rfl) (by repeat constructor) (by first | exact .c | exact .t rfl) (by rfl) (by repeat constructor) hS ?_; clear hS; (try clear ww); intro ww hS))
            go_ret
            exact ⟨_, rfl, by rw [← HIn.out, inner_len (show (3 : Int) ≠ 1 by decide) hNn.out]; rfl, hS.below⟩
        · have d3 : decide (kind = 3) = false := decide_eq_false h3
          clear hkids
          go_wp2_with (first | (refine own_unguard (by rfl) ?_) | (refine w_ld rfl _ rfl (by rfl) (by first | exact rd_1 (by repeat constructor) (by first | rfl | assumption) | exact rd_w (by repeat constructor) (by rfl) | exact rd_o (by assumption) (by rfl) (by first | exact nmn | assumption | simp) | exact rd_h (by assumption) (by rfl) (by first | exact nmn | assumption | simp) | exact rd_1o (by assumption) (by first | exact nmn | assumption | simp) | exact rd_1h (by assumption) (by first | rfl | assumption) (by first | exact nmn | assumption | simp)) hS ?_) | (refine own_box rfl _ _ rfl (by rfl) hS ?_; clear hS; (try clear ww); intro bb ww hS) | (refine w_st rfl _ _ rfl (by rfl) (by rfl) (by repeat constructor) (by rfl) (by rfl) (by first | rfl | assumption) hS ?_; clear hS; (try clear ww); intro ww hS) | (refine w_s1 rfl _ _ rfl (by rfl) (by repeat constructor) (by first | exact .c | exact .t rfl) (by rfl) (by repeat constructor) hS ?_; clear hS; (try clear ww); intro ww hS))
          go_ret
          exact ⟨_, rfl, by rw [← HIn.out, inner_kind h1 h3]; rfl, hS.below⟩

end Go.Proofs.Ytgpabckipmhobaa
namespace Go.Proofs.Ytgpabckipmhobaa
open Go.RowKit

attribute [local irreducible] wpQuiet wpList Code.wp

theorem ref05_within_v {n a b : Int} {v : Bool} {w : World} (hv : Hid ((decide (a ≤ n) && decide (n ≤ b)) = v)) :
    Calls Try.prog 51 #[.int .i64 n, .int .i64 a, .int .i64 b] w fun e w' => e = .returned (.bool v) ∧ w = w' := by
  have := ref05_within_calls n a b w
  rwa [hv.out] at this

theorem allIn_three (a b c : Int) : allIn 1 100 [a, b, c] = ((decide (1 ≤ a) && decide (a ≤ 100)) && ((decide (1 ≤ b) && decide (b ≤ 100)) && (decide (1 ≤ c) && decide (c ≤ 100)))) := by
  simp [allIn]

set_option maxHeartbeats 4000000 in
set_option maxRecDepth 100000 in
theorem ref05_Params_calls (F : Fnt) (w : World) : Calls Try.prog 30 #[.agg F.prm.toArray] w (Gives (.bool (prmOk F)) w) := by
  have HN := Lib.hid (show F.lens.length = 17 from rfl)
  obtain ⟨lens, HLe⟩ : ∃ l, Hid (l = F.lens) := ⟨_, rfl⟩
  have hlen : lens.length ≤ 17 ∧ 17 ≤ lens.length := by rw [HLe.out]; exact ⟨Nat.le_refl _, Nat.le_refl _⟩
  go_enter Try.func30, Try.ntmps30
  have hS := own_start w
  go_wp2_with (first | (refine own_unguard (by rfl) ?_) | (refine own_buildSlice rfl _ _ 17 _ rfl (F.lens.map (Value.int .i64)) hS Try.underlying31 (by kernel_rfl) ?_; rw [← HLe.out]; clear hS; (try clear ww); intro bb ww hS) | (refine w_ld rfl _ rfl (by rfl) (by first | exact rd_1 (by repeat constructor) (by first | rfl | assumption) | exact rd_w (by repeat constructor) (by rfl) | exact rd_o (by assumption) (by rfl) (by first | exact nmn | assumption | simp) | exact rd_h (by assumption) (by rfl) (by first | exact nmn | assumption | simp) | exact rd_1o (by assumption) (by first | exact nmn | assumption | simp) | exact rd_1h (by assumption) (by first | rfl | assumption) (by first | exact nmn | assumption | simp)) hS ?_) | (refine own_box rfl _ _ rfl (by rfl) hS ?_; clear hS; (try clear ww); intro bb ww hS) | (refine w_st rfl _ _ rfl (by rfl) (by rfl) (by repeat constructor) (by rfl) (by rfl) (by first | rfl | assumption) hS ?_; clear hS; (try clear ww); intro ww hS) | (refine w_s1 rfl _ _ rfl (by rfl) (by repeat constructor) (by first | exact .c | exact .t rfl) (by rfl) (by repeat constructor) hS ?_; clear hS; (try clear ww); intro ww hS))
  obtain ⟨L0, HL, hS⟩ := hS.named
  go_loopw [4] (fun i wr => ∃ k : Nat, k ≤ 17 ∧ i = .int .i64 k ∧ allIn 0 20000 lens = allIn 0 20000 (lens.drop k) ∧ Own [] w L0 wr) (fun i _ => 17 - (intOf i).toNat)
  case atStart => exact ⟨0, Nat.zero_le _, rfl, rfl, hS⟩
  case round =>
    clear hS
    obtain ⟨k, hk, rfl, hf, hS⟩ := hrel
    obtain rfl := HL.out
    clear HL
    by_cases hlt : k < 17
    · obtain ⟨n, hn⟩ : ∃ n, lens[k]? = some n := ⟨lens[k], by simp⟩
      rw [allIn_drop 0 20000 lens k n hn] at hf
      have HE := Lib.hid hf
      have hcell : (lens.map (Value.int .i64))[k]? = some (.int .i64 n) := by rw [List.getElem?_map, hn]; rfl
      clear hf hn
      cases hb : (decide (0 ≤ n) && decide (n ≤ 20000))
      · have HB := Lib.hid hb
        have E1 := Lib.hid (show prmOk F = false by unfold prmOk; rw [← HLe.out, HE.out, hb]; simp)
        clear hb HE
        go_wp2_with (first | (refine own_unguard (by rfl) ?_) | (go_at_call 51; refine own_callsS hS (ref05_within_v HB) ?_) | (refine w_ld rfl _ rfl (by rfl) (by first | exact rd_1 (by repeat constructor) (by first | rfl | assumption) | exact rd_w (by repeat constructor) (by rfl) | exact rd_o (by assumption) (by rfl) (by first | exact nmn | assumption | simp) | exact rd_h (by assumption) (by rfl) (by first | exact nmn | assumption | simp) | exact rd_1o (by assumption) (by first | exact nmn | assumption | simp) | exact rd_1h (by assumption) (by first | rfl | assumption) (by first | exact nmn | assumption | simp)) hS ?_) | (refine own_box rfl _ _ rfl (by rfl) hS ?_; clear hS; (try clear ww); intro bb ww hS) | (refine w_st rfl _ _ rfl (by rfl) (by rfl) (by repeat constructor) (by rfl) (by rfl) (by first | rfl | assumption) hS ?_; clear hS; (try clear ww); intro ww hS) | (refine w_s1 rfl _ _ rfl (by rfl) (by repeat constructor) (by first | exact .c | exact .t rfl) (by rfl) (by repeat constructor) hS ?_; clear hS; (try clear ww); intro ww hS))
        go_ret
        exact ⟨ret_bool E1.out.symm, hS.below⟩
      · have HB := Lib.hid hb
        have E1 := Lib.hid (show allIn 0 20000 lens = allIn 0 20000 (lens.drop (k + 1)) by rw [HE.out, hb]; simp)
        clear hb HE
        go_wp2_with (first | (refine own_unguard (by rfl) ?_) | (go_at_call 51; refine own_callsS hS (ref05_within_v HB) ?_) | (refine w_ld rfl _ rfl (by rfl) (by first | exact rd_1 (by repeat constructor) (by first | rfl | assumption) | exact rd_w (by repeat constructor) (by rfl) | exact rd_o (by assumption) (by rfl) (by first | exact nmn | assumption | simp) | exact rd_h (by assumption) (by rfl) (by first | exact nmn | assumption | simp) | exact rd_1o (by assumption) (by first | exact nmn | assumption | simp) | exact rd_1h (by assumption) (by first | rfl | assumption) (by first | exact nmn | assumption | simp)) hS ?_) | (refine own_box rfl _ _ rfl (by rfl) hS ?_; clear hS; (try clear ww); intro bb ww hS) | (refine w_st rfl _ _ rfl (by rfl) (by rfl) (by repeat constructor) (by rfl) (by rfl) (by first | rfl | assumption) hS ?_; clear hS; (try clear ww); intro ww hS) | (refine w_s1 rfl _ _ rfl (by rfl) (by repeat constructor) (by first | exact .c | exact .t rfl) (by rfl) (by repeat constructor) hS ?_; clear hS; (try clear ww); intro ww hS))
        go_roundw
        case rel => exact ⟨k + 1, hlt, by go_num, E1.out, hS⟩
        case measure => exact loop_meas hlt
    · have E0 := Lib.hid (show prmOk F = allIn 1 100 [F.script, F.sscript, F.dpercent] by
        unfold prmOk
        rw [← HLe.out, hf, List.drop_of_length_le (by omega)]
        exact Bool.and_true _)
      clear hf
      rw [allIn_three] at E0
      cases hb1 : (decide (1 ≤ F.script) && decide (F.script ≤ 100)) <;> cases hb2 : (decide (1 ≤ F.sscript) && decide (F.sscript ≤ 100)) <;> cases hb3 : (decide (1 ≤ F.dpercent) && decide (F.dpercent ≤ 100))
      all_goals
        rw [hb1, hb2, hb3] at E0
        have B1 := Lib.hid hb1
        have B2 := Lib.hid hb2
        have B3 := Lib.hid hb3
        clear hb1 hb2 hb3
        go_wp2_with (first | (refine own_unguard (by rfl) ?_) | (go_at_call 51; refine own_callsS hS (ref05_within_v B1) ?_) | (go_at_call 51; refine own_callsS hS (ref05_within_v B2) ?_) | (go_at_call 51; refine own_callsS hS (ref05_within_v B3) ?_) | (refine w_ld rfl _ rfl (by rfl) (by first | exact rd_1 (by repeat constructor) (by first | rfl | assumption) | exact rd_w (by repeat constructor) (by rfl) | exact rd_o (by assumption) (by rfl) (by first | exact nmn | assumption | simp) | exact rd_h (by assumption) (by rfl) (by first | exact nmn | assumption | simp) | exact rd_1o (by assumption) (by first | exact nmn | assumption | simp) | exact rd_1h (by assumption) (by first | rfl | assumption) (by first | exact nmn | assumption | simp)) hS ?_) | (refine own_box rfl _ _ rfl (by rfl) hS ?_; clear hS; (try clear ww); intro bb ww hS) | (refine w_st rfl _ _ rfl (by rfl) (by rfl) (by repeat constructor) (by rfl) (by rfl) (by first | rfl | assumption) hS ?_; clear hS; (try clear ww); intro ww hS) | (refine w_s1 rfl _ _ rfl (by rfl) (by repeat constructor) (by first | exact .c | exact .t rfl) (by rfl) (by repeat constructor) hS ?_; clear hS; (try clear ww); intro ww hS))
        go_ret
        exact ⟨ret_bool E0.out.symm, hS.below⟩

end Go.Proofs.Ytgpabckipmhobaa
namespace Go.Proofs.Ytgpabckipmhobaa
open Go.RowKit

/-- The metrics of a glyph. -/
def Gly.nums (g : Gly) : List Int := [g.w, g.h, g.d, g.it, g.at_]
/-- All metrics are at most 20000. -/
def metricsOk (g : Gly) : Bool := allIn (-20000) 20000 g.nums
/-- A scaled glyph. -/
def sclG (g : Gly) (p : Int) : Gly := { name := g.name, w := scl g.w p, h := scl g.h p, d := scl g.d p, it := scl g.it p, at_ := scl g.at_ p }
def zeroG : Gly := { name := ⟨#[]⟩, w := 0, h := 0, d := 0, it := 0, at_ := 0 }
/-- The error of Scaled. -/
def scaledErr (g : Gly) (p : Int) : Int := if 1 ≤ p ∧ p ≤ 1000 then (if metricsOk g = true then 0 else 1) else 2
def scaledG (g : Gly) (p : Int) : Gly := if scaledErr g p = 0 then sclG g p else zeroG
/-- A glyph and a number, as a result. -/
def gePair (g : Gly) (e : Int) : Value := .tuple #[.agg #[.string g.name, .int .i64 g.w, .int .i64 g.h, .int .i64 g.d, .int .i64 g.it, .int .i64 g.at_], .int .i64 e]

theorem metricsOk_bd {g : Gly} (h : metricsOk g = true) : (-20000 ≤ g.w ∧ g.w ≤ 20000) ∧ (-20000 ≤ g.h ∧ g.h ≤ 20000) ∧ (-20000 ≤ g.d ∧ g.d ≤ 20000) ∧ (-20000 ≤ g.it ∧ g.it ≤ 20000) ∧ (-20000 ≤ g.at_ ∧ g.at_ ≤ 20000) := by
  simp [metricsOk, allIn, Gly.nums] at h
  omega

set_option maxHeartbeats 400000 in
theorem scaled1_calls (n p : Int) (a : Addr) (w : World) (h : w.cell? a = some (.int .i64 p)) :
    Calls Try.prog 63 #[.int .i64 n, .pointer (some a)] w (Draws (.int .i64 (scl n p)) w) := by
  go_enter Try.func63, Try.ntmps63
  go_wp2_with fail
  refine (length_Scale_calls n p _).mono ?_
  rintro e w' ⟨rfl, m, rfl⟩
  go_wp2_with fail
  go_ret
  exact ⟨rfl, m, rfl⟩

theorem scaled1_gives (n p : Int) (a : Addr) (w : World) (h : w.cell? a = some (.int .i64 p)) :
    Calls Try.prog 63 #[.int .i64 n, .pointer (some a)] w (Gives (.int .i64 (scl n p)) w) := (scaled1_calls n p a w h).mono fun _ _ h => h.gives

theorem within_one {w : World} {b : Nat} {n : Int} (h : w.cell? ⟨b, 0, none⟩ = some (.int .i64 n)) : ∀ i m, [n][i]? = some m → w.cell? ⟨b, 0 + i, none⟩ = some (.int .i64 m) := by
  intro i m hi
  rcases i with _ | i
  · simp at hi; subst hi; exact h
  · simp at hi

theorem within_five {w : World} {b : Nat} {n0 n1 n2 n3 n4 : Int} (h0 : w.cell? ⟨b, 0, none⟩ = some (.int .i64 n0)) (h1 : w.cell? ⟨b, 1, none⟩ = some (.int .i64 n1)) (h2 : w.cell? ⟨b, 2, none⟩ = some (.int .i64 n2))
    (h3 : w.cell? ⟨b, 3, none⟩ = some (.int .i64 n3)) (h4 : w.cell? ⟨b, 4, none⟩ = some (.int .i64 n4)) : ∀ i m, [n0, n1, n2, n3, n4][i]? = some m → w.cell? ⟨b, 0 + i, none⟩ = some (.int .i64 m) := by
  intro i m hi
  rcases i with _ | _ | _ | _ | _ | i <;> simp at hi
  · subst hi; exact h0
  · subst hi; exact h1
  · subst hi; exact h2
  · subst hi; exact h3
  · subst hi; exact h4

set_option maxHeartbeats 2000000 in
theorem font_Scaled_range (g : Gly) (p : Int) (w : World) (hp : ¬ (1 ≤ p ∧ p ≤ 1000)) :
    Calls Try.prog 40 #[.agg #[.string g.name, .int .i64 g.w, .int .i64 g.h, .int .i64 g.d, .int .i64 g.it, .int .i64 g.at_], .int .i64 p] w (Gives (gePair zeroG 2) w) := by
  have hr : allIn 1 1000 [p] = false := by simp [allIn]; omega
  go_enter Try.func40, Try.ntmps40
  go_wp2_with fail
  refine (font_within_calls 1 1000 [p] _ 0 1 _ (by simp) (within_one (by simp [go_sem]))).mono ?_
  rintro e w' ⟨rfl, rfl⟩
  go_wp2_with fail
  refine bodyPost_ret (v := gePair zeroG 2) (by simp [results, Try.results40, gePair, zeroG, go_sem]) rfl ⟨rfl, bnew (bnew (bnew (bnew (bself w) _) _) _) _⟩

set_option maxHeartbeats 2000000 in
theorem font_Scaled_arg (g : Gly) (p : Int) (w : World) (hp : 1 ≤ p ∧ p ≤ 1000) (hm : metricsOk g = false) :
    Calls Try.prog 40 #[.agg #[.string g.name, .int .i64 g.w, .int .i64 g.h, .int .i64 g.d, .int .i64 g.it, .int .i64 g.at_], .int .i64 p] w (Gives (gePair zeroG 1) w) := by
  have hr : allIn 1 1000 [p] = true := by simp [allIn]; omega
  have hm' : allIn (-20000) 20000 [g.w, g.h, g.d, g.it, g.at_] = false := hm
  clear hm
  go_enter Try.func40, Try.ntmps40
  go_wp2_with fail
  refine (font_within_calls 1 1000 [p] _ 0 1 _ (by simp) (within_one (by simp [go_sem]))).mono ?_
  rintro e w' ⟨rfl, rfl⟩
  go_wp2_with fail
  refine (font_within_calls (-20000) 20000 [g.w, g.h, g.d, g.it, g.at_] _ 0 5 _ (by simp) (within_five (by simp [go_sem]) (by simp [go_sem]) (by simp [go_sem]) (by simp [go_sem]) (by simp [go_sem]))).mono ?_
  rintro e w' ⟨rfl, rfl⟩
  go_wp2_with fail
  refine bodyPost_ret (v := gePair zeroG 1) (by simp [results, Try.results40, gePair, zeroG, go_sem]) rfl ⟨rfl, bnew (bnew (bnew (bnew (bnew (bself w) _) _) _) _) _⟩

set_option maxHeartbeats 4000000 in
theorem font_Scaled_ok (g : Gly) (p : Int) (w : World) (hp : 1 ≤ p ∧ p ≤ 1000) (hm : metricsOk g = true) :
    Calls Try.prog 40 #[.agg #[.string g.name, .int .i64 g.w, .int .i64 g.h, .int .i64 g.d, .int .i64 g.it, .int .i64 g.at_], .int .i64 p] w (Gives (gePair (sclG g p) 0) w) := by
  have hr : allIn 1 1000 [p] = true := by simp [allIn]; omega
  have hm' : allIn (-20000) 20000 [g.w, g.h, g.d, g.it, g.at_] = true := hm
  clear hm
  go_enter Try.func40, Try.ntmps40
  go_wp2_with fail
  refine (font_within_calls 1 1000 [p] _ 0 1 _ (by simp) (within_one (by simp [go_sem]))).mono ?_
  rintro e w' ⟨rfl, rfl⟩
  go_wp2_with fail
  refine (font_within_calls (-20000) 20000 [g.w, g.h, g.d, g.it, g.at_] _ 0 5 _ (by simp) (within_five (by simp [go_sem]) (by simp [go_sem]) (by simp [go_sem]) (by simp [go_sem]) (by simp [go_sem]))).mono ?_
  rintro e w' ⟨rfl, rfl⟩
  go_wp2_with fail
  refine wp_region_cls_tail [(⟨w.heap.size, 0, none⟩, .string g.name), (⟨w.heap.size, 1, none⟩, .int .i64 g.w), (⟨w.heap.size, 2, none⟩, .int .i64 g.h), (⟨w.heap.size, 3, none⟩, .int .i64 g.d), (⟨w.heap.size, 4, none⟩, .int .i64 g.it), (⟨w.heap.size, 5, none⟩, .int .i64 g.at_), (⟨w.heap.size + 1, 0, none⟩, .int .i64 p)] 23 (by kernel_rfl) (by kernel_rfl) (by simp [go_sem]) (fun C hC => ?_)
  simp only [List.take_succ_cons, List.take_zero, List.drop_succ_cons, List.drop_zero]
  repeat (first
      | (refine quiet_plain (by with_reducible rfl) ?_
         apply Exists.intro
         refine ⟨?_, ?_⟩
         focus (intro wq hq; have hc := hC.cells _ hq; simp at hc; go_simp; first | (go_at_call 63; exact hC.call hq (scaled1_gives _ p _ _ hc.2.2.2.2.2.2)) | (with_reducible rfl))
         simp only [Act.put, List.setIfInBounds_toArray, List.set_cons_zero, List.set_cons_succ])
      | (refine quiet_at (by with_reducible rfl) (by rfl) (by rfl) (by simp only [List.getElem?_toArray, List.getElem?_cons_succ, List.getElem?_cons_zero]; rfl) ?_
         first | (with_reducible refine QG_tt ?_) | (with_reducible refine QG_ff ?_)
         apply Exists.intro
         refine ⟨?_, ?_⟩
         focus (intro wq hq; have hc := hC.cells _ hq; simp at hc; go_simp; first | (go_at_call 63; exact hC.call hq (scaled1_gives _ p _ _ hc.2.2.2.2.2.2)) | (with_reducible rfl))
         simp only [Act.put, List.setIfInBounds_toArray, List.set_cons_zero, List.set_cons_succ])
      | (refine quiet_at (by with_reducible rfl) (by rfl) (by rfl) (by simp only [List.getElem?_toArray, List.getElem?_cons_succ, List.getElem?_cons_zero]; rfl) ?_
         first | (with_reducible refine QG_tf ?_) | (with_reducible refine QG_ft ?_) | (with_reducible refine QG_u ?_)
         simp only [Act.put, List.setIfInBounds_toArray, List.set_cons_zero, List.set_cons_succ]))
  refine wpQuiet_nil ?_
  intro wz hz
  have hbz := hC.below _ hz
  have d0 := hbz.cell (p := ⟨w.heap.size + 1 + 1, 0, none⟩) (by go_size)
  have d1 := hbz.cell (p := ⟨w.heap.size + 1 + 1, 1, none⟩) (by go_size)
  have d2 := hbz.cell (p := ⟨w.heap.size + 1 + 1, 2, none⟩) (by go_size)
  have d3 := hbz.cell (p := ⟨w.heap.size + 1 + 1, 3, none⟩) (by go_size)
  have d4 := hbz.cell (p := ⟨w.heap.size + 1 + 1, 4, none⟩) (by go_size)
  have d5 := hbz.cell (p := ⟨w.heap.size + 1 + 1, 5, none⟩) (by go_size)
  have f0 := hbz.frozen (p := ⟨w.heap.size + 1 + 1, 0, none⟩) (by go_size)
  have f1 := hbz.frozen (p := ⟨w.heap.size + 1 + 1, 1, none⟩) (by go_size)
  have f2 := hbz.frozen (p := ⟨w.heap.size + 1 + 1, 2, none⟩) (by go_size)
  have f3 := hbz.frozen (p := ⟨w.heap.size + 1 + 1, 3, none⟩) (by go_size)
  have f4 := hbz.frozen (p := ⟨w.heap.size + 1 + 1, 4, none⟩) (by go_size)
  have f5 := hbz.frozen (p := ⟨w.heap.size + 1 + 1, 5, none⟩) (by go_size)
  simp [go_sem] at d0 d1 d2 d3 d4 d5 f0 f1 f2 f3 f4 f5
  go_wp2_with fail
  refine bodyPost_ret (v := gePair (sclG g p) 0) (by simp [results, Try.results40, gePair, sclG, go_sem, *]) rfl ⟨rfl, ?_⟩
  have hb0 := bthen (bnew (bnew (bnew (bnew (bnew (bself w) _) _) _) _) _) hbz
  clear hbz
  repeat (first | (with_reducible exact hb0) | (with_reducible refine Below.setCell ?_ ?_ _) | go_size)

theorem font_Scaled_calls (g : Gly) (p : Int) (w : World) :
    Calls Try.prog 40 #[.agg #[.string g.name, .int .i64 g.w, .int .i64 g.h, .int .i64 g.d, .int .i64 g.it, .int .i64 g.at_], .int .i64 p] w (Gives (gePair (scaledG g p) (scaledErr g p)) w) := by
  unfold scaledG scaledErr
  by_cases hp : 1 ≤ p ∧ p ≤ 1000
  · rw [if_pos hp]
    cases hm : metricsOk g
    · exact font_Scaled_arg g p w hp hm
    · exact font_Scaled_ok g p w hp hm
  · rw [if_neg hp]
    exact font_Scaled_range g p w hp

end Go.Proofs.Ytgpabckipmhobaa
