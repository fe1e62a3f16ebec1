/- Texts Ge7, Sw7, Ep7, L37g, Law, Op7. -/
import Derived.Test.YtgnkngkogamjaaaR22
import Derived.Test.YtgnkngkogamjaaaR20
import Derived.Test.YtgnkngkogamjaaaR18
import Derived.Test.YtgnkngkogamjaaaR00
import Derived.ProofKit
import Derived.Lib.SmallJoins
import Derived.Test.YtgnkngkogamjaaaR21
import Derived.Laws.IdiomArrays
namespace Go.Proofs.Ytgnkngkogamjaaa
open Go.RowKit

theorem hlf_two {n : Int} (h : -1073741824 ≤ n ∧ n ≤ 1073741824) : -1 ≤ 2 * hlf n - n ∧ 2 * hlf n - n ≤ 1 := by
  rw [hlf_ok h]
  unfold rdiv
  split <;> omega
theorem scl_part {q p : Int} (hq : 0 ≤ q ∧ q ≤ 20000) (hp : 0 ≤ p ∧ p ≤ 100) : 0 ≤ scl q p ∧ scl q p ≤ q := by
  rw [scl_ok (by omega) hp.1 (by omega)]
  have hm : 0 ≤ q * p := Int.mul_nonneg hq.1 hp.1
  have hk : q * p ≤ q * 100 := Int.mul_le_mul_of_nonneg_left hp.2 hq.1
  unfold rdiv
  rw [if_pos hm]
  omega
theorem cell_nums {n : Nat} {b : Bx (n + 1)} (h : CellOk n b) : (-1048576 ≤ b.1.w ∧ b.1.w ≤ 1048576) ∧ (-1048576 ≤ b.1.h ∧ b.1.h ≤ 1048576) ∧ (-1048576 ≤ b.1.d ∧ b.1.d ≤ 1048576) := by
  have h1 := h.2.2.1
  have h2 := h.2.2.2
  omega
section
variable {hh dd : Nat → Int} {top g : Int}
theorem rowsS_mono (h1 : ∀ r, 0 ≤ hh r ∧ hh r ≤ 1048576) (h2 : ∀ r, 0 ≤ dd r ∧ dd r ≤ 1048576) {a b : Nat} (h : a ≤ b) : rowsS hh dd a ≤ rowsS hh dd b ∧ 0 ≤ rowsS hh dd a ∧ rowsS hh dd a ≤ 2097152 * a := by
  have key : ∀ k, rowsS hh dd a ≤ rowsS hh dd (a + k) := fun k => by
    induction k with
    | zero => exact Int.le_refl _
    | succ k ih =>
      have e : rowsS hh dd (a + (k + 1)) = rowsS hh dd (a + k) + (hh (a + k) + dd (a + k)) := rfl
      have := h1 (a + k)
      have := h2 (a + k)
      omega
  have key2 : ∀ k : Nat, 0 ≤ rowsS hh dd k ∧ rowsS hh dd k ≤ 2097152 * k := fun k => by
    induction k with
    | zero => exact ⟨Int.le_refl _, Int.le_refl _⟩
    | succ k ih =>
      have e : rowsS hh dd (k + 1) = rowsS hh dd k + (hh k + dd k) := rfl
      have := h1 k
      have := h2 k
      omega
  have := key (b - a)
  rw [show a + (b - a) = b by omega] at this
  exact ⟨this, key2 a⟩
theorem yAt_eq (r : Nat) : yAt top g hh dd r = top - (rowsS hh dd r + g * r) := by
  induction r with
  | zero => simp [yAt, rowsS]
  | succ r ih =>
    have e : rowsS hh dd (r + 1) = rowsS hh dd r + (hh r + dd r) := rfl
    have e2 : yAt top g hh dd (r + 1) = yAt top g hh dd r - (hh r + dd r + g) := rfl
    have e3 : g * ((r + 1 : Nat) : Int) = g * r + g := by push_cast; rw [Int.mul_add, Int.mul_one]
    omega
end
section
variable {R C : Nat} {wd : Nat → Int} {sp : Int}
theorem colW_small (hw : ∀ i, -1048576 ≤ wd i ∧ wd i ≤ 1048576) (c : Nat) : 0 ≤ colW R C wd c ∧ colW R C wd c ≤ 1048576 :=
  ⟨mxs_ge, mxs_le (by omega) fun n hn => by
    obtain ⟨r, _, rfl⟩ := List.mem_map.1 hn
    exact (hw _).2⟩
theorem colW_has {i : Nat} (hi : i < R * C) : wd i ≤ colW R C wd (i % C) := by
  refine mxs_mem (List.mem_map.2 ⟨i / C, List.mem_range.2 ?_, ?_⟩)
  · rw [Nat.mul_comm] at hi
    exact Nat.div_lt_of_lt_mul hi
  · rw [Nat.mul_comm, Nat.mod_add_div]
theorem colB_small (hw : ∀ i, -1048576 ≤ wd i ∧ wd i ≤ 1048576) (hs : 0 ≤ sp ∧ sp ≤ 20000) {a b : Nat} (h : a ≤ b) : 0 ≤ colB R C wd sp a ∧ colB R C wd sp a ≤ 1068576 * a ∧ colB R C wd sp a + colW R C wd a ≤ colB R C wd sp b + colW R C wd b := by
  have key2 : ∀ k : Nat, 0 ≤ colB R C wd sp k ∧ colB R C wd sp k ≤ 1068576 * k := fun k => by
    induction k with
    | zero => exact ⟨Int.le_refl _, Int.le_refl _⟩
    | succ k ih =>
      have e : colB R C wd sp (k + 1) = colB R C wd sp k + colW R C wd k + sp := rfl
      have := colW_small (R := R) (C := C) hw k
      omega
  have key : ∀ k, colB R C wd sp a + colW R C wd a ≤ colB R C wd sp (a + k) + colW R C wd (a + k) := fun k => by
    induction k with
    | zero => exact Int.le_refl _
    | succ k ih =>
      have e : colB R C wd sp (a + (k + 1)) = colB R C wd sp (a + k) + colW R C wd (a + k) + sp := rfl
      have := colW_small (R := R) (C := C) hw (a + (k + 1))
      omega
  have := key (b - a)
  rw [show a + (b - a) = b by omega] at this
  exact ⟨(key2 a).1, (key2 a).2, this⟩
end
theorem rowM_small {b : Int} {C : Nat} {f : Nat → Int} (hb : 0 ≤ b ∧ b ≤ 20000) (hf : ∀ i, -1048576 ≤ f i ∧ f i ≤ 1048576) (r : Nat) : 0 ≤ rowM b C f r ∧ rowM b C f r ≤ 1048576 :=
  ⟨Int.le_trans hb.1 mxs_ge, mxs_le (by omega) fun n hn => by
    obtain ⟨j, _, rfl⟩ := List.mem_map.1 hn
    exact (hf _).2⟩
theorem rowM_has {b : Int} {C : Nat} {f : Nat → Int} {i : Nat} (hC : 0 < C) : f i ≤ rowM b C f (i / C) := by
  refine mxs_mem (List.mem_map.2 ⟨i % C, List.mem_range.2 (Nat.mod_lt _ hC), ?_⟩)
  show f (i / C * C + i % C) = f i
  rw [Nat.mul_comm, Nat.div_add_mod]

/-- The numbers of the matrix. -/
structure Geo (F : Fnt) (l : Int) (n K : Nat) (kids : List (Bx (n + 1))) : Prop where
  K1 : 1 ≤ K
  K16 : K ≤ 16
  R1 : 1 ≤ kids.length / K
  N256 : kids.length ≤ 256
  NRK : kids.length = kids.length / K * K
  q : 0 ≤ arrQ F l ∧ arrQ F l ≤ 20000
  g : 0 ≤ scl (arrQ F l) 20 ∧ scl (arrQ F l) 20 ≤ 20000
  ax : 0 ≤ par F l F.axis ∧ par F l F.axis ≤ 20000
  w : ∀ i, -1048576 ≤ kW kids i ∧ kW kids i ≤ 1048576
  h : ∀ i, -1048576 ≤ kH kids i ∧ kH kids i ≤ 1048576
  d : ∀ i, -1048576 ≤ kD kids i ∧ kD kids i ≤ 1048576
  hh : ∀ r, 0 ≤ arrH F l n K kids r ∧ arrH F l n K kids r ≤ 1048576
  dd : ∀ r, 0 ≤ arrD F l n K kids r ∧ arrD F l n K kids r ≤ 1048576
  T : 0 ≤ arrT F l n K kids ∧ arrT F l n K kids ≤ 600000000

theorem geo {F : Fnt} {l : Int} {n K : Nat} {kids : List (Bx (n + 1))} (h : RightOk F l n (K : Int) kids) : Geo F l n K kids := by
  obtain ⟨_, hv, _, h1, h2, h3, h4, h5, hc⟩ := h
  have hm : kids.length % K = 0 := by omega
  have hd := Nat.div_add_mod kids.length K
  rw [hm, Nat.add_zero, Nat.mul_comm] at hd
  have hR : 1 ≤ kids.length / K := by
    rcases Nat.eq_zero_or_pos (kids.length / K) with h0 | h0
    · rw [h0] at hd
      omega
    · exact h0
  have hp := prm_quad hv
  have hq := par_in (l := l) hv hp.1.1 hp.1.2
  have ha := par_in (l := l) hv hp.2.1 hp.2.2
  have hq2 : 0 ≤ arrQ F l ∧ arrQ F l ≤ 20000 := ⟨hq.1, Int.le_trans hq.2 hp.1.2⟩
  have g20 := scl_part (p := 20) hq2 (by omega)
  have g70 := scl_part (p := 70) hq2 (by omega)
  have g30 := scl_part (p := 30) hq2 (by omega)
  have hw : ∀ i, -1048576 ≤ kW kids i ∧ kW kids i ≤ 1048576 := fun i => by
    unfold kW
    cases hki : kids[i]? with
    | none => simp
    | some k => simpa using (cell_nums (hc k (List.mem_of_getElem? hki))).1
  have hH : ∀ i, -1048576 ≤ kH kids i ∧ kH kids i ≤ 1048576 := fun i => by
    unfold kH
    cases hki : kids[i]? with
    | none => simp
    | some k => simpa using (cell_nums (hc k (List.mem_of_getElem? hki))).2.1
  have hD : ∀ i, -1048576 ≤ kD kids i ∧ kD kids i ≤ 1048576 := fun i => by
    unfold kD
    cases hki : kids[i]? with
    | none => simp
    | some k => simpa using (cell_nums (hc k (List.mem_of_getElem? hki))).2.2
  have hhh : ∀ r, 0 ≤ arrH F l n K kids r ∧ arrH F l n K kids r ≤ 1048576 := fun r => rowM_small (by omega) hH r
  have hdd : ∀ r, 0 ≤ arrD F l n K kids r ∧ arrD F l n K kids r ≤ 1048576 := fun r => rowM_small (by omega) hD r
  have hS := rowsS_mono hhh hdd (Nat.le_refl (kids.length / K))
  have hRb : kids.length / K ≤ 256 := Nat.le_trans (Nat.div_le_self _ _) h4
  have hT : 0 ≤ arrT F l n K kids ∧ arrT F l n K kids ≤ 600000000 := by
    unfold arrT
    have a1 := Int.mul_nonneg g20.1 (show (0 : Int) ≤ ((kids.length / K : Nat) : Int) - 1 by omega)
    have a2 := Int.mul_le_mul (show scl (arrQ F l) 20 ≤ 20000 by omega) (show ((kids.length / K : Nat) : Int) - 1 ≤ 255 by omega) (by omega) (by omega)
    omega
  exact ⟨by omega, by omega, hR, h4, hd.symm, hq2, ⟨g20.1, by omega⟩, ⟨ha.1, by omega⟩, hw, hH, hD, hhh, hdd, hT⟩

section
variable {F : Fnt} {l : Int} {n K : Nat} {kids : List (Bx (n + 1))}
theorem Geo.x (G : Geo F l n K kids) {i : Nat} (hi : i < kids.length) : 0 ≤ arrX F l n K kids i ∧ arrX F l n K kids i ≤ 20000000 ∧ arrX F l n K kids i + kW kids i ≤ arrW F l n K kids ∧ colB (kids.length / K) K (kW kids) (arrQ F l) (i % K) ≤ arrX F l n K kids i ∧ arrX F l n K kids i + kW kids i ≤ colB (kids.length / K) K (kW kids) (arrQ F l) (i % K) + colW (kids.length / K) K (kW kids) (i % K) ∧ (-1 ≤ 2 * arrX F l n K kids i + kW kids i - (2 * colB (kids.length / K) K (kW kids) (arrQ F l) (i % K) + colW (kids.length / K) K (kW kids) (i % K)) ∧ 2 * arrX F l n K kids i + kW kids i - (2 * colB (kids.length / K) K (kW kids) (arrQ F l) (i % K) + colW (kids.length / K) K (kW kids) (i % K)) ≤ 1) := by
  have hm : i % K < K := Nat.mod_lt _ (by have := G.K1; omega)
  have b1 := colB_small (R := kids.length / K) (C := K) G.w G.q (show i % K ≤ K - 1 by omega)
  have b2 := colW_small (R := kids.length / K) (C := K) G.w (i % K)
  have b3 := colW_has (wd := kW kids) (R := kids.length / K) (C := K) (i := i) (by rw [← G.NRK]; exact hi)
  have b4 := G.w i
  have b5 := hlf_two (n := colW (kids.length / K) K (kW kids) (i % K) - kW kids i) (by omega)
  have := G.K16
  unfold arrX colX arrW
  omega
theorem Geo.wide (G : Geo F l n K kids) : 0 ≤ arrW F l n K kids ∧ arrW F l n K kids ≤ 20000000 := by
  have b1 := colB_small (R := kids.length / K) (C := K) G.w G.q (Nat.le_refl (K - 1))
  have b2 := colW_small (R := kids.length / K) (C := K) G.w (K - 1)
  have := G.K16
  have := G.K1
  unfold arrW
  omega
theorem Geo.tops (G : Geo F l n K kids) : -1 ≤ 2 * arrTop F l n K kids - 2 * par F l F.axis - arrT F l n K kids ∧ 2 * arrTop F l n K kids - 2 * par F l F.axis - arrT F l n K kids ≤ 1 := by
  have := G.T
  have := hlf_two (n := arrT F l n K kids) (by omega)
  unfold arrTop
  omega
theorem Geo.row (G : Geo F l n K kids) (r : Nat) (hr : r < kids.length / K) : yAt (arrTop F l n K kids) (scl (arrQ F l) 20) (arrH F l n K kids) (arrD F l n K kids) r ≤ arrTop F l n K kids ∧ arrTop F l n K kids - arrT F l n K kids ≤ yAt (arrTop F l n K kids) (scl (arrQ F l) 20) (arrH F l n K kids) (arrD F l n K kids) r - arrH F l n K kids r - arrD F l n K kids r := by
  have hS := rowsS_mono G.hh G.dd (show r + 1 ≤ kids.length / K by omega)
  have hS0 := rowsS_mono G.hh G.dd (Nat.le_refl r)
  have e : rowsS (arrH F l n K kids) (arrD F l n K kids) (r + 1) = rowsS (arrH F l n K kids) (arrD F l n K kids) r + (arrH F l n K kids r + arrD F l n K kids r) := rfl
  have m1 := Int.mul_nonneg G.g.1 (show (0 : Int) ≤ (r : Int) by omega)
  have m2 := Int.mul_le_mul_of_nonneg_left (show (r : Int) ≤ ((kids.length / K : Nat) : Int) - 1 by omega) G.g.1
  have eT : arrT F l n K kids = scl (arrQ F l) 20 * ((kids.length / K : Nat) - 1) + rowsS (arrH F l n K kids) (arrD F l n K kids) (kids.length / K) := rfl
  rw [yAt_eq]
  omega
theorem Geo.div (G : Geo F l n K kids) {i : Nat} (hi : i < kids.length) : i / K < kids.length / K :=
  Nat.div_lt_of_lt_mul (by rw [Nat.mul_comm, ← G.NRK]; exact hi)
theorem Geo.y (G : Geo F l n K kids) {i : Nat} (hi : i < kids.length) : arrY F l n K kids i + kH kids i ≤ arrTop F l n K kids ∧ kD kids i - arrY F l n K kids i ≤ arrT F l n K kids - arrTop F l n K kids ∧ (-1073741824 ≤ arrY F l n K kids i ∧ arrY F l n K kids i ≤ 1073741824) := by
  have hK := G.K1
  have h1 := G.row (i / K) (G.div hi)
  have h2 : kH kids i ≤ arrH F l n K kids (i / K) := rowM_has hK
  have h3 : kD kids i ≤ arrD F l n K kids (i / K) := rowM_has hK
  have h4 := G.hh (i / K)
  have h5 := G.dd (i / K)
  have h6 := G.T
  have h7 := G.tops
  have h8 := G.ax
  unfold arrY
  omega
theorem Geo.apart (G : Geo F l n K kids) {i k : Nat} (hi : i < kids.length) (hk : k < kids.length) (h : k % K = i % K + 1) : arrX F l n K kids i + kW kids i + arrQ F l ≤ arrX F l n K kids k := by
  have h1 := G.x hi
  have h2 := G.x hk
  have e : colB (kids.length / K) K (kW kids) (arrQ F l) (i % K + 1) = colB (kids.length / K) K (kW kids) (arrQ F l) (i % K) + colW (kids.length / K) K (kW kids) (i % K) + arrQ F l := rfl
  rw [h] at h2
  omega
theorem Geo.below (G : Geo F l n K kids) {i k : Nat} (h : k / K = i / K + 1) : arrY F l n K kids k + kH kids k ≤ arrY F l n K kids i - kD kids i - scl (arrQ F l) 20 := by
  have hK := G.K1
  have h2 : kH kids k ≤ arrH F l n K kids (k / K) := rowM_has hK
  have h3 : kD kids i ≤ arrD F l n K kids (i / K) := rowM_has hK
  have e : yAt (arrTop F l n K kids) (scl (arrQ F l) 20) (arrH F l n K kids) (arrD F l n K kids) (i / K + 1) = yAt (arrTop F l n K kids) (scl (arrQ F l) 20) (arrH F l n K kids) (arrD F l n K kids) (i / K) - (arrH F l n K kids (i / K) + arrD F l n K kids (i / K) + scl (arrQ F l) 20) := rfl
  unfold arrY
  rw [h] at h2 ⊢
  omega
theorem Geo.fits (G : Geo F l n K kids) : ArrFits F l n K kids := by
  refine ⟨fun c _ r _ => ?_, ?_⟩
  · have := colW_small (R := kids.length / K) (C := K) G.w c
    have := G.w (c + r * K)
    exact lenOk_iff.2 (by omega)
  · have := G.T
    exact lenOk_iff.2 (by omega)
end

theorem allOwn_at {n : Nat} {b : Bx (n + 1)} {x y : Int} (h : allOwn (n + 1) b = true) (hx : -1073741824 ≤ x ∧ x ≤ 1073741824) (hy : -1073741824 ≤ y ∧ y ≤ 1073741824) : allOwn (n + 1) (atXY (n + 1) b x y) = true := by
  unfold allOwn at h ⊢
  rw [Bool.and_eq_true] at h ⊢
  refine ⟨?_, h.2⟩
  have h1 := h.1
  unfold ownOk at h1 ⊢
  simp only [Bool.and_eq_true] at h1 ⊢
  refine ⟨⟨?_, h1.1.2⟩, h1.2⟩
  have h2 := h1.1.1
  simp [lensOk] at h2
  simp [lensOk, atXY]
  omega
theorem allOwn_list {n : Nat} {W H D : Int} {kids : List (Bx (n + 1))} (hW : -1073741824 ≤ W ∧ W ≤ 1073741824) (hH : -1073741824 ≤ H ∧ H ≤ 1073741824) (hD : -1073741824 ≤ D ∧ D ≤ 1073741824) (h : ∀ k ∈ kids, allOwn (n + 1) k = true) : allOwn (n + 2) (listB (n + 1) W H D kids) = true := by
  have e : allOwn (n + 2) (listB (n + 1) W H D kids) = (ownOk (listB (n + 1) W H D kids).1 kids.length && kids.all (allOwn (n + 1))) := rfl
  rw [e, Bool.and_eq_true]
  refine ⟨?_, List.all_eq_true.2 h⟩
  unfold ownOk
  simp only [Bool.and_eq_true]
  refine ⟨⟨?_, ?_⟩, ?_⟩
  · simp [lensOk, listB]
    omega
  · simp [kindOk, listB, Lib.toList_data]
  · simp [srcOk, srcEnd, listB]
theorem mapIdx_sum {α : Type} (g : α → Nat) (f : Nat → α → α) (hf : ∀ i a, g (f i a) = g a) (l : List α) : ((l.mapIdx f).map g).sum = (l.map g).sum := by
  have : (l.mapIdx f).map g = l.map g := by
    apply List.ext_getElem?
    intro i
    simp only [List.getElem?_map, List.getElem?_mapIdx, Option.map_map]
    cases l[i]? <;> simp [hf]
  rw [this]

theorem arrB_valid {F : Fnt} {l : Int} {n K : Nat} {kids : List (Bx (n + 1))} (h : RightOk F l n (K : Int) kids) : validB (n + 2) (arrB F l n K kids) := by
  have G := geo h
  have hW := G.wide
  have hT := G.T
  have ht := G.tops
  have ha := G.ax
  have hmem : ∀ k ∈ kids.mapIdx (fun i k => atXY (n + 1) k (arrX F l n K kids i) (arrY F l n K kids i)), ∃ i kid, kids[i]? = some kid ∧ k = atXY (n + 1) kid (arrX F l n K kids i) (arrY F l n K kids i) := fun k hk => by
    obtain ⟨i, hi⟩ := List.mem_iff_getElem?.1 hk
    rw [List.getElem?_mapIdx] at hi
    cases hkid : kids[i]? with
    | none => rw [hkid] at hi; simp at hi
    | some kid => rw [hkid] at hi; exact ⟨i, kid, hkid, by simpa using hi.symm⟩
  refine ⟨?_, ?_, ?_⟩
  · refine allOwn_list (by omega) (by omega) (by omega) fun k hk => ?_
    obtain ⟨i, kid, hi, rfl⟩ := hmem k hk
    have hil : i < kids.length := (List.getElem?_eq_some_iff.1 hi).1
    have hx := G.x hil
    have hy := G.y hil
    exact allOwn_at (h.2.2.2.2.2.2.2.2 kid (List.mem_of_getElem? hi)).1.1 (by omega) (by omega)
  · have e : bCount (n + 2) (arrB F l n K kids) = 1 + ((kids.mapIdx (fun i k => atXY (n + 1) k (arrX F l n K kids i) (arrY F l n K kids i))).map (bCount (n + 1))).sum := rfl
    rw [e, mapIdx_sum (bCount (n + 1)) (fun i k => atXY (n + 1) k (arrX F l n K kids i) (arrY F l n K kids i)) (fun i k => rfl)]
    have h0 := h.1
    simp only [fewX, Bool.and_eq_true, decide_eq_true_eq] at h0
    have hs : 1 + (kids.map (bCount (n + 1))).sum ≤ 400 := h0.2
    omega
  · have e : bNested (n + 2) (arrB F l n K kids) = 1 + (kids.mapIdx (fun i k => atXY (n + 1) k (arrX F l n K kids i) (arrY F l n K kids i))).foldl (fun m k => max m (bNested (n + 1) k)) 0 := rfl
    have hn := (nest_le (bNested (n + 1)) (kids.mapIdx (fun i k => atXY (n + 1) k (arrX F l n K kids i) (arrY F l n K kids i))) 0 90).2 ⟨by omega, fun k hk => by
      obtain ⟨i, kid, hi, rfl⟩ := hmem k hk
      exact (h.2.2.2.2.2.2.2.2 kid (List.mem_of_getElem? hi)).2.1⟩
    rw [e]
    omega

/-- array.Make gives the matrix. -/
theorem right_makes {F : Fnt} {l : Int} {c : Bool} {n K : Nat} {kids : List (Bx (n + 1))} {kx : Option Addr} {kc : Nat} {w : World} (hF : FntOk w F) (hk : RepL w (n + 1) kx kids) (h : RightOk F l n (K : Int) kids) : Calls Try.prog 10 #[F.val, .agg #[.int .i64 l, .bool c], .int .i64 K, .slice kx kids.length kc] w (GivesBE (n + 2) (arrB F l n K kids) 0 w) := by
  have G := geo h
  have hR := G.NRK
  have h1 := G.R1
  generalize hRR : kids.length / K = R at *
  exact (arrMake_main F l c n R K kids.length kids kx kc w hF hk h.2.1 h.2.2.1 (fun k hk => (h.2.2.2.2.2.2.2.2 k hk).1) hR rfl G.K1 G.K16 h1 G.N256).mono fun _ _ h2 => h2.1 ⟨G.fits, arrB_valid h⟩

end Go.Proofs.Ytgnkngkogamjaaa
namespace Go.Proofs.Ytgnkngkogamjaaa
open Go.RowKit

/-- The other of two rows; where the cell comes from when the first c columns are exchanged. -/
def swr (p q r : Nat) : Nat := if r = p then q else if r = q then p else r
def swi (K p q c i : Nat) : Nat := if i % K < c then swr p q (i / K) * K + i % K else i
/-- The cells with the first c columns exchanged, as the law does it. -/
def oth {α : Type} (K p q : Nat) (l : List α) : Nat → List α
  | 0 => l
  | c + 1 => match l[q * K + c]?, l[p * K + c]? with
    | some y, some x => ((oth K p q l c).set (p * K + c) y).set (q * K + c) x
    | _, _ => oth K p q l c

theorem oth_len {α : Type} {K p q : Nat} {l : List α} (c : Nat) : (oth K p q l c).length = l.length := by
  induction c with
  | zero => rfl
  | succ c ih =>
    unfold oth
    split <;> simp [ih]
theorem cel_dm {K r c : Nat} (hc : c < K) : (r * K + c) / K = r ∧ (r * K + c) % K = c := by
  have h0 : 0 < K := by omega
  refine ⟨?_, ?_⟩
  · rw [Nat.add_comm, Nat.add_mul_div_right _ _ h0, Nat.div_eq_of_lt hc, Nat.zero_add]
  · rw [Nat.add_comm, Nat.add_mul_mod_self_right, Nat.mod_eq_of_lt hc]
theorem cel_eq {K i : Nat} : i / K * K + i % K = i := by rw [Nat.mul_comm, Nat.div_add_mod]
theorem cel_lt {K R r c : Nat} (hc : c < K) (hr : r < R) : r * K + c < R * K := by
  have := Nat.mul_le_mul_right K (show r + 1 ≤ R by omega)
  rw [Nat.add_mul, Nat.one_mul] at this
  omega
theorem swr_lt {p q r R : Nat} (hp : p < R) (hq : q < R) (hr : r < R) : swr p q r < R := by
  unfold swr
  split
  · exact hq
  · split
    · exact hp
    · exact hr
theorem swr_swr {p q r : Nat} : swr p q (swr p q r) = r := by
  unfold swr
  by_cases h1 : r = p
  · rw [if_pos h1]
    by_cases h2 : q = p
    · rw [if_pos h2]
      omega
    · rw [if_neg h2, if_pos rfl]
      omega
  · rw [if_neg h1]
    by_cases h2 : r = q
    · rw [if_pos h2, if_pos rfl]
      omega
    · rw [if_neg h2, if_neg h1, if_neg h2]

theorem oth_get {α : Type} {K p q R : Nat} {l : List α} (hl : l.length = R * K) (hp : p < R) (hq : q < R) (c : Nat) (hc : c ≤ K) (i : Nat) : (oth K p q l c)[i]? = l[swi K p q c i]? := by
  induction c with
  | zero => simp [oth, swi]
  | succ c ih =>
    have hcK : c < K := by omega
    have ih := ih (by omega)
    have hpl : p * K + c < l.length := by rw [hl]; exact cel_lt hcK hp
    have hql : q * K + c < l.length := by rw [hl]; exact cel_lt hcK hq
    unfold oth
    rw [List.getElem?_eq_getElem hql, List.getElem?_eq_getElem hpl]
    simp only
    have hP := cel_dm (r := p) hcK
    have hQ := cel_dm (r := q) hcK
    have hi := cel_eq (K := K) (i := i)
    by_cases h2 : q * K + c = i
    · rw [← h2, List.getElem?_set_self (by rw [List.length_set, oth_len]; exact hql)]
      unfold swi
      rw [hQ.1, hQ.2, if_pos (by omega)]
      have : swr p q q = p := by unfold swr; split <;> simp_all
      rw [this, List.getElem?_eq_getElem hpl]
    · rw [List.getElem?_set_ne h2]
      by_cases h1 : p * K + c = i
      · rw [← h1, List.getElem?_set_self (by rw [oth_len]; exact hpl)]
        unfold swi
        rw [hP.1, hP.2, if_pos (by omega)]
        have : swr p q p = q := by unfold swr; simp
        rw [this, List.getElem?_eq_getElem hql]
      · rw [List.getElem?_set_ne h1, ih]
        congr 1
        unfold swi
        by_cases h3 : i % K < c
        · rw [if_pos h3, if_pos (by omega)]
        · rw [if_neg h3]
          by_cases h4 : i % K < c + 1
          · rw [if_pos h4]
            have h5 : i % K = c := by omega
            have h6 : i / K ≠ p := fun h => h1 (by rw [← hi, h, h5])
            have h7 : i / K ≠ q := fun h => h2 (by rw [← hi, h, h5])
            unfold swr
            rw [if_neg h6, if_neg h7, hi]
          · rw [if_neg h4]

theorem sum_set {α : Type} (f : α → Nat) : ∀ (l : List α) (a : Nat) (x y : α), l[a]? = some x → ((l.set a y).map f).sum + f x = (l.map f).sum + f y := by
  intro l
  induction l with
  | nil => intro a x y h; simp at h
  | cons z l ih =>
    intro a x y h
    cases a with
    | zero =>
      simp only [List.getElem?_cons_zero, Option.some.injEq] at h
      subst h
      simp only [List.set_cons_zero, List.map_cons, List.sum_cons]
      omega
    | succ a =>
      rw [List.getElem?_cons_succ] at h
      have := ih a x y h
      simp only [List.set_cons_succ, List.map_cons, List.sum_cons]
      omega
theorem oth_sum {α : Type} (f : α → Nat) {K p q R : Nat} {l : List α} (hl : l.length = R * K) (hp : p < R) (hq : q < R) (c : Nat) (hc : c ≤ K) : ((oth K p q l c).map f).sum = (l.map f).sum := by
  induction c with
  | zero => rfl
  | succ c ih =>
    have hcK : c < K := by omega
    have ih := ih (by omega)
    have hpl : p * K + c < l.length := by rw [hl]; exact cel_lt hcK hp
    have hql : q * K + c < l.length := by rw [hl]; exact cel_lt hcK hq
    have hP := cel_dm (r := p) hcK
    have hQ := cel_dm (r := q) hcK
    have g1 : (oth K p q l c)[p * K + c]? = some l[p * K + c] := by
      rw [oth_get hl hp hq c (by omega)]
      unfold swi
      rw [hP.2, if_neg (by omega), List.getElem?_eq_getElem hpl]
    have g2 : (oth K p q l c)[q * K + c]? = some l[q * K + c] := by
      rw [oth_get hl hp hq c (by omega)]
      unfold swi
      rw [hQ.2, if_neg (by omega), List.getElem?_eq_getElem hql]
    have e : oth K p q l (c + 1) = ((oth K p q l c).set (p * K + c) l[q * K + c]).set (q * K + c) l[p * K + c] := by
      show (match l[q * K + c]?, l[p * K + c]? with
        | some y, some x => ((oth K p q l c).set (p * K + c) y).set (q * K + c) x
        | _, _ => oth K p q l c) = _
      rw [List.getElem?_eq_getElem hql, List.getElem?_eq_getElem hpl]
    have s1 := sum_set f (oth K p q l c) (p * K + c) _ l[q * K + c] g1
    have g3 : ((oth K p q l c).set (p * K + c) l[q * K + c])[q * K + c]? = some l[q * K + c] := by
      by_cases h : p * K + c = q * K + c
      · rw [h, List.getElem?_set_self (by rw [oth_len]; exact hql)]
      · rw [List.getElem?_set_ne h, g2]
    have s2 := sum_set f _ (q * K + c) _ l[p * K + c] g3
    rw [e]
    omega
theorem swi_full {K p q i : Nat} (hK : 0 < K) : swi K p q K i = swr p q (i / K) * K + i % K := by
  unfold swi
  rw [if_pos (Nat.mod_lt _ hK)]
theorem oth_mem {α : Type} {K p q R : Nat} {l : List α} (hl : l.length = R * K) (hp : p < R) (hq : q < R) {k : α} (h : k ∈ oth K p q l K) : k ∈ l := by
  obtain ⟨i, hi⟩ := List.mem_iff_getElem?.1 h
  rw [oth_get hl hp hq K (Nat.le_refl _)] at hi
  exact List.mem_of_getElem? hi

section
variable {n K p q R : Nat} {kids : List (Bx (n + 1))}
theorem oth_kW (hl : kids.length = R * K) (hp : p < R) (hq : q < R) (i : Nat) : kW (oth K p q kids K) i = kW kids (swi K p q K i) := by
  unfold kW
  rw [oth_get hl hp hq K (Nat.le_refl _)]
theorem oth_kH (hl : kids.length = R * K) (hp : p < R) (hq : q < R) (i : Nat) : kH (oth K p q kids K) i = kH kids (swi K p q K i) := by
  unfold kH
  rw [oth_get hl hp hq K (Nat.le_refl _)]
theorem oth_kD (hl : kids.length = R * K) (hp : p < R) (hq : q < R) (i : Nat) : kD (oth K p q kids K) i = kD kids (swi K p q K i) := by
  unfold kD
  rw [oth_get hl hp hq K (Nat.le_refl _)]
theorem swi_col {c r : Nat} (hc : c < K) : swi K p q K (c + r * K) = c + swr p q r * K := by
  have h := cel_dm (r := r) hc
  rw [Nat.add_comm] at h
  rw [swi_full (by omega), h.1, h.2, Nat.add_comm]
theorem swi_row {c r : Nat} (hc : c < K) : swi K p q K (r * K + c) = swr p q r * K + c := by
  have h := cel_dm (r := r) hc
  rw [swi_full (by omega), h.1, h.2]
theorem colW_le {wd wd' : Nat → Int} (hw : ∀ i, wd' i = wd (swi K p q K i)) (hp : p < R) (hq : q < R) {c : Nat} (hc : c < K) : colW R K wd' c ≤ colW R K wd c := by
  refine mxs_le mxs_ge fun x hx => ?_
  obtain ⟨r, hr, rfl⟩ := List.mem_map.1 hx
  rw [List.mem_range] at hr
  rw [hw, swi_col hc]
  exact mxs_mem (List.mem_map.2 ⟨_, List.mem_range.2 (swr_lt hp hq hr), rfl⟩)
theorem swi_swi {i : Nat} (hK : 0 < K) : swi K p q K (swi K p q K i) = i := by
  rw [swi_full (i := i) hK, swi_row (Nat.mod_lt _ hK), swr_swr, cel_eq]
theorem colW_swap {wd wd' : Nat → Int} (hw : ∀ i, wd' i = wd (swi K p q K i)) (hp : p < R) (hq : q < R) {c : Nat} (hc : c < K) : colW R K wd' c = colW R K wd c :=
  Int.le_antisymm (colW_le hw hp hq hc) (colW_le (fun i => by rw [hw, swi_swi (by omega)]) hp hq hc)
theorem colB_swap {wd wd' : Nat → Int} {sp : Int} (hw : ∀ i, wd' i = wd (swi K p q K i)) (hp : p < R) (hq : q < R) {c : Nat} (hc : c < K) : colB R K wd' sp c = colB R K wd sp c := by
  induction c with
  | zero => rfl
  | succ c ih =>
    show colB R K wd' sp c + colW R K wd' c + sp = colB R K wd sp c + colW R K wd c + sp
    rw [ih (by omega), colW_swap hw hp hq (by omega)]
theorem rowM_swap {b : Int} {f f' : Nat → Int} (hf : ∀ i, f' i = f (swi K p q K i)) (r : Nat) : rowM b K f' r = rowM b K f (swr p q r) := by
  unfold rowM
  congr 1
  refine List.map_congr_left fun j hj => ?_
  rw [List.mem_range] at hj
  rw [hf, swi_row hj]
theorem rowsS_swap_lt {hh dd hh' dd' : Nat → Int} (h1 : ∀ r, hh' r = hh (swr p q r)) (h2 : ∀ r, dd' r = dd (swr p q r)) (hpq : p ≤ q) (r : Nat) : rowsS hh' dd' r = rowsS hh dd r + (if p < r ∧ r ≤ q then (hh q + dd q) - (hh p + dd p) else 0) := by
  induction r with
  | zero => simp [rowsS]
  | succ r ih =>
    show rowsS hh' dd' r + (hh' r + dd' r) = rowsS hh dd r + (hh r + dd r) + _
    rw [ih, h1, h2]
    unfold swr
    by_cases e1 : r = p
    · subst e1
      rw [if_pos rfl, if_neg (by omega)]
      by_cases e2 : r = q
      · subst e2
        rw [if_neg (by omega)]
        omega
      · rw [if_pos (by omega)]
        omega
    · rw [if_neg e1]
      by_cases e2 : r = q
      · subst e2
        rw [if_pos rfl, if_neg (show ¬ (p < r + 1 ∧ r + 1 ≤ r) by omega), if_pos (by omega)]
        omega
      · rw [if_neg e2]
        by_cases e3 : p < r ∧ r ≤ q
        · rw [if_pos e3, if_pos (by omega)]
          omega
        · rw [if_neg e3, if_neg (by omega)]
          omega
theorem swr_comm {p q r : Nat} : swr p q r = swr q p r := by
  unfold swr
  split <;> split <;> omega
theorem rowsS_swap {hh dd hh' dd' : Nat → Int} (h1 : ∀ r, hh' r = hh (swr p q r)) (h2 : ∀ r, dd' r = dd (swr p q r)) (hp : p < R) (hq : q < R) : rowsS hh' dd' R = rowsS hh dd R := by
  rcases Nat.le_total p q with h | h
  · rw [rowsS_swap_lt h1 h2 h, if_neg (by omega), Int.add_zero]
  · rw [rowsS_swap_lt (p := q) (q := p) (fun r => by rw [h1, swr_comm]) (fun r => by rw [h2, swr_comm]) h, if_neg (by omega), Int.add_zero]
end

section
variable {F : Fnt} {l : Int} {n K p q : Nat} {kids : List (Bx (n + 1))}
theorem swap_right (h : RightOk F l n (K : Int) kids) (hp : p < kids.length / K) (hq : q < kids.length / K) : RightOk F l n (K : Int) (oth K p q kids K) := by
  have G := geo h
  obtain ⟨h0, hv, hl, h1, h2, h3, h4, h5, hc⟩ := h
  have hlen : (oth K p q kids K).length = kids.length := oth_len K
  refine ⟨?_, hv, hl, h1, h2, by rw [hlen]; exact h3, by rw [hlen]; exact h4, by rw [hlen]; exact h5, fun k hk => hc k (oth_mem G.NRK hp hq hk)⟩
  simp only [fewX, Bool.and_eq_true, decide_eq_true_eq] at h0 ⊢
  refine ⟨h0.1, ?_⟩
  have e : listN n (oth K p q kids K) = listN n kids := by
    show 1 + ((oth K p q kids K).map (bCount (n + 1))).sum = 1 + (kids.map (bCount (n + 1))).sum
    rw [oth_sum (bCount (n + 1)) G.NRK hp hq K (Nat.le_refl _)]
  rw [e]
  exact h0.2
theorem swap_nums (h : RightOk F l n (K : Int) kids) (hp : p < kids.length / K) (hq : q < kids.length / K) : arrW F l n K (oth K p q kids K) = arrW F l n K kids ∧ arrTop F l n K (oth K p q kids K) = arrTop F l n K kids ∧ arrT F l n K (oth K p q kids K) = arrT F l n K kids ∧ ∀ i, arrX F l n K (oth K p q kids K) i = arrX F l n K kids (swi K p q K i) := by
  have G := geo h
  have hK := G.K1
  have hlen : (oth K p q kids K).length = kids.length := oth_len K
  have eT : arrT F l n K (oth K p q kids K) = arrT F l n K kids := by
    unfold arrT
    rw [hlen]
    congr 1
    exact rowsS_swap (fun r => rowM_swap (oth_kH G.NRK hp hq) r) (fun r => rowM_swap (oth_kD G.NRK hp hq) r) hp hq
  refine ⟨?_, ?_, eT, fun i => ?_⟩
  · unfold arrW
    rw [hlen, colB_swap (oth_kW G.NRK hp hq) hp hq (by omega), colW_swap (oth_kW G.NRK hp hq) hp hq (by omega)]
  · unfold arrTop
    rw [eT]
  · have hm : i % K < K := Nat.mod_lt _ hK
    have e : swi K p q K i % K = i % K := by rw [swi_full hK, (cel_dm hm).2]
    unfold arrX colX
    rw [hlen, e, colB_swap (oth_kW G.NRK hp hq) hp hq hm, colW_swap (oth_kW G.NRK hp hq) hp hq hm, oth_kW G.NRK hp hq]
end

end Go.Proofs.Ytgnkngkogamjaaa
namespace Go.Proofs.Ytgnkngkogamjaaa
open Go.RowKit

theorem setL_skip (pre : List Value) : ∀ (vs cs : List Value) (o : Nat), setL (pre ++ cs) (pre.length + o) vs = pre ++ setL cs o vs := by
  intro vs
  induction vs with
  | nil => intro cs o; rfl
  | cons v vs ih =>
    intro cs o
    show setL ((pre ++ cs).set (pre.length + o) v) (pre.length + o + 1) vs = pre ++ setL (cs.set o v) (o + 1) vs
    rw [List.set_append_right _ _ (by omega), show pre.length + o - pre.length = o by omega, Nat.add_assoc, ih]
theorem setL_pre : ∀ (news old tail : List Value), old.length = news.length → setL (old ++ tail) 0 news = news ++ tail := by
  intro news
  induction news with
  | nil =>
    intro old tail h
    obtain rfl := List.eq_nil_of_length_eq_zero h
    rfl
  | cons v vs ih =>
    intro old tail h
    rcases old with _ | ⟨x, old⟩
    · simp at h
    · have := setL_skip [v] vs (old ++ tail) 0
      rw [ih old tail (by simpa using h)] at this
      exact this
theorem flat_put {ks : List El} {junk : List Value} {i : Nat} (e : El) (hi : i < ks.length) : setL (ks.flatMap elC ++ junk) (i * 11) (elC e) = (ks.set i e).flatMap elC ++ junk := by
  induction ks generalizing i with
  | nil => simp at hi
  | cons a ks ih =>
    cases i with
    | zero =>
      rw [List.flatMap_cons, List.append_assoc, List.set_cons_zero, List.flatMap_cons, List.append_assoc]
      exact setL_pre _ _ _ rfl
    | succ i =>
      rw [List.flatMap_cons, List.append_assoc, List.set_cons_succ, List.flatMap_cons, List.append_assoc, ← ih (by simpa using hi), ← setL_skip (elC a), elC_len]
      congr 1
      omega
section
variable {P : Program} {l : List Oper} {a : Act} {Q : Exit → Act → World → Prop} {D : List Nat} {W w : World} {L : List (Nat × List Value)}
/-- A region that draws its order; stores go to blocks from B on. -/
theorem own_anyW {id : Nat} (B : Nat) (hS : Own D W L w) (mid hard : List Nat) (n : Nat) (hm : P.follows .mixedOrders = true) (hB : (decide (l.length = n) && Region.noSelect l.toArray) = true)
    (h : Closed l.toArray (mk l.toArray.size []) → ∀ w', Own D W L w' → wpK P l.toArray Q (relOf B mid hard) n (mk l.toArray.size []) a w') : (Code.region id l.toArray true).wp P Q a w := by
  simp only [Bool.and_eq_true, decide_eq_true_eq] at hB
  obtain ⟨rfl, hsel⟩ := hB
  refine RegionAny.wp (regionAny_any hm ?_)
  have := wpAny_of_wpK _ _ _ _ (h (closed_nil _) _ hS.drew)
  rw [← List.size_toArray] at this
  exact this
variable {B : Nat} {mid hard : List Nat} {m : Nat} {done : List Nat}
/-- Quiet operations that look at W's blocks alone; the middling ones may go to the call's own blocks. -/
theorem own_batchW (hS : Own D W L w) (hW : W.heap.size ≤ B) (is : List Nat) (n : Nat) (hmn : n + is.length = m) (hcl : Closed l.toArray (mk l.toArray.size done)) (hB : (Region.noSelect l.toArray && batchB l.toArray (fun i => !hard.contains i && !mid.contains i) (fun i => !hard.contains i) done is) = true)
    (h : wpG P l.toArray (fun w' => Own D W [] w') (fun a' => Closed l.toArray (mk l.toArray.size (is.reverse ++ done)) → ∀ w', Own D W L w' → wpK P l.toArray Q (relOf B mid hard) n (mk l.toArray.size (is.reverse ++ done)) a' w') (is.filterMap (fun i => l.toArray[i]?)) a) :
    wpK P l.toArray Q (relOf B mid hard) m (mk l.toArray.size done) a w := by
  subst hmn
  simp only [Bool.and_eq_true] at hB
  refine batch_go (C0 := fun w' => Own D W [] w') (C := fun w' => Own D W L w') (fun _ _ h hb => h.step hb) (fun _ h => h.forget (List.nil_sublist _)) (fun _ _ h hb => h.step hb) (fun i hi w w' hb => by rw [relOf_soft hi]; exact hb) (fun i hi w w' hC hb => ?_) hB.1 is done a hcl hB.2
    (wpG_mono _ _ _ _ (fun a' h' w' hw' => h' (batch_closed is done hcl hB.2) w' hw') h) w hS
  unfold relOf at hb
  rw [if_neg (by simpa using hi)] at hb
  split at hb
  · exact hC.stepB hW (fun x hx => by cases hx) hb
  · exact hC.step hb
end
end Go.Proofs.Ytgnkngkogamjaaa
namespace Go.Proofs.Ytgnkngkogamjaaa
open Go.RowKit
attribute [local irreducible] wpQuiet wpG wpP wpK wpList Code.wp Calls

theorem kid_at {w : World} {n k o : Nat} {KS : List (Bx n)} (h : RepL w n (some ⟨k, o, none⟩) KS) {i : Nat} {kid : Bx n} (hi : KS[i]? = some kid) : ∃ css, w.rangeAt k (o + i * 11) css ∧ Rep w n kid css := by
  obtain ⟨k2, o2, css, e, h1, h2⟩ := h i kid hi
  cases e
  exact ⟨css, h1, h2⟩

theorem arrB_put {F : Fnt} {l : Int} {n K : Nat} {kids : List (Bx (n + 1))} {i : Nat} {k : Bx (n + 1)} (h : kids[i]? = some k) : (kids.mapIdx (fun i k => atXY (n + 1) k (arrX F l n K kids i) (arrY F l n K kids i)))[i]? = some (atXY (n + 1) k (arrX F l n K kids i) (arrY F l n K kids i)) := by
  rw [List.getElem?_mapIdx, h]
  rfl
end Go.Proofs.Ytgnkngkogamjaaa
namespace Go.Proofs.Ytgnkngkogamjaaa
open Go.RowKit Go.ChangeShapes Go.WideShapes Go.ChangeAt

theorem Try.own : ownKnob Try.prog.godebug = none := by kernel_rfl
theorem Try.laidOut : laidOutB Try.prog = true := by kernel_rfl

/-- All arguments read as before. -/
theorem below_trodAll {H : Type} {enc : TypeId × Value → H} {P : Program} (hl : laidOutB P = true) {W W' : World} (hb : Below W.heap.size W W') (ts : List TypeId) :
    ∀ (vs : List Value) (ds : List (DataW H)) (ps : List MemPlace), (∀ t ∈ ts, P.readableRec t = true ∧ t < P.types.size) → DataW.TrodAll enc P W 0 (fun _ => true) true ts vs ds ps →
    (∀ x ∈ ps, x.block < W.heap.size) → DataW.TrodAll enc P W' 0 (fun b => decide (b < W.heap.size)) true ts vs ds ps := by
  induction ts with
  | nil => intro vs ds ps _ h _; obtain ⟨rfl, rfl, rfl⟩ := trodAll_nil h; exact rfl
  | cons t ts ih =>
    intro vs ds ps hr h hlt
    obtain ⟨v, vs', d, ds', p, q, rfl, rfl, rfl, h1, h2⟩ := trodAll_cons h
    exact ⟨p, q, Below.trod hl (hr t (by simp)).1 (hr t (by simp)).2 h1 hb (fun x hx => hlt x (by simp [hx])),
      ih vs' ds' q (fun u hu => hr u (by simp [hu])) h2 (fun x hx => hlt x (by simp [hx])), rfl⟩

/-- What the row asks behind the call of a law. -/
theorem law_post {H : Type} {enc : TypeId × Value → H} {P : Program} (hl : laidOutB P = true) {f : Func} {s : ChangeSpec} {tb : TypeId} {W W' : World} {args : Array Value} {ds gs : List (DataW H)} {before : List MemPlace}
    (hvars : s.vars = []) (hres : f.resultTypes = #[tb]) (hbool : P.underlying tb = some .bool) (hread : ∀ t ∈ f.params.toList, P.readableRec t = true ∧ t < P.types.size)
    (hspec : s.fn H (ds ++ gs) = { results := [.lit (.bool true)], args := ds }) (hW : DataW.Whole enc P f.params.toList s.vars false W args.toList ds gs before) (hb : Below W.heap.size W W') :
    s.post enc P f false true false false W args (.bool true) W' := by
  obtain ⟨p, q, hA, hV, rfl, hfz, hnd⟩ := id hW
  refine ⟨ds, gs, p ++ q, [], p, [], hW, ?_, ?_, ?_, Below.frame hb _, fun h => by cases h⟩
  · rw [hspec, hres]
    exact trodAll_mk1 (shut_bool hbool true)
  · rw [hspec]
    exact below_trodAll hl hb _ _ _ _ hread hA (fun x hx => hW.lt x (by simp [hx]))
  · rw [hspec, hvars]
    exact rfl
end Go.Proofs.Ytgnkngkogamjaaa
namespace Go.Proofs.Ytgnkngkogamjaaa
open Go.RowKit Go.ChangeShapes Go.WideShapes

theorem u8_of {n : Int} (h : (Lit.int .u8 n).wf = true) : 0 ≤ n ∧ n ≤ 255 := by
  simp [Lit.wf, IntKind.min, IntKind.max, IntKind.signed, IntKind.bits] at h
  omega
theorem cells_one {w : World} {t : TypeId} {n : Nat} {H : Type} {enc : TypeId × Value → H} {base : Nat} {spare : Nat → Bool} {held : Bool} {c : Value} {x : DataW H × List MemPlace} (ht : Try.prog.underlying t = some (.int .u8)) (h : DataW.trod enc Try.prog w base spare held n t [c] = some x) : ∃ a, c = .int .u8 a ∧ 0 ≤ a ∧ a ≤ 255 := by
  obtain ⟨a, e, _, hw⟩ := DataW.trod_int ht h
  have h2 := u8_of hw
  exact ⟨a, by simpa using e, h2.1, h2.2⟩
set_option maxRecDepth 100000 in
theorem open_three {H : Type} {enc : TypeId × Value → H} {w : World} {r : Reach} {b0 : Nat} {v : Value} {d : DataW H} {p : List MemPlace} (hv : Value.okWide Try.prog w r b0 45 v) (h : DataW.Trod enc Try.prog w 0 (fun _ => true) true 45 v d p) : ∃ a b c : Int, v = .agg #[.int .u8 a, .int .u8 b, .int .u8 c] ∧ (0 ≤ a ∧ a ≤ 255) ∧ (0 ≤ b ∧ b ≤ 255) ∧ (0 ≤ c ∧ c ≤ 255) := by
  have hv2 : ∃ cs, v = .agg cs ∧ cs.size = 3 := by
    simp only [Value.okWide, Try.underlying45] at hv
    obtain ⟨cs, h1, h2, _⟩ := hv
    exact ⟨cs, h1, h2.trans (by kernel_rfl)⟩
  obtain ⟨cs, rfl, h3⟩ := hv2
  obtain ⟨L⟩ := cs
  obtain ⟨c0, c1, c2, rfl⟩ : ∃ c0 c1 c2, L = [c0, c1, c2] := by
    rcases L with _ | ⟨c0, _ | ⟨c1, _ | ⟨c2, _ | ⟨c3, L⟩⟩⟩⟩ <;> simp at h3
    exact ⟨c0, c1, c2, rfl⟩
  obtain ⟨fuel, hf⟩ := h
  obtain ⟨y0, y1, y2, n, _, t0, t1, t2⟩ := trod_array3 Try.underlying45 (by kernel_rfl) hf
  obtain ⟨a, rfl, ha⟩ := cells_one Try.underlying5 t0
  obtain ⟨b, rfl, hb⟩ := cells_one Try.underlying5 t1
  obtain ⟨c, rfl, hc⟩ := cells_one Try.underlying5 t2
  exact ⟨a, b, c, rfl, ha, hb, hc⟩
end Go.Proofs.Ytgnkngkogamjaaa
