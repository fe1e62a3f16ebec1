/- array.Make: where the arguments are in order. -/
import Derived.Test.YtgnkngkogamjaaaR18
import Derived.Test.YtgnkngkogamjaaaR00
namespace Go.Proofs.Ytgnkngkogamjaaa
open Go.RowKit
attribute [local irreducible] wpQuiet wpG wpP wpK wpList Code.wp Calls
attribute [local go_sem] Oper.semAt_some
instance zt_boxs : ZeroTy Try.prog 32 [.slice none 0 0] := ⟨.slice none 0 0, by kernel_rfl, rfl⟩
instance zt_line : ZeroTy Try.prog 58 [.int .i64 0, .int .i64 0] := ⟨.agg #[.int .i64 0, .int .i64 0], by kernel_rfl, rfl⟩

/-- A list of boxes as a block of cells. -/
theorem repL_els {w : World} {n : Nat} {kids : List (Bx (n + 1))} {kx : Option Addr} (h : RepL w (n + 1) kx kids) (hne : kids ≠ []) : ∃ k o, ∃ ks : List El, kx = some ⟨k, o, none⟩ ∧ ks.length = kids.length ∧ w.rangeAt k o (ks.flatMap elC) ∧ (∀ v ∈ ks.flatMap elC, v.oneCell' = true) ∧ ∀ (i : Nat) (e : El) (kid : Bx (n + 1)), ks[i]? = some e → kids[i]? = some kid → e.1 = kid.1 ∧ Rep w (n + 1) kid (elC e) := by
  obtain ⟨k, o, l, hkx, hll, hfl, hone, hrep⟩ := repL_flat h hne
  obtain ⟨ks, hkl, hks⟩ := list_of (α := El) (fun i e => ∀ css kid, l[i]? = some css → kids[i]? = some kid → css.1 = elC e ∧ e.1 = kid.1) kids.length fun i hi => by
    obtain ⟨css, hc⟩ : ∃ css, l[i]? = some css := ⟨l[i]'(by omega), by rw [List.getElem?_eq_getElem]⟩
    obtain ⟨kid, hkid⟩ : ∃ kid, kids[i]? = some kid := ⟨kids[i], by rw [List.getElem?_eq_getElem]⟩
    obtain ⟨kx', kc', sx', sc', he, _⟩ := rep_out (hrep i css kid hc hkid)
    refine ⟨(kid.1, .slice kx' kid.2.length kc', .slice sx' kid.1.src.length sc'), fun css' kid' h1 h2 => ?_⟩
    rw [hc] at h1
    rw [hkid] at h2
    obtain rfl := Option.some.inj h1
    obtain rfl := Option.some.inj h2
    exact ⟨he, rfl⟩
  have hfe : l.flatMap Subtype.val = ks.flatMap elC := by
    have hm : l.map Subtype.val = ks.map elC := by
      apply List.ext_getElem?
      intro i
      by_cases hi : i < kids.length
      · obtain ⟨css, hc⟩ : ∃ css, l[i]? = some css := ⟨l[i]'(by omega), by rw [List.getElem?_eq_getElem]⟩
        obtain ⟨kid, hkid⟩ : ∃ kid, kids[i]? = some kid := ⟨kids[i], by rw [List.getElem?_eq_getElem]⟩
        obtain ⟨e, he⟩ : ∃ e, ks[i]? = some e := ⟨ks[i]'(by omega), by rw [List.getElem?_eq_getElem]⟩
        rw [List.getElem?_map, List.getElem?_map, hc, he]
        simp only [Option.map_some]
        rw [(hks i e he css kid hc hkid).1]
      · rw [List.getElem?_eq_none (by simp; omega), List.getElem?_eq_none (by simp; omega)]
    rw [List.flatMap_def, List.flatMap_def, hm]
  rw [hfe] at hfl hone
  refine ⟨k, o, ks, hkx, hkl, hfl, hone, fun i e kid he hkid => ?_⟩
  obtain ⟨css, hc⟩ : ∃ css, l[i]? = some css := ⟨l[i]'(by have := (List.getElem?_eq_some_iff.1 hkid).1; omega), by rw [List.getElem?_eq_getElem]⟩
  have h1 := hks i e he css kid hc hkid
  have h2 := hrep i css kid hc hkid
  rw [h1.1] at h2
  exact ⟨h1.2, h2⟩
theorem own_turn1 {D : List Nat} {W w w' : World} {x : Nat × List Value} {b : Nat} {cs cs' : List Value} {L : List (Nat × List Value)} (hS : Own D W (x :: (b, cs) :: L) w) (hC : Own [b] w [(b, cs')] w') : Own D W (x :: (b, cs') :: L) w' :=
  hS.turn at1 hC.os hC.tape hC.output hC.size (fun k hk hne => hC.block k hk (by simpa using hne)) (hC.get at0)
theorem own_join {D : List Nat} {W w w' : World} {L X : List (Nat × List Value)} (hS : Own D W L w) (hX : Own [] w X w') : Own D W (L ++ X) w' where
  os := hX.os.trans hS.os
  tape := hX.tape.trans hS.tape
  output := hX.output.trans hS.output
  size := Nat.le_trans hS.size hX.size
  block := fun k hk hd => (hX.block k (Nat.lt_of_lt_of_le hk hS.size) List.not_mem_nil).trans (hS.block k hk hd)
  has := fun x hx => by
    rcases List.mem_append.1 hx with h | h
    · exact (hS.has x h).below hX.below
    · exact hX.has x h
  ge := fun x hx => by
    rcases List.mem_append.1 hx with h | h
    · exact hS.ge x h
    · exact .inr (Nat.le_trans hS.size ((hX.ge x h).resolve_left List.not_mem_nil))
  apart := by
    rw [List.map_append]
    refine List.nodup_append.2 ⟨hS.apart, hX.apart, fun a ha b hb he => ?_⟩
    obtain ⟨x, hx, rfl⟩ := List.mem_map.1 ha
    obtain ⟨y, hy, rfl⟩ := List.mem_map.1 hb
    have h1 := (hS.has x hx).lt
    have h2 := (hX.ge y hy).resolve_left List.not_mem_nil
    omega
theorem sl_pos {size n : Nat} {v : Value} {xs : List Value} {X : List (Nat × List Value)} (h : Sl size n v xs X) (hn : 0 < n) : ∃ b c junk, v = .slice (some ⟨b, 0, none⟩) n c ∧ X = [(b, xs ++ junk)] := by
  rcases h.2 with ⟨y, _, _, h0, _⟩ | ⟨b, c, junk, rfl, _, _, _, rfl⟩
  · omega
  · exact ⟨b, c, junk, rfl, rfl⟩
theorem cur_heads {ks cur : List El} {P : Nat → Prop} {f ht dt : Nat → Int} (h : PlX ks cur P f) (hk : ∀ i e, ks[i]? = some e → ht i = e.1.h ∧ dt i = e.1.d) : (∀ i e, cur[i]? = some e → ht i = e.1.h) ∧ (∀ i e, cur[i]? = some e → dt i = e.1.d) := by
  have hx : ∀ i e, cur[i]? = some e → ∃ e0 x, ks[i]? = some e0 ∧ e = elX x e0 := fun i e he => by
    have hi : i < ks.length := by rw [← h.1]; exact (List.getElem?_eq_some_iff.1 he).1
    obtain ⟨e0, h0⟩ : ∃ e0, ks[i]? = some e0 := ⟨ks[i], by rw [List.getElem?_eq_getElem]⟩
    obtain ⟨x, h1⟩ := h.at h0
    rw [he] at h1
    exact ⟨e0, x, h0, Option.some.inj h1⟩
  refine ⟨fun i e he => ?_, fun i e he => ?_⟩
  · obtain ⟨e0, x, h0, rfl⟩ := hx i e he
    exact (hk i e0 h0).1
  · obtain ⟨e0, x, h0, rfl⟩ := hx i e he
    exact (hk i e0 h0).2
theorem lines_calls2 (R C N : Nat) (ks : List El) (junk : List Value) (mb cp : Nat) (q : Int) (ht dt hh dd : Nat → Int) (w : World) (hm : Has w mb (ks.flatMap elC ++ junk)) (hN : N = R * C) (hkl : ks.length = N) (hC : 1 ≤ C) (hC' : C ≤ 16) (hR : 1 ≤ R) (hRC : N ≤ 256)
    (hht : ∀ i e, ks[i]? = some e → ht i = e.1.h) (hdt : ∀ i e, ks[i]? = some e → dt i = e.1.d) (e1 : hh = fun r => rowM (scl q 70) C ht r) (e2 : dd = fun r => rowM (scl q 30) C dt r) :
    Calls Try.prog 23 #[.slice (some ⟨mb, 0, none⟩) N cp, .int .i64 C, .int .i64 q] w (fun e w' => ∃ lb c junk2, e = .returned (.slice (some ⟨lb, 0, none⟩) R c) ∧ Own [] w [(lb, ((List.range R).map fun r => (hh r, dd r)).flatMap lineC ++ junk2)] w') := by
  refine (lines_calls R C N ks junk mb cp q ht dt w hm hN hkl hC hC' hRC hht hdt).mono ?_
  rintro e w' ⟨y, c, X, rfl, hX, hS⟩
  obtain ⟨b, c', junk2, he, rfl⟩ := sl_pos hX (by omega)
  rw [he]
  subst e1 e2
  exact ⟨b, c', junk2, rfl, hS⟩
theorem lines_at {R j : Nat} {hh dd : Nat → Int} {junk : List Value} (h : j < R) : (((((List.range R).map fun r => (hh r, dd r)).flatMap lineC) ++ junk).drop (j * 2)).take 2 = [.int .i64 (hh j), .int .i64 (dd j)] := by
  have hg : ∀ (l : List (Int × Int)) (j : Nat) (x : Int × Int), l[j]? = some x → ((l.flatMap lineC ++ junk).drop (j * 2)).take 2 = lineC x := by
    intro l
    induction l with
    | nil => intro j x h; simp at h
    | cons a l ih =>
      intro j x h
      cases j with
      | zero =>
        obtain rfl : a = x := by simpa using h
        simp [lineC]
      | succ j =>
        rw [show (j + 1) * 2 = j * 2 + 2 by omega, List.flatMap_cons, List.append_assoc, ← List.drop_drop]
        have := ih j x (by simpa using h)
        rw [← this]
        congr 1
        rw [List.drop_drop, Nat.add_comm, ← List.drop_drop]
        rfl
  exact hg _ j (hh j, dd j) (by simp [h])
theorem scl_small {q p : Int} (hq : 0 ≤ q ∧ q ≤ 20000) (hp : 0 ≤ p ∧ p ≤ 100) : 0 ≤ scl q p ∧ scl q p ≤ 2000000 := by
  have h1 := Int.mul_nonneg hq.1 hp.1
  have h2 := Int.mul_le_mul hq.2 hp.2 hp.1 (by omega : (0 : Int) ≤ 20000)
  rw [scl_ok (by omega) hp.1 (by omega)]
  have := rdiv_abs h1
  omega
theorem rowM_in {b : Int} {C : Nat} {f : Nat → Int} {r : Nat} (hb : 0 ≤ b ∧ b ≤ 2000000) (hf : ∀ i, f i ≤ 1073741824) : 0 ≤ rowM b C f r ∧ rowM b C f r ≤ 1073741824 :=
  ⟨Int.le_trans hb.1 mxs_ge, mxs_le (by omega) (fun n hn => by obtain ⟨j, _, rfl⟩ := List.mem_map.1 hn; exact hf _)⟩
theorem rowsS_in {hh dd : Nat → Int} (h1 : ∀ r, 0 ≤ hh r ∧ hh r ≤ 1073741824) (h2 : ∀ r, 0 ≤ dd r ∧ dd r ≤ 1073741824) (r : Nat) : 0 ≤ rowsS hh dd r ∧ rowsS hh dd r ≤ 2147483648 * r := by
  induction r with
  | zero => simp [rowsS]
  | succ r ih =>
    have := h1 r
    have := h2 r
    rw [rowsS]
    push_cast
    omega
theorem leaves_marks2 {P : Program} {n : Nat} {fn : Func} {tmps : Array Value} {R : Ending → World → Prop} {D : List Nat} {W : World} {L : List (Nat × List Value)} : ∀ (ds : List Deferred) (w : World), Own D W L w → Marks W w ds →
    (∀ w', Own D W L w' → (∀ k, (∀ d ∈ ds, d.target ≠ .collected k) → w'.heap[k]? = w.heap[k]?) → ∃ v, (results fn tmps).run P w' = .ok v w' ∧ R (.returned v) w') → LeavesInM Fence.wide n P fn tmps R ds .returning w := by
  intro ds
  induction ds with
  | nil =>
    intro w hS _ hend
    exact hend w hS (fun _ _ => rfl)
  | cons d ds ih =>
    intro w hS hM hend
    cases hM with
    | @cons r _ h1 h2 h3 h4 =>
      refine ⟨by simp, .inl ⟨_, _, rfl, run_takeDeferred h2, ih _ (hS.putObj _ h1 h2 rfl) (h4.keep fun r' hr hd => ?_) fun w' hS' hk => hend w' hS' fun k hkd => ?_⟩⟩
      · refine (World.putObj_heap_other ?_).trans hd
        rintro rfl
        obtain ⟨d, hd', he⟩ := hr
        exact h3 d hd' he
      · have hne : k ≠ r := fun e => hkd _ (List.mem_cons_self ..) (by rw [e])
        exact (hk k (fun d hd => hkd d (List.mem_cons_of_mem _ hd))).trans (World.putObj_heap_other hne)
theorem yAt_in {top g : Int} {hh dd : Nat → Int} (h1 : ∀ r, 0 ≤ hh r ∧ hh r ≤ 1073741824) (h2 : ∀ r, 0 ≤ dd r ∧ dd r ≤ 1073741824) (hg : 0 ≤ g ∧ g ≤ 2000000) (r : Nat) : yAt top g hh dd r ≤ top ∧ top - 2200000000 * r ≤ yAt top g hh dd r := by
  induction r with
  | zero => simp [yAt]
  | succ r ih =>
    have := h1 r
    have := h2 r
    rw [yAt]
    push_cast
    omega
theorem row_of {C j x : Nat} (h : x < C) : (j * C + x) / C = j := by
  rw [Nat.mul_comm, Nat.mul_add_div (by omega), Nat.div_eq_of_lt h, Nat.add_zero]
theorem row_all {C j i : Nat} (hC : 0 < C) : (∃ x ∈ List.finRange C, i = j * C + x.1) ↔ i / C = j := by
  constructor
  · rintro ⟨x, _, rfl⟩
    exact row_of x.2
  · intro hm
    have hd := Nat.div_add_mod i C
    refine ⟨⟨i % C, Nat.mod_lt _ hC⟩, List.mem_finRange _, ?_⟩
    rw [hm, Nat.mul_comm] at hd
    simp only
    omega
theorem Marks.ge {W w : World} {ds : List Deferred} (h : Marks W w ds) : ∀ d ∈ ds, ∀ r, d.target = .collected r → W.heap.size ≤ r := by
  induction h with
  | nil => intro d hd; cases hd
  | cons h1 h2 h3 h4 ih =>
    intro d hd r hr
    rcases List.mem_cons.1 hd with rfl | hd
    · cases hr
      exact h1
    · exact ih d hd r hr
theorem repP_marks {P : Nat → Prop} {w w' : World} {n : Nat} {b : Bx n} {cs : List Value} (h : RepP P w n b cs) (hk : ∀ k, P k → w'.heap[k]? = w.heap[k]?) : Rep w' n b cs :=
  (rep_keep2 (Q := P) (fun k hp _ => hk k hp) n b cs h).mono (fun _ _ _ => trivial) (fun _ _ => trivial)
/-- A box with a place, by its cells. -/
theorem rep_placed {w : World} {n : Nat} {kid : Bx (n + 1)} {e : El} {x y : Int} (he : e.1 = kid.1) {P : Nat → Prop} (h : RepP P w (n + 1) kid (elC e)) (hx : I64 x) (hy : I64 y) : RepP P w (n + 1) (atXY (n + 1) kid x y) (elC (elY y (elX x e))) := by
  obtain ⟨a, kv, sv⟩ := e
  obtain ⟨a', ks⟩ := kid
  obtain rfl : a = a' := he
  obtain ⟨kx, kc, sx, sc, hcs, hok, hlen, hrow, hso, hkids⟩ := h
  simp only [elC, Hd.cells, List.cons.injEq, and_true, true_and] at hcs
  obtain ⟨rfl, rfl⟩ : kv = .slice kx ks.length kc ∧ sv = .slice sx a.src.length sc := by
    refine ⟨?_, ?_⟩
    · exact hcs.1
    · exact hcs.2
  exact ⟨kx, kc, sx, sc, rfl, { hok with x := hx, y := hy }, hlen, hrow, hso, hkids⟩
/-- What array.Make gives. -/
def ArrPost (F : Fnt) (l : Int) (n C : Nat) (kids : List (Bx (n + 1))) (w : World) (e : Ending) (w' : World) : Prop :=
  (ArrFits F l n C kids ∧ validB (n + 2) (arrB F l n C kids) → GivesBE (n + 2) (arrB F l n C kids) 0 w e w') ∧ (¬ (ArrFits F l n C kids ∧ validB (n + 2) (arrB F l n C kids)) → ∀ m, GivesBE (m + 1) (zeroB m) 6 w e w')

set_option maxHeartbeats 32000000 in
set_option maxRecDepth 100000 in
theorem arrMake_main (F : Fnt) (l : Int) (c : Bool) (n R C N : Nat) (kids : List (Bx (n + 1))) (kx : Option Addr) (kc : Nat) (w : World) (hF : FntOk w F) (hk : RepL w (n + 1) kx kids) (hv : ValidF F) (hlv : lvlOk l = true) (hvs : ∀ k ∈ kids, validB (n + 1) k) (hN : N = R * C) (hkl : kids.length = N) (hC : 1 ≤ C) (hC' : C ≤ 16) (hR : 1 ≤ R) (hRC : N ≤ 256) :
    Calls Try.prog 10 #[F.val, .agg #[.int .i64 l, .bool c], .int .i64 C, .slice kx N kc] w (ArrPost F l n C kids w) := by
  have HPc := Lib.hid (fun w' (h : Below w.heap.size w w') => style_Percent_calls F l (sizeOf' F l) 0 c w' (hF.below h) ⟨fun _ => ⟨rfl, rfl⟩, fun h => h.elim (fun h => by rw [hlv] at h; cases h) (fun h => absurd hv h)⟩)
  have hpos : 0 < N := by rw [hN]; exact Nat.mul_pos hR hC
  obtain ⟨kb, ko, ks, rfl, hksl, hfl, hone, hks⟩ := repL_els hk (fun h => by rw [h] at hkl; simp at hkl; omega)
  have hp := prm_quad hv
  obtain ⟨q, hqe⟩ : ∃ q, q = scl F.quad (sizeOf' F l) := ⟨_, rfl⟩
  have hq : 0 ≤ q ∧ q ≤ 20000 := by have := par_in (l := l) hv hp.1.1 hp.1.2; unfold par at this; rw [hqe]; omega
  obtain ⟨wd, hwd⟩ : ∃ wd, wd = kW kids := ⟨_, rfl⟩
  have hww : ∀ i, -1073741824 ≤ wd i ∧ wd i ≤ 1073741824 := fun i => by
    rw [hwd]
    unfold kW
    cases hki : kids[i]? with
    | none => simp
    | some k => have := (validB_nums (hvs k (List.mem_of_getElem? hki))).1; simpa using this
  have HKw := Lib.hid (show ∀ i e, ks[i]? = some e → wd i = e.1.w from fun i e he => by
    obtain ⟨kid, hkid⟩ : ∃ kid, kids[i]? = some kid := ⟨kids[i]'(by have := (List.getElem?_eq_some_iff.1 he).1; omega), by rw [List.getElem?_eq_getElem]⟩
    rw [hwd, kW_at hkid, (hks i e kid he hkid).1])
  have HKh := Lib.hid (show ∀ i e, ks[i]? = some e → kH kids i = e.1.h ∧ kD kids i = e.1.d from fun i e he => by
    obtain ⟨kid, hkid⟩ : ∃ kid, kids[i]? = some kid := ⟨kids[i]'(by have := (List.getElem?_eq_some_iff.1 he).1; omega), by rw [List.getElem?_eq_getElem]⟩
    rw [kH_at hkid, kD_at hkid, (hks i e kid he hkid).1]
    exact ⟨rfl, rfl⟩)
  obtain ⟨hh, hhh⟩ : ∃ hh, hh = fun r => rowM (scl q 70) C (kH kids) r := ⟨_, rfl⟩
  obtain ⟨dd, hdd⟩ : ∃ dd, dd = fun r => rowM (scl q 30) C (kD kids) r := ⟨_, rfl⟩
  have hhi : ∀ r, 0 ≤ hh r ∧ hh r ≤ 1073741824 := fun r => by
    rw [hhh]
    refine rowM_in (scl_small hq (by omega)) (fun i => ?_)
    unfold kH
    cases hki : kids[i]? with
    | none => simp
    | some k => have := (validB_nums (hvs k (List.mem_of_getElem? hki))).2.1; simpa using this.2
  have hdi : ∀ r, 0 ≤ dd r ∧ dd r ≤ 1073741824 := fun r => by
    rw [hdd]
    refine rowM_in (scl_small hq (by omega)) (fun i => ?_)
    unfold kD
    cases hki : kids[i]? with
    | none => simp
    | some k => have := (validB_nums (hvs k (List.mem_of_getElem? hki))).2.2.1; simpa using this.2
  have HRb := Lib.hid (rowsS_in hhi hdi)
  have HHd := Lib.hid (And.intro hhh hdd)
  have HHi := Lib.hid (And.intro hhi hdi)
  have HN := Lib.hid hN
  have HKs := Lib.hid (And.intro (hksl.trans hkl) hks)
  have HFl := Lib.hid hfl
  have HVs := Lib.hid hvs
  have HVF := Lib.hid (And.intro hv hlv)
  have HKL := Lib.hid hkl
  have HWd := Lib.hid hwd
  have HF := Lib.hid hF
  have HK := Lib.hid hk
  have HQe := Lib.hid hqe
  have hll : (ks.flatMap elC).length = N * 11 := by rw [flat_size, hksl, hkl]
  have hflat := hfl
  have hb1 : N ≤ 140737488355328 := by omega
  have hb2 : N * 128 ≤ 140737488355328 := by omega
  have tokfb : True := trivial
  have toksb : True := trivial
  have tokrb : True := trivial
  have tokmv : True := trivial
  have tokyb : True := trivial
  have tokvb : True := trivial
  have tokbb : True := trivial
  clear hN hks hfl hvs hv hlv hkl hwd hF hk hone hksl hp hqe hhh hdd hhi hdi
  refine calls_of_marks Try.func10 rfl ?_
  simp only [Try.ntmps10, List.size_toArray, List.length_cons, List.length_nil, Nat.reduceAdd, Nat.reduceSub, Array.replicate_succ, Array.replicate_zero, List.push_toArray, List.append_toArray, List.nil_append, List.cons_append]
  have hS := own_start w
  go_wp2_with (first | (refine own_unguard (by rfl) ?_) | (have _t := tokfb; refine own_box rfl _ _ rfl rfl hS ?_; clear hS tokfb; (try clear ww); intro fb ww hS) | (have _t := toksb; refine own_box rfl _ _ rfl rfl hS ?_; clear hS toksb; (try clear ww); intro sb ww hS) | (have _t := tokrb; refine own_alloc rfl _ rfl hS zt_box ?_; clear hS tokrb; (try clear ww); intro rb ww hS) | (go_at_call 19; refine own_calls hS (HPc.out _ hS.below) ?_; clear hS; (try clear ww); intro ww hS) | (refine w_ld rfl _ rfl (by rfl) (by first | exact rd_1 (by repeat constructor) (by first | rfl | assumption) | exact rd_w (by repeat constructor) (by rfl) | exact rd_o (by assumption) (by rfl) (by first | exact nmn | assumption | simp) | exact rd_h (by assumption) (by rfl) (by first | exact nmn | assumption | simp) | exact rd_1o (by assumption) (by first | exact nmn | assumption | simp) | exact rd_1h (by assumption) (by first | rfl | assumption) (by first | exact nmn | assumption | simp)) hS ?_) | (refine own_box rfl _ _ rfl (by rfl) hS ?_; clear hS; (try clear ww); intro bb ww hS) | (refine w_al rfl rfl hS ?_; clear hS; (try clear ww); intro bb ww hS) | (refine w_st rfl _ _ rfl (by rfl) (by rfl) (by repeat constructor) (by rfl) (by rfl) (by first | rfl | assumption) hS ?_; clear hS; (try clear ww); intro ww hS) | (refine w_s1 rfl _ _ rfl (by rfl) (by repeat constructor) (by first | exact .c | exact .t rfl) (by rfl) (by repeat constructor) hS ?_; clear hS; (try clear ww); intro ww hS))
  go_loopw [40] (fun i wr => ∃ j : Nat, j ≤ N ∧ i = .int .i64 j ∧ Own [] w [(rb, [.int .i64 0, .string ⟨#[]⟩, .int .i64 0, .int .i64 0, .int .i64 0, .int .i64 0, .int .i64 0, .int .i64 0, .slice none 0 0, .int .i64 0, .slice none 0 0]), (sb, [.int .i64 l, .bool c]), (fb, F.cells)] wr) (fun i _ => N - (intOf i).toNat)
  case atStart => exact ⟨0, Nat.zero_le _, rfl, hS⟩
  case round =>
    clear hS
    obtain ⟨j, hj, rfl, hS⟩ := hrel
    by_cases hlt : j < N
    · obtain ⟨kid, hkid⟩ : ∃ q, kids[j]? = some q := ⟨kids[j]'(by rw [HKL.out]; exact hlt), by rw [List.getElem?_eq_getElem]⟩
      obtain ⟨kb', ko', css, hke, hrg, hrep⟩ := HK.out j kid hkid
      obtain ⟨rfl, rfl⟩ : kb = kb' ∧ ko = ko' := by simpa using hke
      obtain ⟨c0, c1, c2, c3, c4, c5, c6, c7, c8, c9, c10, rfl⟩ := eleven hrep.len
      have hall := rep_all hrep
      have HV := Lib.hid (fun w' (h : Below w.heap.size w w') => box_Valid_calls (n + 1) kid _ w' (hrep.step h) hrep.wide _ (iff_t (HVs.out kid (List.mem_of_getElem? hkid))))
      clear hrep hkid
      go_wp2_with (first | (refine own_unguard (by rfl) ?_) | (go_at_call 20; refine own_calls hS (HV.out _ hS.below) ?_; clear hS; (try clear ww); intro ww hS) | (refine w_ld rfl _ rfl (by rfl) (by first | exact rd_1 (by repeat constructor) (by first | rfl | assumption) | exact rd_w (by repeat constructor) (by rfl) | exact rd_o (by assumption) (by rfl) (by first | exact nmn | assumption | simp) | exact rd_h (by assumption) (by rfl) (by first | exact nmn | assumption | simp) | exact rd_1o (by assumption) (by first | exact nmn | assumption | simp) | exact rd_1h (by assumption) (by first | rfl | assumption) (by first | exact nmn | assumption | simp)) hS ?_) | (refine own_box rfl _ _ rfl (by rfl) hS ?_; clear hS; (try clear ww); intro bb ww hS) | (refine w_al rfl rfl hS ?_; clear hS; (try clear ww); intro bb ww hS) | (refine w_st rfl _ _ rfl (by rfl) (by rfl) (by repeat constructor) (by rfl) (by rfl) (by first | rfl | assumption) hS ?_; clear hS; (try clear ww); intro ww hS) | (refine w_s1 rfl _ _ rfl (by rfl) (by repeat constructor) (by first | exact .c | exact .t rfl) (by rfl) (by repeat constructor) hS ?_; clear hS; (try clear ww); intro ww hS))
      go_roundw
      case rel => exact ⟨j + 1, hlt, by go_num, hS.forget (by simp)⟩
      case measure => exact loop_meas hlt
    · obtain rfl : N = j := by omega
      have d1 : decide ((C : Int) < 1) = false := decide_eq_false (by omega)
      have d2 : decide (16 < (C : Int)) = false := decide_eq_false (by omega)
      have d3 : decide ((N : Int) < 1) = false := decide_eq_false (by omega)
      have e3 : ¬ N = 0 := by omega
      have d4 : decide (256 < (N : Int)) = false := decide_eq_false (by omega)
      have d5 : ((N : Int).tmod (C : Int) == 0) = true := by
        rw [Int.tmod_eq_emod_of_nonneg (by omega), HN.out]
        push_cast
        simp
      have d6 : (C : Int) ≠ 0 := by omega
      have d7 : (N : Int) % (C : Int) = 0 := by
        rw [HN.out]
        push_cast
        simp
      obtain ⟨g, hg⟩ : ∃ g, g = scl q 20 := ⟨_, rfl⟩
      obtain ⟨ax, hax⟩ : ∃ g, g = scl F.axis (sizeOf' F l) := ⟨_, rfl⟩
      have HSq := Lib.hid (fun w' => show Calls Try.prog 21 #[.int .i64 F.quad, .int .i64 (sizeOf' F l)] w' (Gives (.int .i64 q) w') by rw [HQe.out]; exact length_Scale_gives _ _ _)
      have HSg := Lib.hid (fun w' => show Calls Try.prog 21 #[.int .i64 q, .int .i64 20] w' (Gives (.int .i64 g) w') by rw [hg]; exact length_Scale_gives _ _ _)
      have HSa := Lib.hid (fun w' => show Calls Try.prog 21 #[.int .i64 F.axis, .int .i64 (sizeOf' F l)] w' (Gives (.int .i64 ax) w') by rw [hax]; exact length_Scale_gives _ _ _)
      have HG := Lib.hid hg
      have HAx := Lib.hid hax
      clear hg hax
      obtain ⟨rm, hrm⟩ : ∃ z : Int, z = (R : Int) - 1 := ⟨_, rfl⟩
      obtain ⟨t0, ht0⟩ : ∃ z : Int, z = rm * g := ⟨_, rfl⟩
      have hgb := scl_small (p := 20) hq (by omega)
      rw [← HG.out] at hgb
      have hR256 : R ≤ 256 := by
        have := Nat.le_mul_of_pos_right R (Nat.lt_of_lt_of_le Nat.zero_lt_one hC)
        rw [← HN.out] at this
        omega
      have ht0b : 0 ≤ t0 ∧ t0 ≤ 1000000000 := by
        have h1 : 0 ≤ rm := by omega
        have h2 := Int.mul_nonneg h1 hgb.1
        have h3 := Int.mul_le_mul (show rm ≤ 256 by omega) hgb.2 hgb.1 (by omega : (0 : Int) ≤ 256)
        omega
      have i1 : IntKind.i64.wrap ((R : Int) - 1) = rm := by rw [hrm]; exact IntWalk.i64_in _ (by omega)
      have i2 : IntKind.i64.wrap (rm * g) = t0 := by rw [ht0]; exact IntWalk.i64_in _ (by omega)
      have HT0 := Lib.hid (And.intro hrm ht0)
      clear hrm ht0
      go_wp2_with (first | (refine own_unguard (by rfl) ?_) | (go_at_call 21; refine own_calls hS (by first | exact HSq.out _ | exact HSg.out _ | exact HSa.out _) ?_; clear hS; (try clear ww); intro ww hS) | (refine own_append_nil rfl _ _ _ rfl rfl rfl hS hflat nmn el_box hll hpos hb1 hb2 ?_; clear hS; (try clear ww); intro mb cp junk ww hS hcp) | (have _t := tokmv; refine own_alloc rfl _ rfl hS zt_boxs ?_; clear hS tokmv; (try clear ww); intro mv ww hS) | (go_at_call 22; refine Calls.mono (columns_calls R C N ks junk mb cp q wd _ (hS.get at1) HN.out HKs.out.1 hC hC' hR hRC HKw.out hww hq) ?_; rintro e w1 ⟨cur, P, f, b, E, rfl, hPl, hCl, hbt, hbf⟩; have hS1 := own_turn1 hS hCl; clear hS hCl; have hS := hS1; clear hS1; have HCh := Lib.hid (cur_heads hPl HKh.out); have HCl := Lib.hid (hPl.1.trans HKs.out.1); have HPl := Lib.hid hPl; have HBt := Lib.hid hbt; have HBf := Lib.hid hbf; clear hPl hbt hbf) | (go_at_call 23; refine Calls.mono (lines_calls2 R C N cur junk mb cp q (kH kids) (kD kids) hh dd _ (hS.get at1) HN.out HCl.out hC hC' hR hRC HCh.out.1 HCh.out.2 HHd.out.1 HHd.out.2) ?_; rintro e w1 ⟨lb, cl, junk2, rfl, hXS⟩; have hS1 := own_join hS hXS; clear hS hXS; have hS := hS1; clear hS1; simp only [List.cons_append, List.nil_append] at hS) | (refine w_ld rfl _ rfl (by rfl) (by first | exact rd_1 (by repeat constructor) (by first | rfl | assumption) | exact rd_w (by repeat constructor) (by rfl) | exact rd_o (by assumption) (by rfl) (by first | exact nmn | assumption | simp) | exact rd_h (by assumption) (by rfl) (by first | exact nmn | assumption | simp) | exact rd_1o (by assumption) (by first | exact nmn | assumption | simp) | exact rd_1h (by assumption) (by first | rfl | assumption) (by first | exact nmn | assumption | simp)) hS ?_) | (refine own_box rfl _ _ rfl (by rfl) hS ?_; clear hS; (try clear ww); intro bb ww hS) | (refine w_al rfl rfl hS ?_; clear hS; (try clear ww); intro bb ww hS) | (refine w_st rfl _ _ rfl (by rfl) (by rfl) (by repeat constructor) (by rfl) (by rfl) (by first | rfl | assumption) hS ?_; clear hS; (try clear ww); intro ww hS) | (refine w_s1 rfl _ _ rfl (by rfl) (by repeat constructor) (by first | exact .c | exact .t rfl) (by rfl) (by repeat constructor) hS ?_; clear hS; (try clear ww); intro ww hS))
      go_loopw [20, 100] (fun t i wr => ∃ j : Nat, j ≤ R ∧ i = .int .i64 j ∧ t = .int .i64 (t0 + rowsS hh dd j) ∧ Own [] w [(mv, [.slice (some ⟨mb, 0, none⟩) N cp]), (mb, cur.flatMap elC ++ junk), (rb, [.int .i64 0, .string ⟨#[]⟩, .int .i64 0, .int .i64 0, .int .i64 0, .int .i64 0, .int .i64 0, .int .i64 0, .slice none 0 0, .int .i64 0, .slice none 0 0]), (sb, [.int .i64 l, .bool c]), (fb, F.cells), (lb, ((List.range R).map fun r => (hh r, dd r)).flatMap lineC ++ junk2)] wr) (fun _ i _ => R - (intOf i).toNat)
      case atStart => exact ⟨0, Nat.zero_le _, rfl, by simp [rowsS], hS⟩
      case round =>
        clear hS
        obtain ⟨j, hj, rfl, rfl, hS⟩ := hrel
        have hrb := HRb.out j
        by_cases hjl : j < R
        · have hcs := lines_at (hh := hh) (dd := dd) (junk := junk2) hjl
          have h1 := HHi.out.1 j
          have h2 := HHi.out.2 j
          obtain ⟨hd, hhd⟩ : ∃ z, z = hh j + dd j := ⟨_, rfl⟩
          have i3 : IntKind.i64.wrap (hh j + dd j) = hd := by rw [hhd]; exact IntWalk.i64_in _ (by omega)
          have i4 : IntKind.i64.wrap (t0 + rowsS hh dd j + hd) = t0 + rowsS hh dd (j + 1) := by
            rw [show t0 + rowsS hh dd (j + 1) = t0 + rowsS hh dd j + hd by rw [rowsS, hhd]; omega]
            exact IntWalk.i64_in _ (by omega)
          clear hhd hrb h1 h2
          go_wp2_with (first | (refine own_unguard (by rfl) ?_) | (refine own_load_sub (i := j * 2) (b := lb) (cs' := [.int .i64 (hh j), .int .i64 (dd j)]) rfl _ _ rfl (by rfl) hS at5 hcs rt_line ?_) | (refine w_ld rfl _ rfl (by rfl) (by first | exact rd_1 (by repeat constructor) (by first | rfl | assumption) | exact rd_w (by repeat constructor) (by rfl) | exact rd_o (by assumption) (by rfl) (by first | exact nmn | assumption | simp) | exact rd_h (by assumption) (by rfl) (by first | exact nmn | assumption | simp) | exact rd_1o (by assumption) (by first | exact nmn | assumption | simp) | exact rd_1h (by assumption) (by first | rfl | assumption) (by first | exact nmn | assumption | simp)) hS ?_) | (refine own_box rfl _ _ rfl (by rfl) hS ?_; clear hS; (try clear ww); intro bb ww hS) | (refine w_al rfl rfl hS ?_; clear hS; (try clear ww); intro bb ww hS) | (refine w_st rfl _ _ rfl (by rfl) (by rfl) (by repeat constructor) (by rfl) (by rfl) (by first | rfl | assumption) hS ?_; clear hS; (try clear ww); intro ww hS) | (refine w_s1 rfl _ _ rfl (by rfl) (by repeat constructor) (by first | exact .c | exact .t rfl) (by rfl) (by repeat constructor) hS ?_; clear hS; (try clear ww); intro ww hS))
          go_roundw
          case rel => exact ⟨j + 1, hjl, by go_num, rfl, hS.forget (by simp)⟩
          case measure => exact loop_meas hjl
        · obtain rfl : R = j := by omega
          obtain ⟨T, hT⟩ : ∃ z, z = t0 + rowsS hh dd R := ⟨_, rfl⟩
          have HLv := Lib.hid (fun w' => length_Valid_gives T w')
          have HT := Lib.hid hT
          rw [← hT]
          have htb : 0 ≤ T ∧ T ≤ 600000000000 := by omega
          clear hT hrb
          have hdiv : kids.length / C = R := by rw [HKL.out, HN.out, Nat.mul_div_cancel _ (by omega)]
          have HArr := Lib.hid (show arrT F l n C kids = T by
            unfold arrT
            rw [hdiv, HT.out, HT0.out.2, HT0.out.1, HG.out, Int.mul_comm]
            have e1 : arrQ F l = q := by rw [HQe.out]; rfl
            have e2 : arrH F l n C kids = hh := by rw [HHd.out.1]; funext r; unfold arrH rowH; rw [e1]
            have e3 : arrD F l n C kids = dd := by rw [HHd.out.2]; funext r; unfold arrD rowD; rw [e1]
            rw [e1, e2, e3])
          by_cases hok : b = true ∧ lenOk T = true
          · obtain ⟨rfl, hlT⟩ := hok
            obtain ⟨hco, hE, hPa, rfl⟩ := HBt.out rfl
            have HE := Lib.hid (And.intro hco hE)
            have HPa := Lib.hid hPa
            have hax := (par_in (l := l) HVF.out.1 (prm_quad HVF.out.1).2.1 (prm_quad HVF.out.1).2.2)
            have hax2 := (prm_quad HVF.out.1).2
            unfold par at hax
            rw [← HAx.out] at hax
            have hthb := hlf_abs (n := T)
            obtain ⟨th, hth⟩ : ∃ z, z = hlf T := ⟨_, rfl⟩
            have HTh := Lib.hid (fun w' => show Calls Try.prog 25 #[.int .i64 T] w' (Gives (.int .i64 th) w') by rw [hth]; exact length_Half_gives T w')
            rw [← hth] at hthb
            obtain ⟨top, htop⟩ : ∃ z, z = ax + th := ⟨_, rfl⟩
            have htb2 : -2147483648 ≤ top ∧ top ≤ 2147483648 := by omega
            have i5 : IntKind.i64.wrap (ax + th) = top := by rw [htop]; exact IntWalk.i64_in _ (by omega)
            have HTp := Lib.hid (show top = ax + hlf T by rw [htop, hth])
            obtain ⟨yf, hyf⟩ : ∃ yf : Nat → Int, yf = fun i => yAt top g hh dd (i / C) - hh (i / C) := ⟨_, rfl⟩
            have HYf := Lib.hid hyf
            have HYb := Lib.hid (yAt_in (top := top) (g := g) HHi.out.1 HHi.out.2 (by omega))
            clear hco hE hPa hax hax2 hthb hth htop hyf
            go_wp2_with (first | (refine own_unguard (by rfl) ?_) | (go_at_call 21; refine own_calls hS (by first | exact HSq.out _ | exact HSg.out _ | exact HSa.out _) ?_; clear hS; (try clear ww); intro ww hS) | (go_at_call 25; refine own_calls hS (HTh.out _) ?_; clear hS; (try clear ww); intro ww hS) | (go_at_call 24; refine own_calls hS (HLv.out _) ?_; clear hS; (try clear ww); intro ww hS) | (have _t := tokyb; refine own_alloc rfl _ rfl hS zt_int ?_; clear hS tokyb; (try clear ww); intro yb ww hS) | (refine w_ld rfl _ rfl (by rfl) (by first | exact rd_1 (by repeat constructor) (by first | rfl | assumption) | exact rd_w (by repeat constructor) (by rfl) | exact rd_o (by assumption) (by rfl) (by first | exact nmn | assumption | simp) | exact rd_h (by assumption) (by rfl) (by first | exact nmn | assumption | simp) | exact rd_1o (by assumption) (by first | exact nmn | assumption | simp) | exact rd_1h (by assumption) (by first | rfl | assumption) (by first | exact nmn | assumption | simp)) hS ?_) | (refine own_box rfl _ _ rfl (by rfl) hS ?_; clear hS; (try clear ww); intro bb ww hS) | (refine w_al rfl rfl hS ?_; clear hS; (try clear ww); intro bb ww hS) | (refine w_st rfl _ _ rfl (by rfl) (by rfl) (by repeat constructor) (by rfl) (by rfl) (by first | rfl | assumption) hS ?_; clear hS; (try clear ww); intro ww hS) | (refine w_s1 rfl _ _ rfl (by rfl) (by repeat constructor) (by first | exact .c | exact .t rfl) (by rfl) (by repeat constructor) hS ?_; clear hS; (try clear ww); intro ww hS))
            refine wp_loop (fun a wr => ∃ (j : Nat) (cur2 : List El) (us : Nat → Value) (ds : List Deferred), j ≤ R ∧ Hid (PlY cur cur2 (fun i => i / C < j) yf) ∧ Own [] w ((yb, [.int .i64 (yAt top g hh dd j)]) :: [(mv, [.slice (some ⟨mb, 0, none⟩) N cp]), (mb, cur2.flatMap elC ++ junk), (rb, [.int .i64 0, .string ⟨#[]⟩, .int .i64 0, .int .i64 0, .int .i64 0, .int .i64 0, .int .i64 0, .int .i64 0, .slice none 0 0, .int .i64 0, .slice none 0 0]), (sb, [.int .i64 l, .bool c]), (fb, F.cells), (lb, ((List.range R).map fun r => (hh r, dd r)).flatMap lineC ++ junk2)]) wr ∧ Hid (Marks w wr ds) ∧ a = { tmps := List.toArray (α := Value) (F.val :: .agg #[.int .i64 l, .bool c] :: .int .i64 C :: .slice (some ⟨kb, ko, none⟩) N kc :: .pointer (some ⟨fb, 0, none⟩) :: .pointer (some ⟨sb, 0, none⟩) :: us 6 :: us 7 :: .pointer (some ⟨rb, 0, none⟩) :: us 9 :: us 10 :: us 11 :: us 12 :: us 13 :: .int .i64 q :: .int .i64 g :: .pointer (some ⟨mv, 0, none⟩) :: .int .i64 E :: us 18 :: us 19 :: .int .i64 T :: us 21 :: us 22 :: .int .i64 top :: .pointer (some ⟨yb, 0, none⟩) :: us 25 :: us 26 :: us 27 :: us 28 :: us 29 :: us 30 :: us 31 :: us 32 :: us 33 :: us 34 :: us 35 :: us 36 :: us 37 :: us 38 :: us 39 :: us 40 :: us 41 :: us 42 :: us 43 :: us 44 :: us 45 :: us 46 :: us 47 :: us 48 :: us 49 :: us 50 :: us 51 :: us 52 :: us 53 :: us 54 :: us 55 :: us 56 :: us 57 :: us 58 :: us 59 :: us 60 :: us 61 :: us 62 :: us 63 :: us 64 :: us 65 :: us 66 :: us 67 :: us 68 :: us 69 :: us 70 :: us 71 :: us 72 :: us 73 :: us 74 :: us 75 :: us 76 :: us 77 :: us 78 :: us 79 :: us 80 :: us 81 :: us 82 :: us 83 :: us 84 :: us 85 :: us 86 :: us 87 :: us 88 :: us 89 :: us 90 :: us 91 :: us 92 :: us 93 :: us 94 :: us 95 :: us 96 :: us 97 :: us 98 :: us 99 :: us 100 :: us 101 :: us 102 :: us 103 :: us 104 :: us 105 :: us 106 :: us 107 :: us 108 :: us 109 :: us 110 :: us 111 :: us 112 :: us 113 :: us 114 :: us 115 :: us 116 :: us 117 :: us 118 :: us 119 :: us 120 :: us 121 :: us 122 :: us 123 :: us 124 :: us 125 :: us 126 :: us 127 :: us 128 :: .slice (some ⟨lb, 0, none⟩) R cl :: .int .i64 R :: .int .i64 j :: us 132 :: us 133 :: us 134 :: us 135 :: us 136 :: us 137 :: us 138 :: us 139 :: us 140 :: us 141 :: us 142 :: us 143 :: us 144 :: us 145 :: us 146 :: us 147 :: us 148 :: us 149 :: us 150 :: us 151 :: us 152 :: us 153 :: us 154 :: us 155 :: us 156 :: us 157 :: us 158 :: us 159 :: us 160 :: us 161 :: us 162 :: us 163 :: us 164 :: us 165 :: us 166 :: us 167 :: us 168 :: us 169 :: us 170 :: us 171 :: us 172 :: us 173 :: us 174 :: []), defers := ds }) (fun a _ => R - (intOf (a.tmps.getD 131 undef)).toNat) ?_ ?_
            · generalize hA' : Act.mk _ _ = a'
              refine ⟨0, cur, fun i => a'.tmps.getD i undef, [], Nat.zero_le _, Lib.hid (plY_start (fun i h => absurd h (Nat.not_lt_zero _))), hS, Lib.hid .nil, ?_⟩
              subst hA'
              rfl
            · clear hS
              rintro a wr ⟨j, cur2, us, ds, hj, HPY, hA, HM, rfl⟩
              obtain ⟨DD, HDD, hS⟩ := hA.rebaseN
              have HA := Lib.hid hA
              clear hA
              by_cases hlt : j < R
              · have d1 : decide ((j : Int) < (R : Int)) = true := decide_eq_true (by omega)
                have hcs := lines_at (hh := hh) (dd := dd) (junk := junk2) hlt
                obtain ⟨f, hf⟩ : ∃ f : Nat, f = j * C := ⟨_, rfl⟩
                have hfN : f + C ≤ N := by
                  have := Nat.mul_le_mul_right C (Nat.succ_le_of_lt hlt)
                  rw [HN.out, hf]
                  rw [Nat.succ_mul] at this
                  exact this
                obtain ⟨e2, he2⟩ : ∃ e2 : Nat, e2 = f + C := ⟨_, rfl⟩
                have i6 : IntKind.i64.wrap ((j : Int) * (C : Int)) = (f : Int) := by
                  rw [show (j : Int) * (C : Int) = (f : Int) by rw [hf]; push_cast; rfl]
                  exact IntWalk.i64_in _ (by omega)
                have i7 : IntKind.i64.wrap ((j : Int) + 1) = (j : Int) + 1 := IntWalk.i64_in _ (by omega)
                have i8 : IntKind.i64.wrap (((j : Int) + 1) * (C : Int)) = (e2 : Int) := by
                  rw [show ((j : Int) + 1) * (C : Int) = (e2 : Int) by rw [he2, hf]; push_cast; rw [Int.add_mul]; omega]
                  exact IntWalk.i64_in _ (by omega)
                have HF2 := Lib.hid (And.intro hf he2)
                have he2N : e2 ≤ N := by omega
                clear hf he2
                go_wp2_with (first | (refine own_unguard (by rfl) ?_) | (refine own_load_sub (i := j * 2) (b := lb) (cs' := [.int .i64 (hh j), .int .i64 (dd j)]) rfl _ _ rfl (by rfl) hS at6 hcs rt_line ?_) | (have _t := tokvb; refine own_alloc rfl _ rfl hS zt_line ?_; clear hS tokvb; (try clear ww); intro vb ww hS) | (go_at_call 26; refine Calls.mono (every_calls _ _ _ _) ?_; rintro e w1 ⟨k0, k1, k2, rfl, hE⟩; have HQ := Lib.hid (And.intro hS hE); have hS1 := hS.step hE.below; clear hS hE; have hS := hS1; clear hS1) | (refine w_ld rfl _ rfl (by rfl) (by first | exact rd_1 (by repeat constructor) (by first | rfl | assumption) | exact rd_w (by repeat constructor) (by rfl) | exact rd_o (by assumption) (by rfl) (by first | exact nmn | assumption | simp) | exact rd_h (by assumption) (by rfl) (by first | exact nmn | assumption | simp) | exact rd_1o (by assumption) (by first | exact nmn | assumption | simp) | exact rd_1h (by assumption) (by first | rfl | assumption) (by first | exact nmn | assumption | simp)) hS ?_) | (refine own_box rfl _ _ rfl (by rfl) hS ?_; clear hS; (try clear ww); intro bb ww hS) | (refine w_al rfl rfl hS ?_; clear hS; (try clear ww); intro bb ww hS) | (refine w_st rfl _ _ rfl (by rfl) (by rfl) (by repeat constructor) (by rfl) (by rfl) (by first | rfl | assumption) hS ?_; clear hS; (try clear ww); intro ww hS) | (refine w_s1 rfl _ _ rfl (by rfl) (by repeat constructor) (by first | exact .c | exact .t rfl) (by rfl) (by repeat constructor) hS ?_; clear hS; (try clear ww); intro ww hS))
                have hyb := HYb.out j
                have h1 := HHi.out.1 j
                have h2 := HHi.out.2 j
                have htb2' : -2147483648 ≤ top ∧ top ≤ 2147483648 := htb2
                obtain ⟨yv, hyv⟩ : ∃ z, z = yAt top g hh dd j - hh j := ⟨_, rfl⟩
                have i9 : IntKind.i64.wrap (yAt top g hh dd j - hh j) = yv := by rw [hyv]; exact IntWalk.i64_in _ (by omega)
                obtain ⟨hd, hhd⟩ : ∃ z, z = hh j + dd j := ⟨_, rfl⟩
                have i10 : IntKind.i64.wrap (hh j + dd j) = hd := by rw [hhd]; exact IntWalk.i64_in _ (by omega)
                obtain ⟨hg2, hhg⟩ : ∃ z, z = hd + g := ⟨_, rfl⟩
                have i11 : IntKind.i64.wrap (hd + g) = hg2 := by rw [hhg]; exact IntWalk.i64_in _ (by omega)
                have i12 : IntKind.i64.wrap (yAt top g hh dd j - hg2) = yAt top g hh dd (j + 1) := by
                  rw [show yAt top g hh dd (j + 1) = yAt top g hh dd j - hg2 by rw [yAt, hhg, hhd]]
                  exact IntWalk.i64_in _ (by omega)
                have HYv := Lib.hid (show ∀ i, i / C = j → yf i = yv from fun i hi => by rw [HYf.out]; simp only; rw [hi, hyv])
                clear hyb h1 h2 htb2' hyv hhd hhg
                refine wp_range (α := Fin C) (KB := [k2, k1, k0]) (Rl := fun pre L' => ∃ cur3, PlY cur cur3 (fun i => i / C < j ∨ ∃ x ∈ pre, i = f + x.1) yf ∧ L' = (vb, [.int .i64 (hh j), .int .i64 (dd j)]) :: (yb, [.int .i64 (yAt top g hh dd j)]) :: [(mv, [.slice (some ⟨mb, 0, none⟩) N cp]), (mb, cur3.flatMap elC ++ junk), (rb, [.int .i64 0, .string ⟨#[]⟩, .int .i64 0, .int .i64 0, .int .i64 0, .int .i64 0, .int .i64 0, .int .i64 0, .slice none 0 0, .int .i64 0, .slice none 0 0]), (sb, [.int .i64 l, .bool c]), (fb, F.cells), (lb, ((List.range R).map fun r => (hh r, dd r)).flatMap lineC ++ junk2)]) (Rx := fun _ _ _ => False) hS ⟨cur2, HPY.out.iff (fun i _ => by simp), rfl⟩ (own_off HQ.out.1 HQ.out.2) (fun k hk => own_keys HQ.out.2 k hk) rfl (enters_of Try.func46 (by kernel_rfl) rfl)
                  (every_stops k0 k1 k2 f e2 1 C 8 w1 (HQ.out.2.get at2) (HQ.out.2.get at1) (HQ.out.2.get at0) (by decide) (fun j => by rw [HF2.out.2]; omega) (by omega) (by decide)) (fun _ => rfl) ?a1 ?assign ?body ?done ?stop
                case assign =>
                  intro l x W K hK
                  gi_wp2
                  exact hK
                case stop =>
                  rintro M c' pre W L' hM _ h _
                  exact h.elim
                case body =>
                  rintro l' pre x W L' hl hr hS' ⟨cur3, hPY3, rfl⟩ hlen
                  obtain ⟨D2, HD2, hS⟩ := hS'.rebaseN
                  obtain ⟨i, hi⟩ : ∃ i : Nat, i = f + x.1 := ⟨_, rfl⟩
                  have hcast : (f : Int) + (x.1 : Int) * ((1 : Nat) : Int) = (i : Int) := by rw [hi]; push_cast; omega
                  have hcast2 : (f : Int) + (x.1 : Int) * 1 = (i : Int) := by rw [hi]; push_cast; omega
                  have hcast3 : (f : Int) + (x.1 : Int) = (i : Int) := by rw [hi]; push_cast; omega
                  have hiN : i < N := by have := x.2; omega
                  obtain ⟨e, he⟩ : ∃ e, cur[i]? = some e := ⟨cur[i]'(by rw [HCl.out]; exact hiN), by rw [List.getElem?_eq_getElem]⟩
                  obtain ⟨y0, hy0⟩ := hPY3.at he
                  have hyv2 := HYv.out i (by rw [hi, HF2.out.1]; exact row_of x.2)
                  have hlen7 : i * 11 + 7 < (cur3.flatMap elC ++ junk).length := by
                    have := hPY3.1
                    have := HCl.out
                    rw [List.length_append, flat_size]
                    omega
                  have HP3 := Lib.hid hPY3
                  have HE0 := Lib.hid (And.intro he hy0)
                  have HI := Lib.hid hi
                  have HYv2 := Lib.hid hyv2
                  clear hPY3 he hy0 hi hS' hr hyv2
                  simp only [hcast3]
                  clear hcast hcast2 hcast3
                  refine wpIn_block ?_
                  refine region_round (by repeat (first | exact roundPostO_stays | refine then_stays ?_ | refine block_stays ?_)) (by kernel_rfl) ?_
                  go_wp2_with (first | (refine own_unguard (by rfl) ?_) | (refine own_store1 (i := i * 11 + 7) (v := .int .i64 yv) rfl _ _ _ rfl rfl rfl rfl hS at3 ot_int hlen7 ?_; clear hS; (try clear ww); intro ww hS) | (refine w_ld rfl _ rfl (by rfl) (by first | exact rd_1 (by repeat constructor) (by first | rfl | assumption) | exact rd_w (by repeat constructor) (by rfl) | exact rd_o (by assumption) (by rfl) (by first | exact nmn | assumption | simp) | exact rd_h (by assumption) (by rfl) (by first | exact nmn | assumption | simp) | exact rd_1o (by assumption) (by first | exact nmn | assumption | simp) | exact rd_1h (by assumption) (by first | rfl | assumption) (by first | exact nmn | assumption | simp)) hS ?_) | (refine own_box rfl _ _ rfl (by rfl) hS ?_; clear hS; (try clear ww); intro bb ww hS) | (refine w_al rfl rfl hS ?_; clear hS; (try clear ww); intro bb ww hS) | (refine w_st rfl _ _ rfl (by rfl) (by rfl) (by repeat constructor) (by rfl) (by rfl) (by first | rfl | assumption) hS ?_; clear hS; (try clear ww); intro ww hS) | (refine w_s1 rfl _ _ rfl (by rfl) (by repeat constructor) (by first | exact .c | exact .t rfl) (by rfl) (by repeat constructor) hS ?_; clear hS; (try clear ww); intro ww hS))
                  simp only [List.set_cons_succ, List.set_cons_zero] at hS
                  rw [flat_set (e' := elY yv e) HE0.out.2 (by decide) rfl, HD2.out] at hS
                  have hPn := HP3.out.next (P' := fun k => k / C < j ∨ ∃ z ∈ pre ++ [x], k = f + z.1) HE0.out.1 (fun k => by
                    rw [HI.out]
                    simp only [List.mem_append, List.mem_singleton, or_assoc]
                    constructor
                    · rintro (h | ⟨z, h | rfl, rfl⟩)
                      · exact .inl h
                      · exact .inr (.inl ⟨z, h, rfl⟩)
                      · exact .inr (.inr rfl)
                    · rintro (h | ⟨z, h, rfl⟩ | rfl)
                      · exact .inl h
                      · exact .inr ⟨z, .inl h, rfl⟩
                      · exact .inr ⟨x, .inr rfl, rfl⟩)
                  rw [HYv2.out] at hPn
                  exact ⟨_, hS, _, hPn, rfl⟩
                case done =>
                  rintro M xs W L' hM rfl hS' ⟨cur3, hPY3, rfl⟩ hd'
                  have hS1 := hS.chainR hS'
                  rw [HDD.out] at hS1
                  have HM1 := Lib.hid (marks_next HM.out HA.out hS1 hS.size hM hd')
                  have HA1 := Lib.hid (HA.out.chainR hS1)
                  clear hS
                  obtain ⟨D1, HD1, hS⟩ := HA1.out.rebaseN
                  have HP3 := Lib.hid hPY3
                  clear hPY3 hS1 hS' hd' hM
                  go_wp2_with (first | (refine own_unguard (by rfl) ?_) | (refine w_ld rfl _ rfl (by rfl) (by first | exact rd_1 (by repeat constructor) (by first | rfl | assumption) | exact rd_w (by repeat constructor) (by rfl) | exact rd_o (by assumption) (by rfl) (by first | exact nmn | assumption | simp) | exact rd_h (by assumption) (by rfl) (by first | exact nmn | assumption | simp) | exact rd_1o (by assumption) (by first | exact nmn | assumption | simp) | exact rd_1h (by assumption) (by first | rfl | assumption) (by first | exact nmn | assumption | simp)) hS ?_) | (refine own_box rfl _ _ rfl (by rfl) hS ?_; clear hS; (try clear ww); intro bb ww hS) | (refine w_al rfl rfl hS ?_; clear hS; (try clear ww); intro bb ww hS) | (refine w_st rfl _ _ rfl (by rfl) (by rfl) (by repeat constructor) (by rfl) (by rfl) (by first | rfl | assumption) hS ?_; clear hS; (try clear ww); intro ww hS) | (refine w_s1 rfl _ _ rfl (by rfl) (by repeat constructor) (by first | exact .c | exact .t rfl) (by rfl) (by repeat constructor) hS ?_; clear hS; (try clear ww); intro ww hS))
                  rw [HD1.out] at hS
                  have HA3 := Lib.hid (HA1.out.chainR hS)
                  have HM3 := Lib.hid (HM1.out.own HA1.out hS)
                  generalize hA' : Act.mk _ _ = a'
                  refine ⟨⟨j + 1, cur3, fun i => a'.tmps.getD i undef, _, hlt, Lib.hid (HP3.out.iff fun i _ => ?_), HA3.out.forget (.cons _ (List.Sublist.refl _)), HM3, ?_⟩, ?_⟩
                  · rw [HF2.out.1, row_all (by omega)]
                    omega
                  · subst hA'
                    rfl
                  · subst hA'
                    simp [intOf]
                    omega
              · obtain rfl : R = j := by omega
                have d1 : decide ((R : Int) < (R : Int)) = false := decide_eq_false (by omega)
                obtain ⟨dT, hdT⟩ : ∃ z, z = T - top := ⟨_, rfl⟩
                have i6 : IntKind.i64.wrap (T - top) = dT := by rw [hdT]; exact IntWalk.i64_in _ (by omega)
                have e1 : arrQ F l = q := by rw [HQe.out]; rfl
                have hdiv' := hdiv
                have eX : ∀ i, arrX F l n C kids i = colX R C wd q i := fun i => by unfold arrX; rw [hdiv', e1, ← HWd.out]
                have eH : arrH F l n C kids = hh := by rw [HHd.out.1]; funext r; unfold arrH rowH; rw [e1]
                have eD : arrD F l n C kids = dd := by rw [HHd.out.2]; funext r; unfold arrD rowD; rw [e1]
                have eT : arrTop F l n C kids = top := by unfold arrTop; rw [HArr.out, HTp.out, HAx.out]; rfl
                have eY : ∀ i, arrY F l n C kids i = yf i := fun i => by unfold arrY; rw [eT, eH, eD, e1, HYf.out, HG.out]
                have eW : arrW F l n C kids = E := by unfold arrW; rw [hdiv', e1, ← HWd.out, HE.out.2]
                obtain ⟨kids', hk'⟩ : ∃ z, z = kids.mapIdx fun i k => atXY (n + 1) k (arrX F l n C kids i) (arrY F l n C kids i) := ⟨_, rfl⟩
                have HEq := Lib.hid (show arrB F l n C kids = listB (n + 1) E top dT kids' by unfold arrB; rw [eW, eT, HArr.out, hdT, hk'])
                have HFt := Lib.hid (show ArrFits F l n C kids by unfold ArrFits; rw [hdiv', HArr.out, ← HWd.out]; exact ⟨HE.out.1, hlT⟩)
                have hlk : kids'.length = N := by rw [hk', List.length_mapIdx, HKL.out]
                have HLs := Lib.hid (show ∀ (V : World), Own DD wr ((yb, [.int .i64 (yAt top g hh dd R)]) :: [(mv, [.slice (some ⟨mb, 0, none⟩) N cp]), (mb, cur2.flatMap elC ++ junk), (rb, [.int .i64 0, .string ⟨#[]⟩, .int .i64 0, .int .i64 0, .int .i64 0, .int .i64 0, .int .i64 0, .int .i64 0, .slice none 0 0, .int .i64 0, .slice none 0 0]), (sb, [.int .i64 l, .bool c]), (fb, F.cells), (lb, ((List.range R).map fun r => (hh r, dd r)).flatMap lineC ++ junk2)]) V → Calls Try.prog 27 #[.int .i64 E, .int .i64 top, .int .i64 dT, .slice (some ⟨mb, 0, none⟩) N cp] V (GivesI (fun k => k < w.heap.size) (n + 2) (listB (n + 1) E top dT kids') V) from fun V hV => by
                  rw [HDD.out] at hV
                  have hG := HA.out.chainR hV
                  have hEb := colB_in (R := R) (C := C) (fun i => (hww i).2) hq (C - 1)
                  have hEw := colW_in (R := R) (C := C) (fun i => (hww i).2) (C - 1)
                  have hEi : I64 E := by rw [HE.out.2]; unfold I64; omega
                  have h := box_List_I (fun k => k < w.heap.size) (n + 1) kids' (some ⟨mb, 0, none⟩) cp E top dT V (fun i kid' hi => ?_) (fun k hk => ?_) (by omega) hEi (by unfold I64; omega) (by unfold I64; omega)
                  · rw [hlk] at h
                    exact h
                  · rw [hk', List.getElem?_mapIdx] at hi
                    obtain ⟨kid, hkid, rfl⟩ := Option.map_eq_some_iff.1 hi
                    have hiN : i < N := by rw [← HKL.out]; exact (List.getElem?_eq_some_iff.1 hkid).1
                    obtain ⟨e0, he0⟩ : ∃ e0, ks[i]? = some e0 := ⟨ks[i]'(by rw [HKs.out.1]; exact hiN), by rw [List.getElem?_eq_getElem]⟩
                    have hk1 := HKs.out.2 i e0 kid he0 hkid
                    have hc1 := (HPl.out.2 i e0 he0).1 (HPa.out i (by rw [HKs.out.1]; exact hiN))
                    have hdiR : i / C < R := Nat.div_lt_of_lt_mul (by rw [Nat.mul_comm, ← HN.out]; exact hiN)
                    have hc2 := (HPY.out.2 i _ hc1).1 hdiR
                    refine ⟨mb, 0, elC (elY (yf i) (elX (colX R C wd q i) e0)), rfl, fun z v hz => ?_, ?_⟩
                    · have := flat_get (junk := junk) hc2 hz
                      rw [(hG.get at2).cell, Nat.zero_add]
                      exact this
                    · rw [eX, eY]
                      have b1 := colB_in (R := R) (C := C) (fun i => (hww i).2) hq (i % C)
                      have b2 := hlf_abs (n := colW R C wd (i % C) - wd i)
                      have b3 := HYb.out (i / C)
                      have b4 := HHi.out.1 (i / C)
                      have b5 := Nat.mod_lt i (show 0 < C by omega)
                      refine rep_placed hk1.1 (repP_step (repP_old hk1.2) hG.below) ?_ ?_
                      · unfold I64 colX
                        omega
                      · rw [HYf.out]
                        unfold I64
                        simp only
                        omega
                  · rw [hk'] at hk
                    obtain ⟨i, hi⟩ := List.mem_iff_getElem?.1 hk
                    rw [List.getElem?_mapIdx] at hi
                    obtain ⟨kid, hkid, rfl⟩ := Option.map_eq_some_iff.1 hi
                    have := validB_small (HVs.out kid (List.mem_of_getElem? hkid))
                    exact ⟨this.1, Nat.le_trans this.2 (by omega)⟩)
                have HOff := Lib.hid (show ∀ (V V' : World), Own DD wr ((yb, [.int .i64 (yAt top g hh dd R)]) :: [(mv, [.slice (some ⟨mb, 0, none⟩) N cp]), (mb, cur2.flatMap elC ++ junk), (rb, [.int .i64 0, .string ⟨#[]⟩, .int .i64 0, .int .i64 0, .int .i64 0, .int .i64 0, .int .i64 0, .int .i64 0, .slice none 0 0, .int .i64 0, .slice none 0 0]), (sb, [.int .i64 l, .bool c]), (fb, F.cells), (lb, ((List.range R).map fun r => (hh r, dd r)).flatMap lineC ++ junk2)]) V → V.heap.size ≤ V'.heap.size → V.heap.size ≤ V'.heap.size ∧ wr.heap.size ≤ V.heap.size ∧ ∀ k, (k < w.heap.size ∨ (V.heap.size ≤ k ∧ k < V'.heap.size)) → k ∉ (((yb, [.int .i64 (yAt top g hh dd R)]) :: [(mv, [.slice (some ⟨mb, 0, none⟩) N cp]), (mb, cur2.flatMap elC ++ junk), (rb, [.int .i64 0, .string ⟨#[]⟩, .int .i64 0, .int .i64 0, .int .i64 0, .int .i64 0, .int .i64 0, .int .i64 0, .slice none 0 0, .int .i64 0, .slice none 0 0]), (sb, [.int .i64 l, .bool c]), (fb, F.cells), (lb, ((List.range R).map fun r => (hh r, dd r)).flatMap lineC ++ junk2)]).map (·.1)) from fun V V' hV hs => by
                  have hs1 := hV.size
                  rw [HDD.out] at hV
                  have hG := HA.out.chainR hV
                  refine ⟨hs, hs1, fun k hk hm => ?_⟩
                  obtain ⟨x, hx, rfl⟩ := List.mem_map.1 hm
                  have h1 := (hG.has x hx).lt
                  rcases hG.ge x hx with h | h
                  · cases h
                  · omega)
                have HMl := Lib.hid HM.out.lt
                clear hdT hk' eX eH eD eT eY eW e1 hdiv' hlk
                by_cases hvB : validB (n + 2) (listB (n + 1) E top dT kids')
                · skip
                  go_wp2_with (first | (refine own_unguard (by rfl) ?_) | (go_at_call 27; refine Calls.mono (HLs.out _ hS) ?_; rintro e wl ⟨cs', rfl, hR', hb'⟩; have HOf := Lib.hid (HOff.out _ wl hS hb'.size); have HG5 := Lib.hid (HA.out.chainR (by rw [HDD.out] at hS; exact hS.step hb')); have HMv := Lib.hid (HM.out.own HA.out (by rw [HDD.out] at hS; exact hS.step hb')); have HRp := Lib.hid hR'; obtain ⟨z0, z1, z2, z3, z4, z5, z6, z7, z8, z9, z10, rfl⟩ := eleven hR'.len; have hallz := rep_all hR'.rep; have hS1 := hS.step hb'; clear hS hb' hR'; obtain ⟨D5, HD5, hS⟩ := HG5.out.rebaseN) | (have _t := tokbb; refine own_alloc rfl _ rfl hS zt_box ?_; clear hS tokbb; (try clear ww); intro bb ww hS) | (go_at_call 20; have hRv := (repP_turn HRp.out hS (by rw [HD5.out]; exact HOf.out.2.2)).rep; refine own_calls hS (box_Valid_calls (n + 2) _ _ _ hRv hRv.wide _ (iff_t hvB)) ?_; clear hS hRv; (try clear ww); intro ww hS) | (refine w_ld rfl _ rfl (by rfl) (by first | exact rd_1 (by repeat constructor) (by first | rfl | assumption) | exact rd_w (by repeat constructor) (by rfl) | exact rd_o (by assumption) (by rfl) (by first | exact nmn | assumption | simp) | exact rd_h (by assumption) (by rfl) (by first | exact nmn | assumption | simp) | exact rd_1o (by assumption) (by first | exact nmn | assumption | simp) | exact rd_1h (by assumption) (by first | rfl | assumption) (by first | exact nmn | assumption | simp)) hS ?_) | (refine own_box rfl _ _ rfl (by rfl) hS ?_; clear hS; (try clear ww); intro bb ww hS) | (refine w_al rfl rfl hS ?_; clear hS; (try clear ww); intro bb ww hS) | (refine w_st rfl _ _ rfl (by rfl) (by rfl) (by repeat constructor) (by rfl) (by rfl) (by first | rfl | assumption) hS ?_; clear hS; (try clear ww); intro ww hS) | (refine w_s1 rfl _ _ rfl (by rfl) (by repeat constructor) (by first | exact .c | exact .t rfl) (by rfl) (by repeat constructor) hS ?_; clear hS; (try clear ww); intro ww hS))
                  have hRf := repP_turn HRp.out hS (by rw [HD5.out]; exact HOf.out.2.2)
                  rw [HD5.out] at hS
                  have hGf := HG5.out.chainR hS
                  have hMf := HMv.out.own HG5.out hS
                  refine leaves_marks2 (D := []) (W := w) _ _ hGf hMf fun w' hS' hkk => ?_
                  have hc := (hS'.get at4).cell
                  refine ⟨.tuple #[.agg #[z0, z1, z2, z3, z4, z5, z6, z7, z8, z9, z10], .int .i64 0], by simp [results, Try.results10, go_sem, hc], fun _ => ⟨_, rfl, ?_, hS'.below⟩, fun h => absurd ⟨HFt.out, by rw [HEq.out]; exact hvB⟩ h⟩
                  rw [HEq.out]
                  refine repP_marks hRf (fun k hk => hkk k (fun d hd he => ?_))
                  have h1 := HM.out.ge d hd k he
                  have h2 := HM.out.lt d hd k he
                  rcases hk with h | h <;> omega
                · skip
                  go_wp2_with (first | (refine own_unguard (by rfl) ?_) | (go_at_call 27; refine Calls.mono (HLs.out _ hS) ?_; rintro e wl ⟨cs', rfl, hR', hb'⟩; have HOf := Lib.hid (HOff.out _ wl hS hb'.size); have HG5 := Lib.hid (HA.out.chainR (by rw [HDD.out] at hS; exact hS.step hb')); have HMv := Lib.hid (HM.out.own HA.out (by rw [HDD.out] at hS; exact hS.step hb')); have HRp := Lib.hid hR'; obtain ⟨z0, z1, z2, z3, z4, z5, z6, z7, z8, z9, z10, rfl⟩ := eleven hR'.len; have hallz := rep_all hR'.rep; have hS1 := hS.step hb'; clear hS hb' hR'; obtain ⟨D5, HD5, hS⟩ := HG5.out.rebaseN) | (have _t := tokbb; refine own_alloc rfl _ rfl hS zt_box ?_; clear hS tokbb; (try clear ww); intro bb ww hS) | (go_at_call 20; have hRv := (repP_turn HRp.out hS (by rw [HD5.out]; exact HOf.out.2.2)).rep; refine own_calls hS (box_Valid_calls (n + 2) _ _ _ hRv hRv.wide _ (iff_f hvB)) ?_; clear hS hRv; (try clear ww); intro ww hS) | (refine w_ld rfl _ rfl (by rfl) (by first | exact rd_1 (by repeat constructor) (by first | rfl | assumption) | exact rd_w (by repeat constructor) (by rfl) | exact rd_o (by assumption) (by rfl) (by first | exact nmn | assumption | simp) | exact rd_h (by assumption) (by rfl) (by first | exact nmn | assumption | simp) | exact rd_1o (by assumption) (by first | exact nmn | assumption | simp) | exact rd_1h (by assumption) (by first | rfl | assumption) (by first | exact nmn | assumption | simp)) hS ?_) | (refine own_box rfl _ _ rfl (by rfl) hS ?_; clear hS; (try clear ww); intro bb ww hS) | (refine w_al rfl rfl hS ?_; clear hS; (try clear ww); intro bb ww hS) | (refine w_st rfl _ _ rfl (by rfl) (by rfl) (by repeat constructor) (by rfl) (by rfl) (by first | rfl | assumption) hS ?_; clear hS; (try clear ww); intro ww hS) | (refine w_s1 rfl _ _ rfl (by rfl) (by repeat constructor) (by first | exact .c | exact .t rfl) (by rfl) (by repeat constructor) hS ?_; clear hS; (try clear ww); intro ww hS))
                  rw [HD5.out] at hS
                  have hGf := HG5.out.chainR hS
                  have hMf := HMv.out.own HG5.out hS
                  refine leaves_marks2 (D := []) (W := w) _ _ hGf hMf fun w' hS' hkk => ?_
                  have hc := (hS'.get at4).cell
                  refine ⟨.tuple #[.agg #[.int .i64 0, .string ⟨#[]⟩, .int .i64 0, .int .i64 0, .int .i64 0, .int .i64 0, .int .i64 0, .int .i64 0, .slice none 0 0, .int .i64 0, .slice none 0 0], .int .i64 6], by simp [results, Try.results10, go_sem, hc], fun h => absurd (by rw [← HEq.out]; exact h.2) hvB, fun _ m => ⟨_, rfl, rep_zero m _, hS'.below⟩⟩
          · have hno : ¬ (ArrFits F l n C kids ∧ validB (n + 2) (arrB F l n C kids)) := fun h => by
              have h1 := h.1
              unfold ArrFits at h1
              rw [hdiv, HArr.out, ← HWd.out] at h1
              cases hb : b
              · exact HBf.out hb h1.1
              · exact hok ⟨hb, h1.2⟩
            have HNo := Lib.hid hno
            clear hno
            cases b
            · skip
              go_wp2_with (first | (refine own_unguard (by rfl) ?_) | (go_at_call 24; refine own_calls hS (HLv.out _) ?_; clear hS; (try clear ww); intro ww hS) | (refine w_ld rfl _ rfl (by rfl) (by first | exact rd_1 (by repeat constructor) (by first | rfl | assumption) | exact rd_w (by repeat constructor) (by rfl) | exact rd_o (by assumption) (by rfl) (by first | exact nmn | assumption | simp) | exact rd_h (by assumption) (by rfl) (by first | exact nmn | assumption | simp) | exact rd_1o (by assumption) (by first | exact nmn | assumption | simp) | exact rd_1h (by assumption) (by first | rfl | assumption) (by first | exact nmn | assumption | simp)) hS ?_) | (refine own_box rfl _ _ rfl (by rfl) hS ?_; clear hS; (try clear ww); intro bb ww hS) | (refine w_al rfl rfl hS ?_; clear hS; (try clear ww); intro bb ww hS) | (refine w_st rfl _ _ rfl (by rfl) (by rfl) (by repeat constructor) (by rfl) (by rfl) (by first | rfl | assumption) hS ?_; clear hS; (try clear ww); intro ww hS) | (refine w_s1 rfl _ _ rfl (by rfl) (by repeat constructor) (by first | exact .c | exact .t rfl) (by rfl) (by repeat constructor) hS ?_; clear hS; (try clear ww); intro ww hS))
              refine leaves_marks (D := []) (W := w) (fun w' hS' => ?_) _ _ hS .nil
              have hc := (hS'.get at2).cell
              exact ⟨.tuple #[.agg #[.int .i64 0, .string ⟨#[]⟩, .int .i64 0, .int .i64 0, .int .i64 0, .int .i64 0, .int .i64 0, .int .i64 0, .slice none 0 0, .int .i64 0, .slice none 0 0], .int .i64 6], by simp [results, Try.results10, go_sem, hc], fun h => absurd h HNo.out, fun _ m => ⟨_, rfl, rep_zero m _, hS'.below⟩⟩
            · have hlF : lenOk T = false := by
                cases h : lenOk T
                · rfl
                · exact absurd ⟨rfl, h⟩ hok
              clear hok
              go_wp2_with (first | (refine own_unguard (by rfl) ?_) | (go_at_call 24; refine own_calls hS (HLv.out _) ?_; clear hS; (try clear ww); intro ww hS) | (refine w_ld rfl _ rfl (by rfl) (by first | exact rd_1 (by repeat constructor) (by first | rfl | assumption) | exact rd_w (by repeat constructor) (by rfl) | exact rd_o (by assumption) (by rfl) (by first | exact nmn | assumption | simp) | exact rd_h (by assumption) (by rfl) (by first | exact nmn | assumption | simp) | exact rd_1o (by assumption) (by first | exact nmn | assumption | simp) | exact rd_1h (by assumption) (by first | rfl | assumption) (by first | exact nmn | assumption | simp)) hS ?_) | (refine own_box rfl _ _ rfl (by rfl) hS ?_; clear hS; (try clear ww); intro bb ww hS) | (refine w_al rfl rfl hS ?_; clear hS; (try clear ww); intro bb ww hS) | (refine w_st rfl _ _ rfl (by rfl) (by rfl) (by repeat constructor) (by rfl) (by rfl) (by first | rfl | assumption) hS ?_; clear hS; (try clear ww); intro ww hS) | (refine w_s1 rfl _ _ rfl (by rfl) (by repeat constructor) (by first | exact .c | exact .t rfl) (by rfl) (by repeat constructor) hS ?_; clear hS; (try clear ww); intro ww hS))
              refine leaves_marks (D := []) (W := w) (fun w' hS' => ?_) _ _ hS .nil
              have hc := (hS'.get at2).cell
              exact ⟨.tuple #[.agg #[.int .i64 0, .string ⟨#[]⟩, .int .i64 0, .int .i64 0, .int .i64 0, .int .i64 0, .int .i64 0, .int .i64 0, .slice none 0 0, .int .i64 0, .slice none 0 0], .int .i64 6], by simp [results, Try.results10, go_sem, hc], fun h => absurd h HNo.out, fun _ m => ⟨_, rfl, rep_zero m _, hS'.below⟩⟩

end Go.Proofs.Ytgnkngkogamjaaa
