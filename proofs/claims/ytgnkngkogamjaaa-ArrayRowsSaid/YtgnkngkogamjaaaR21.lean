/- Texts OpB, Opc, Cs7, Tm7, Rf7, Rc7. -/
import Derived.Test.YtgnkngkogamjaaaR20
import Derived.Test.YtgnkngkogamjaaaR01
import Derived.Test.YtgnkngkogamjaaaR17
import Derived.Test.YtgnkngkogamjaaaR16
import Derived.Test.YtgnkngkogamjaaaR04
import Derived.Test.YtgnkngkogamjaaaR08
import Derived.Test.YtgnkngkogamjaaaR18
namespace Go.Proofs.Ytgnkngkogamjaaa
open Go.RowKit Go.ChangeShapes Go.WideShapes Go.Deep

theorem Try.cellsBox : Try.prog.cellsOf 37 = 11 := by kernel_rfl
theorem Try.cellsBoxs : Try.prog.cellsOf 32 = 1 := by kernel_rfl
theorem Try.cellsInts : Try.prog.cellsOf 35 = 1 := by kernel_rfl

section
variable {H : Type} {enc : TypeId × Value → H} {w : World}

set_option maxRecDepth 100000 in
/-- A slice that reads, and by how much fuel its elements read. -/
theorem read_slice_n {P : Program} {t e : TypeId} {fuel : Nat} {cs : List Value} {x : DataW H × List MemPlace} (ht : P.underlying t = some (.slice e)) (hC : 0 < P.cellsOf e)
    (h : DataW.trod enc P w 0 (fun _ => true) true fuel t cs = some x) :
    (∃ y c, cs = [.slice y 0 c]) ∨ ∃ (b o len c n : Nat), n < fuel ∧ 0 < len ∧ cs = [.slice (some ⟨b, o, none⟩) len c] ∧ len ≤ c ∧ c ≤ maxLen ∧
      ∀ i, i < len → ∃ cs' y, cs'.length = P.cellsOf e ∧ (∀ j, j < P.cellsOf e → w.cell? ⟨b, o + i * P.cellsOf e + j, none⟩ = cs'[j]?) ∧ DataW.trod enc P w 0 (fun _ => true) true n e cs' = some y := by
  rcases DataW.trod_slice ht h with ⟨rfl, _⟩ | ⟨a, len, cap, elems, rest, n, hn, rfl, _, _, hl, hm, hlen, hel, _, _⟩
  · exact .inl ⟨_, _, rfl⟩
  · by_cases h0 : len = 0
    · subst h0; exact .inl ⟨_, _, rfl⟩
    · have hi : ∀ i, i < len → ∃ cs' y, w.cells? 0 (a.add (i * P.cellsOf e)) (P.cellsOf e) = some cs' ∧ DataW.trod enc P w 0 (fun _ => true) true n e cs' = some y := by
        intro i hlt
        have h1 := hel i hlt
        rw [List.getElem?_eq_getElem (by omega)] at h1
        obtain ⟨cs', hc, hy⟩ := Option.bind_eq_some_iff.1 h1
        exact ⟨cs', _, hc, hy⟩
      obtain ⟨cs0, _, hc0, _⟩ := hi 0 (by omega)
      obtain ⟨_, hl0, hat0⟩ := World.cells?_some hc0
      obtain ⟨b, o, s⟩ := a
      have hs : s = none := by
        have h1 := hat0 0 hC
        rw [List.getElem?_eq_getElem (by omega)] at h1
        cases s with
        | none => rfl
        | some z => simp [World.cell?, Addr.add] at h1; split at h1 <;> simp at h1
      subst hs
      refine .inr ⟨b, o, len, cap, n, by omega, by omega, rfl, hl, hm, fun i hlt => ?_⟩
      obtain ⟨cs', y, hc', ht'⟩ := hi i hlt
      obtain ⟨_, hl', hat'⟩ := World.cells?_some hc'
      exact ⟨cs', y, hl', fun j hj => by have := hat' j hj; rw [add_plain, add_plain] at this; exact this, ht'⟩

set_option maxRecDepth 100000 in
theorem read_int {fuel : Nat} {cs : List Value} {x : DataW H × List MemPlace} (h : DataW.trod enc Try.prog w 0 (fun _ => true) true fuel 3 cs = some x) : ∃ n, cs = intCells n ∧ I64 n := by
  obtain ⟨z, hz, _, wz⟩ := DataW.trod_int Try.underlying3 h
  exact ⟨z, hz, i64_of wz⟩

set_option maxRecDepth 100000 in
theorem common {css : Nat → List Value} : ∀ len : Nat, (∀ i, i < len → ∃ n b, Rep w n b (css i)) → ∃ N, ∀ i, i < len → ∃ b, Rep w N b (css i) := by
  intro len
  induction len with
  | zero => intro _; exact ⟨0, fun i hi => by omega⟩
  | succ len ih =>
    intro h
    obtain ⟨N, hN⟩ := ih fun i hi => h i (by omega)
    obtain ⟨n, b, hb⟩ := h len (by omega)
    refine ⟨max N n, fun i hi => ?_⟩
    by_cases he : i = len
    · subst he; exact hb.up _ (by omega)
    · obtain ⟨b', hb'⟩ := hN i (by omega)
      exact hb'.up _ (by omega)

set_option maxRecDepth 100000 in
theorem read_box_n : ∀ (N fuel : Nat), fuel ≤ N → ∀ (cs : List Value) (x : DataW H × List MemPlace), DataW.trod enc Try.prog w 0 (fun _ => true) true fuel 37 cs = some x → ∃ n b, Rep w n b cs := by
  intro N
  induction N with
  | zero =>
    intro fuel hf cs x h
    obtain rfl : fuel = 0 := by omega
    simp [DataW.trod] at h
  | succ N ih =>
    intro fuel hfu cs x h
    obtain ⟨xs, n, hn, _, hl, hx, hf0⟩ := DataW.trod_struct Try.underlying37 h
    have hf : ∀ (i : Nat) (f : Field), _ → ∃ y, DataW.trod enc Try.prog w 0 (fun _ => true) true n f.type ((cs.drop f.offset).take (Try.prog.cellsOf f.type)) = some y := fun i f hi => by
      have h1 := hf0 i f hi
      have hlt : i < xs.length := by rw [hx]; exact (Array.getElem?_eq_some_iff.1 hi).1
      exact ⟨xs[i], by rw [h1, List.getElem?_eq_getElem hlt]⟩
    rw [Try.cellsBox] at hl
    obtain ⟨_, f0⟩ := hf 0 _ rfl
    obtain ⟨_, f1⟩ := hf 1 _ rfl
    obtain ⟨_, f2⟩ := hf 2 _ rfl
    obtain ⟨_, f3⟩ := hf 3 _ rfl
    obtain ⟨_, f4⟩ := hf 4 _ rfl
    obtain ⟨_, f5⟩ := hf 5 _ rfl
    obtain ⟨_, f6⟩ := hf 6 _ rfl
    obtain ⟨_, f7⟩ := hf 7 _ rfl
    obtain ⟨y8, f8⟩ := hf 8 _ rfl
    obtain ⟨_, f9⟩ := hf 9 _ rfl
    obtain ⟨_, f10⟩ := hf 10 _ rfl
    obtain ⟨n0, e0, h0⟩ := field_int f0
    obtain ⟨s, e1, h1⟩ := field_string f1
    obtain ⟨n2, e2, h2⟩ := field_int f2
    obtain ⟨n3, e3, h3⟩ := field_int f3
    obtain ⟨n4, e4, h4⟩ := field_int f4
    obtain ⟨n5, e5, h5⟩ := field_int f5
    obtain ⟨n6, e6, h6⟩ := field_int f6
    obtain ⟨n7, e7, h7⟩ := field_int f7
    obtain ⟨n9, e9, h9⟩ := field_int f9
    obtain ⟨sx, sc, src, e10, r10, q10, l10, _⟩ := field_row Try.underlying35 Try.cellsInts Try.cellsInt (by omega) (fun h => read_int h) f10
    replace f8 : DataW.trod enc Try.prog w 0 (fun _ => true) true n 32 ((cs.drop 8).take (Try.prog.cellsOf 32)) = some y8 := f8
    rw [Try.cellsBoxs] at f8
    have hd : HdOk ⟨n0, s, n2, n3, n4, n5, n6, n7, n9, src⟩ := ⟨h0, h2, h3, h4, h5, h6, h7, h9, q10, l10, h1⟩
    have hcs : ∀ k, cs[8]? = some k → cs = Hd.cells ⟨n0, s, n2, n3, n4, n5, n6, n7, n9, src⟩ k (.slice sx src.length sc) := by
      intro k e8
      match cs, hl with
      | [c0, c1, c2, c3, c4, c5, c6, c7, c8, c9, c10], _ =>
        simp at e0 e1 e2 e3 e4 e5 e6 e7 e8 e9 e10
        subst e0 e1 e2 e3 e4 e5 e6 e7 e8 e9 e10
        rfl
    rcases read_slice_n Try.underlying32 (by rw [Try.cellsBox]; omega) f8 with ⟨y, c, hk⟩ | ⟨k, o, len, c, m, hm, hlen, hk, hlc, hcm, hi⟩
    · refine ⟨1, (⟨n0, s, n2, n3, n4, n5, n6, n7, n9, src⟩, []), y, c, sx, sc, hcs _ (take_one hk), hd, by simp, r10, fun _ _ _ _ => trivial, fun i kid hi => by simp at hi⟩
    · have hi2 : ∀ i, i < len → ∃ cs' : List Value, w.rangeAt k (o + i * 11) cs' ∧ ∃ n b, Rep w n b cs' := by
        intro i hlt
        obtain ⟨cs', y, hcl, hc, htr⟩ := hi i hlt
        rw [Try.cellsBox] at hcl hc
        refine ⟨cs', fun j v hj => ?_, ih m (by omega) cs' y htr⟩
        have hjl : j < 11 := by rw [← hcl]; exact (List.getElem?_eq_some_iff.1 hj).1
        rw [hc j hjl, hj]
      obtain ⟨css, hcss⟩ : ∃ css : Nat → List Value, ∀ i, i < len → w.rangeAt k (o + i * 11) (css i) ∧ ∃ n b, Rep w n b (css i) :=
        ⟨fun i => if hlt : i < len then (hi2 i hlt).choose else [], fun i hlt => by simp only [hlt, dif_pos]; exact (hi2 i hlt).choose_spec⟩
      obtain ⟨M, hM⟩ := common len fun i hlt => (hcss i hlt).2
      obtain ⟨kids, hkl, hkr⟩ := list_of (fun i b => Rep w M b (css i)) len hM
      refine ⟨M + 1, (⟨n0, s, n2, n3, n4, n5, n6, n7, n9, src⟩, kids), some ⟨k, o, none⟩, c, sx, sc, ?_, hd, by simp only; omega, r10, fun _ _ _ _ => trivial, fun i kid hik => ?_⟩
      · have := hcs _ (take_one hk)
        rw [← hkl] at this
        exact this
      · have hlt : i < len := by rw [← hkl]; exact (List.getElem?_eq_some_iff.1 hik).1
        exact ⟨k, o, css i, rfl, trivial, (hcss i hlt).1, hkr i kid hik⟩

set_option maxRecDepth 100000 in
/-- A box as an argument, or as a part of one. -/
theorem read_box {fuel : Nat} {cs : List Value} {x : DataW H × List MemPlace} (h : DataW.trod enc Try.prog w 0 (fun _ => true) true fuel 37 cs = some x) : ∃ n b, Rep w n b cs := read_box_n fuel fuel (Nat.le_refl _) cs x h
end
end Go.Proofs.Ytgnkngkogamjaaa
namespace Go.Proofs.Ytgnkngkogamjaaa
open Go.RowKit Go.ChangeShapes Go.WideShapes Go.Deep

attribute [local irreducible] wpQuiet wpG wpP wpK wpList Code.wp Calls

theorem Try.cellsStyle2 : Try.prog.cellsOf 29 = 2 := by kernel_rfl

section
variable {H : Type} {enc : TypeId × Value → H} {w : World}

set_option maxRecDepth 100000 in
theorem read_style {fuel : Nat} {cs : List Value} {x : DataW H × List MemPlace} (h : DataW.trod enc Try.prog w 0 (fun _ => true) true fuel 29 cs = some x) : ∃ (l : Int) (c : Bool), cs = [.int .i64 l, .bool c] ∧ I64 l := by
  obtain ⟨hl, n, hf⟩ := read_struct Try.underlying29 h
  rw [Try.cellsStyle2] at hl
  obtain ⟨_, f0⟩ := hf 0 _ rfl
  obtain ⟨_, f1⟩ := hf 1 _ rfl
  obtain ⟨n0, e0, h0⟩ := field_int f0
  obtain ⟨b, e1⟩ := field_bool f1
  refine ⟨n0, b, ?_, h0⟩
  match cs, hl with
  | [c0, c1], _ =>
    simp at e0 e1
    subst e0 e1
    rfl

end
end Go.Proofs.Ytgnkngkogamjaaa
namespace Go.Proofs.Ytgnkngkogamjaaa
open Go.RowKit Go.ChangeShapes Go.WideShapes Go.Deep

attribute [local irreducible] wpQuiet wpG wpP wpK wpList Code.wp Calls

theorem Try.cellsCase37 : Try.prog.cellsOf 31 = 24 := by kernel_rfl
instance rt_case37 : RowTy Try.prog 31 24 := ⟨⟨_, Try.underlying31, rfl⟩, by kernel_rfl⟩

/-- The cells of a case. -/
@[reducible] def caseX (F : Fnt) (l : Int) (c : Bool) : List Value := F.cells ++ [.int .i64 l, .bool c]

section
variable {H : Type} {enc : TypeId × Value → H} {w : World}

theorem RepL.up {N M : Nat} {x : Option Addr} {l : List (Bx N)} (h : RepL w N x l) (hM : N ≤ M) : ∃ l' : List (Bx M), l'.length = l.length ∧ RepL w M x l' := by
  obtain ⟨l', hl, hr⟩ := list_of (fun i (b : Bx M) => ∃ k o css, x = some ⟨k, o, none⟩ ∧ w.rangeAt k (o + i * 11) css ∧ Rep w M b css) l.length (fun i hi => by
    obtain ⟨k, o, css, e, hr, hp⟩ := h i l[i] (by simp [hi])
    obtain ⟨b, hb⟩ := hp.up M hM
    exact ⟨b, k, o, css, e, hr, hb⟩)
  exact ⟨l', hl, fun i kid hi => hr i kid hi⟩

set_option maxRecDepth 100000 in
/-- A list of boxes as an argument. -/
theorem open_boxes {r : Reach} {b0 : Nat} {v : Value} {d : DataW H} {p : List MemPlace} (hv : Value.okWide Try.prog w r b0 32 v) (h : DataW.Trod enc Try.prog w 0 (fun _ => true) true 32 v d p) :
    ∃ (n : Nat) (l : List (Bx (n + 1))) (y : Option Addr) (c : Nat), v = .slice y l.length c ∧ RepL w (n + 1) y l ∧ l.length ≤ maxLen := by
  obtain ⟨x0, n0, c0, rfl⟩ := okWide_slice Try.underlying32 hv
  obtain ⟨fuel, hf⟩ := h
  have key : ∀ (y : Option Addr) (m c : Nat), (Value.slice x0 n0 c0).cells.toList = [.slice y m c] → Value.slice x0 n0 c0 = .slice y m c := fun y m c hc => by
    simpa [Value.cells] using hc
  rcases read_slice_n Try.underlying32 (by rw [Try.cellsBox]; omega) hf with ⟨y, c, hk⟩ | ⟨k, o, len, c, m, hm, hlen, hk, hlc, hcm, hi⟩
  · exact ⟨0, [], y, c, key _ _ _ hk, fun i kid hi => by simp at hi, Nat.zero_le _⟩
  · have hi2 : ∀ i, i < len → ∃ cs' : List Value, w.rangeAt k (o + i * 11) cs' ∧ ∃ n b, Rep w n b cs' := by
      intro i hlt
      obtain ⟨cs', y, hcl, hc, htr⟩ := hi i hlt
      rw [Try.cellsBox] at hcl hc
      refine ⟨cs', fun j v hj => ?_, read_box htr⟩
      have hjl : j < 11 := by rw [← hcl]; exact (List.getElem?_eq_some_iff.1 hj).1
      rw [hc j hjl, hj]
    obtain ⟨css, hcss⟩ : ∃ css : Nat → List Value, ∀ i, i < len → w.rangeAt k (o + i * 11) (css i) ∧ ∃ n b, Rep w n b (css i) :=
      ⟨fun i => if hlt : i < len then (hi2 i hlt).choose else [], fun i hlt => by simp only [hlt, dif_pos]; exact (hi2 i hlt).choose_spec⟩
    obtain ⟨M, hM⟩ := common len fun i hlt => (hcss i hlt).2
    obtain ⟨kids, hkl, hkr⟩ := list_of (fun i b => Rep w M b (css i)) len hM
    subst hkl
    have hr : RepL w M (some ⟨k, o, none⟩) kids := fun i kid hik => ⟨k, o, css i, rfl, (hcss i (List.getElem?_eq_some_iff.1 hik).1).1, hkr i kid hik⟩
    obtain ⟨l', hl', hr'⟩ := hr.up (show M ≤ M + 1 by omega)
    exact ⟨M, l', some ⟨k, o, none⟩, c, by rw [hl']; exact key _ _ _ hk, hr', by rw [hl']; omega⟩

set_option maxRecDepth 100000 in
/-- A case as an argument. -/
theorem open_case37 {r : Reach} {b0 : Nat} {v : Value} {d : DataW H} {p : List MemPlace} (hv : Value.okWide Try.prog w r b0 31 v) (h : DataW.Trod enc Try.prog w 0 (fun _ => true) true 31 v d p) :
    ∃ (F : Fnt) (l : Int) (c : Bool), v = .agg (caseX F l c).toArray ∧ FntOk w F ∧ I64 l := by
  obtain ⟨cs, rfl, _⟩ := okWide_struct Try.underlying31 hv
  obtain ⟨fuel, hf⟩ := h
  obtain ⟨hl, n, hf⟩ := read_struct Try.underlying31 hf
  rw [Try.cellsCase37] at hl
  have hl2 : cs.toList.length = 24 := hl
  obtain ⟨y0, f0⟩ := hf 0 _ rfl
  obtain ⟨y1, f1⟩ := hf 1 _ rfl
  replace f0 : DataW.trod enc Try.prog w 0 (fun _ => true) true n 27 ((cs.toList.drop 0).take (Try.prog.cellsOf 27)) = some y0 := f0
  replace f1 : DataW.trod enc Try.prog w 0 (fun _ => true) true n 29 ((cs.toList.drop 22).take (Try.prog.cellsOf 29)) = some y1 := f1
  rw [Try.cellsFont] at f0
  rw [Try.cellsStyle2] at f1
  obtain ⟨F, e0, hF⟩ := read_font f0
  obtain ⟨l, c, e1, hli⟩ := read_style f1
  refine ⟨F, l, c, ?_, hF, hli⟩
  have e : cs.toList = caseX F l c := by
    unfold caseX
    rw [← e0, ← e1]
    clear hl hv f0 f1 e0 e1 hf
    generalize cs.toList = L at *
    apply List.ext_getElem?
    intro i
    rw [List.drop_zero]
    by_cases h1 : i < 22
    · rw [List.getElem?_append_left (by simp; omega), List.getElem?_take, if_pos h1]
    · by_cases h2 : i < 24
      · rw [List.getElem?_append_right (by simp; omega), List.length_take, Nat.min_eq_left (by omega), List.getElem?_take, if_pos (by omega), List.getElem?_drop]
        congr 1
        omega
      · rw [List.getElem?_eq_none (by omega), List.getElem?_eq_none (by simp; omega)]
  rw [← e]
end

theorem caseX_out {F : Fnt} {l : Int} {c : Bool} {w : World} {k : Nat} (hr : w.rangeAt k 0 (caseX F l c)) : w.rangeAt k 0 F.cells ∧ w.rangeAt k 22 [.int .i64 l, .bool c] := by
  have hl : F.cells.length = 22 := by simp
  refine ⟨fun j v hj => ?_, fun j v hj => ?_⟩
  · refine hr j v ?_
    rw [caseX, List.getElem?_append_left (List.getElem?_eq_some_iff.1 hj).1]
    exact hj
  · have := hr (22 + j) v (by
      rw [caseX, List.getElem?_append_right (by omega), hl, Nat.add_sub_cancel_left]
      exact hj)
    rwa [Nat.zero_add] at this
end Go.Proofs.Ytgnkngkogamjaaa
namespace Go.Proofs.Ytgnkngkogamjaaa
open Go.RowKit

attribute [local irreducible] wpQuiet wpG wpP wpK wpList Code.wp Calls

/-- All boxes of a list together, and one. -/
def listN (n : Nat) (kids : List (Bx (n + 1))) : Nat := 1 + (kids.map (bCount (n + 1))).sum
theorem few_v37 {F : Fnt} {w : World} {v : Bool} (hF : FntOk w F) (hv : Hid (fewB F = v)) : Calls Try.prog 17 #[F.val] w (Gives (.bool v) w) := by
  have := ref05_Few_calls F w hF
  rwa [hv.out] at this

set_option maxHeartbeats 8000000 in
set_option maxRecDepth 100000 in
theorem ref37_Few_calls (n : Nat) (kids : List (Bx (n + 1))) (kx : Option Addr) (kc most : Nat) (w : World) (hk : RepL w (n + 1) kx kids) (hm : kids.length ≤ maxLen) (hmo : most ≤ 100000) (v : Bool) (hv : v = decide (listN n kids ≤ most)) : Calls Try.prog 18 #[.slice kx kids.length kc, .int .i64 most] w (Gives (.bool v) w) := by
  have HR := Lib.hid (fun w' (h : Below w.heap.size w w') => ref28_Few_calls (n + 2) ((⟨0, ⟨#[]⟩, 0, 0, 0, 0, 0, 0, 0, []⟩, kids) : Bx (n + 2)) _ most w' (rep_mk (n := n + 1) (kc := kc) (sx := none) (sc := 0) (hdOk_new i64_0 i64_0 i64_0 i64_0) hm (.inl rfl) (hk.step h)) hmo v hv)
  clear hk hv
  go_enter Try.func18, Try.ntmps18
  have hS := own_start w
  go_wp2_with (first | (refine own_unguard (by rfl) ?_) | (go_at_call 40; refine own_calls hS (HR.out _ hS.below) ?_; clear hS; (try clear ww); intro ww hS) | (refine w_ld rfl _ rfl (by rfl) (by first | exact rd_1 (by repeat constructor) (by first | rfl | assumption) | exact rd_w (by repeat constructor) (by rfl) | exact rd_o (by assumption) (by rfl) (by first | exact nmn | assumption | simp) | exact rd_h (by assumption) (by rfl) (by first | exact nmn | assumption | simp) | exact rd_1o (by assumption) (by first | exact nmn | assumption | simp) | exact rd_1h (by assumption) (by first | rfl | assumption) (by first | exact nmn | assumption | simp)) hS ?_) | (refine own_box rfl _ _ rfl (by rfl) hS ?_; clear hS; (try clear ww); intro bb ww hS) | (refine w_al rfl rfl hS ?_; clear hS; (try clear ww); intro bb ww hS) | (refine w_st rfl _ _ rfl (by rfl) (by rfl) (by repeat constructor) (by rfl) (by rfl) (by first | rfl | assumption) hS ?_; clear hS; (try clear ww); intro ww hS) | (refine w_s1 rfl _ _ rfl (by rfl) (by repeat constructor) (by first | exact .c | exact .t rfl) (by rfl) (by repeat constructor) hS ?_; clear hS; (try clear ww); intro ww hS))
  go_ret
  exact own_gives hS
/-- What few says. -/
def fewX (F : Fnt) (n : Nat) (kids : List (Bx (n + 1))) : Bool := fewB F && decide (listN n kids ≤ 400)

set_option maxHeartbeats 8000000 in
set_option maxRecDepth 100000 in
theorem few37_0 (F : Fnt) (l : Int) (c : Bool) (n : Nat) (kids : List (Bx (n + 1))) (kx : Option Addr) (kc : Nat) (w : World) (hF : FntOk w F) (_hk : RepL w (n + 1) kx kids) (_hm : kids.length ≤ maxLen) (h1 : fewB F = false) : Calls Try.prog 9 #[.agg (caseX F l c).toArray, .slice kx kids.length kc] w (Gives (.bool false) w) := by
  have HF := Lib.hid (fun w' (h : Below w.heap.size w w') => few_v37 (hF.below h) (Lib.hid h1))
  clear hF _hk h1
  go_enter Try.func9, Try.ntmps9
  have hS := own_start w
  go_wp2_with (first | (refine own_unguard (by rfl) ?_) | (refine own_box rfl _ _ rfl rfl hS ?_; clear hS; intro kb w0 hS0; have hrC := (hS0.get at0).range; have HB0 := Lib.hid hS0.below; obtain ⟨hrF, hrS⟩ := caseX_out hrC; have hS := own_start w0; clear hS0) | (refine own_load_old rfl _ _ rfl rfl hS hrC List.not_mem_nil rt_case37 ?_) | (refine own_load_old rfl _ _ rfl rfl hS hrF List.not_mem_nil rt_font ?_) | (refine own_load_old rfl _ _ rfl rfl hS hrS List.not_mem_nil rt_style ?_) | (go_at_call 17; refine own_calls hS (HF.out _ (bthen HB0.out hS.below)) ?_; clear hS; (try clear ww); intro ww hS) | (refine w_ld rfl _ rfl (by rfl) (by first | exact rd_1 (by repeat constructor) (by first | rfl | assumption) | exact rd_w (by repeat constructor) (by rfl) | exact rd_o (by assumption) (by rfl) (by first | exact nmn | assumption | simp) | exact rd_h (by assumption) (by rfl) (by first | exact nmn | assumption | simp) | exact rd_1o (by assumption) (by first | exact nmn | assumption | simp) | exact rd_1h (by assumption) (by first | rfl | assumption) (by first | exact nmn | assumption | simp)) hS ?_) | (refine own_box rfl _ _ rfl (by rfl) hS ?_; clear hS; (try clear ww); intro bb ww hS) | (refine w_al rfl rfl hS ?_; clear hS; (try clear ww); intro bb ww hS) | (refine w_st rfl _ _ rfl (by rfl) (by rfl) (by repeat constructor) (by rfl) (by rfl) (by first | rfl | assumption) hS ?_; clear hS; (try clear ww); intro ww hS) | (refine w_s1 rfl _ _ rfl (by rfl) (by repeat constructor) (by first | exact .c | exact .t rfl) (by rfl) (by repeat constructor) hS ?_; clear hS; (try clear ww); intro ww hS))
  go_ret
  exact ⟨rfl, bthen HB0.out hS.below⟩

set_option maxHeartbeats 8000000 in
set_option maxRecDepth 100000 in
theorem few37_1 (F : Fnt) (l : Int) (c : Bool) (n : Nat) (kids : List (Bx (n + 1))) (kx : Option Addr) (kc : Nat) (w : World) (hF : FntOk w F) (hk : RepL w (n + 1) kx kids) (hm : kids.length ≤ maxLen) (h1 : fewB F = true) (v : Bool) (h2 : v = decide (listN n kids ≤ 400)) : Calls Try.prog 9 #[.agg (caseX F l c).toArray, .slice kx kids.length kc] w (Gives (.bool v) w) := by
  have HF := Lib.hid (fun w' (h : Below w.heap.size w w') => few_v37 (hF.below h) (Lib.hid h1))
  have HN := Lib.hid (fun w' (h : Below w.heap.size w w') => ref37_Few_calls n kids kx kc 400 w' (hk.step h) hm (by omega) v h2)
  clear hF hk h1 h2
  go_enter Try.func9, Try.ntmps9
  have hS := own_start w
  go_wp2_with (first | (refine own_unguard (by rfl) ?_) | (refine own_box rfl _ _ rfl rfl hS ?_; clear hS; intro kb w0 hS0; have hrC := (hS0.get at0).range; have HB0 := Lib.hid hS0.below; obtain ⟨hrF, hrS⟩ := caseX_out hrC; have hS := own_start w0; clear hS0) | (refine own_load_old rfl _ _ rfl rfl hS hrC List.not_mem_nil rt_case37 ?_) | (refine own_load_old rfl _ _ rfl rfl hS hrF List.not_mem_nil rt_font ?_) | (refine own_load_old rfl _ _ rfl rfl hS hrS List.not_mem_nil rt_style ?_) | (go_at_call 17; refine own_calls hS (HF.out _ (bthen HB0.out hS.below)) ?_; clear hS; (try clear ww); intro ww hS) | (go_at_call 18; refine own_calls hS (HN.out _ (bthen HB0.out hS.below)) ?_; clear hS; (try clear ww); intro ww hS) | (refine w_ld rfl _ rfl (by rfl) (by first | exact rd_1 (by repeat constructor) (by first | rfl | assumption) | exact rd_w (by repeat constructor) (by rfl) | exact rd_o (by assumption) (by rfl) (by first | exact nmn | assumption | simp) | exact rd_h (by assumption) (by rfl) (by first | exact nmn | assumption | simp) | exact rd_1o (by assumption) (by first | exact nmn | assumption | simp) | exact rd_1h (by assumption) (by first | rfl | assumption) (by first | exact nmn | assumption | simp)) hS ?_) | (refine own_box rfl _ _ rfl (by rfl) hS ?_; clear hS; (try clear ww); intro bb ww hS) | (refine w_al rfl rfl hS ?_; clear hS; (try clear ww); intro bb ww hS) | (refine w_st rfl _ _ rfl (by rfl) (by rfl) (by repeat constructor) (by rfl) (by rfl) (by first | rfl | assumption) hS ?_; clear hS; (try clear ww); intro ww hS) | (refine w_s1 rfl _ _ rfl (by rfl) (by repeat constructor) (by first | exact .c | exact .t rfl) (by rfl) (by repeat constructor) hS ?_; clear hS; (try clear ww); intro ww hS))
  go_ret
  exact ⟨rfl, bthen HB0.out hS.below⟩
theorem few37_calls (F : Fnt) (l : Int) (c : Bool) (n : Nat) (kids : List (Bx (n + 1))) (kx : Option Addr) (kc : Nat) (w : World) (hF : FntOk w F) (hk : RepL w (n + 1) kx kids) (hm : kids.length ≤ maxLen) (v : Bool) (hv : v = fewX F n kids) : Calls Try.prog 9 #[.agg (caseX F l c).toArray, .slice kx kids.length kc] w (Gives (.bool v) w) := by
  subst hv
  unfold fewX
  cases h1 : fewB F
  · exact few37_0 F l c n kids kx kc w hF hk hm h1
  · exact few37_1 F l c n kids kx kc w hF hk hm h1 _ (by simp)
theorem fewX_out {F : Fnt} {n : Nat} {kids : List (Bx (n + 1))} (h : fewX F n kids = true) : (F.gs.length ≤ 500 ∧ F.ss.length ≤ 50) ∧ kids.length ≤ 399 ∧ ∀ k ∈ kids, bCount (n + 1) k ≤ 399 := by
  simp only [fewX, Bool.and_eq_true, decide_eq_true_eq] at h
  have h1 := fewB_iff.1 h.1
  have hs : 1 + (kids.map (bCount (n + 1))).sum ≤ 400 := h.2
  have key : ∀ (l : List (Bx (n + 1))), l.length ≤ (l.map (bCount (n + 1))).sum ∧ ∀ k ∈ l, bCount (n + 1) k ≤ (l.map (bCount (n + 1))).sum := by
    intro l
    induction l with
    | nil => exact ⟨Nat.le_refl _, fun k hk => by cases hk⟩
    | cons a l ih =>
      have ha : 1 ≤ bCount (n + 1) a := by simp only [bCount]; omega
      rw [List.map_cons, List.sum_cons, List.length_cons]
      refine ⟨by omega, fun k hk => ?_⟩
      rcases List.mem_cons.1 hk with rfl | hk
      · omega
      · have := ih.2 k hk
        omega
  have hk := key kids
  exact ⟨⟨h1.1, h1.2.1⟩, by omega, fun k hk' => by have := hk.2 k hk'; omega⟩
end Go.Proofs.Ytgnkngkogamjaaa
namespace Go.Proofs.Ytgnkngkogamjaaa
open Go.RowKit
attribute [local irreducible] wpQuiet wpG wpP wpK wpList Code.wp Calls

end Go.Proofs.Ytgnkngkogamjaaa
namespace Go.Proofs.Ytgnkngkogamjaaa
open Go.RowKit
attribute [local irreducible] wpQuiet wpG wpP wpK wpList Code.wp Calls

end Go.Proofs.Ytgnkngkogamjaaa
