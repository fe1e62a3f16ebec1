/- Reading a font. -/
import Derived.Test.YtgknameejoalnaaS06
import Derived.Test.YtgknameejoalnaaS01
namespace Go.Proofs.Ytgknameejoalnaa
open Go.RowKit Go.ChangeShapes Go.WideShapes Go.Deep

theorem Try.cellsPart : Try.prog.cellsOf 52 = 2 := by kernel_rfl
theorem Try.cellsStretch : Try.prog.cellsOf 45 = 4 := by kernel_rfl
theorem Try.cellsParams : Try.prog.cellsOf 36 = 20 := by kernel_rfl
theorem Try.cellsFont : Try.prog.cellsOf 38 = 22 := by kernel_rfl
theorem Try.cellsStrings : Try.prog.cellsOf 42 = 1 := by kernel_rfl
theorem Try.cellsParts : Try.prog.cellsOf 43 = 1 := by kernel_rfl
theorem Try.cellsGlyphs : Try.prog.cellsOf 33 = 1 := by kernel_rfl
theorem Try.cellsStretches : Try.prog.cellsOf 34 = 1 := by kernel_rfl

section
variable {H : Type} {enc : TypeId × Value → H} {w : World}

set_option maxRecDepth 100000 in
/-- A slice each of whose elements reads as f of something. -/
theorem read_row {P : Program} {α : Type} {f : α → List Value} {R : α → Prop} {t e : TypeId} {fuel size : Nat} {cs : List Value} {x : DataW H × List MemPlace} (ht : P.underlying t = some (.slice e)) (hC : P.cellsOf e = size) (h0 : 0 < size)
    (he : ∀ {fuel : Nat} {cs : List Value} {x : DataW H × List MemPlace}, DataW.trod enc P w 0 (fun _ => true) true fuel e cs = some x → ∃ a, cs = f a ∧ R a)
    (h : DataW.trod enc P w 0 (fun _ => true) true fuel t cs = some x) :
    ∃ (y : Option Addr) (c : Nat) (l : List α), cs = [.slice y l.length c] ∧ RowAt w y size f l ∧ (∀ a ∈ l, R a) ∧ l.length ≤ maxLen ∧ l.length ≤ c ∧ (l ≠ [] → c ≤ maxLen) := by
  subst hC
  rcases read_slice ht h0 h with ⟨y, c, rfl⟩ | ⟨b, o, len, c, n, hlen, rfl, hl, hm, hi⟩
  · exact ⟨y, c, [], rfl, .inl rfl, by simp, Nat.zero_le _, Nat.zero_le _, fun h => absurd rfl h⟩
  · obtain ⟨l, hll, hr⟩ := list_of (fun i a => w.rangeAt b (o + i * P.cellsOf e) (f a) ∧ R a) len fun i hlt => by
      obtain ⟨cs', y, hcl, hc, htr⟩ := hi i hlt
      obtain ⟨a, rfl, hR⟩ := he htr
      refine ⟨a, fun j v hj => ?_, hR⟩
      have hjl : j < P.cellsOf e := by rw [← hcl]; exact (List.getElem?_eq_some_iff.1 hj).1
      rw [hc j hjl, hj]
    subst hll
    refine ⟨some ⟨b, o, none⟩, c, l, rfl, .inr ⟨b, o, rfl, fun i a hia => (hr i a hia).1⟩, fun a ha => ?_, by omega, hl, fun _ => hm⟩
    obtain ⟨i, hi⟩ := List.mem_iff_getElem?.1 ha
    exact (hr i a hi).2

set_option maxRecDepth 100000 in
theorem read_string {fuel : Nat} {cs : List Value} {x : DataW H × List MemPlace} (h : DataW.trod enc Try.prog w 0 (fun _ => true) true fuel 9 cs = some x) : ∃ s, cs = strCells s ∧ s.size ≤ maxLen := by
  obtain ⟨s, hs, _, ws⟩ := DataW.trod_string Try.underlying9 h
  exact ⟨s, hs, ws⟩

set_option maxRecDepth 100000 in
theorem read_part {fuel : Nat} {cs : List Value} {x : DataW H × List MemPlace} (h : DataW.trod enc Try.prog w 0 (fun _ => true) true fuel 52 cs = some x) : ∃ p : Prt, cs = p.cells ∧ p.name.size ≤ maxLen := by
  obtain ⟨hl, n, hf⟩ := read_struct Try.underlying52 h
  rw [Try.cellsPart] at hl
  obtain ⟨_, f0⟩ := hf 0 _ rfl
  obtain ⟨_, f1⟩ := hf 1 _ rfl
  obtain ⟨s, e0, hs⟩ := field_string f0
  obtain ⟨b, e1⟩ := field_bool f1
  refine ⟨⟨s, b⟩, ?_, hs⟩
  match cs, hl with
  | [c0, c1], _ =>
    simp at e0 e1
    subst e0 e1
    rfl

set_option maxRecDepth 100000 in
/-- A field that is a slice. -/
theorem field_row {α : Type} {f : α → List Value} {R : α → Prop} {t e : TypeId} {n o size : Nat} {cs : List Value} {y : DataW H × List MemPlace} (ht : Try.prog.underlying t = some (.slice e)) (h1 : Try.prog.cellsOf t = 1) (hC : Try.prog.cellsOf e = size) (h0 : 0 < size)
    (he : ∀ {fuel : Nat} {cs : List Value} {x : DataW H × List MemPlace}, DataW.trod enc Try.prog w 0 (fun _ => true) true fuel e cs = some x → ∃ a, cs = f a ∧ R a)
    (h : DataW.trod enc Try.prog w 0 (fun _ => true) true n t ((cs.drop o).take (Try.prog.cellsOf t)) = some y) :
    ∃ (y : Option Addr) (c : Nat) (l : List α), cs[o]? = some (.slice y l.length c) ∧ RowAt w y size f l ∧ (∀ a ∈ l, R a) ∧ l.length ≤ maxLen ∧ l.length ≤ c ∧ (l ≠ [] → c ≤ maxLen) := by
  rw [h1] at h
  obtain ⟨y, c, l, hc, hr⟩ := read_row ht hC h0 he h
  exact ⟨y, c, l, take_one hc, hr⟩

set_option maxRecDepth 100000 in
theorem read_stretch {fuel : Nat} {cs : List Value} {x : DataW H × List MemPlace} (h : DataW.trod enc Try.prog w 0 (fun _ => true) true fuel 45 cs = some x) : ∃ s : Str, cs = s.cells ∧ StrOk w s := by
  obtain ⟨hl, n, hf⟩ := read_struct Try.underlying45 h
  rw [Try.cellsStretch] at hl
  obtain ⟨_, f0⟩ := hf 0 _ rfl
  obtain ⟨_, f1⟩ := hf 1 _ rfl
  obtain ⟨_, f2⟩ := hf 2 _ rfl
  obtain ⟨_, f3⟩ := hf 3 _ rfl
  obtain ⟨s, e0, hs⟩ := field_string f0
  obtain ⟨sx, sc, sz, e1, r1, q1, l1, _⟩ := field_row Try.underlying42 Try.cellsStrings Try.cellsString (by omega) (fun h => read_string h) f1
  obtain ⟨px, pc, ps, e2, r2, q2, l2, _⟩ := field_row Try.underlying43 Try.cellsParts Try.cellsPart (by omega) (fun h => read_part h) f2
  obtain ⟨n3, e3, h3⟩ := field_int f3
  refine ⟨{ name := s, sx := sx, sc := sc, sizes := sz, px := px, pc := pc, parts := ps, ov := n3 }, ?_, ⟨r1, r2, h3, l1, l2, hs, q1, q2⟩⟩
  match cs, hl with
  | [c0, c1, c2, c3], _ =>
    simp at e0 e1 e2 e3
    subst e0 e1 e2 e3
    rfl

set_option maxRecDepth 100000 in
theorem read_params {fuel : Nat} {cs : List Value} {x : DataW H × List MemPlace} (h : DataW.trod enc Try.prog w 0 (fun _ => true) true fuel 36 cs = some x) :
    ∃ ns : List Int, ns.length = 20 ∧ cs = ns.map (Value.int .i64) ∧ ∀ n ∈ ns, I64 n := by
  obtain ⟨hl, n, hf⟩ := read_struct Try.underlying36 h
  rw [Try.cellsParams] at hl
  obtain ⟨ns, hns, hr⟩ := list_of (fun i z => cs[i]? = some (.int .i64 z) ∧ I64 z) 20 fun i hi => by
    have hcase : i = 0 ∨ i = 1 ∨ i = 2 ∨ i = 3 ∨ i = 4 ∨ i = 5 ∨ i = 6 ∨ i = 7 ∨ i = 8 ∨ i = 9 ∨ i = 10 ∨ i = 11 ∨ i = 12 ∨ i = 13 ∨ i = 14 ∨ i = 15 ∨ i = 16 ∨ i = 17 ∨ i = 18 ∨ i = 19 := by omega
    rcases hcase with rfl | rfl | rfl | rfl | rfl | rfl | rfl | rfl | rfl | rfl | rfl | rfl | rfl | rfl | rfl | rfl | rfl | rfl | rfl | rfl
    · exact field_int (hf 0 _ rfl).choose_spec
    · exact field_int (hf 1 _ rfl).choose_spec
    · exact field_int (hf 2 _ rfl).choose_spec
    · exact field_int (hf 3 _ rfl).choose_spec
    · exact field_int (hf 4 _ rfl).choose_spec
    · exact field_int (hf 5 _ rfl).choose_spec
    · exact field_int (hf 6 _ rfl).choose_spec
    · exact field_int (hf 7 _ rfl).choose_spec
    · exact field_int (hf 8 _ rfl).choose_spec
    · exact field_int (hf 9 _ rfl).choose_spec
    · exact field_int (hf 10 _ rfl).choose_spec
    · exact field_int (hf 11 _ rfl).choose_spec
    · exact field_int (hf 12 _ rfl).choose_spec
    · exact field_int (hf 13 _ rfl).choose_spec
    · exact field_int (hf 14 _ rfl).choose_spec
    · exact field_int (hf 15 _ rfl).choose_spec
    · exact field_int (hf 16 _ rfl).choose_spec
    · exact field_int (hf 17 _ rfl).choose_spec
    · exact field_int (hf 18 _ rfl).choose_spec
    · exact field_int (hf 19 _ rfl).choose_spec
  refine ⟨ns, hns, ?_, fun z hz => ?_⟩
  · apply List.ext_getElem?
    intro i
    by_cases hi : i < 20
    · have h1 : ns[i]? = some ns[i] := List.getElem?_eq_getElem (by omega)
      rw [(hr i _ h1).1, List.getElem?_map, h1]
      rfl
    · rw [List.getElem?_eq_none (by omega), List.getElem?_eq_none (by simp; omega)]
  · obtain ⟨i, hi⟩ := List.mem_iff_getElem?.1 hz
    exact (hr i z hi).2

set_option maxRecDepth 100000 in
theorem read_font {fuel : Nat} {cs : List Value} {x : DataW H × List MemPlace} (h : DataW.trod enc Try.prog w 0 (fun _ => true) true fuel 38 cs = some x) : ∃ F : Fnt, cs = F.cells ∧ FntOk w F := by
  obtain ⟨hl, n, hf⟩ := read_struct Try.underlying38 h
  rw [Try.cellsFont] at hl
  obtain ⟨_, f0⟩ := hf 0 _ rfl
  obtain ⟨_, f1⟩ := hf 1 _ rfl
  obtain ⟨y2, f2⟩ := hf 2 _ rfl
  replace f2 : DataW.trod enc Try.prog w 0 (fun _ => true) true n 36 ((cs.drop 2).take (Try.prog.cellsOf 36)) = some y2 := f2
  obtain ⟨gx, gc, gs, e0, r0, q0, l0, p0⟩ := field_row (f := Gly.cells) (R := fun g => g.wf ∧ g.name.size ≤ maxLen) Try.underlying33 Try.cellsGlyphs Try.cellsGlyph (by omega) (fun h => read_glyph h) f0
  obtain ⟨sx, sc, ss, e1, r1, q1, l1, p1⟩ := field_row Try.underlying34 Try.cellsStretches Try.cellsStretch (by omega) (fun h => read_stretch h) f1
  rw [Try.cellsParams] at f2
  obtain ⟨ns, hns, hc, hw⟩ := read_params f2
  match ns, hns with
  | [n0, n1, n2, n3, n4, n5, n6, n7, n8, n9, n10, n11, n12, n13, n14, n15, n16, n17, n18, n19], _ =>
    refine ⟨{ gx := gx, gc := gc, gs := gs, sx := sx, sc := sc, ss := ss, quad := n0, xheight := n1, axis := n2, rule := n3, num1 := n4, num2 := n5, den1 := n6, den2 := n7, sup1 := n8, sup2 := n9, sup3 := n10, sub1 := n11, sub2 := n12, supdrop := n13, subdrop := n14, script := n15, sscript := n16, dpercent := n17, dshort := n18, acc := n19 }, ?_, ⟨r0, r1, q0, q1, l0, l1, p0, p1, fun z hz => ?_⟩⟩
    · match cs, hl with
      | c0 :: c1 :: rest, hl =>
        simp at e0 e1
        subst e0 e1
        simp only [List.length_cons] at hl
        have hr : (List.drop 2 (Value.slice gx gs.length gc :: Value.slice sx ss.length sc :: rest)).take 20 = rest := by
          show rest.take 20 = rest
          exact List.take_of_length_le (by omega)
        rw [hr] at hc
        rw [hc]
        rfl
    · apply hw
      simp [Fnt.prm] at hz ⊢
      exact hz

set_option maxRecDepth 100000 in
/-- A font as an argument. -/
theorem open_font {r : Reach} {b0 : Nat} {v : Value} {d : DataW H} {p : List MemPlace} (hv : Value.okWide Try.prog w r b0 38 v) (h : DataW.Trod enc Try.prog w 0 (fun _ => true) true 38 v d p) :
    ∃ F : Fnt, v = F.val ∧ FntOk w F := by
  obtain ⟨cs, rfl, _⟩ := okWide_struct Try.underlying38 hv
  obtain ⟨fuel, hf⟩ := h
  obtain ⟨F, hc, hw⟩ := read_font hf
  exact ⟨F, by rw [Array.toList_inj.1 (show cs.toList = (F.cells.toArray).toList from hc)], hw⟩
end
end Go.Proofs.Ytgknameejoalnaa
