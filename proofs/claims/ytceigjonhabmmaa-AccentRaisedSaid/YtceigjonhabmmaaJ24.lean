/- Texts OpenG, OpF, OpB, Opc, Cs6, Tm6, Law, Req, Fon, Tam, Mad. -/
import Derived.Test.YtceigjonhabmmaaJ04
import Derived.Test.YtceigjonhabmmaaJ01
import Derived.Test.YtceigjonhabmmaaJ14
import Derived.Test.YtceigjonhabmmaaJ13
import Derived.Test.YtceigjonhabmmaaJ05
import Derived.Test.YtceigjonhabmmaaJ19
import Derived.Test.YtceigjonhabmmaaJ00
import Derived.ProofKit
import Derived.Lib.SmallJoins
namespace Go.Proofs.Ytceigjonhabmmaa
open Go.RowKit Go.ChangeShapes Go.WideShapes Go.Deep

theorem Try.cellsInt : Try.prog.cellsOf 3 = 1 := by kernel_rfl
theorem Try.cellsString : Try.prog.cellsOf 9 = 1 := by kernel_rfl
theorem Try.cellsBool : Try.prog.cellsOf 4 = 1 := by kernel_rfl
theorem Try.cellsGlyph : Try.prog.cellsOf 55 = 6 := by kernel_rfl

section
variable {H : Type} {enc : TypeId × Value → H} {w : World}

theorem field_int {n o : Nat} {cs : List Value} {y : DataW H × List MemPlace} (h : DataW.trod enc Try.prog w 0 (fun _ => true) true n 3 ((cs.drop o).take (Try.prog.cellsOf 3)) = some y) : ∃ z, cs[o]? = some (.int .i64 z) ∧ I64 z := by
  rw [Try.cellsInt] at h
  obtain ⟨z, hz, _, wz⟩ := DataW.trod_int Try.underlying3 h
  exact ⟨z, take_one hz, i64_of wz⟩
theorem field_string {n o : Nat} {cs : List Value} {y : DataW H × List MemPlace} (h : DataW.trod enc Try.prog w 0 (fun _ => true) true n 9 ((cs.drop o).take (Try.prog.cellsOf 9)) = some y) : ∃ s, cs[o]? = some (.string s) ∧ s.size ≤ maxLen := by
  rw [Try.cellsString] at h
  obtain ⟨s, hs, _, ws⟩ := DataW.trod_string Try.underlying9 h
  exact ⟨s, take_one hs, ws⟩
theorem field_bool {n o : Nat} {cs : List Value} {y : DataW H × List MemPlace} (h : DataW.trod enc Try.prog w 0 (fun _ => true) true n 4 ((cs.drop o).take (Try.prog.cellsOf 4)) = some y) : ∃ b, cs[o]? = some (.bool b) := by
  rw [Try.cellsBool] at h
  obtain ⟨b, hb, _⟩ := DataW.trod_bool Try.underlying4 h
  exact ⟨b, take_one hb⟩

set_option maxRecDepth 100000 in
/-- The cells of a glyph that reads. -/
theorem read_glyph {fuel : Nat} {cs : List Value} {x : DataW H × List MemPlace} (h : DataW.trod enc Try.prog w 0 (fun _ => true) true fuel 55 cs = some x) :
    ∃ g : Gly, cs = [.string g.name, .int .i64 g.w, .int .i64 g.h, .int .i64 g.d, .int .i64 g.it, .int .i64 g.at_] ∧ g.wf ∧ g.name.size ≤ maxLen := by
  obtain ⟨hl, n, hf⟩ := read_struct Try.underlying55 h
  rw [Try.cellsGlyph] at hl
  obtain ⟨_, f0⟩ := hf 0 _ rfl
  obtain ⟨_, f1⟩ := hf 1 _ rfl
  obtain ⟨_, f2⟩ := hf 2 _ rfl
  obtain ⟨_, f3⟩ := hf 3 _ rfl
  obtain ⟨_, f4⟩ := hf 4 _ rfl
  obtain ⟨_, f5⟩ := hf 5 _ rfl
  obtain ⟨s, e0, hs⟩ := field_string f0
  obtain ⟨n1, e1, h1⟩ := field_int f1
  obtain ⟨n2, e2, h2⟩ := field_int f2
  obtain ⟨n3, e3, h3⟩ := field_int f3
  obtain ⟨n4, e4, h4⟩ := field_int f4
  obtain ⟨n5, e5, h5⟩ := field_int f5
  refine ⟨{ name := s, w := n1, h := n2, d := n3, it := n4, at_ := n5 }, ?_, ⟨h1, h2, h3, h4, h5⟩, hs⟩
  match cs, hl with
  | [c0, c1, c2, c3, c4, c5], _ =>
    simp at e0 e1 e2 e3 e4 e5
    subst e0 e1 e2 e3 e4 e5
    rfl

end
end Go.Proofs.Ytceigjonhabmmaa
namespace Go.Proofs.Ytceigjonhabmmaa
open Go.RowKit Go.ChangeShapes Go.WideShapes Go.Deep

theorem Try.cellsPart : Try.prog.cellsOf 100 = 2 := by kernel_rfl
theorem Try.cellsStretch : Try.prog.cellsOf 74 = 4 := by kernel_rfl
theorem Try.cellsParams : Try.prog.cellsOf 25 = 20 := by kernel_rfl
theorem Try.cellsFont : Try.prog.cellsOf 27 = 22 := by kernel_rfl
theorem Try.cellsStrings : Try.prog.cellsOf 71 = 1 := by kernel_rfl
theorem Try.cellsParts : Try.prog.cellsOf 72 = 1 := by kernel_rfl
theorem Try.cellsGlyphs : Try.prog.cellsOf 22 = 1 := by kernel_rfl
theorem Try.cellsStretches : Try.prog.cellsOf 23 = 1 := by kernel_rfl

section
variable {H : Type} {enc : TypeId × Value → H} {w : World}

set_option maxRecDepth 100000 in
/-- A slice each of whose elements reads as f of something. -/
theorem read_row {P : Program} {α : Type} {f : α → List Value} {R : α → Prop} {t e : TypeId} {fuel size : Nat} {cs : List Value} {x : DataW H × List MemPlace} (ht : P.underlying t = some (.slice e)) (hC : P.cellsOf e = size) (h0 : 0 < size)
    (he : ∀ {fuel : Nat} {cs : List Value} {x : DataW H × List MemPlace}, DataW.trod enc P w 0 (fun _ => true) true fuel e cs = some x → ∃ a, cs = f a ∧ R a)
    (h : DataW.trod enc P w 0 (fun _ => true) true fuel t cs = some x) :
    ∃ (y : Option Addr) (c : Nat) (l : List α), cs = [.slice y l.length c] ∧ RowAt w y size f l ∧ (∀ a ∈ l, R a) ∧ l.length ≤ maxLen ∧ l.length ≤ c ∧ (l ≠ [] → c ≤ maxLen) := by
  subst hC
  rcases read_slice ht h0 h with ⟨y, c, rfl⟩ | ⟨b, o, len, c, n, hlen, rfl, hl, hm, hi⟩
  · exact ⟨y, c, [], rfl, .inl rfl, by simp, Nat.zero_le _, Nat.zero_le _, fun h => absurd rfl h⟩
  · obtain ⟨l, hll, hr⟩ := list_of (fun i a => w.rangeAt b (o + i * P.cellsOf e) (f a) ∧ R a) len fun i hlt => by
      obtain ⟨cs', y, hcl, hc, htr⟩ := hi i hlt
      obtain ⟨a, rfl, hR⟩ := he htr
      refine ⟨a, fun j v hj => ?_, hR⟩
      have hjl : j < P.cellsOf e := by rw [← hcl]; exact (List.getElem?_eq_some_iff.1 hj).1
      rw [hc j hjl, hj]
    subst hll
    refine ⟨some ⟨b, o, none⟩, c, l, rfl, .inr ⟨b, o, rfl, fun i a hia => (hr i a hia).1⟩, fun a ha => ?_, by omega, hl, fun _ => hm⟩
    obtain ⟨i, hi⟩ := List.mem_iff_getElem?.1 ha
    exact (hr i a hi).2

set_option maxRecDepth 100000 in
theorem read_string {fuel : Nat} {cs : List Value} {x : DataW H × List MemPlace} (h : DataW.trod enc Try.prog w 0 (fun _ => true) true fuel 9 cs = some x) : ∃ s, cs = strCells s ∧ s.size ≤ maxLen := by
  obtain ⟨s, hs, _, ws⟩ := DataW.trod_string Try.underlying9 h
  exact ⟨s, hs, ws⟩

set_option maxRecDepth 100000 in
theorem read_part {fuel : Nat} {cs : List Value} {x : DataW H × List MemPlace} (h : DataW.trod enc Try.prog w 0 (fun _ => true) true fuel 100 cs = some x) : ∃ p : Prt, cs = p.cells ∧ p.name.size ≤ maxLen := by
  obtain ⟨hl, n, hf⟩ := read_struct Try.underlying100 h
  rw [Try.cellsPart] at hl
  obtain ⟨_, f0⟩ := hf 0 _ rfl
  obtain ⟨_, f1⟩ := hf 1 _ rfl
  obtain ⟨s, e0, hs⟩ := field_string f0
  obtain ⟨b, e1⟩ := field_bool f1
  refine ⟨⟨s, b⟩, ?_, hs⟩
  match cs, hl with
  | [c0, c1], _ =>
    simp at e0 e1
    subst e0 e1
    rfl

set_option maxRecDepth 100000 in
/-- A field that is a slice. -/
theorem field_row {α : Type} {f : α → List Value} {R : α → Prop} {t e : TypeId} {n o size : Nat} {cs : List Value} {y : DataW H × List MemPlace} (ht : Try.prog.underlying t = some (.slice e)) (h1 : Try.prog.cellsOf t = 1) (hC : Try.prog.cellsOf e = size) (h0 : 0 < size)
    (he : ∀ {fuel : Nat} {cs : List Value} {x : DataW H × List MemPlace}, DataW.trod enc Try.prog w 0 (fun _ => true) true fuel e cs = some x → ∃ a, cs = f a ∧ R a)
    (h : DataW.trod enc Try.prog w 0 (fun _ => true) true n t ((cs.drop o).take (Try.prog.cellsOf t)) = some y) :
    ∃ (y : Option Addr) (c : Nat) (l : List α), cs[o]? = some (.slice y l.length c) ∧ RowAt w y size f l ∧ (∀ a ∈ l, R a) ∧ l.length ≤ maxLen ∧ l.length ≤ c ∧ (l ≠ [] → c ≤ maxLen) := by
  rw [h1] at h
  obtain ⟨y, c, l, hc, hr⟩ := read_row ht hC h0 he h
  exact ⟨y, c, l, take_one hc, hr⟩

set_option maxRecDepth 100000 in
theorem read_stretch {fuel : Nat} {cs : List Value} {x : DataW H × List MemPlace} (h : DataW.trod enc Try.prog w 0 (fun _ => true) true fuel 74 cs = some x) : ∃ s : Str, cs = s.cells ∧ StrOk w s := by
  obtain ⟨hl, n, hf⟩ := read_struct Try.underlying74 h
  rw [Try.cellsStretch] at hl
  obtain ⟨_, f0⟩ := hf 0 _ rfl
  obtain ⟨_, f1⟩ := hf 1 _ rfl
  obtain ⟨_, f2⟩ := hf 2 _ rfl
  obtain ⟨_, f3⟩ := hf 3 _ rfl
  obtain ⟨s, e0, hs⟩ := field_string f0
  obtain ⟨sx, sc, sz, e1, r1, q1, l1, _⟩ := field_row Try.underlying71 Try.cellsStrings Try.cellsString (by omega) (fun h => read_string h) f1
  obtain ⟨px, pc, ps, e2, r2, q2, l2, _⟩ := field_row Try.underlying72 Try.cellsParts Try.cellsPart (by omega) (fun h => read_part h) f2
  obtain ⟨n3, e3, h3⟩ := field_int f3
  refine ⟨{ name := s, sx := sx, sc := sc, sizes := sz, px := px, pc := pc, parts := ps, ov := n3 }, ?_, ⟨r1, r2, h3, l1, l2, hs, q1, q2⟩⟩
  match cs, hl with
  | [c0, c1, c2, c3], _ =>
    simp at e0 e1 e2 e3
    subst e0 e1 e2 e3
    rfl

set_option maxRecDepth 100000 in
theorem read_params {fuel : Nat} {cs : List Value} {x : DataW H × List MemPlace} (h : DataW.trod enc Try.prog w 0 (fun _ => true) true fuel 25 cs = some x) :
    ∃ ns : List Int, ns.length = 20 ∧ cs = ns.map (Value.int .i64) ∧ ∀ n ∈ ns, I64 n := by
  obtain ⟨hl, n, hf⟩ := read_struct Try.underlying25 h
  rw [Try.cellsParams] at hl
  obtain ⟨ns, hns, hr⟩ := list_of (fun i z => cs[i]? = some (.int .i64 z) ∧ I64 z) 20 fun i hi => by
    have hcase : i = 0 ∨ i = 1 ∨ i = 2 ∨ i = 3 ∨ i = 4 ∨ i = 5 ∨ i = 6 ∨ i = 7 ∨ i = 8 ∨ i = 9 ∨ i = 10 ∨ i = 11 ∨ i = 12 ∨ i = 13 ∨ i = 14 ∨ i = 15 ∨ i = 16 ∨ i = 17 ∨ i = 18 ∨ i = 19 := by omega
    rcases hcase with rfl | rfl | rfl | rfl | rfl | rfl | rfl | rfl | rfl | rfl | rfl | rfl | rfl | rfl | rfl | rfl | rfl | rfl | rfl | rfl
    · exact field_int (hf 0 _ rfl).choose_spec
    · exact field_int (hf 1 _ rfl).choose_spec
    · exact field_int (hf 2 _ rfl).choose_spec
    · exact field_int (hf 3 _ rfl).choose_spec
    · exact field_int (hf 4 _ rfl).choose_spec
    · exact field_int (hf 5 _ rfl).choose_spec
    · exact field_int (hf 6 _ rfl).choose_spec
    · exact field_int (hf 7 _ rfl).choose_spec
    · exact field_int (hf 8 _ rfl).choose_spec
    · exact field_int (hf 9 _ rfl).choose_spec
    · exact field_int (hf 10 _ rfl).choose_spec
    · exact field_int (hf 11 _ rfl).choose_spec
    · exact field_int (hf 12 _ rfl).choose_spec
    · exact field_int (hf 13 _ rfl).choose_spec
    · exact field_int (hf 14 _ rfl).choose_spec
    · exact field_int (hf 15 _ rfl).choose_spec
    · exact field_int (hf 16 _ rfl).choose_spec
    · exact field_int (hf 17 _ rfl).choose_spec
    · exact field_int (hf 18 _ rfl).choose_spec
    · exact field_int (hf 19 _ rfl).choose_spec
  refine ⟨ns, hns, ?_, fun z hz => ?_⟩
  · apply List.ext_getElem?
    intro i
    by_cases hi : i < 20
    · have h1 : ns[i]? = some ns[i] := List.getElem?_eq_getElem (by omega)
      rw [(hr i _ h1).1, List.getElem?_map, h1]
      rfl
    · rw [List.getElem?_eq_none (by omega), List.getElem?_eq_none (by simp; omega)]
  · obtain ⟨i, hi⟩ := List.mem_iff_getElem?.1 hz
    exact (hr i z hi).2

set_option maxRecDepth 100000 in
theorem read_font {fuel : Nat} {cs : List Value} {x : DataW H × List MemPlace} (h : DataW.trod enc Try.prog w 0 (fun _ => true) true fuel 27 cs = some x) : ∃ F : Fnt, cs = F.cells ∧ FntOk w F := by
  obtain ⟨hl, n, hf⟩ := read_struct Try.underlying27 h
  rw [Try.cellsFont] at hl
  obtain ⟨_, f0⟩ := hf 0 _ rfl
  obtain ⟨_, f1⟩ := hf 1 _ rfl
  obtain ⟨y2, f2⟩ := hf 2 _ rfl
  replace f2 : DataW.trod enc Try.prog w 0 (fun _ => true) true n 25 ((cs.drop 2).take (Try.prog.cellsOf 25)) = some y2 := f2
  obtain ⟨gx, gc, gs, e0, r0, q0, l0, p0⟩ := field_row (f := Gly.cells) (R := fun g => g.wf ∧ g.name.size ≤ maxLen) Try.underlying22 Try.cellsGlyphs Try.cellsGlyph (by omega) (fun h => read_glyph h) f0
  obtain ⟨sx, sc, ss, e1, r1, q1, l1, p1⟩ := field_row Try.underlying23 Try.cellsStretches Try.cellsStretch (by omega) (fun h => read_stretch h) f1
  rw [Try.cellsParams] at f2
  obtain ⟨ns, hns, hc, hw⟩ := read_params f2
  match ns, hns with
  | [n0, n1, n2, n3, n4, n5, n6, n7, n8, n9, n10, n11, n12, n13, n14, n15, n16, n17, n18, n19], _ =>
    refine ⟨{ gx := gx, gc := gc, gs := gs, sx := sx, sc := sc, ss := ss, quad := n0, xheight := n1, axis := n2, rule := n3, num1 := n4, num2 := n5, den1 := n6, den2 := n7, sup1 := n8, sup2 := n9, sup3 := n10, sub1 := n11, sub2 := n12, supdrop := n13, subdrop := n14, script := n15, sscript := n16, dpercent := n17, dshort := n18, acc := n19 }, ?_, ⟨r0, r1, q0, q1, l0, l1, p0, p1, fun z hz => ?_⟩⟩
    · match cs, hl with
      | c0 :: c1 :: rest, hl =>
        simp at e0 e1
        subst e0 e1
        simp only [List.length_cons] at hl
        have hr : (List.drop 2 (Value.slice gx gs.length gc :: Value.slice sx ss.length sc :: rest)).take 20 = rest := by
          show rest.take 20 = rest
          exact List.take_of_length_le (by omega)
        rw [hr] at hc
        rw [hc]
        rfl
    · apply hw
      simp [Fnt.prm] at hz ⊢
      exact hz

set_option maxRecDepth 100000 in
/-- A font as an argument. -/
theorem open_font {r : Reach} {b0 : Nat} {v : Value} {d : DataW H} {p : List MemPlace} (hv : Value.okWide Try.prog w r b0 27 v) (h : DataW.Trod enc Try.prog w 0 (fun _ => true) true 27 v d p) :
    ∃ F : Fnt, v = F.val ∧ FntOk w F := by
  obtain ⟨cs, rfl, _⟩ := okWide_struct Try.underlying27 hv
  obtain ⟨fuel, hf⟩ := h
  obtain ⟨F, hc, hw⟩ := read_font hf
  exact ⟨F, by rw [Array.toList_inj.1 (show cs.toList = (F.cells.toArray).toList from hc)], hw⟩
end
end Go.Proofs.Ytceigjonhabmmaa
namespace Go.Proofs.Ytceigjonhabmmaa
open Go.RowKit Go.ChangeShapes Go.WideShapes Go.Deep

theorem Try.cellsBox : Try.prog.cellsOf 33 = 11 := by kernel_rfl
theorem Try.cellsBoxs : Try.prog.cellsOf 30 = 1 := by kernel_rfl
theorem Try.cellsInts : Try.prog.cellsOf 31 = 1 := by kernel_rfl

section
variable {H : Type} {enc : TypeId × Value → H} {w : World}

set_option maxRecDepth 100000 in
/-- A slice that reads, and by how much fuel its elements read. -/
theorem read_slice_n {P : Program} {t e : TypeId} {fuel : Nat} {cs : List Value} {x : DataW H × List MemPlace} (ht : P.underlying t = some (.slice e)) (hC : 0 < P.cellsOf e)
    (h : DataW.trod enc P w 0 (fun _ => true) true fuel t cs = some x) :
    (∃ y c, cs = [.slice y 0 c]) ∨ ∃ (b o len c n : Nat), n < fuel ∧ 0 < len ∧ cs = [.slice (some ⟨b, o, none⟩) len c] ∧ len ≤ c ∧ c ≤ maxLen ∧
      ∀ i, i < len → ∃ cs' y, cs'.length = P.cellsOf e ∧ (∀ j, j < P.cellsOf e → w.cell? ⟨b, o + i * P.cellsOf e + j, none⟩ = cs'[j]?) ∧ DataW.trod enc P w 0 (fun _ => true) true n e cs' = some y := by
  rcases DataW.trod_slice ht h with ⟨rfl, _⟩ | ⟨a, len, cap, elems, rest, n, hn, rfl, _, _, hl, hm, hlen, hel, _, _⟩
  · exact .inl ⟨_, _, rfl⟩
  · by_cases h0 : len = 0
    · subst h0; exact .inl ⟨_, _, rfl⟩
    · have hi : ∀ i, i < len → ∃ cs' y, w.cells? 0 (a.add (i * P.cellsOf e)) (P.cellsOf e) = some cs' ∧ DataW.trod enc P w 0 (fun _ => true) true n e cs' = some y := by
        intro i hlt
        have h1 := hel i hlt
        rw [List.getElem?_eq_getElem (by omega)] at h1
        obtain ⟨cs', hc, hy⟩ := Option.bind_eq_some_iff.1 h1
        exact ⟨cs', _, hc, hy⟩
      obtain ⟨cs0, _, hc0, _⟩ := hi 0 (by omega)
      obtain ⟨_, hl0, hat0⟩ := World.cells?_some hc0
      obtain ⟨b, o, s⟩ := a
      have hs : s = none := by
        have h1 := hat0 0 hC
        rw [List.getElem?_eq_getElem (by omega)] at h1
        cases s with
        | none => rfl
        | some z => simp [World.cell?, Addr.add] at h1; split at h1 <;> simp at h1
      subst hs
      refine .inr ⟨b, o, len, cap, n, by omega, by omega, rfl, hl, hm, fun i hlt => ?_⟩
      obtain ⟨cs', y, hc', ht'⟩ := hi i hlt
      obtain ⟨_, hl', hat'⟩ := World.cells?_some hc'
      exact ⟨cs', y, hl', fun j hj => by have := hat' j hj; rw [add_plain, add_plain] at this; exact this, ht'⟩

set_option maxRecDepth 100000 in
theorem read_int {fuel : Nat} {cs : List Value} {x : DataW H × List MemPlace} (h : DataW.trod enc Try.prog w 0 (fun _ => true) true fuel 3 cs = some x) : ∃ n, cs = intCells n ∧ I64 n := by
  obtain ⟨z, hz, _, wz⟩ := DataW.trod_int Try.underlying3 h
  exact ⟨z, hz, i64_of wz⟩

set_option maxRecDepth 100000 in
theorem common {css : Nat → List Value} : ∀ len : Nat, (∀ i, i < len → ∃ n b, Rep w n b (css i)) → ∃ N, ∀ i, i < len → ∃ b, Rep w N b (css i) := by
  intro len
  induction len with
  | zero => intro _; exact ⟨0, fun i hi => by omega⟩
  | succ len ih =>
    intro h
    obtain ⟨N, hN⟩ := ih fun i hi => h i (by omega)
    obtain ⟨n, b, hb⟩ := h len (by omega)
    refine ⟨max N n, fun i hi => ?_⟩
    by_cases he : i = len
    · subst he; exact hb.up _ (by omega)
    · obtain ⟨b', hb'⟩ := hN i (by omega)
      exact hb'.up _ (by omega)

set_option maxRecDepth 100000 in
theorem read_box_n : ∀ (N fuel : Nat), fuel ≤ N → ∀ (cs : List Value) (x : DataW H × List MemPlace), DataW.trod enc Try.prog w 0 (fun _ => true) true fuel 33 cs = some x → ∃ n b, Rep w n b cs := by
  intro N
  induction N with
  | zero =>
    intro fuel hf cs x h
    obtain rfl : fuel = 0 := by omega
    simp [DataW.trod] at h
  | succ N ih =>
    intro fuel hfu cs x h
    obtain ⟨xs, n, hn, _, hl, hx, hf0⟩ := DataW.trod_struct Try.underlying33 h
    have hf : ∀ (i : Nat) (f : Field), _ → ∃ y, DataW.trod enc Try.prog w 0 (fun _ => true) true n f.type ((cs.drop f.offset).take (Try.prog.cellsOf f.type)) = some y := fun i f hi => by
      have h1 := hf0 i f hi
      have hlt : i < xs.length := by rw [hx]; exact (Array.getElem?_eq_some_iff.1 hi).1
      exact ⟨xs[i], by rw [h1, List.getElem?_eq_getElem hlt]⟩
    rw [Try.cellsBox] at hl
    obtain ⟨_, f0⟩ := hf 0 _ rfl
    obtain ⟨_, f1⟩ := hf 1 _ rfl
    obtain ⟨_, f2⟩ := hf 2 _ rfl
    obtain ⟨_, f3⟩ := hf 3 _ rfl
    obtain ⟨_, f4⟩ := hf 4 _ rfl
    obtain ⟨_, f5⟩ := hf 5 _ rfl
    obtain ⟨_, f6⟩ := hf 6 _ rfl
    obtain ⟨_, f7⟩ := hf 7 _ rfl
    obtain ⟨y8, f8⟩ := hf 8 _ rfl
    obtain ⟨_, f9⟩ := hf 9 _ rfl
    obtain ⟨_, f10⟩ := hf 10 _ rfl
    obtain ⟨n0, e0, h0⟩ := field_int f0
    obtain ⟨s, e1, h1⟩ := field_string f1
    obtain ⟨n2, e2, h2⟩ := field_int f2
    obtain ⟨n3, e3, h3⟩ := field_int f3
    obtain ⟨n4, e4, h4⟩ := field_int f4
    obtain ⟨n5, e5, h5⟩ := field_int f5
    obtain ⟨n6, e6, h6⟩ := field_int f6
    obtain ⟨n7, e7, h7⟩ := field_int f7
    obtain ⟨n9, e9, h9⟩ := field_int f9
    obtain ⟨sx, sc, src, e10, r10, q10, l10, _⟩ := field_row Try.underlying31 Try.cellsInts Try.cellsInt (by omega) (fun h => read_int h) f10
    replace f8 : DataW.trod enc Try.prog w 0 (fun _ => true) true n 30 ((cs.drop 8).take (Try.prog.cellsOf 30)) = some y8 := f8
    rw [Try.cellsBoxs] at f8
    have hd : HdOk ⟨n0, s, n2, n3, n4, n5, n6, n7, n9, src⟩ := ⟨h0, h2, h3, h4, h5, h6, h7, h9, q10, l10, h1⟩
    have hcs : ∀ k, cs[8]? = some k → cs = Hd.cells ⟨n0, s, n2, n3, n4, n5, n6, n7, n9, src⟩ k (.slice sx src.length sc) := by
      intro k e8
      match cs, hl with
      | [c0, c1, c2, c3, c4, c5, c6, c7, c8, c9, c10], _ =>
        simp at e0 e1 e2 e3 e4 e5 e6 e7 e8 e9 e10
        subst e0 e1 e2 e3 e4 e5 e6 e7 e8 e9 e10
        rfl
    rcases read_slice_n Try.underlying30 (by rw [Try.cellsBox]; omega) f8 with ⟨y, c, hk⟩ | ⟨k, o, len, c, m, hm, hlen, hk, hlc, hcm, hi⟩
    · refine ⟨1, (⟨n0, s, n2, n3, n4, n5, n6, n7, n9, src⟩, []), y, c, sx, sc, hcs _ (take_one hk), hd, by simp, r10, fun _ _ _ _ => trivial, fun i kid hi => by simp at hi⟩
    · have hi2 : ∀ i, i < len → ∃ cs' : List Value, w.rangeAt k (o + i * 11) cs' ∧ ∃ n b, Rep w n b cs' := by
        intro i hlt
        obtain ⟨cs', y, hcl, hc, htr⟩ := hi i hlt
        rw [Try.cellsBox] at hcl hc
        refine ⟨cs', fun j v hj => ?_, ih m (by omega) cs' y htr⟩
        have hjl : j < 11 := by rw [← hcl]; exact (List.getElem?_eq_some_iff.1 hj).1
        rw [hc j hjl, hj]
      obtain ⟨css, hcss⟩ : ∃ css : Nat → List Value, ∀ i, i < len → w.rangeAt k (o + i * 11) (css i) ∧ ∃ n b, Rep w n b (css i) :=
        ⟨fun i => if hlt : i < len then (hi2 i hlt).choose else [], fun i hlt => by simp only [hlt, dif_pos]; exact (hi2 i hlt).choose_spec⟩
      obtain ⟨M, hM⟩ := common len fun i hlt => (hcss i hlt).2
      obtain ⟨kids, hkl, hkr⟩ := list_of (fun i b => Rep w M b (css i)) len hM
      refine ⟨M + 1, (⟨n0, s, n2, n3, n4, n5, n6, n7, n9, src⟩, kids), some ⟨k, o, none⟩, c, sx, sc, ?_, hd, by simp only; omega, r10, fun _ _ _ _ => trivial, fun i kid hik => ?_⟩
      · have := hcs _ (take_one hk)
        rw [← hkl] at this
        exact this
      · have hlt : i < len := by rw [← hkl]; exact (List.getElem?_eq_some_iff.1 hik).1
        exact ⟨k, o, css i, rfl, trivial, (hcss i hlt).1, hkr i kid hik⟩

set_option maxRecDepth 100000 in
/-- A box as an argument, or as a part of one. -/
theorem read_box {fuel : Nat} {cs : List Value} {x : DataW H × List MemPlace} (h : DataW.trod enc Try.prog w 0 (fun _ => true) true fuel 33 cs = some x) : ∃ n b, Rep w n b cs := read_box_n fuel fuel (Nat.le_refl _) cs x h
end
end Go.Proofs.Ytceigjonhabmmaa
namespace Go.Proofs.Ytceigjonhabmmaa
open Go.RowKit Go.ChangeShapes Go.WideShapes Go.Deep

attribute [local irreducible] wpQuiet wpG wpP wpK wpList Code.wp Calls

theorem Try.cellsStyle2 : Try.prog.cellsOf 29 = 2 := by kernel_rfl

section
variable {H : Type} {enc : TypeId × Value → H} {w : World}

set_option maxRecDepth 100000 in
theorem read_style {fuel : Nat} {cs : List Value} {x : DataW H × List MemPlace} (h : DataW.trod enc Try.prog w 0 (fun _ => true) true fuel 29 cs = some x) : ∃ (l : Int) (c : Bool), cs = [.int .i64 l, .bool c] ∧ I64 l := by
  obtain ⟨hl, n, hf⟩ := read_struct Try.underlying29 h
  rw [Try.cellsStyle2] at hl
  obtain ⟨_, f0⟩ := hf 0 _ rfl
  obtain ⟨_, f1⟩ := hf 1 _ rfl
  obtain ⟨n0, e0, h0⟩ := field_int f0
  obtain ⟨b, e1⟩ := field_bool f1
  refine ⟨n0, b, ?_, h0⟩
  match cs, hl with
  | [c0, c1], _ =>
    simp at e0 e1
    subst e0 e1
    rfl

end
end Go.Proofs.Ytceigjonhabmmaa
namespace Go.Proofs.Ytceigjonhabmmaa
open Go.RowKit Go.ChangeShapes Go.WideShapes Go.Deep

attribute [local irreducible] wpQuiet wpG wpP wpK wpList Code.wp Calls

theorem Try.cellsCase36 : Try.prog.cellsOf 35 = 36 := by kernel_rfl
instance rt_case36 : RowTy Try.prog 35 36 := ⟨⟨_, Try.underlying35, rfl⟩, by kernel_rfl⟩

/-- The cells of a case. -/
@[reducible] def caseA (F : Fnt) (l : Int) (c : Bool) (s : ByteArray) (cs : List Value) : List Value := F.cells ++ ([.int .i64 l, .bool c] ++ (.string s :: cs))

section
variable {H : Type} {enc : TypeId × Value → H} {w : World}

set_option maxRecDepth 100000 in
/-- A box as an argument. -/
theorem open_box36 {r : Reach} {b0 : Nat} {v : Value} {d : DataW H} {p : List MemPlace} (hv : Value.okWide Try.prog w r b0 33 v) (h : DataW.Trod enc Try.prog w 0 (fun _ => true) true 33 v d p) :
    ∃ (n : Nat) (b : Bx (n + 1)) (cs : List Value), v = .agg cs.toArray ∧ Rep w (n + 1) b cs := by
  obtain ⟨cs, rfl, _⟩ := okWide_struct Try.underlying33 hv
  obtain ⟨fuel, hf⟩ := h
  obtain ⟨n, b, hr⟩ := read_box hf
  obtain ⟨b', hr'⟩ := hr.up (n + 1) (by omega)
  exact ⟨n, b', cs.toList, by simp, hr'⟩

set_option maxRecDepth 100000 in
/-- A case as an argument. -/
theorem open_case36 {r : Reach} {b0 : Nat} {v : Value} {d : DataW H} {p : List MemPlace} (hv : Value.okWide Try.prog w r b0 35 v) (h : DataW.Trod enc Try.prog w 0 (fun _ => true) true 35 v d p) :
    ∃ (F : Fnt) (l : Int) (c : Bool) (s : ByteArray) (n : Nat) (body : Bx (n + 1)) (cs : List Value), v = .agg (caseA F l c s cs).toArray ∧ FntOk w F ∧ Rep w (n + 1) body cs := by
  obtain ⟨cs, rfl, _⟩ := okWide_struct Try.underlying35 hv
  obtain ⟨fuel, hf⟩ := h
  obtain ⟨hl, n, hf⟩ := read_struct Try.underlying35 hf
  rw [Try.cellsCase36] at hl
  have hl2 : cs.toList.length = 36 := hl
  obtain ⟨y0, f0⟩ := hf 0 _ rfl
  obtain ⟨y1, f1⟩ := hf 1 _ rfl
  obtain ⟨y2, f2⟩ := hf 2 _ rfl
  obtain ⟨y3, f3⟩ := hf 3 _ rfl
  replace f0 : DataW.trod enc Try.prog w 0 (fun _ => true) true n 27 ((cs.toList.drop 0).take (Try.prog.cellsOf 27)) = some y0 := f0
  replace f1 : DataW.trod enc Try.prog w 0 (fun _ => true) true n 29 ((cs.toList.drop 22).take (Try.prog.cellsOf 29)) = some y1 := f1
  replace f2 : DataW.trod enc Try.prog w 0 (fun _ => true) true n 9 ((cs.toList.drop 24).take (Try.prog.cellsOf 9)) = some y2 := f2
  replace f3 : DataW.trod enc Try.prog w 0 (fun _ => true) true n 33 ((cs.toList.drop 25).take (Try.prog.cellsOf 33)) = some y3 := f3
  rw [Try.cellsFont] at f0
  rw [Try.cellsStyle2] at f1
  rw [Try.cellsBox] at f3
  rw [show Try.prog.cellsOf 9 = 1 by kernel_rfl] at f2
  obtain ⟨F, e0, hF⟩ := read_font f0
  obtain ⟨l, c, e1, _⟩ := read_style f1
  obtain ⟨s, e2, _⟩ := read_string f2
  obtain ⟨n3, b3, r3⟩ := read_box f3
  obtain ⟨b3', r3'⟩ := r3.up (n3 + 1) (by omega)
  refine ⟨F, l, c, s, n3, b3', _, ?_, hF, r3'⟩
  have t2 := take_one e2
  have e : cs.toList = caseA F l c s ((cs.toList.drop 25).take 11) := by
    unfold caseA
    rw [← e0, ← e1]
    clear hl hv f0 f1 f2 f3 e0 e1 e2 r3 r3' hf
    generalize cs.toList = L at *
    apply List.ext_getElem?
    intro i
    rw [List.drop_zero]
    by_cases h1 : i < 22
    · rw [List.getElem?_append_left (by simp; omega), List.getElem?_take, if_pos h1]
    · rw [List.getElem?_append_right (by simp; omega)]
      simp only [List.length_take]
      rw [Nat.min_eq_left (by omega)]
      by_cases h2 : i < 24
      · rw [List.getElem?_append_left (by simp; omega), List.getElem?_take, if_pos (by omega), List.getElem?_drop]
        congr 1; omega
      · rw [List.getElem?_append_right (by simp; omega)]
        simp only [List.length_take, List.length_drop]
        rw [Nat.min_eq_left (by omega)]
        by_cases h3 : i = 24
        · subst h3
          rw [t2]
          rfl
        · obtain ⟨j, rfl⟩ : ∃ j, i = 25 + j := ⟨i - 25, by omega⟩
          rw [show 25 + j - 22 - 2 = j + 1 by omega, List.getElem?_cons_succ]
          by_cases h4 : j < 11
          · rw [List.getElem?_take, if_pos h4, List.getElem?_drop]
          · rw [List.getElem?_eq_none (by omega), List.getElem?_eq_none (by simp; omega)]
  exact congrArg Value.agg (Array.toList_inj.1 e)
end

theorem caseA_out {F : Fnt} {l : Int} {c : Bool} {s : ByteArray} {cs : List Value} {w : World} {k : Nat} (hr : w.rangeAt k 0 (caseA F l c s cs)) : w.rangeAt k 0 F.cells ∧ w.rangeAt k 22 [.int .i64 l, .bool c] ∧ w.cell? ⟨k, 24, none⟩ = some (.string s) ∧ w.rangeAt k 25 cs := by
  have hl : F.cells.length = 22 := by simp
  refine ⟨fun j v hj => ?_, fun j v hj => ?_, ?_, fun j v hj => ?_⟩
  · refine hr j v ?_
    rw [caseA, List.getElem?_append_left (List.getElem?_eq_some_iff.1 hj).1]
    exact hj
  · have hlt : j < 2 := (List.getElem?_eq_some_iff.1 hj).1
    have := hr (22 + j) v (by
      rw [caseA, List.getElem?_append_right (by omega), hl, Nat.add_sub_cancel_left, List.getElem?_append_left (by simpa using hlt)]
      exact hj)
    rwa [Nat.zero_add] at this
  · have := hr 24 (.string s) (by
      rw [caseA, List.getElem?_append_right (by omega), hl]
      rfl)
    rwa [Nat.zero_add] at this
  · have := hr (25 + j) v (by
      rw [caseA, List.getElem?_append_right (by omega), hl, List.getElem?_append_right (by simp; omega), show 25 + j - 22 - [Value.int IntKind.i64 l, Value.bool c].length = j + 1 by simp; omega, List.getElem?_cons_succ]
      exact hj)
    rwa [Nat.zero_add] at this

end Go.Proofs.Ytceigjonhabmmaa
namespace Go.Proofs.Ytceigjonhabmmaa
open Go.RowKit

attribute [local irreducible] wpQuiet wpG wpP wpK wpList Code.wp Calls

theorem few_v36 {F : Fnt} {w : World} {v : Bool} (hF : FntOk w F) (hv : Hid (fewB F = v)) : Calls Try.prog 13 #[F.val] w (Gives (.bool v) w) := by
  have := ref05_Few_calls F w hF
  rwa [hv.out] at this
/-- What tame says of a case. -/
def tameA (F : Fnt) (n : Nat) (body : Bx (n + 1)) : Bool := fewB F && decide (bCount (n + 1) body ≤ 200)

set_option maxHeartbeats 8000000 in
set_option maxRecDepth 100000 in
theorem tame36_0 (F : Fnt) (l : Int) (c : Bool) (s : ByteArray) (n : Nat) (body : Bx (n + 1)) (cs : List Value) (w : World) (hF : FntOk w F) (hr : Rep w (n + 1) body cs) (h1 : fewB F = false) : Calls Try.prog 9 #[.agg (caseA F l c s cs).toArray] w (Gives (.bool false) w) := by
  have HF := Lib.hid (fun w' (h : Below w.heap.size w w') => few_v36 (hF.below h) (Lib.hid h1))
  obtain ⟨c0, c1, c2, c3, c4, c5, c6, c7, c8, c9, c10, rfl⟩ := eleven hr.len
  clear hF hr h1 
  go_enter Try.func9, Try.ntmps9
  have hS := own_start w
  go_wp2_with (first | (refine own_unguard (by rfl) ?_) | (refine own_box rfl _ _ rfl rfl hS ?_; clear hS; intro kb w0 hS0; have hrC := (hS0.get at0).range; have HB0 := Lib.hid hS0.below; obtain ⟨hrF, hrS, cN, hrB⟩ := caseA_out hrC; have hS := own_start w0; clear hS0) | (refine own_load_old rfl _ _ rfl rfl hS hrC List.not_mem_nil rt_case36 ?_) | (refine own_load_old rfl _ _ rfl rfl hS hrF List.not_mem_nil rt_font ?_) | (refine own_load_old rfl _ _ rfl rfl hS hrS List.not_mem_nil rt_style ?_) | (refine own_load_old rfl _ _ rfl rfl hS hrB List.not_mem_nil rt_box ?_) | (go_at_call 13; refine own_calls hS (HF.out _ (bthen HB0.out hS.below)) ?_; clear hS; (try clear ww); intro ww hS) | (refine w_ld rfl _ rfl (by rfl) (by first | exact rd_1 (by repeat constructor) (by first | rfl | assumption) | exact rd_w (by repeat constructor) (by rfl) | exact rd_o (by assumption) (by rfl) (by first | exact nmn | assumption | simp) | exact rd_h (by assumption) (by rfl) (by first | exact nmn | assumption | simp) | exact rd_1o (by assumption) (by first | exact nmn | assumption | simp) | exact rd_1h (by assumption) (by first | rfl | assumption) (by first | exact nmn | assumption | simp)) hS ?_) | (refine own_box rfl _ _ rfl (by rfl) hS ?_; clear hS; (try clear ww); intro bb ww hS) | (refine w_al rfl rfl hS ?_; clear hS; (try clear ww); intro bb ww hS) | (refine w_st rfl _ _ rfl (by rfl) (by rfl) (by repeat constructor) (by rfl) (by rfl) (by first | rfl | assumption) hS ?_; clear hS; (try clear ww); intro ww hS) | (refine w_s1 rfl _ _ rfl (by rfl) (by repeat constructor) (by first | exact .c | exact .t rfl) (by rfl) (by repeat constructor) hS ?_; clear hS; (try clear ww); intro ww hS))
  go_ret
  exact ⟨rfl, bthen HB0.out hS.below⟩

set_option maxHeartbeats 8000000 in
set_option maxRecDepth 100000 in
theorem tame36_1 (F : Fnt) (l : Int) (c : Bool) (s : ByteArray) (n : Nat) (body : Bx (n + 1)) (cs : List Value) (w : World) (hF : FntOk w F) (hr : Rep w (n + 1) body cs) (h1 : fewB F = true) (h2 : decide (bCount (n + 1) body ≤ 200) = false) : Calls Try.prog 9 #[.agg (caseA F l c s cs).toArray] w (Gives (.bool false) w) := by
  have HF := Lib.hid (fun w' (h : Below w.heap.size w w') => few_v36 (hF.below h) (Lib.hid h1))
  have HN := Lib.hid (fun w' (h : Below w.heap.size w w') => ref28_Few_calls (n + 1) body cs 200 w' (hr.step h) (by omega) _ h2.symm)
  obtain ⟨c0, c1, c2, c3, c4, c5, c6, c7, c8, c9, c10, rfl⟩ := eleven hr.len
  clear hF hr h1 h2
  go_enter Try.func9, Try.ntmps9
  have hS := own_start w
  go_wp2_with (first | (refine own_unguard (by rfl) ?_) | (refine own_box rfl _ _ rfl rfl hS ?_; clear hS; intro kb w0 hS0; have hrC := (hS0.get at0).range; have HB0 := Lib.hid hS0.below; obtain ⟨hrF, hrS, cN, hrB⟩ := caseA_out hrC; have hS := own_start w0; clear hS0) | (refine own_load_old rfl _ _ rfl rfl hS hrC List.not_mem_nil rt_case36 ?_) | (refine own_load_old rfl _ _ rfl rfl hS hrF List.not_mem_nil rt_font ?_) | (refine own_load_old rfl _ _ rfl rfl hS hrS List.not_mem_nil rt_style ?_) | (refine own_load_old rfl _ _ rfl rfl hS hrB List.not_mem_nil rt_box ?_) | (go_at_call 13; refine own_calls hS (HF.out _ (bthen HB0.out hS.below)) ?_; clear hS; (try clear ww); intro ww hS) | (go_at_call 14; refine own_calls hS (HN.out _ (bthen HB0.out hS.below)) ?_; clear hS; (try clear ww); intro ww hS) | (refine w_ld rfl _ rfl (by rfl) (by first | exact rd_1 (by repeat constructor) (by first | rfl | assumption) | exact rd_w (by repeat constructor) (by rfl) | exact rd_o (by assumption) (by rfl) (by first | exact nmn | assumption | simp) | exact rd_h (by assumption) (by rfl) (by first | exact nmn | assumption | simp) | exact rd_1o (by assumption) (by first | exact nmn | assumption | simp) | exact rd_1h (by assumption) (by first | rfl | assumption) (by first | exact nmn | assumption | simp)) hS ?_) | (refine own_box rfl _ _ rfl (by rfl) hS ?_; clear hS; (try clear ww); intro bb ww hS) | (refine w_al rfl rfl hS ?_; clear hS; (try clear ww); intro bb ww hS) | (refine w_st rfl _ _ rfl (by rfl) (by rfl) (by repeat constructor) (by rfl) (by rfl) (by first | rfl | assumption) hS ?_; clear hS; (try clear ww); intro ww hS) | (refine w_s1 rfl _ _ rfl (by rfl) (by repeat constructor) (by first | exact .c | exact .t rfl) (by rfl) (by repeat constructor) hS ?_; clear hS; (try clear ww); intro ww hS))
  go_ret
  exact ⟨rfl, bthen HB0.out hS.below⟩

set_option maxHeartbeats 8000000 in
set_option maxRecDepth 100000 in
theorem tame36_2 (F : Fnt) (l : Int) (c : Bool) (s : ByteArray) (n : Nat) (body : Bx (n + 1)) (cs : List Value) (w : World) (hF : FntOk w F) (hr : Rep w (n + 1) body cs) (h1 : fewB F = true) (h2 : decide (bCount (n + 1) body ≤ 200) = true) : Calls Try.prog 9 #[.agg (caseA F l c s cs).toArray] w (Gives (.bool true) w) := by
  have HF := Lib.hid (fun w' (h : Below w.heap.size w w') => few_v36 (hF.below h) (Lib.hid h1))
  have HN := Lib.hid (fun w' (h : Below w.heap.size w w') => ref28_Few_calls (n + 1) body cs 200 w' (hr.step h) (by omega) _ h2.symm)
  obtain ⟨c0, c1, c2, c3, c4, c5, c6, c7, c8, c9, c10, rfl⟩ := eleven hr.len
  clear hF hr h1 h2
  go_enter Try.func9, Try.ntmps9
  have hS := own_start w
  go_wp2_with (first | (refine own_unguard (by rfl) ?_) | (refine own_box rfl _ _ rfl rfl hS ?_; clear hS; intro kb w0 hS0; have hrC := (hS0.get at0).range; have HB0 := Lib.hid hS0.below; obtain ⟨hrF, hrS, cN, hrB⟩ := caseA_out hrC; have hS := own_start w0; clear hS0) | (refine own_load_old rfl _ _ rfl rfl hS hrC List.not_mem_nil rt_case36 ?_) | (refine own_load_old rfl _ _ rfl rfl hS hrF List.not_mem_nil rt_font ?_) | (refine own_load_old rfl _ _ rfl rfl hS hrS List.not_mem_nil rt_style ?_) | (refine own_load_old rfl _ _ rfl rfl hS hrB List.not_mem_nil rt_box ?_) | (go_at_call 13; refine own_calls hS (HF.out _ (bthen HB0.out hS.below)) ?_; clear hS; (try clear ww); intro ww hS) | (go_at_call 14; refine own_calls hS (HN.out _ (bthen HB0.out hS.below)) ?_; clear hS; (try clear ww); intro ww hS) | (refine w_ld rfl _ rfl (by rfl) (by first | exact rd_1 (by repeat constructor) (by first | rfl | assumption) | exact rd_w (by repeat constructor) (by rfl) | exact rd_o (by assumption) (by rfl) (by first | exact nmn | assumption | simp) | exact rd_h (by assumption) (by rfl) (by first | exact nmn | assumption | simp) | exact rd_1o (by assumption) (by first | exact nmn | assumption | simp) | exact rd_1h (by assumption) (by first | rfl | assumption) (by first | exact nmn | assumption | simp)) hS ?_) | (refine own_box rfl _ _ rfl (by rfl) hS ?_; clear hS; (try clear ww); intro bb ww hS) | (refine w_al rfl rfl hS ?_; clear hS; (try clear ww); intro bb ww hS) | (refine w_st rfl _ _ rfl (by rfl) (by rfl) (by repeat constructor) (by rfl) (by rfl) (by first | rfl | assumption) hS ?_; clear hS; (try clear ww); intro ww hS) | (refine w_s1 rfl _ _ rfl (by rfl) (by repeat constructor) (by first | exact .c | exact .t rfl) (by rfl) (by repeat constructor) hS ?_; clear hS; (try clear ww); intro ww hS))
  go_ret
  exact ⟨rfl, bthen HB0.out hS.below⟩

theorem tame36_calls (F : Fnt) (l : Int) (c : Bool) (s : ByteArray) (n : Nat) (body : Bx (n + 1)) (cs : List Value) (w : World) (hF : FntOk w F) (hr : Rep w (n + 1) body cs) (v : Bool) (hv : v = tameA F n body) : Calls Try.prog 9 #[.agg (caseA F l c s cs).toArray] w (Gives (.bool v) w) := by
  subst hv
  unfold tameA
  cases h1 : fewB F
  · exact tame36_0 F l c s n body cs w hF hr h1
  · cases h2 : decide (bCount (n + 1) body ≤ 200)
    · exact tame36_1 F l c s n body cs w hF hr h1 h2
    · exact tame36_2 F l c s n body cs w hF hr h1 h2

end Go.Proofs.Ytceigjonhabmmaa
namespace Go.Proofs.Ytceigjonhabmmaa
open Go.RowKit Go.ChangeShapes Go.WideShapes Go.ChangeAt

theorem Try.own : ownKnob Try.prog.godebug = none := by kernel_rfl
theorem Try.laidOut : laidOutB Try.prog = true := by kernel_rfl

/-- All arguments read as before. -/
theorem below_trodAll {H : Type} {enc : TypeId × Value → H} {P : Program} (hl : laidOutB P = true) {W W' : World} (hb : Below W.heap.size W W') (ts : List TypeId) :
    ∀ (vs : List Value) (ds : List (DataW H)) (ps : List MemPlace), (∀ t ∈ ts, P.readableRec t = true ∧ t < P.types.size) → DataW.TrodAll enc P W 0 (fun _ => true) true ts vs ds ps →
    (∀ x ∈ ps, x.block < W.heap.size) → DataW.TrodAll enc P W' 0 (fun b => decide (b < W.heap.size)) true ts vs ds ps := by
  induction ts with
  | nil => intro vs ds ps _ h _; obtain ⟨rfl, rfl, rfl⟩ := trodAll_nil h; exact rfl
  | cons t ts ih =>
    intro vs ds ps hr h hlt
    obtain ⟨v, vs', d, ds', p, q, rfl, rfl, rfl, h1, h2⟩ := trodAll_cons h
    exact ⟨p, q, Below.trod hl (hr t (by simp)).1 (hr t (by simp)).2 h1 hb (fun x hx => hlt x (by simp [hx])),
      ih vs' ds' q (fun u hu => hr u (by simp [hu])) h2 (fun x hx => hlt x (by simp [hx])), rfl⟩

/-- What the row asks behind the call of a law. -/
theorem law_post {H : Type} {enc : TypeId × Value → H} {P : Program} (hl : laidOutB P = true) {f : Func} {s : ChangeSpec} {tb : TypeId} {W W' : World} {args : Array Value} {ds gs : List (DataW H)} {before : List MemPlace}
    (hvars : s.vars = []) (hres : f.resultTypes = #[tb]) (hbool : P.underlying tb = some .bool) (hread : ∀ t ∈ f.params.toList, P.readableRec t = true ∧ t < P.types.size)
    (hspec : s.fn H (ds ++ gs) = { results := [.lit (.bool true)], args := ds }) (hW : DataW.Whole enc P f.params.toList s.vars false W args.toList ds gs before) (hb : Below W.heap.size W W') :
    s.post enc P f false true false false W args (.bool true) W' := by
  obtain ⟨p, q, hA, hV, rfl, hfz, hnd⟩ := id hW
  refine ⟨ds, gs, p ++ q, [], p, [], hW, ?_, ?_, ?_, Below.frame hb _, fun h => by cases h⟩
  · rw [hspec, hres]
    exact trodAll_mk1 (shut_bool hbool true)
  · rw [hspec]
    exact below_trodAll hl hb _ _ _ _ hread hA (fun x hx => hW.lt x (by simp [hx]))
  · rw [hspec, hvars]
    exact rfl
end Go.Proofs.Ytceigjonhabmmaa
namespace Go.Proofs.Ytceigjonhabmmaa
open Go.RowKit

attribute [local irreducible] wpQuiet wpG wpP wpK wpList Code.wp Calls

set_option maxHeartbeats 8000000 in
set_option maxRecDepth 100000 in
theorem ref28_SameInts_same (l : List Int) (x y : Option Addr) (c d : Nat) (w : World) (hx : RowAt w x 1 intCells l) (hy : RowAt w y 1 intCells l) (hl : l.length ≤ 17592186044416) : Calls Try.prog 39 #[.slice x l.length c, .slice y l.length d] w (Gives (.bool true) w) := by
  have HX := Lib.hid hx
  have HY := Lib.hid hy
  clear hx hy
  go_enter Try.func39, Try.ntmps39
  have hS := own_start w
  go_wp2_with (first | (refine own_unguard (by rfl) ?_) | (refine w_ld rfl _ rfl (by rfl) (by first | exact rd_1 (by repeat constructor) (by first | rfl | assumption) | exact rd_w (by repeat constructor) (by rfl) | exact rd_o (by assumption) (by rfl) (by first | exact nmn | assumption | simp) | exact rd_h (by assumption) (by rfl) (by first | exact nmn | assumption | simp) | exact rd_1o (by assumption) (by first | exact nmn | assumption | simp) | exact rd_1h (by assumption) (by first | rfl | assumption) (by first | exact nmn | assumption | simp)) hS ?_) | (refine own_box rfl _ _ rfl (by rfl) hS ?_; clear hS; (try clear ww); intro bb ww hS) | (refine w_st rfl _ _ rfl (by rfl) (by rfl) (by repeat constructor) (by rfl) (by rfl) (by first | rfl | assumption) hS ?_; clear hS; (try clear ww); intro ww hS) | (refine w_s1 rfl _ _ rfl (by rfl) (by repeat constructor) (by first | exact .c | exact .t rfl) (by rfl) (by repeat constructor) hS ?_; clear hS; (try clear ww); intro ww hS))
  go_loopw [5] (fun i wr => ∃ j : Nat, j ≤ l.length ∧ i = .int .i64 j ∧ Own [] w [] wr) (fun i _ => l.length - (intOf i).toNat)
  case atStart => exact ⟨0, Nat.zero_le _, rfl, hS⟩
  case round =>
    clear hS
    obtain ⟨j, hj, rfl, hS⟩ := hrel
    by_cases hlt : j < l.length
    · obtain ⟨n, hn⟩ : ∃ n, l[j]? = some n := ⟨l[j], by simp [hlt]⟩
      obtain ⟨b1, o1, hx1, hr1⟩ := HX.out.get hn
      obtain ⟨b2, o2, hx2, hr2⟩ := HY.out.get hn
      obtain rfl : x = some ⟨b1, o1, none⟩ := hx1
      obtain rfl : y = some ⟨b2, o2, none⟩ := hx2
      have hc1 : w.cell? ⟨b1, o1 + j * 1, none⟩ = some (.int .i64 n) := hr1 0 _ rfl
      have hc2 : w.cell? ⟨b2, o2 + j * 1, none⟩ = some (.int .i64 n) := hr2 0 _ rfl
      rw [Nat.mul_one] at hc1 hc2
      clear hr1 hr2 hn
      go_wp2_with (first | (refine own_unguard (by rfl) ?_) | (refine w_ld rfl _ rfl (by rfl) (by first | exact rd_1 (by repeat constructor) (by first | rfl | assumption) | exact rd_w (by repeat constructor) (by rfl) | exact rd_o (by assumption) (by rfl) (by first | exact nmn | assumption | simp) | exact rd_h (by assumption) (by rfl) (by first | exact nmn | assumption | simp) | exact rd_1o (by assumption) (by first | exact nmn | assumption | simp) | exact rd_1h (by assumption) (by first | rfl | assumption) (by first | exact nmn | assumption | simp)) hS ?_) | (refine own_box rfl _ _ rfl (by rfl) hS ?_; clear hS; (try clear ww); intro bb ww hS) | (refine w_st rfl _ _ rfl (by rfl) (by rfl) (by repeat constructor) (by rfl) (by rfl) (by first | rfl | assumption) hS ?_; clear hS; (try clear ww); intro ww hS) | (refine w_s1 rfl _ _ rfl (by rfl) (by repeat constructor) (by first | exact .c | exact .t rfl) (by rfl) (by repeat constructor) hS ?_; clear hS; (try clear ww); intro ww hS))
      refine own_region hS (by kernel_rfl) (by kernel_rfl) ?_
      (try simp only); (try simp only [List.drop_succ_cons]); (try simp only [List.drop_zero]); (try simp only [List.take_succ_cons]); (try simp only [List.take_zero])
      repeat (first
          | (first | (refine quiet_plain rfl ?_) | (refine quiet_yes rfl rfl rfl (by simp only [List.getElem?_toArray, List.getElem?_cons_succ, List.getElem?_cons_zero]; rfl) (by with_reducible constructor) ?_)
             apply Exists.intro; refine ⟨?_, ?_⟩
             focus (intro wq hq0; have hq : Own _ _ _ wq := hq0; first | (exact quietAt_rd rfl (by rfl) (by first | exact rd_1 (by repeat constructor) (by first | rfl | assumption) | exact rd_w (by repeat constructor) (by rfl) | exact rd_o (by assumption) (by rfl) (by first | exact nmn | assumption | simp) | exact rd_h (by assumption) (by rfl) (by first | exact nmn | assumption | simp) | exact rd_1o (by assumption) (by first | exact nmn | assumption | simp) | exact rd_1h (by assumption) (by first | rfl | assumption) (by first | exact nmn | assumption | simp)) hq) | (go_simp; first | (with_reducible rfl)))
             simp only [Act.put, List.setIfInBounds_toArray, List.set_cons_zero, List.set_cons_succ])
          | (refine quiet_no rfl rfl rfl (by simp only [List.getElem?_toArray, List.getElem?_cons_succ, List.getElem?_cons_zero]; rfl) (by with_reducible constructor) ?_; simp only [Act.put, List.setIfInBounds_toArray, List.set_cons_zero, List.set_cons_succ]))
      refine wpQuiet_nil ?_
      clear hS
      intro ww hS
      go_wp2_with (first | (refine own_unguard (by rfl) ?_) | (refine w_ld rfl _ rfl (by rfl) (by first | exact rd_1 (by repeat constructor) (by first | rfl | assumption) | exact rd_w (by repeat constructor) (by rfl) | exact rd_o (by assumption) (by rfl) (by first | exact nmn | assumption | simp) | exact rd_h (by assumption) (by rfl) (by first | exact nmn | assumption | simp) | exact rd_1o (by assumption) (by first | exact nmn | assumption | simp) | exact rd_1h (by assumption) (by first | rfl | assumption) (by first | exact nmn | assumption | simp)) hS ?_) | (refine own_box rfl _ _ rfl (by rfl) hS ?_; clear hS; (try clear ww); intro bb ww hS) | (refine w_st rfl _ _ rfl (by rfl) (by rfl) (by repeat constructor) (by rfl) (by rfl) (by first | rfl | assumption) hS ?_; clear hS; (try clear ww); intro ww hS) | (refine w_s1 rfl _ _ rfl (by rfl) (by repeat constructor) (by first | exact .c | exact .t rfl) (by rfl) (by repeat constructor) hS ?_; clear hS; (try clear ww); intro ww hS))
      go_roundw
      case rel => exact ⟨j + 1, hlt, by go_num, hS⟩
      case measure => exact loop_meas hlt
    · obtain rfl : j = l.length := by omega
      go_wp2_with (first | (refine own_unguard (by rfl) ?_) | (refine w_ld rfl _ rfl (by rfl) (by first | exact rd_1 (by repeat constructor) (by first | rfl | assumption) | exact rd_w (by repeat constructor) (by rfl) | exact rd_o (by assumption) (by rfl) (by first | exact nmn | assumption | simp) | exact rd_h (by assumption) (by rfl) (by first | exact nmn | assumption | simp) | exact rd_1o (by assumption) (by first | exact nmn | assumption | simp) | exact rd_1h (by assumption) (by first | rfl | assumption) (by first | exact nmn | assumption | simp)) hS ?_) | (refine own_box rfl _ _ rfl (by rfl) hS ?_; clear hS; (try clear ww); intro bb ww hS) | (refine w_st rfl _ _ rfl (by rfl) (by rfl) (by repeat constructor) (by rfl) (by rfl) (by first | rfl | assumption) hS ?_; clear hS; (try clear ww); intro ww hS) | (refine w_s1 rfl _ _ rfl (by rfl) (by repeat constructor) (by first | exact .c | exact .t rfl) (by rfl) (by repeat constructor) hS ?_; clear hS; (try clear ww); intro ww hS))
      go_ret
      exact own_gives hS

set_option maxHeartbeats 16000000 in
set_option maxRecDepth 100000 in
theorem ref28_Equal_step (n : Nat) (ih : ∀ (b : Bx n) (cs ds : List Value) (w : World), Rep w n b cs → Rep w n b ds → Small n b → Calls Try.prog 12 #[.agg cs.toArray, .agg ds.toArray] w (Gives (.bool true) w))
    (b : Bx (n + 1)) (cs ds : List Value) (w : World) (hr : Rep w (n + 1) b cs) (hr2 : Rep w (n + 1) b ds) (hsm : Small (n + 1) b) : Calls Try.prog 12 #[.agg cs.toArray, .agg ds.toArray] w (Gives (.bool true) w) := by
  obtain ⟨⟨kind, name, size, bw, bh, bd, bx, by_, of, src⟩, kids⟩ := b
  obtain ⟨kx, kc, sx, sc, rfl, ha, hkl, hrow0, hkids⟩ := rep_out hr
  obtain ⟨kx2, kc2, sx2, sc2, rfl, _, _, hrow2, hkids2⟩ := rep_out hr2
  have hkl2 : kids.length ≤ 1000000 := hsm.2.1
  have hsl : src.length ≤ 17592186044416 := hsm.1
  have IH := Lib.hid ih
  have HK := Lib.hid hkids
  have HK2 := Lib.hid hkids2
  have HSm := Lib.hid hsm.2.2
  have HRow := Lib.hid hrow0
  have HRow2 := Lib.hid hrow2
  simp only at HRow HRow2
  clear ih hr hr2 ha hkl hrow0 hkids hsm hrow2 hkids2
  go_enter Try.func12, Try.ntmps12
  try simp only [List.append]
  have hS := own_start w
  go_wp2_with (first | (refine own_unguard (by rfl) ?_) | (go_at_call 39; refine own_calls hS (ref28_SameInts_same src sx sx2 sc sc2 _ (HRow.out.own hS) (HRow2.out.own hS) hsl) ?_; clear hS; (try clear ww); intro ww hS) | (refine w_ld rfl _ rfl (by rfl) (by first | exact rd_1 (by repeat constructor) (by first | rfl | assumption) | exact rd_w (by repeat constructor) (by rfl) | exact rd_o (by assumption) (by rfl) (by first | exact nmn | assumption | simp) | exact rd_h (by assumption) (by rfl) (by first | exact nmn | assumption | simp) | exact rd_1o (by assumption) (by first | exact nmn | assumption | simp) | exact rd_1h (by assumption) (by first | rfl | assumption) (by first | exact nmn | assumption | simp)) hS ?_) | (refine own_box rfl _ _ rfl (by rfl) hS ?_; clear hS; (try clear ww); intro bb ww hS) | (refine w_st rfl _ _ rfl (by rfl) (by rfl) (by repeat constructor) (by rfl) (by rfl) (by first | rfl | assumption) hS ?_; clear hS; (try clear ww); intro ww hS) | (refine w_s1 rfl _ _ rfl (by rfl) (by repeat constructor) (by first | exact .c | exact .t rfl) (by rfl) (by repeat constructor) hS ?_; clear hS; (try clear ww); intro ww hS))
  obtain ⟨L0, HL, hS0⟩ := hS.named
  clear hS
  have hS := hS0
  clear hS0
  go_loopw [5] (fun i wr => ∃ j : Nat, j ≤ kids.length ∧ i = .int .i64 j ∧ Own [] w L0 wr) (fun i _ => kids.length - (intOf i).toNat)
  case atStart => exact ⟨0, Nat.zero_le _, rfl, hS⟩
  case round =>
    clear hS
    obtain ⟨j, hj, rfl, hS⟩ := hrel
    obtain rfl := HL.out
    clear HL
    by_cases hlt : j < kids.length
    · obtain ⟨kid, hkid⟩ : ∃ kid, kids[j]? = some kid := ⟨kids[j], by simp [hlt]⟩
      obtain ⟨kb, ko, css, hkx, hrg, hrep⟩ := HK.out j kid hkid
      obtain ⟨kb2, ko2, css2, hkx2, hrg2, hrep2⟩ := HK2.out j kid hkid
      obtain rfl : kx = some ⟨kb, ko, none⟩ := hkx
      obtain rfl : kx2 = some ⟨kb2, ko2, none⟩ := hkx2
      obtain ⟨c0, c1, c2, c3, c4, c5, c6, c7, c8, c9, c10, rfl⟩ := eleven hrep.len
      obtain ⟨d0, d1, d2, d3, d4, d5, d6, d7, d8, d9, d10, rfl⟩ := eleven hrep2.len
      have HE := Lib.hid (fun wq (h : Below w.heap.size w wq) => IH.out kid _ _ wq (hrep.step h) (hrep2.step h) (HSm.out kid (List.mem_of_getElem? hkid)))
      clear hrep hrep2 hkid
      go_wp2_with (first | (refine own_unguard (by rfl) ?_) | (refine w_ld rfl _ rfl (by rfl) (by first | exact rd_1 (by repeat constructor) (by first | rfl | assumption) | exact rd_w (by repeat constructor) (by rfl) | exact rd_o (by assumption) (by rfl) (by first | exact nmn | assumption | simp) | exact rd_h (by assumption) (by rfl) (by first | exact nmn | assumption | simp) | exact rd_1o (by assumption) (by first | exact nmn | assumption | simp) | exact rd_1h (by assumption) (by first | rfl | assumption) (by first | exact nmn | assumption | simp)) hS ?_) | (refine own_box rfl _ _ rfl (by rfl) hS ?_; clear hS; (try clear ww); intro bb ww hS) | (refine w_st rfl _ _ rfl (by rfl) (by rfl) (by repeat constructor) (by rfl) (by rfl) (by first | rfl | assumption) hS ?_; clear hS; (try clear ww); intro ww hS) | (refine w_s1 rfl _ _ rfl (by rfl) (by repeat constructor) (by first | exact .c | exact .t rfl) (by rfl) (by repeat constructor) hS ?_; clear hS; (try clear ww); intro ww hS))
      refine own_region hS (by kernel_rfl) (by kernel_rfl) ?_
      (try simp only); (try simp only [List.drop_succ_cons]); (try simp only [List.drop_zero]); (try simp only [List.take_succ_cons]); (try simp only [List.take_zero])
      repeat (first
          | (first | (refine quiet_plain rfl ?_) | (refine quiet_yes rfl rfl rfl (by simp only [List.getElem?_toArray, List.getElem?_cons_succ, List.getElem?_cons_zero]; rfl) (by with_reducible constructor) ?_)
             apply Exists.intro; refine ⟨?_, ?_⟩
             focus (intro wq hq0; have hq : Own _ _ _ wq := hq0; first | (exact quietAt_rd rfl (by rfl) (by first | exact rd_1 (by repeat constructor) (by first | rfl | assumption) | exact rd_w (by repeat constructor) (by rfl) | exact rd_o (by assumption) (by rfl) (by first | exact nmn | assumption | simp) | exact rd_h (by assumption) (by rfl) (by first | exact nmn | assumption | simp) | exact rd_1o (by assumption) (by first | exact nmn | assumption | simp) | exact rd_1h (by assumption) (by first | rfl | assumption) (by first | exact nmn | assumption | simp)) hq) | (go_simp; first | (go_at_call 12; exact quietG hq (HE.out _ hq.below)) | (with_reducible rfl)))
             simp only [Act.put, List.setIfInBounds_toArray, List.set_cons_zero, List.set_cons_succ])
          | (refine quiet_no rfl rfl rfl (by simp only [List.getElem?_toArray, List.getElem?_cons_succ, List.getElem?_cons_zero]; rfl) (by with_reducible constructor) ?_; simp only [Act.put, List.setIfInBounds_toArray, List.set_cons_zero, List.set_cons_succ]))
      refine wpQuiet_nil ?_
      clear hS
      intro ww hS
      go_wp2_with (first | (refine own_unguard (by rfl) ?_) | (refine w_ld rfl _ rfl (by rfl) (by first | exact rd_1 (by repeat constructor) (by first | rfl | assumption) | exact rd_w (by repeat constructor) (by rfl) | exact rd_o (by assumption) (by rfl) (by first | exact nmn | assumption | simp) | exact rd_h (by assumption) (by rfl) (by first | exact nmn | assumption | simp) | exact rd_1o (by assumption) (by first | exact nmn | assumption | simp) | exact rd_1h (by assumption) (by first | rfl | assumption) (by first | exact nmn | assumption | simp)) hS ?_) | (refine own_box rfl _ _ rfl (by rfl) hS ?_; clear hS; (try clear ww); intro bb ww hS) | (refine w_st rfl _ _ rfl (by rfl) (by rfl) (by repeat constructor) (by rfl) (by rfl) (by first | rfl | assumption) hS ?_; clear hS; (try clear ww); intro ww hS) | (refine w_s1 rfl _ _ rfl (by rfl) (by repeat constructor) (by first | exact .c | exact .t rfl) (by rfl) (by repeat constructor) hS ?_; clear hS; (try clear ww); intro ww hS))
      go_roundw
      case rel => exact ⟨j + 1, hlt, by go_num, hS⟩
      case measure => exact loop_meas hlt
    · obtain rfl : j = kids.length := by omega
      go_wp2_with (first | (refine own_unguard (by rfl) ?_) | (refine w_ld rfl _ rfl (by rfl) (by first | exact rd_1 (by repeat constructor) (by first | rfl | assumption) | exact rd_w (by repeat constructor) (by rfl) | exact rd_o (by assumption) (by rfl) (by first | exact nmn | assumption | simp) | exact rd_h (by assumption) (by rfl) (by first | exact nmn | assumption | simp) | exact rd_1o (by assumption) (by first | exact nmn | assumption | simp) | exact rd_1h (by assumption) (by first | rfl | assumption) (by first | exact nmn | assumption | simp)) hS ?_) | (refine own_box rfl _ _ rfl (by rfl) hS ?_; clear hS; (try clear ww); intro bb ww hS) | (refine w_st rfl _ _ rfl (by rfl) (by rfl) (by repeat constructor) (by rfl) (by rfl) (by first | rfl | assumption) hS ?_; clear hS; (try clear ww); intro ww hS) | (refine w_s1 rfl _ _ rfl (by rfl) (by repeat constructor) (by first | exact .c | exact .t rfl) (by rfl) (by repeat constructor) hS ?_; clear hS; (try clear ww); intro ww hS))
      go_ret
      exact own_gives hS

theorem ref28_Equal_calls : ∀ (n : Nat) (b : Bx n) (cs ds : List Value) (w : World), Rep w n b cs → Rep w n b ds → Small n b → Calls Try.prog 12 #[.agg cs.toArray, .agg ds.toArray] w (Gives (.bool true) w) := by
  intro n
  induction n with
  | zero => intro b cs ds w h; exact h.elim
  | succ n ih => intro b cs ds w h1 h2 h3; exact ref28_Equal_step n ih b cs ds w h1 h2 h3

end Go.Proofs.Ytceigjonhabmmaa
namespace Go.Proofs.Ytceigjonhabmmaa
open Go.RowKit

attribute [local irreducible] wpQuiet wpG wpP wpK wpList Code.wp Calls

end Go.Proofs.Ytceigjonhabmmaa
namespace Go.Proofs.Ytceigjonhabmmaa
open Go.RowKit

attribute [local irreducible] wpQuiet wpG wpP wpK wpList Code.wp Calls

section
variable {F : Fnt} {l : Int} {c : Bool} {cs ds : List Value} {j : Nat} {v : Value}
end
end Go.Proofs.Ytceigjonhabmmaa
namespace Go.Proofs.Ytceigjonhabmmaa
open Go.RowKit

attribute [local irreducible] wpQuiet wpG wpP wpK wpList Code.wp Calls

/-- The call gives a box, and says whether there is one. -/
def GivesMade (n : Nat) (b : Bx n) (ok : Bool) (w : World) (e : Ending) (w' : World) : Prop := ∃ cs, e = .returned (.tuple #[.agg cs.toArray, .bool ok]) ∧ Rep w' n b cs ∧ Below w.heap.size w w'
theorem off_made {w w0 ww : World} {b : Nat} {z : List Value} (hB0 : Below w.heap.size w w0) (hS : Own [] w0 [(b, z)] ww) : ∀ k, (k < w.heap.size ∨ ww.heap.size ≤ k) → k ∉ [(b, z)].map (·.1) := fun k hk hm => by
  obtain rfl : k = b := by simpa using hm
  have h1 := (hS.get at0).lt
  have h2 := hB0.size
  rcases hS.geAt at0 with h3 | h3
  · cases h3
  · omega
/-- The cells of a list of boxes. -/
theorem list_out {w : World} {n : Nat} {bw bh bd : Int} {kids : List (Bx n)} {cs : List Value} (h : Rep w (n + 1) (listB n bw bh bd kids) cs) : ∃ kx kc sx sc, cs = [.int .i64 3, .string ⟨#[]⟩, .int .i64 0, .int .i64 bw, .int .i64 bh, .int .i64 bd, .int .i64 0, .int .i64 0, .slice kx (kids.length : Nat) kc, .int .i64 0, .slice sx 0 sc] := by
  obtain ⟨kx, kc, sx, sc, rfl, _⟩ := rep_out h
  exact ⟨kx, kc, sx, sc, rfl⟩
theorem zero_out {w : World} {m : Nat} {cs : List Value} (h : Rep w (m + 1) (zeroB m) cs) : ∃ kx kc sx sc, cs = [.int .i64 0, .string ⟨#[]⟩, .int .i64 0, .int .i64 0, .int .i64 0, .int .i64 0, .int .i64 0, .int .i64 0, .slice kx 0 kc, .int .i64 0, .slice sx 0 sc] := by
  obtain ⟨kx, kc, sx, sc, rfl, _⟩ := rep_out h
  exact ⟨kx, kc, sx, sc, rfl⟩











end Go.Proofs.Ytceigjonhabmmaa
