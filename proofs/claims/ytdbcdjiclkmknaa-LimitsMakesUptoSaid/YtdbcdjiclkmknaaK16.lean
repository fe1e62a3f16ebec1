/- Texts Apq, OpenG, OpF, OpB, Opc, Cs5, Tam. -/
import Derived.Test.YtdbcdjiclkmknaaK15
import Derived.Test.YtdbcdjiclkmknaaK01
import Derived.Test.YtdbcdjiclkmknaaK12
import Derived.Test.YtdbcdjiclkmknaaK14
import Derived.Test.YtdbcdjiclkmknaaK10
import Derived.Test.YtdbcdjiclkmknaaK08
import Derived.Test.YtdbcdjiclkmknaaK13
import Derived.Test.YtdbcdjiclkmknaaRows
namespace Go.Proofs.Ytdbcdjiclkmknaa
open Go.RowKit

attribute [local irreducible] wpQuiet wpG wpP wpK wpList Code.wp Calls

section
variable {P : Program} {rest : List Oper} {ops' : Array Oper} {o : Oper} {a : Act} {Q : Exit → Act → World → Prop} {D : List Nat} {W w : World} {L : List (Nat × List Value)}

/-- append onto a slice that is not empty, of whatever slice. -/
theorem own_app (hgd : o.guard = none) (s x : Operand) (t : TypeId) (ho : o.op = .call { callee := .builtin .append, args := #[s, x], argTypes := #[t, t] })
    {size bytes n : Nat} {v : Value} {xs : List Value} {X : List (Nat × List Value)} {e : TypeId} (hX : Sl size n v xs X) (hn0 : n ≠ 0) (hs : a.eval s = v) {y : Option Addr} {m c : Nat} {news : List Value} (hx : a.eval x = .slice y m c)
    (hS : Own D W (L ++ X) w) (hy : m = 0 ∨ ∃ b i, y = some ⟨b, i, none⟩ ∧ ∀ j u, news[j]? = some u → w.cell? ⟨b, i + j, none⟩ = some u) (hl : news.length = m * size) (h1 : ∀ u ∈ news, u.oneCell' = true) (T : ElTy P t e size bytes) (h0 : 0 < size)
    (b1 : n + m ≤ maxLen) (b2 : (n + m) * bytes ≤ 140737488355328)
    (h : ∀ v' X' w', Own D W (L ++ X') w' → Sl size (n + m) v' (xs ++ news) X' → wpList P ops' Q rest (a.put o.dst v') w') : wpList P ops' Q (o :: rest) a w := by
  by_cases hm : m = 0
  · subst hm
    obtain rfl : news = [] := List.eq_nil_of_length_eq_zero (by simpa using hl)
    obtain ⟨i, z, hi, hz, hsz, hby, hzz⟩ := T.inf
    obtain ⟨hxl, hX2⟩ := id hX
    rcases hX2 with ⟨_, _, _, rfl, _⟩ | ⟨b, cp, junk, rfl, hnc, hcm, hjl, rfl⟩
    · exact absurd rfl hn0
    · have hrun : (Builtin.append_ #[t, t] o.type #[.slice (some ⟨b, 0, none⟩) n cp, .slice y 0 c]).run P w = .ok (.slice (some ⟨b, 0, none⟩) n cp) w := by
        cases y with
        | none => simp [Builtin.append_, run_underlying T.und, sizeOf, typeInfo, hi, Builtin.lenOf, Builtin.firstCells, hnc, storeCells]
        | some ad => simp [Builtin.append_, run_underlying T.und, sizeOf, typeInfo, hi, Builtin.lenOf, Builtin.firstCells, loadCells, loadCellsFrom, hnc, storeCells]
      refine wpList_plain hgd fun K hK => ?_
      unfold Oper.wp execOp
      simp only [ho, resolve, invoke, builtin, Sem.run_bind, Sem.run_pure, Result.andThen_ok, List.map_toArray, List.map_cons, List.map_nil, hs, hx, hrun]
      exact hK _ _ (h _ _ _ hS (by simpa using hX))
  · rcases hy with h' | ⟨b, i, rfl, hc⟩
    · exact absurd h' hm
    · exact own_append hgd s x t ho hX hs hx hS (fun j u hj => by rw [Addr.add_lit]; exact hc j u hj) hl h1 T h0 b1 b2 h
end

/-- The cells of a list of boxes. -/
theorem repL_cells {w : World} {n : Nat} {x : Option Addr} {kids : List (Bx n)} (h : RepL w n x kids) : ∃ l : List { c : List Value // c.length = 11 }, l.length = kids.length ∧ (kids.length = 0 ∨ ∃ b i, x = some ⟨b, i, none⟩ ∧ w.rangeAt b i (l.flatMap Subtype.val)) ∧ (∀ v ∈ l.flatMap Subtype.val, v.oneCell' = true) ∧
    ∀ (q : Nat) (css : { c : List Value // c.length = 11 }) (kid : Bx n), l[q]? = some css → kids[q]? = some kid → Rep w n kid css.1 := by
  by_cases hne : kids = []
  · subst hne
    exact ⟨[], rfl, .inl rfl, fun v hv => by simp at hv, fun q css kid hq => by simp at hq⟩
  · obtain ⟨k, o, l, hkx, hll, hfl, hone, hr⟩ := repLA_flat (B := []) (fun i kid hi => by
      obtain ⟨k, o, css, e, hr, hp⟩ := h i kid hi
      exact ⟨k, o, css, e, trivial, hr, hp.mono (fun _ _ _ => List.not_mem_nil) (fun _ _ => List.not_mem_nil)⟩) hne
    exact ⟨l, hll, .inr ⟨k, o, hkx, hfl⟩, hone, fun q css kid hq hk => (hr q css kid hq hk).rep⟩
theorem repL_news {w w' : World} {x : Option Addr} {m : Nat} {xs : List Value} (h : m = 0 ∨ ∃ b i, x = some ⟨b, i, none⟩ ∧ w.rangeAt b i xs) (hb : Below w.heap.size w w') : m = 0 ∨ ∃ b i, x = some ⟨b, i, none⟩ ∧ ∀ j u, xs[j]? = some u → w'.cell? ⟨b, i + j, none⟩ = some u := by
  rcases h with h | ⟨b, i, e, h⟩
  · exact .inl h
  · exact .inr ⟨b, i, e, rangeAt_below h hb⟩
/-- A box, and two lists of boxes, one behind the other. -/
theorem all_row {D : List Nat} {W w w0 : World} {L X : List (Nat × List Value)} {y : Option Addr} {N c n : Nat} {base : Bx n} {subs sups : List (Bx n)} {cs : List Value} {ls lu : List { c : List Value // c.length = 11 }} (hS : Own D W L w) (hm : ∀ x ∈ X, x ∈ L) (hX : Sl 11 N (.slice y N c) (cs ++ ls.flatMap Subtype.val ++ lu.flatMap Subtype.val) X) (hb : Below w0.heap.size w0 w)
    (hr : Rep w0 n base cs) (e1 : ls.length = subs.length) (e2 : lu.length = sups.length) (hN : N = 1 + subs.length + sups.length) (h1 : ∀ (q : Nat) (css : { c : List Value // c.length = 11 }) (kid : Bx n), ls[q]? = some css → subs[q]? = some kid → Rep w0 n kid css.1) (h2 : ∀ (q : Nat) (css : { c : List Value // c.length = 11 }) (kid : Bx n), lu[q]? = some css → sups[q]? = some kid → Rep w0 n kid css.1) : RepLP (fun k => k < w0.heap.size) w n y (base :: (subs ++ sups)) := by
  have hX2 : Sl 11 N (.slice y N c) (((⟨cs, hr.len⟩ :: (ls ++ lu)) : List { c : List Value // c.length = 11 }).flatMap Subtype.val) X := by simpa [List.flatMap_cons, List.flatMap_append] using hX
  obtain ⟨y', c', he, hrow, _, _⟩ := Sl.rowAt hS hm hX2 (fun a => a.2) (by decide)
  obtain ⟨rfl, _⟩ : y = y' ∧ True := by
    simp only [Value.slice.injEq] at he
    exact ⟨he.1, trivial⟩
  intro i kid hi
  cases i with
  | zero =>
    obtain rfl : base = kid := by simpa using hi
    obtain ⟨k, o, hx, hrg⟩ := hrow.get (k := 0) rfl
    exact ⟨k, o, _, hx, hrg, repP_step (repP_old hr) hb⟩
  | succ i =>
    have hi2 : (subs ++ sups)[i]? = some kid := by simpa using hi
    have hlt : i < (ls ++ lu).length := by
      have := (List.getElem?_eq_some_iff.1 hi2).1
      simp only [List.length_append] at this ⊢
      omega
    obtain ⟨k, o, hx, hrg⟩ := hrow.get (k := i + 1) (a := (ls ++ lu)[i]) (by simp)
    refine ⟨k, o, _, hx, hrg, repP_step (repP_old ?_) hb⟩
    by_cases h3 : i < ls.length
    · have h4 : ls[i]? = some (ls ++ lu)[i] := by rw [← List.getElem?_append_left (l₂ := lu) h3, List.getElem?_eq_getElem hlt]
      refine h1 i _ kid h4 ?_
      rw [List.getElem?_append_left (by omega)] at hi2
      exact hi2
    · have h4 : lu[i - ls.length]? = some (ls ++ lu)[i] := by rw [← List.getElem?_append_right (l₁ := ls) (by omega), List.getElem?_eq_getElem hlt]
      refine h2 (i - ls.length) _ kid h4 ?_
      rw [List.getElem?_append_right (by omega), ← e1] at hi2
      exact hi2
theorem range_app {w : World} {k o : Nat} {xs ys : List Value} (h : w.rangeAt k o (xs ++ ys)) : w.rangeAt k o xs ∧ w.rangeAt k (o + xs.length) ys :=
  ⟨fun j v hj => h j v (by rw [List.getElem?_append_left (List.getElem?_eq_some_iff.1 hj).1]; exact hj), fun j v hj => by
    have := h (xs.length + j) v (by rw [List.getElem?_append_right (by omega), Nat.add_sub_cancel_left]; exact hj)
    rwa [← Nat.add_assoc] at this⟩

end Go.Proofs.Ytdbcdjiclkmknaa
namespace Go.Proofs.Ytdbcdjiclkmknaa
open Go.RowKit Go.ChangeShapes Go.WideShapes Go.Deep

theorem Try.cellsInt : Try.prog.cellsOf 3 = 1 := by kernel_rfl
theorem Try.cellsString : Try.prog.cellsOf 9 = 1 := by kernel_rfl
theorem Try.cellsBool : Try.prog.cellsOf 4 = 1 := by kernel_rfl
theorem Try.cellsGlyph : Try.prog.cellsOf 65 = 6 := by kernel_rfl

section
variable {H : Type} {enc : TypeId × Value → H} {w : World}

theorem field_int {n o : Nat} {cs : List Value} {y : DataW H × List MemPlace} (h : DataW.trod enc Try.prog w 0 (fun _ => true) true n 3 ((cs.drop o).take (Try.prog.cellsOf 3)) = some y) : ∃ z, cs[o]? = some (.int .i64 z) ∧ I64 z := by
  rw [Try.cellsInt] at h
  obtain ⟨z, hz, _, wz⟩ := DataW.trod_int Try.underlying3 h
  exact ⟨z, take_one hz, i64_of wz⟩
theorem field_string {n o : Nat} {cs : List Value} {y : DataW H × List MemPlace} (h : DataW.trod enc Try.prog w 0 (fun _ => true) true n 9 ((cs.drop o).take (Try.prog.cellsOf 9)) = some y) : ∃ s, cs[o]? = some (.string s) ∧ s.size ≤ maxLen := by
  rw [Try.cellsString] at h
  obtain ⟨s, hs, _, ws⟩ := DataW.trod_string Try.underlying9 h
  exact ⟨s, take_one hs, ws⟩
theorem field_bool {n o : Nat} {cs : List Value} {y : DataW H × List MemPlace} (h : DataW.trod enc Try.prog w 0 (fun _ => true) true n 4 ((cs.drop o).take (Try.prog.cellsOf 4)) = some y) : ∃ b, cs[o]? = some (.bool b) := by
  rw [Try.cellsBool] at h
  obtain ⟨b, hb, _⟩ := DataW.trod_bool Try.underlying4 h
  exact ⟨b, take_one hb⟩

set_option maxRecDepth 100000 in
/-- The cells of a glyph that reads. -/
theorem read_glyph {fuel : Nat} {cs : List Value} {x : DataW H × List MemPlace} (h : DataW.trod enc Try.prog w 0 (fun _ => true) true fuel 65 cs = some x) :
    ∃ g : Gly, cs = [.string g.name, .int .i64 g.w, .int .i64 g.h, .int .i64 g.d, .int .i64 g.it, .int .i64 g.at_] ∧ g.wf ∧ g.name.size ≤ maxLen := by
  obtain ⟨hl, n, hf⟩ := read_struct Try.underlying65 h
  rw [Try.cellsGlyph] at hl
  obtain ⟨_, f0⟩ := hf 0 _ rfl
  obtain ⟨_, f1⟩ := hf 1 _ rfl
  obtain ⟨_, f2⟩ := hf 2 _ rfl
  obtain ⟨_, f3⟩ := hf 3 _ rfl
  obtain ⟨_, f4⟩ := hf 4 _ rfl
  obtain ⟨_, f5⟩ := hf 5 _ rfl
  obtain ⟨s, e0, hs⟩ := field_string f0
  obtain ⟨n1, e1, h1⟩ := field_int f1
  obtain ⟨n2, e2, h2⟩ := field_int f2
  obtain ⟨n3, e3, h3⟩ := field_int f3
  obtain ⟨n4, e4, h4⟩ := field_int f4
  obtain ⟨n5, e5, h5⟩ := field_int f5
  refine ⟨{ name := s, w := n1, h := n2, d := n3, it := n4, at_ := n5 }, ?_, ⟨h1, h2, h3, h4, h5⟩, hs⟩
  match cs, hl with
  | [c0, c1, c2, c3, c4, c5], _ =>
    simp at e0 e1 e2 e3 e4 e5
    subst e0 e1 e2 e3 e4 e5
    rfl

end
end Go.Proofs.Ytdbcdjiclkmknaa
namespace Go.Proofs.Ytdbcdjiclkmknaa
open Go.RowKit Go.ChangeShapes Go.WideShapes Go.Deep

theorem Try.cellsPart : Try.prog.cellsOf 99 = 2 := by kernel_rfl
theorem Try.cellsStretch : Try.prog.cellsOf 70 = 4 := by kernel_rfl
theorem Try.cellsParams : Try.prog.cellsOf 25 = 20 := by kernel_rfl
theorem Try.cellsFont : Try.prog.cellsOf 27 = 22 := by kernel_rfl
theorem Try.cellsStrings : Try.prog.cellsOf 67 = 1 := by kernel_rfl
theorem Try.cellsParts : Try.prog.cellsOf 68 = 1 := by kernel_rfl
theorem Try.cellsGlyphs : Try.prog.cellsOf 22 = 1 := by kernel_rfl
theorem Try.cellsStretches : Try.prog.cellsOf 23 = 1 := by kernel_rfl

section
variable {H : Type} {enc : TypeId × Value → H} {w : World}

set_option maxRecDepth 100000 in
/-- A slice each of whose elements reads as f of something. -/
theorem read_row {P : Program} {α : Type} {f : α → List Value} {R : α → Prop} {t e : TypeId} {fuel size : Nat} {cs : List Value} {x : DataW H × List MemPlace} (ht : P.underlying t = some (.slice e)) (hC : P.cellsOf e = size) (h0 : 0 < size)
    (he : ∀ {fuel : Nat} {cs : List Value} {x : DataW H × List MemPlace}, DataW.trod enc P w 0 (fun _ => true) true fuel e cs = some x → ∃ a, cs = f a ∧ R a)
    (h : DataW.trod enc P w 0 (fun _ => true) true fuel t cs = some x) :
    ∃ (y : Option Addr) (c : Nat) (l : List α), cs = [.slice y l.length c] ∧ RowAt w y size f l ∧ (∀ a ∈ l, R a) ∧ l.length ≤ maxLen ∧ l.length ≤ c ∧ (l ≠ [] → c ≤ maxLen) := by
  subst hC
  rcases read_slice ht h0 h with ⟨y, c, rfl⟩ | ⟨b, o, len, c, n, hlen, rfl, hl, hm, hi⟩
  · exact ⟨y, c, [], rfl, .inl rfl, by simp, Nat.zero_le _, Nat.zero_le _, fun h => absurd rfl h⟩
  · obtain ⟨l, hll, hr⟩ := list_of (fun i a => w.rangeAt b (o + i * P.cellsOf e) (f a) ∧ R a) len fun i hlt => by
      obtain ⟨cs', y, hcl, hc, htr⟩ := hi i hlt
      obtain ⟨a, rfl, hR⟩ := he htr
      refine ⟨a, fun j v hj => ?_, hR⟩
      have hjl : j < P.cellsOf e := by rw [← hcl]; exact (List.getElem?_eq_some_iff.1 hj).1
      rw [hc j hjl, hj]
    subst hll
    refine ⟨some ⟨b, o, none⟩, c, l, rfl, .inr ⟨b, o, rfl, fun i a hia => (hr i a hia).1⟩, fun a ha => ?_, by omega, hl, fun _ => hm⟩
    obtain ⟨i, hi⟩ := List.mem_iff_getElem?.1 ha
    exact (hr i a hi).2

set_option maxRecDepth 100000 in
theorem read_string {fuel : Nat} {cs : List Value} {x : DataW H × List MemPlace} (h : DataW.trod enc Try.prog w 0 (fun _ => true) true fuel 9 cs = some x) : ∃ s, cs = strCells s ∧ s.size ≤ maxLen := by
  obtain ⟨s, hs, _, ws⟩ := DataW.trod_string Try.underlying9 h
  exact ⟨s, hs, ws⟩

set_option maxRecDepth 100000 in
theorem read_part {fuel : Nat} {cs : List Value} {x : DataW H × List MemPlace} (h : DataW.trod enc Try.prog w 0 (fun _ => true) true fuel 99 cs = some x) : ∃ p : Prt, cs = p.cells ∧ p.name.size ≤ maxLen := by
  obtain ⟨hl, n, hf⟩ := read_struct Try.underlying99 h
  rw [Try.cellsPart] at hl
  obtain ⟨_, f0⟩ := hf 0 _ rfl
  obtain ⟨_, f1⟩ := hf 1 _ rfl
  obtain ⟨s, e0, hs⟩ := field_string f0
  obtain ⟨b, e1⟩ := field_bool f1
  refine ⟨⟨s, b⟩, ?_, hs⟩
  match cs, hl with
  | [c0, c1], _ =>
    simp at e0 e1
    subst e0 e1
    rfl

set_option maxRecDepth 100000 in
/-- A field that is a slice. -/
theorem field_row {α : Type} {f : α → List Value} {R : α → Prop} {t e : TypeId} {n o size : Nat} {cs : List Value} {y : DataW H × List MemPlace} (ht : Try.prog.underlying t = some (.slice e)) (h1 : Try.prog.cellsOf t = 1) (hC : Try.prog.cellsOf e = size) (h0 : 0 < size)
    (he : ∀ {fuel : Nat} {cs : List Value} {x : DataW H × List MemPlace}, DataW.trod enc Try.prog w 0 (fun _ => true) true fuel e cs = some x → ∃ a, cs = f a ∧ R a)
    (h : DataW.trod enc Try.prog w 0 (fun _ => true) true n t ((cs.drop o).take (Try.prog.cellsOf t)) = some y) :
    ∃ (y : Option Addr) (c : Nat) (l : List α), cs[o]? = some (.slice y l.length c) ∧ RowAt w y size f l ∧ (∀ a ∈ l, R a) ∧ l.length ≤ maxLen ∧ l.length ≤ c ∧ (l ≠ [] → c ≤ maxLen) := by
  rw [h1] at h
  obtain ⟨y, c, l, hc, hr⟩ := read_row ht hC h0 he h
  exact ⟨y, c, l, take_one hc, hr⟩

set_option maxRecDepth 100000 in
theorem read_stretch {fuel : Nat} {cs : List Value} {x : DataW H × List MemPlace} (h : DataW.trod enc Try.prog w 0 (fun _ => true) true fuel 70 cs = some x) : ∃ s : Str, cs = s.cells ∧ StrOk w s := by
  obtain ⟨hl, n, hf⟩ := read_struct Try.underlying70 h
  rw [Try.cellsStretch] at hl
  obtain ⟨_, f0⟩ := hf 0 _ rfl
  obtain ⟨_, f1⟩ := hf 1 _ rfl
  obtain ⟨_, f2⟩ := hf 2 _ rfl
  obtain ⟨_, f3⟩ := hf 3 _ rfl
  obtain ⟨s, e0, hs⟩ := field_string f0
  obtain ⟨sx, sc, sz, e1, r1, q1, l1, _⟩ := field_row Try.underlying67 Try.cellsStrings Try.cellsString (by omega) (fun h => read_string h) f1
  obtain ⟨px, pc, ps, e2, r2, q2, l2, _⟩ := field_row Try.underlying68 Try.cellsParts Try.cellsPart (by omega) (fun h => read_part h) f2
  obtain ⟨n3, e3, h3⟩ := field_int f3
  refine ⟨{ name := s, sx := sx, sc := sc, sizes := sz, px := px, pc := pc, parts := ps, ov := n3 }, ?_, ⟨r1, r2, h3, l1, l2, hs, q1, q2⟩⟩
  match cs, hl with
  | [c0, c1, c2, c3], _ =>
    simp at e0 e1 e2 e3
    subst e0 e1 e2 e3
    rfl

set_option maxRecDepth 100000 in
theorem read_params {fuel : Nat} {cs : List Value} {x : DataW H × List MemPlace} (h : DataW.trod enc Try.prog w 0 (fun _ => true) true fuel 25 cs = some x) :
    ∃ ns : List Int, ns.length = 20 ∧ cs = ns.map (Value.int .i64) ∧ ∀ n ∈ ns, I64 n := by
  obtain ⟨hl, n, hf⟩ := read_struct Try.underlying25 h
  rw [Try.cellsParams] at hl
  obtain ⟨ns, hns, hr⟩ := list_of (fun i z => cs[i]? = some (.int .i64 z) ∧ I64 z) 20 fun i hi => by
    have hcase : i = 0 ∨ i = 1 ∨ i = 2 ∨ i = 3 ∨ i = 4 ∨ i = 5 ∨ i = 6 ∨ i = 7 ∨ i = 8 ∨ i = 9 ∨ i = 10 ∨ i = 11 ∨ i = 12 ∨ i = 13 ∨ i = 14 ∨ i = 15 ∨ i = 16 ∨ i = 17 ∨ i = 18 ∨ i = 19 := by omega
    rcases hcase with rfl | rfl | rfl | rfl | rfl | rfl | rfl | rfl | rfl | rfl | rfl | rfl | rfl | rfl | rfl | rfl | rfl | rfl | rfl | rfl
    · exact field_int (hf 0 _ rfl).choose_spec
    · exact field_int (hf 1 _ rfl).choose_spec
    · exact field_int (hf 2 _ rfl).choose_spec
    · exact field_int (hf 3 _ rfl).choose_spec
    · exact field_int (hf 4 _ rfl).choose_spec
    · exact field_int (hf 5 _ rfl).choose_spec
    · exact field_int (hf 6 _ rfl).choose_spec
    · exact field_int (hf 7 _ rfl).choose_spec
    · exact field_int (hf 8 _ rfl).choose_spec
    · exact field_int (hf 9 _ rfl).choose_spec
    · exact field_int (hf 10 _ rfl).choose_spec
    · exact field_int (hf 11 _ rfl).choose_spec
    · exact field_int (hf 12 _ rfl).choose_spec
    · exact field_int (hf 13 _ rfl).choose_spec
    · exact field_int (hf 14 _ rfl).choose_spec
    · exact field_int (hf 15 _ rfl).choose_spec
    · exact field_int (hf 16 _ rfl).choose_spec
    · exact field_int (hf 17 _ rfl).choose_spec
    · exact field_int (hf 18 _ rfl).choose_spec
    · exact field_int (hf 19 _ rfl).choose_spec
  refine ⟨ns, hns, ?_, fun z hz => ?_⟩
  · apply List.ext_getElem?
    intro i
    by_cases hi : i < 20
    · have h1 : ns[i]? = some ns[i] := List.getElem?_eq_getElem (by omega)
      rw [(hr i _ h1).1, List.getElem?_map, h1]
      rfl
    · rw [List.getElem?_eq_none (by omega), List.getElem?_eq_none (by simp; omega)]
  · obtain ⟨i, hi⟩ := List.mem_iff_getElem?.1 hz
    exact (hr i z hi).2

set_option maxRecDepth 100000 in
theorem read_font {fuel : Nat} {cs : List Value} {x : DataW H × List MemPlace} (h : DataW.trod enc Try.prog w 0 (fun _ => true) true fuel 27 cs = some x) : ∃ F : Fnt, cs = F.cells ∧ FntOk w F := by
  obtain ⟨hl, n, hf⟩ := read_struct Try.underlying27 h
  rw [Try.cellsFont] at hl
  obtain ⟨_, f0⟩ := hf 0 _ rfl
  obtain ⟨_, f1⟩ := hf 1 _ rfl
  obtain ⟨y2, f2⟩ := hf 2 _ rfl
  replace f2 : DataW.trod enc Try.prog w 0 (fun _ => true) true n 25 ((cs.drop 2).take (Try.prog.cellsOf 25)) = some y2 := f2
  obtain ⟨gx, gc, gs, e0, r0, q0, l0, p0⟩ := field_row (f := Gly.cells) (R := fun g => g.wf ∧ g.name.size ≤ maxLen) Try.underlying22 Try.cellsGlyphs Try.cellsGlyph (by omega) (fun h => read_glyph h) f0
  obtain ⟨sx, sc, ss, e1, r1, q1, l1, p1⟩ := field_row Try.underlying23 Try.cellsStretches Try.cellsStretch (by omega) (fun h => read_stretch h) f1
  rw [Try.cellsParams] at f2
  obtain ⟨ns, hns, hc, hw⟩ := read_params f2
  match ns, hns with
  | [n0, n1, n2, n3, n4, n5, n6, n7, n8, n9, n10, n11, n12, n13, n14, n15, n16, n17, n18, n19], _ =>
    refine ⟨{ gx := gx, gc := gc, gs := gs, sx := sx, sc := sc, ss := ss, quad := n0, xheight := n1, axis := n2, rule := n3, num1 := n4, num2 := n5, den1 := n6, den2 := n7, sup1 := n8, sup2 := n9, sup3 := n10, sub1 := n11, sub2 := n12, supdrop := n13, subdrop := n14, script := n15, sscript := n16, dpercent := n17, dshort := n18, acc := n19 }, ?_, ⟨r0, r1, q0, q1, l0, l1, p0, p1, fun z hz => ?_⟩⟩
    · match cs, hl with
      | c0 :: c1 :: rest, hl =>
        simp at e0 e1
        subst e0 e1
        simp only [List.length_cons] at hl
        have hr : (List.drop 2 (Value.slice gx gs.length gc :: Value.slice sx ss.length sc :: rest)).take 20 = rest := by
          show rest.take 20 = rest
          exact List.take_of_length_le (by omega)
        rw [hr] at hc
        rw [hc]
        rfl
    · apply hw
      simp [Fnt.prm] at hz ⊢
      exact hz

end
end Go.Proofs.Ytdbcdjiclkmknaa
namespace Go.Proofs.Ytdbcdjiclkmknaa
open Go.RowKit Go.ChangeShapes Go.WideShapes Go.Deep

theorem Try.cellsBox : Try.prog.cellsOf 33 = 11 := by kernel_rfl
theorem Try.cellsBoxs : Try.prog.cellsOf 30 = 1 := by kernel_rfl
theorem Try.cellsInts : Try.prog.cellsOf 31 = 1 := by kernel_rfl

section
variable {H : Type} {enc : TypeId × Value → H} {w : World}

set_option maxRecDepth 100000 in
/-- A slice that reads, and by how much fuel its elements read. -/
theorem read_slice_n {P : Program} {t e : TypeId} {fuel : Nat} {cs : List Value} {x : DataW H × List MemPlace} (ht : P.underlying t = some (.slice e)) (hC : 0 < P.cellsOf e)
    (h : DataW.trod enc P w 0 (fun _ => true) true fuel t cs = some x) :
    (∃ y c, cs = [.slice y 0 c]) ∨ ∃ (b o len c n : Nat), n < fuel ∧ 0 < len ∧ cs = [.slice (some ⟨b, o, none⟩) len c] ∧ len ≤ c ∧ c ≤ maxLen ∧
      ∀ i, i < len → ∃ cs' y, cs'.length = P.cellsOf e ∧ (∀ j, j < P.cellsOf e → w.cell? ⟨b, o + i * P.cellsOf e + j, none⟩ = cs'[j]?) ∧ DataW.trod enc P w 0 (fun _ => true) true n e cs' = some y := by
  rcases DataW.trod_slice ht h with ⟨rfl, _⟩ | ⟨a, len, cap, elems, rest, n, hn, rfl, _, _, hl, hm, hlen, hel, _, _⟩
  · exact .inl ⟨_, _, rfl⟩
  · by_cases h0 : len = 0
    · subst h0; exact .inl ⟨_, _, rfl⟩
    · have hi : ∀ i, i < len → ∃ cs' y, w.cells? 0 (a.add (i * P.cellsOf e)) (P.cellsOf e) = some cs' ∧ DataW.trod enc P w 0 (fun _ => true) true n e cs' = some y := by
        intro i hlt
        have h1 := hel i hlt
        rw [List.getElem?_eq_getElem (by omega)] at h1
        obtain ⟨cs', hc, hy⟩ := Option.bind_eq_some_iff.1 h1
        exact ⟨cs', _, hc, hy⟩
      obtain ⟨cs0, _, hc0, _⟩ := hi 0 (by omega)
      obtain ⟨_, hl0, hat0⟩ := World.cells?_some hc0
      obtain ⟨b, o, s⟩ := a
      have hs : s = none := by
        have h1 := hat0 0 hC
        rw [List.getElem?_eq_getElem (by omega)] at h1
        cases s with
        | none => rfl
        | some z => simp [World.cell?, Addr.add] at h1; split at h1 <;> simp at h1
      subst hs
      refine .inr ⟨b, o, len, cap, n, by omega, by omega, rfl, hl, hm, fun i hlt => ?_⟩
      obtain ⟨cs', y, hc', ht'⟩ := hi i hlt
      obtain ⟨_, hl', hat'⟩ := World.cells?_some hc'
      exact ⟨cs', y, hl', fun j hj => by have := hat' j hj; rw [add_plain, add_plain] at this; exact this, ht'⟩

set_option maxRecDepth 100000 in
theorem read_int {fuel : Nat} {cs : List Value} {x : DataW H × List MemPlace} (h : DataW.trod enc Try.prog w 0 (fun _ => true) true fuel 3 cs = some x) : ∃ n, cs = intCells n ∧ I64 n := by
  obtain ⟨z, hz, _, wz⟩ := DataW.trod_int Try.underlying3 h
  exact ⟨z, hz, i64_of wz⟩

set_option maxRecDepth 100000 in
theorem common {css : Nat → List Value} : ∀ len : Nat, (∀ i, i < len → ∃ n b, Rep w n b (css i)) → ∃ N, ∀ i, i < len → ∃ b, Rep w N b (css i) := by
  intro len
  induction len with
  | zero => intro _; exact ⟨0, fun i hi => by omega⟩
  | succ len ih =>
    intro h
    obtain ⟨N, hN⟩ := ih fun i hi => h i (by omega)
    obtain ⟨n, b, hb⟩ := h len (by omega)
    refine ⟨max N n, fun i hi => ?_⟩
    by_cases he : i = len
    · subst he; exact hb.up _ (by omega)
    · obtain ⟨b', hb'⟩ := hN i (by omega)
      exact hb'.up _ (by omega)

set_option maxRecDepth 100000 in
theorem read_box_n : ∀ (N fuel : Nat), fuel ≤ N → ∀ (cs : List Value) (x : DataW H × List MemPlace), DataW.trod enc Try.prog w 0 (fun _ => true) true fuel 33 cs = some x → ∃ n b, Rep w n b cs := by
  intro N
  induction N with
  | zero =>
    intro fuel hf cs x h
    obtain rfl : fuel = 0 := by omega
    simp [DataW.trod] at h
  | succ N ih =>
    intro fuel hfu cs x h
    obtain ⟨xs, n, hn, _, hl, hx, hf0⟩ := DataW.trod_struct Try.underlying33 h
    have hf : ∀ (i : Nat) (f : Field), _ → ∃ y, DataW.trod enc Try.prog w 0 (fun _ => true) true n f.type ((cs.drop f.offset).take (Try.prog.cellsOf f.type)) = some y := fun i f hi => by
      have h1 := hf0 i f hi
      have hlt : i < xs.length := by rw [hx]; exact (Array.getElem?_eq_some_iff.1 hi).1
      exact ⟨xs[i], by rw [h1, List.getElem?_eq_getElem hlt]⟩
    rw [Try.cellsBox] at hl
    obtain ⟨_, f0⟩ := hf 0 _ rfl
    obtain ⟨_, f1⟩ := hf 1 _ rfl
    obtain ⟨_, f2⟩ := hf 2 _ rfl
    obtain ⟨_, f3⟩ := hf 3 _ rfl
    obtain ⟨_, f4⟩ := hf 4 _ rfl
    obtain ⟨_, f5⟩ := hf 5 _ rfl
    obtain ⟨_, f6⟩ := hf 6 _ rfl
    obtain ⟨_, f7⟩ := hf 7 _ rfl
    obtain ⟨y8, f8⟩ := hf 8 _ rfl
    obtain ⟨_, f9⟩ := hf 9 _ rfl
    obtain ⟨_, f10⟩ := hf 10 _ rfl
    obtain ⟨n0, e0, h0⟩ := field_int f0
    obtain ⟨s, e1, h1⟩ := field_string f1
    obtain ⟨n2, e2, h2⟩ := field_int f2
    obtain ⟨n3, e3, h3⟩ := field_int f3
    obtain ⟨n4, e4, h4⟩ := field_int f4
    obtain ⟨n5, e5, h5⟩ := field_int f5
    obtain ⟨n6, e6, h6⟩ := field_int f6
    obtain ⟨n7, e7, h7⟩ := field_int f7
    obtain ⟨n9, e9, h9⟩ := field_int f9
    obtain ⟨sx, sc, src, e10, r10, q10, l10, _⟩ := field_row Try.underlying31 Try.cellsInts Try.cellsInt (by omega) (fun h => read_int h) f10
    replace f8 : DataW.trod enc Try.prog w 0 (fun _ => true) true n 30 ((cs.drop 8).take (Try.prog.cellsOf 30)) = some y8 := f8
    rw [Try.cellsBoxs] at f8
    have hd : HdOk ⟨n0, s, n2, n3, n4, n5, n6, n7, n9, src⟩ := ⟨h0, h2, h3, h4, h5, h6, h7, h9, q10, l10, h1⟩
    have hcs : ∀ k, cs[8]? = some k → cs = Hd.cells ⟨n0, s, n2, n3, n4, n5, n6, n7, n9, src⟩ k (.slice sx src.length sc) := by
      intro k e8
      match cs, hl with
      | [c0, c1, c2, c3, c4, c5, c6, c7, c8, c9, c10], _ =>
        simp at e0 e1 e2 e3 e4 e5 e6 e7 e8 e9 e10
        subst e0 e1 e2 e3 e4 e5 e6 e7 e8 e9 e10
        rfl
    rcases read_slice_n Try.underlying30 (by rw [Try.cellsBox]; omega) f8 with ⟨y, c, hk⟩ | ⟨k, o, len, c, m, hm, hlen, hk, hlc, hcm, hi⟩
    · refine ⟨1, (⟨n0, s, n2, n3, n4, n5, n6, n7, n9, src⟩, []), y, c, sx, sc, hcs _ (take_one hk), hd, by simp, r10, fun _ _ _ _ => trivial, fun i kid hi => by simp at hi⟩
    · have hi2 : ∀ i, i < len → ∃ cs' : List Value, w.rangeAt k (o + i * 11) cs' ∧ ∃ n b, Rep w n b cs' := by
        intro i hlt
        obtain ⟨cs', y, hcl, hc, htr⟩ := hi i hlt
        rw [Try.cellsBox] at hcl hc
        refine ⟨cs', fun j v hj => ?_, ih m (by omega) cs' y htr⟩
        have hjl : j < 11 := by rw [← hcl]; exact (List.getElem?_eq_some_iff.1 hj).1
        rw [hc j hjl, hj]
      obtain ⟨css, hcss⟩ : ∃ css : Nat → List Value, ∀ i, i < len → w.rangeAt k (o + i * 11) (css i) ∧ ∃ n b, Rep w n b (css i) :=
        ⟨fun i => if hlt : i < len then (hi2 i hlt).choose else [], fun i hlt => by simp only [hlt, dif_pos]; exact (hi2 i hlt).choose_spec⟩
      obtain ⟨M, hM⟩ := common len fun i hlt => (hcss i hlt).2
      obtain ⟨kids, hkl, hkr⟩ := list_of (fun i b => Rep w M b (css i)) len hM
      refine ⟨M + 1, (⟨n0, s, n2, n3, n4, n5, n6, n7, n9, src⟩, kids), some ⟨k, o, none⟩, c, sx, sc, ?_, hd, by simp only; omega, r10, fun _ _ _ _ => trivial, fun i kid hik => ?_⟩
      · have := hcs _ (take_one hk)
        rw [← hkl] at this
        exact this
      · have hlt : i < len := by rw [← hkl]; exact (List.getElem?_eq_some_iff.1 hik).1
        exact ⟨k, o, css i, rfl, trivial, (hcss i hlt).1, hkr i kid hik⟩

set_option maxRecDepth 100000 in
/-- A box as an argument, or as a part of one. -/
theorem read_box {fuel : Nat} {cs : List Value} {x : DataW H × List MemPlace} (h : DataW.trod enc Try.prog w 0 (fun _ => true) true fuel 33 cs = some x) : ∃ n b, Rep w n b cs := read_box_n fuel fuel (Nat.le_refl _) cs x h
end
end Go.Proofs.Ytdbcdjiclkmknaa
namespace Go.Proofs.Ytdbcdjiclkmknaa
open Go.RowKit Go.ChangeShapes Go.WideShapes Go.Deep

attribute [local irreducible] wpQuiet wpG wpP wpK wpList Code.wp Calls

theorem Try.cellsStyle2 : Try.prog.cellsOf 29 = 2 := by kernel_rfl

section
variable {H : Type} {enc : TypeId × Value → H} {w : World}

set_option maxRecDepth 100000 in
theorem read_style {fuel : Nat} {cs : List Value} {x : DataW H × List MemPlace} (h : DataW.trod enc Try.prog w 0 (fun _ => true) true fuel 29 cs = some x) : ∃ (l : Int) (c : Bool), cs = [.int .i64 l, .bool c] ∧ I64 l := by
  obtain ⟨hl, n, hf⟩ := read_struct Try.underlying29 h
  rw [Try.cellsStyle2] at hl
  obtain ⟨_, f0⟩ := hf 0 _ rfl
  obtain ⟨_, f1⟩ := hf 1 _ rfl
  obtain ⟨n0, e0, h0⟩ := field_int f0
  obtain ⟨b, e1⟩ := field_bool f1
  refine ⟨n0, b, ?_, h0⟩
  match cs, hl with
  | [c0, c1], _ =>
    simp at e0 e1
    subst e0 e1
    rfl

end
end Go.Proofs.Ytdbcdjiclkmknaa
namespace Go.Proofs.Ytdbcdjiclkmknaa
open Go.RowKit Go.ChangeShapes Go.WideShapes Go.Deep

attribute [local irreducible] wpQuiet wpG wpP wpK wpList Code.wp Calls

theorem Try.cellsCase35 : Try.prog.cellsOf 35 = 37 := by kernel_rfl
instance rt_case35 : RowTy Try.prog 35 37 := ⟨⟨_, Try.underlying35, rfl⟩, by kernel_rfl⟩

/-- The cells of a case. -/
@[reducible] def caseS (F : Fnt) (l : Int) (c : Bool) (cs : List Value) (v u : Value) : List Value := F.cells ++ ([.int .i64 l, .bool c] ++ (cs ++ [v, u]))

section
variable {H : Type} {enc : TypeId × Value → H} {w : World}

theorem bulk_one (d : DataW H) : 1 ≤ Rows.uptoBulk d := by
  cases d with
  | lit l => cases l <;> simp [Rows.uptoBulk]
  | nil => simp [Rows.uptoBulk]
  | ptr d => simp [Rows.uptoBulk]
  | slice elems spare => simp [Rows.uptoBulk]
  | agg parts => simp [Rows.uptoBulk]
  | iface t d => simp [Rows.uptoBulk]
  | map entries => simp [Rows.uptoBulk]
  | held h => simp [Rows.uptoBulk]
theorem bulk_len (l : List (DataW H)) : l.length ≤ Rows.uptoBulkAll l := by
  induction l with
  | nil => simp [Rows.uptoBulkAll]
  | cons x r ih => have := bulk_one x; simp only [Rows.uptoBulkAll, List.length_cons]; omega
theorem bulk_part {d : DataW H} {l : List (DataW H)} (h : d ∈ l) : Rows.uptoBulk d ≤ Rows.uptoBulkAll l := by
  induction l with
  | nil => cases h
  | cons x r ih =>
    simp only [Rows.uptoBulkAll]
    cases List.mem_cons.1 h with
    | inl e => subst e; omega
    | inr e => have := ih e; omega

theorem RepL.up {N M : Nat} {x : Option Addr} {l : List (Bx N)} (h : RepL w N x l) (hM : N ≤ M) : ∃ l' : List (Bx M), l'.length = l.length ∧ RepL w M x l' := by
  obtain ⟨l', hl, hr⟩ := list_of (fun i (b : Bx M) => ∃ k o css, x = some ⟨k, o, none⟩ ∧ w.rangeAt k (o + i * 11) css ∧ Rep w M b css) l.length (fun i hi => by
    obtain ⟨k, o, css, e, hr, hp⟩ := h i l[i] (by simp [hi])
    obtain ⟨b, hb⟩ := hp.up M hM
    exact ⟨b, k, o, css, e, hr, hb⟩)
  exact ⟨l', hl, fun i kid hi => hr i kid hi⟩

set_option maxRecDepth 100000 in
theorem read_boxes {fuel : Nat} {cs : List Value} {x : DataW H × List MemPlace} (h : DataW.trod enc Try.prog w 0 (fun _ => true) true fuel 30 cs = some x) : ∃ (y : Option Addr) (c N : Nat) (l : List (Bx N)), cs = [.slice y l.length c] ∧ RepL w N y l ∧ l.length ≤ Rows.uptoBulk x.1 := by
  have hb : ∀ (y : Option Addr) (m c : Nat), cs = [.slice y m c] → m ≤ Rows.uptoBulk x.1 := fun y m c hc => by
    rcases DataW.trod_slice Try.underlying30 h with ⟨h1, _⟩ | ⟨a, len, cap, elems, rest, n, _, h1, rfl, _, _, _, hlen, _⟩
    · rw [hc] at h1
      simp at h1
      omega
    · rw [hc] at h1
      simp at h1
      have h2 := bulk_len (elems.map (·.1))
      simp only [Rows.uptoBulk, List.length_map] at h2 ⊢
      omega
  rcases read_slice_n Try.underlying30 (by rw [Try.cellsBox]; omega) h with ⟨y, c, hk⟩ | ⟨k, o, len, c, m, hm, hlen, hk, hlc, hcm, hi⟩
  · exact ⟨y, c, 0, [], hk, fun i kid hi => by simp at hi, Nat.zero_le _⟩
  · have hi2 : ∀ i, i < len → ∃ cs' : List Value, w.rangeAt k (o + i * 11) cs' ∧ ∃ n b, Rep w n b cs' := by
      intro i hlt
      obtain ⟨cs', y, hcl, hc, htr⟩ := hi i hlt
      rw [Try.cellsBox] at hcl hc
      refine ⟨cs', fun j v hj => ?_, read_box htr⟩
      have hjl : j < 11 := by rw [← hcl]; exact (List.getElem?_eq_some_iff.1 hj).1
      rw [hc j hjl, hj]
    obtain ⟨css, hcss⟩ : ∃ css : Nat → List Value, ∀ i, i < len → w.rangeAt k (o + i * 11) (css i) ∧ ∃ n b, Rep w n b (css i) :=
      ⟨fun i => if hlt : i < len then (hi2 i hlt).choose else [], fun i hlt => by simp only [hlt, dif_pos]; exact (hi2 i hlt).choose_spec⟩
    obtain ⟨M, hM⟩ := common len fun i hlt => (hcss i hlt).2
    obtain ⟨kids, hkl, hkr⟩ := list_of (fun i b => Rep w M b (css i)) len hM
    subst hkl
    exact ⟨some ⟨k, o, none⟩, c, M, kids, hk, fun i kid hik => ⟨k, o, css i, rfl, (hcss i (List.getElem?_eq_some_iff.1 hik).1).1, hkr i kid hik⟩, hb _ _ _ hk⟩

set_option maxRecDepth 100000 in
/-- A case as an argument. -/
theorem open_case35 {r : Reach} {b0 : Nat} {v : Value} {d : DataW H} {p : List MemPlace} (hv : Value.okWide Try.prog w r b0 35 v) (h : DataW.Trod enc Try.prog w 0 (fun _ => true) true 35 v d p) :
    ∃ (F : Fnt) (l : Int) (c : Bool) (n : Nat) (base : Bx (n + 1)) (subs sups : List (Bx (n + 1))) (cs : List Value) (sx ux : Option Addr) (sc uc : Nat), v = .agg (caseS F l c cs (.slice sx subs.length sc) (.slice ux sups.length uc)).toArray ∧ FntOk w F ∧ Rep w (n + 1) base cs ∧ RepL w (n + 1) sx subs ∧ RepL w (n + 1) ux sups ∧ subs.length ≤ Rows.uptoBulk d ∧ sups.length ≤ Rows.uptoBulk d := by
  obtain ⟨cs, rfl, _⟩ := okWide_struct Try.underlying35 hv
  obtain ⟨fuel, hf⟩ := h
  obtain ⟨xs, n, _, hd, hl, hx, hf0⟩ := DataW.trod_struct Try.underlying35 hf
  have hf : ∀ (i : Nat) (f : Field), _ → ∃ y, y ∈ xs ∧ DataW.trod enc Try.prog w 0 (fun _ => true) true n f.type ((cs.toList.drop f.offset).take (Try.prog.cellsOf f.type)) = some y := fun i f hi => by
    have h1 := hf0 i f hi
    have hlt : i < xs.length := by rw [hx]; exact (Array.getElem?_eq_some_iff.1 hi).1
    exact ⟨xs[i], List.getElem_mem hlt, h1.trans (List.getElem?_eq_getElem hlt)⟩
  have hbk : ∀ y, y ∈ xs → Rows.uptoBulk y.1 ≤ Rows.uptoBulk d := fun y hy => by
    have e : d = .agg (xs.map (·.1)) := congrArg Prod.fst hd
    rw [e]
    have := bulk_part (List.mem_map_of_mem (f := (·.1)) hy)
    simp only [Rows.uptoBulk]
    omega
  rw [Try.cellsCase35] at hl
  have hl2 : cs.toList.length = 37 := hl
  obtain ⟨y0, _, f0⟩ := hf 0 _ rfl
  obtain ⟨y1, _, f1⟩ := hf 1 _ rfl
  obtain ⟨y2, _, f2⟩ := hf 2 _ rfl
  obtain ⟨y3, m3, f3⟩ := hf 3 _ rfl
  obtain ⟨y4, m4, f4⟩ := hf 4 _ rfl
  replace f0 : DataW.trod enc Try.prog w 0 (fun _ => true) true n 27 ((cs.toList.drop 0).take (Try.prog.cellsOf 27)) = some y0 := f0
  replace f1 : DataW.trod enc Try.prog w 0 (fun _ => true) true n 29 ((cs.toList.drop 22).take (Try.prog.cellsOf 29)) = some y1 := f1
  replace f2 : DataW.trod enc Try.prog w 0 (fun _ => true) true n 33 ((cs.toList.drop 24).take (Try.prog.cellsOf 33)) = some y2 := f2
  replace f3 : DataW.trod enc Try.prog w 0 (fun _ => true) true n 30 ((cs.toList.drop 35).take (Try.prog.cellsOf 30)) = some y3 := f3
  replace f4 : DataW.trod enc Try.prog w 0 (fun _ => true) true n 30 ((cs.toList.drop 36).take (Try.prog.cellsOf 30)) = some y4 := f4
  rw [Try.cellsFont] at f0
  rw [Try.cellsStyle2] at f1
  rw [Try.cellsBox] at f2
  rw [Try.cellsBoxs] at f3 f4
  obtain ⟨F, e0, hF⟩ := read_font f0
  obtain ⟨l, c, e1, _⟩ := read_style f1
  obtain ⟨n2, b2, r2⟩ := read_box f2
  obtain ⟨sx, sc, n3, l3, e3, r3, k3⟩ := read_boxes f3
  obtain ⟨ux, uc, n4, l4, e4, r4, k4⟩ := read_boxes f4
  obtain ⟨b2', r2'⟩ := r2.up (max n2 (max n3 n4) + 1) (by omega)
  obtain ⟨l3', q3, r3'⟩ := r3.up (M := max n2 (max n3 n4) + 1) (by omega)
  obtain ⟨l4', q4, r4'⟩ := r4.up (M := max n2 (max n3 n4) + 1) (by omega)
  have h3 := hbk _ m3
  have h4 := hbk _ m4
  refine ⟨F, l, c, max n2 (max n3 n4), b2', l3', l4', _, sx, ux, sc, uc, ?_, hF, r2', r3', r4', by omega, by omega⟩
  have t3 := take_one e3
  have t4 := take_one e4
  have e : cs.toList = caseS F l c ((cs.toList.drop 24).take 11) (.slice sx l3'.length sc) (.slice ux l4'.length uc) := by
    unfold caseS
    rw [← e0, ← e1, q3, q4]
    clear hl hv f0 f1 f2 f3 f4 e0 e1 e3 e4 r2 r3 r4 r2' r3' r4' hf hf0 hbk hd
    generalize cs.toList = L at *
    apply List.ext_getElem?
    intro i
    rw [List.drop_zero]
    by_cases h1 : i < 22
    · rw [List.getElem?_append_left (by simp; omega), List.getElem?_take, if_pos h1]
    · rw [List.getElem?_append_right (by simp; omega)]
      simp only [List.length_take]
      rw [Nat.min_eq_left (by omega)]
      by_cases h2 : i < 24
      · rw [List.getElem?_append_left (by simp; omega), List.getElem?_take, if_pos (by omega), List.getElem?_drop]
        congr 1; omega
      · rw [List.getElem?_append_right (by simp; omega)]
        simp only [List.length_take, List.length_drop]
        rw [Nat.min_eq_left (by omega)]
        by_cases h3 : i < 35
        · rw [List.getElem?_append_left (by simp; omega), List.getElem?_take, if_pos (by omega), List.getElem?_drop]
          congr 1; omega
        · rw [List.getElem?_append_right (by simp; omega)]
          simp only [List.length_take, List.length_drop]
          rw [Nat.min_eq_left (by omega)]
          by_cases h4 : i = 35
          · subst h4
            exact t3
          · by_cases h5 : i = 36
            · subst h5
              exact t4
            · rw [List.getElem?_eq_none (by omega), List.getElem?_eq_none (by simp; omega)]
  exact congrArg Value.agg (Array.toList_inj.1 e)
end
end Go.Proofs.Ytdbcdjiclkmknaa
namespace Go.Proofs.Ytdbcdjiclkmknaa
open Go.RowKit

attribute [local irreducible] wpQuiet wpG wpP wpK wpList Code.wp Calls

section
variable {F : Fnt} {l : Int} {c : Bool} {cs ds : List Value} {j : Nat} {v : Value}
end
end Go.Proofs.Ytdbcdjiclkmknaa
