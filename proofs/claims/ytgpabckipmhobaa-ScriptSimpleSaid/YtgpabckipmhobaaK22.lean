/- Texts Aws, OpenG, OpF, OpB, Req, Law. -/
import Derived.Test.YtgpabckipmhobaaK21
import Derived.Test.YtgpabckipmhobaaK03
import Derived.Test.YtgpabckipmhobaaK01
import Derived.Test.YtgpabckipmhobaaK13
import Derived.Test.YtgpabckipmhobaaK00
import Derived.ProofKit
import Derived.Lib.SmallJoins
namespace Go.Proofs.Ytgpabckipmhobaa
open Go.RowKit

attribute [local irreducible] wpQuiet wpG wpP wpK wpList Code.wp Calls

/-- The glyph, the font, the base and the subscript of the example. -/
def awG : Gly := { name := ⟨#[120]⟩, w := 430, h := 431, d := 0, it := 30, at_ := 0 }
def awS (k : Nat) : Fnt := { gx := some ⟨k, 0, none⟩, gc := 1, gs := [awG], sx := none, sc := 0, ss := [], quad := 0, xheight := 431, axis := 0, rule := 40, num1 := 0, num2 := 0, den1 := 0, den2 := 0, sup1 := 0, sup2 := 363, sup3 := 0, sub1 := 150, sub2 := 0, supdrop := 0, subdrop := 0, script := 70, sscript := 50, dpercent := 90, dshort := 0, acc := 0 }
def awB : Bx 1 := (⟨1, ⟨#[120]⟩, 100, 460, 431, 0, 0, 0, 0, []⟩, [])
def awU : Bx 1 := (⟨2, ⟨#[]⟩, 0, 10, 300, 0, 0, 0, 0, []⟩, [])
theorem awS_ok {w : World} {k : Nat} (h : Has w k awG.cells) : FntOk w (awS k) where
  glys := RowAt.of_has (junk := []) (fun _ _ => rfl) (by simpa [awS] using h)
  strs := .inl rfl
  gok := fun g hg => by
    obtain rfl : g = awG := by simpa [awS] using hg
    refine ⟨?_, by decide⟩
    simp [Gly.wf, awG, I64]
  sok := fun s hs => by cases hs
  glen := by simp [awS, maxLen]
  slen := Nat.zero_le _
  gcap := ⟨by simp [awS], fun _ => by simp [awS, maxLen]⟩
  scap := ⟨Nat.zero_le _, fun h => absurd rfl h⟩
  prm := fun n hn => by
    simp only [Fnt.prm, awS, List.mem_cons, Value.int.injEq, true_and, List.not_mem_nil, or_false] at hn
    unfold I64
    omega
theorem awS_valid (k : Nat) : ValidF (awS k) := by
  refine ⟨by show 1 ≤ 400; decide, by show 0 ≤ 40; decide, by rfl, fun j g hj => ?_, fun j s h => by simp [awS] at h⟩
  cases j with
  | zero =>
    obtain rfl : awG = g := by simpa [awS] using hj
    exact ⟨by rfl, fun i hi => by omega⟩
  | succ j => simp [awS] at hj
theorem awB_valid : validB 1 awB := ⟨by simp [allOwn, ownOk, lensOk, Hd.lens, kindOk, srcOk, srcEnd, awB]; decide, by decide, by decide⟩
theorem awU_valid : validB 1 awU := ⟨by simp [allOwn, ownOk, lensOk, Hd.lens, kindOk, srcOk, srcEnd, awU, Lib.toList_data], by decide, by decide⟩
theorem awO (k : Nat) : ScrOk (awS k) 1 0 awB [awU] [] := ⟨awS_valid k, by rfl, awB_valid, ⟨by decide, fun b hb => by obtain rfl := List.mem_singleton.1 hb; exact awU_valid⟩, ⟨by decide, fun b hb => by cases hb⟩⟩
def awR : Bx 2 := listB 1 460 431 150 [atXY 1 awB 0 0, atXY 1 awU 430 (-150)]
theorem awI (k : Nat) : italB (awS k) 1 awB = 30 := by
  have hp : pickG (awS k).gs ⟨#[120]⟩ = awG := by
    unfold pickG findG
    simp [awS, awG]
  have hi : innerS 1 awB = some ⟨0, awB⟩ := inner_glyph rfl
  unfold italB
  rw [hi]
  simp only [awB]
  rw [hp]
  rfl
theorem awK (k : Nat) : scrK (awS k) 1 false 0 awB [awU] [] = [atXY 1 awB 0 0, atXY 1 awU 430 (-150)] := by
  show [atXY 1 awB 0 0, atXY 1 awU (460 - italB (awS k) 1 awB) (-(scrUV (awS k) 1 false 0 awB [awU] []).2)] = _
  rw [awI]
  rfl
theorem awT_eq (k : Nat) : scrB (awS k) 1 false 0 awB [awU] [] = awR := by
  unfold scrB
  rw [awK]
  rfl
theorem awT_valid : validB 2 awR := ⟨by simp [allOwn, ownOk, lensOk, Hd.lens, kindOk, srcOk, srcEnd, awB, awU, awR, listB, atXY, Lib.toList_data]; decide, by decide, by decide⟩
theorem awB_rep (P : Nat → Prop) (w : World) : RepP P w 1 awB [.int .i64 1, .string ⟨#[120]⟩, .int .i64 100, .int .i64 460, .int .i64 431, .int .i64 0, .int .i64 0, .int .i64 0, .slice none 0 0, .int .i64 0, .slice none 0 0] :=
  rep_bare (rep_mk (kx := none) (sx := none) (kc := 0) (sc := 0) (by constructor <;> first | (unfold I64; simp; done) | (intro n hn; cases hn; done) | (simp [maxLen, ByteArray.size]; done) | decide) (by simp) (.inl rfl) (fun i kid hi => by simp at hi)) rfl
theorem awU_rep (P : Nat → Prop) (w : World) : RepP P w 1 awU [.int .i64 2, .string ⟨#[]⟩, .int .i64 0, .int .i64 10, .int .i64 300, .int .i64 0, .int .i64 0, .int .i64 0, .slice none 0 0, .int .i64 0, .slice none 0 0] :=
  rep_bare (rep_mk (kx := none) (sx := none) (kc := 0) (sc := 0) (by constructor <;> first | (unfold I64; simp; done) | (intro n hn; cases hn; done) | (simp [maxLen, ByteArray.size]; done) | decide) (by simp) (.inl rfl) (fun i kid hi => by simp at hi)) rfl
theorem awMake34 {w : World} {k s : Nat} (hg : Has w k awG.cells) (hs : Has w s [.int .i64 2, .string ⟨#[]⟩, .int .i64 0, .int .i64 10, .int .i64 300, .int .i64 0, .int .i64 0, .int .i64 0, .slice none 0 0, .int .i64 0, .slice none 0 0]) :
    Calls Try.prog 23 #[(awS k).val, .agg #[.int .i64 1, .bool false], .agg #[.int .i64 1, .string ⟨#[120]⟩, .int .i64 100, .int .i64 460, .int .i64 431, .int .i64 0, .int .i64 0, .int .i64 0, .slice none 0 0, .int .i64 0, .slice none 0 0], .slice (some ⟨s, 0, none⟩) 1 1, .slice none 0 0] w (GivesBE 2 awR 0 w) := by
  have h := scrMake_ok (fun k => k < w.heap.size) (awS k) 1 false 0 0 awB [awU] [] _ (some ⟨s, 0, none⟩) none 1 0 w (awS_ok hg) (fun _ h => h) (awB_rep _ w) (has_kids hs ⟨_, [], by simp, awU_rep _ w, rfl⟩) (fun i kid hi => by simp at hi) (awO k) (by rw [awT_eq]; exact awT_valid)
  rw [awT_eq] at h
  exact h.mono fun _ _ ⟨cs, he, hr, hb⟩ => ⟨cs, he, hr.rep, hb⟩
/-- The cells that the example looks at. -/
theorem awLook34 {w : World} {cs : List Value} (h : Rep w 2 awR cs) : ∃ c0 c1 c2 c4 c5 c6 c7 c9 c10 k o kc, cs = [c0, c1, c2, .int .i64 460, c4, c5, c6, c7, .slice (some ⟨k, o, none⟩) 2 kc, c9, c10] ∧ w.cell? ⟨k, o + 11 + 6, none⟩ = some (.int .i64 430) ∧ w.cell? ⟨k, o + 11 + 7, none⟩ = some (.int .i64 (-150)) ∧ cs.all (·.oneCell') = true := by
  have hall := rep_all h
  unfold awR at h
  obtain ⟨kx, kc, sx, sc, rfl, _, _, _, hk⟩ := rep_out h
  obtain ⟨k, o, css, rfl, hr0, hp0⟩ := hk 1 _ rfl
  obtain ⟨_, _, _, _, rfl, _⟩ := rep_out hp0
  rw [Nat.one_mul] at hr0
  exact ⟨_, _, _, _, _, _, _, _, _, k, o, kc, rfl, hr0 6 _ rfl, hr0 7 _ rfl, hall⟩

instance rt_gly34 : RowTy Try.prog 55 6 := ⟨⟨_, Try.underlying55, rfl⟩, by kernel_rfl⟩

set_option maxHeartbeats 8000000 in
set_option maxRecDepth 100000 in
theorem awake34_calls (w : World) : Calls Try.prog 9 #[] w (Gives (.bool true) w) := by
  go_enter Try.func9, Try.ntmps9
  have hS := own_start w
  go_wp2_with (first | (refine own_unguard (by rfl) ?_) | (refine own_buildSlice rfl _ _ 1 _ rfl awG.cells hS Try.underlying22 (by kernel_rfl) ?_; clear hS; (try clear ww); intro bg ww hS) | (refine own_buildSlice rfl _ _ 1 _ rfl [.int .i64 2, .string ⟨#[]⟩, .int .i64 0, .int .i64 10, .int .i64 300, .int .i64 0, .int .i64 0, .int .i64 0, .slice none 0 0, .int .i64 0, .slice none 0 0] hS Try.underlying30 (by kernel_rfl) ?_; clear hS; (try clear ww); intro bs ww hS) | (go_at_call 23; refine Calls.mono (awMake34 (hS.get at3) (hS.get at0)) ?_; rintro e w6 ⟨cs6, rfl, hr6, hb6⟩; have hB6 := bthen hS.below hb6; obtain ⟨c0, c1, c2, c4, c5, c6, c7, c9, c10, k, o, kc, rfl, hy0, hy1, hall⟩ := awLook34 hr6; clear hS hr6 hb6; have hS := own_start w6) | (refine own_store rfl _ _ _ rfl rfl rfl hS at0 rt_box (by rfl) hall ?_; clear hS; intro ww hS; (try simp only [List.set_cons_zero] at hS)) | (refine w_ld rfl _ rfl (by rfl) (by first | exact rd_1 (by repeat constructor) (by first | rfl | assumption) | exact rd_w (by repeat constructor) (by rfl) | exact rd_o (by assumption) (by rfl) (by first | exact nmn | assumption | simp) | exact rd_h (by assumption) (by rfl) (by first | exact nmn | assumption | simp) | exact rd_1o (by assumption) (by first | exact nmn | assumption | simp) | exact rd_1h (by assumption) (by first | rfl | assumption) (by first | exact nmn | assumption | simp)) hS ?_) | (refine own_box rfl _ _ rfl (by rfl) hS ?_; clear hS; (try clear ww); intro bb ww hS) | (refine w_al rfl rfl hS ?_; clear hS; (try clear ww); intro bb ww hS) | (refine w_st rfl _ _ rfl (by rfl) (by rfl) (by repeat constructor) (by rfl) (by rfl) (by first | rfl | assumption) hS ?_; clear hS; (try clear ww); intro ww hS) | (refine w_s1 rfl _ _ rfl (by rfl) (by repeat constructor) (by first | exact .c | exact .t rfl) (by rfl) (by repeat constructor) hS ?_; clear hS; (try clear ww); intro ww hS))
  go_ret
  exact ⟨rfl, bthen hB6 hS.below⟩

end Go.Proofs.Ytgpabckipmhobaa
namespace Go.Proofs.Ytgpabckipmhobaa
open Go.RowKit Go.ChangeShapes Go.WideShapes Go.Deep

theorem Try.cellsInt : Try.prog.cellsOf 3 = 1 := by kernel_rfl
theorem Try.cellsString : Try.prog.cellsOf 9 = 1 := by kernel_rfl
theorem Try.cellsBool : Try.prog.cellsOf 4 = 1 := by kernel_rfl
theorem Try.cellsGlyph : Try.prog.cellsOf 55 = 6 := by kernel_rfl

section
variable {H : Type} {enc : TypeId × Value → H} {w : World}

theorem field_int {n o : Nat} {cs : List Value} {y : DataW H × List MemPlace} (h : DataW.trod enc Try.prog w 0 (fun _ => true) true n 3 ((cs.drop o).take (Try.prog.cellsOf 3)) = some y) : ∃ z, cs[o]? = some (.int .i64 z) ∧ I64 z := by
  rw [Try.cellsInt] at h
  obtain ⟨z, hz, _, wz⟩ := DataW.trod_int Try.underlying3 h
  exact ⟨z, take_one hz, i64_of wz⟩
theorem field_string {n o : Nat} {cs : List Value} {y : DataW H × List MemPlace} (h : DataW.trod enc Try.prog w 0 (fun _ => true) true n 9 ((cs.drop o).take (Try.prog.cellsOf 9)) = some y) : ∃ s, cs[o]? = some (.string s) ∧ s.size ≤ maxLen := by
  rw [Try.cellsString] at h
  obtain ⟨s, hs, _, ws⟩ := DataW.trod_string Try.underlying9 h
  exact ⟨s, take_one hs, ws⟩
theorem field_bool {n o : Nat} {cs : List Value} {y : DataW H × List MemPlace} (h : DataW.trod enc Try.prog w 0 (fun _ => true) true n 4 ((cs.drop o).take (Try.prog.cellsOf 4)) = some y) : ∃ b, cs[o]? = some (.bool b) := by
  rw [Try.cellsBool] at h
  obtain ⟨b, hb, _⟩ := DataW.trod_bool Try.underlying4 h
  exact ⟨b, take_one hb⟩

set_option maxRecDepth 100000 in
/-- The cells of a glyph that reads. -/
theorem read_glyph {fuel : Nat} {cs : List Value} {x : DataW H × List MemPlace} (h : DataW.trod enc Try.prog w 0 (fun _ => true) true fuel 55 cs = some x) :
    ∃ g : Gly, cs = [.string g.name, .int .i64 g.w, .int .i64 g.h, .int .i64 g.d, .int .i64 g.it, .int .i64 g.at_] ∧ g.wf ∧ g.name.size ≤ maxLen := by
  obtain ⟨hl, n, hf⟩ := read_struct Try.underlying55 h
  rw [Try.cellsGlyph] at hl
  obtain ⟨_, f0⟩ := hf 0 _ rfl
  obtain ⟨_, f1⟩ := hf 1 _ rfl
  obtain ⟨_, f2⟩ := hf 2 _ rfl
  obtain ⟨_, f3⟩ := hf 3 _ rfl
  obtain ⟨_, f4⟩ := hf 4 _ rfl
  obtain ⟨_, f5⟩ := hf 5 _ rfl
  obtain ⟨s, e0, hs⟩ := field_string f0
  obtain ⟨n1, e1, h1⟩ := field_int f1
  obtain ⟨n2, e2, h2⟩ := field_int f2
  obtain ⟨n3, e3, h3⟩ := field_int f3
  obtain ⟨n4, e4, h4⟩ := field_int f4
  obtain ⟨n5, e5, h5⟩ := field_int f5
  refine ⟨{ name := s, w := n1, h := n2, d := n3, it := n4, at_ := n5 }, ?_, ⟨h1, h2, h3, h4, h5⟩, hs⟩
  match cs, hl with
  | [c0, c1, c2, c3, c4, c5], _ =>
    simp at e0 e1 e2 e3 e4 e5
    subst e0 e1 e2 e3 e4 e5
    rfl

end
end Go.Proofs.Ytgpabckipmhobaa
namespace Go.Proofs.Ytgpabckipmhobaa
open Go.RowKit Go.ChangeShapes Go.WideShapes Go.Deep

theorem Try.cellsPart : Try.prog.cellsOf 91 = 2 := by kernel_rfl
theorem Try.cellsStretch : Try.prog.cellsOf 60 = 4 := by kernel_rfl
theorem Try.cellsParams : Try.prog.cellsOf 25 = 20 := by kernel_rfl
theorem Try.cellsFont : Try.prog.cellsOf 27 = 22 := by kernel_rfl
theorem Try.cellsStrings : Try.prog.cellsOf 57 = 1 := by kernel_rfl
theorem Try.cellsParts : Try.prog.cellsOf 58 = 1 := by kernel_rfl
theorem Try.cellsGlyphs : Try.prog.cellsOf 22 = 1 := by kernel_rfl
theorem Try.cellsStretches : Try.prog.cellsOf 23 = 1 := by kernel_rfl

section
variable {H : Type} {enc : TypeId × Value → H} {w : World}

set_option maxRecDepth 100000 in
/-- A slice each of whose elements reads as f of something. -/
theorem read_row {P : Program} {α : Type} {f : α → List Value} {R : α → Prop} {t e : TypeId} {fuel size : Nat} {cs : List Value} {x : DataW H × List MemPlace} (ht : P.underlying t = some (.slice e)) (hC : P.cellsOf e = size) (h0 : 0 < size)
    (he : ∀ {fuel : Nat} {cs : List Value} {x : DataW H × List MemPlace}, DataW.trod enc P w 0 (fun _ => true) true fuel e cs = some x → ∃ a, cs = f a ∧ R a)
    (h : DataW.trod enc P w 0 (fun _ => true) true fuel t cs = some x) :
    ∃ (y : Option Addr) (c : Nat) (l : List α), cs = [.slice y l.length c] ∧ RowAt w y size f l ∧ (∀ a ∈ l, R a) ∧ l.length ≤ maxLen ∧ l.length ≤ c ∧ (l ≠ [] → c ≤ maxLen) := by
  subst hC
  rcases read_slice ht h0 h with ⟨y, c, rfl⟩ | ⟨b, o, len, c, n, hlen, rfl, hl, hm, hi⟩
  · exact ⟨y, c, [], rfl, .inl rfl, by simp, Nat.zero_le _, Nat.zero_le _, fun h => absurd rfl h⟩
  · obtain ⟨l, hll, hr⟩ := list_of (fun i a => w.rangeAt b (o + i * P.cellsOf e) (f a) ∧ R a) len fun i hlt => by
      obtain ⟨cs', y, hcl, hc, htr⟩ := hi i hlt
      obtain ⟨a, rfl, hR⟩ := he htr
      refine ⟨a, fun j v hj => ?_, hR⟩
      have hjl : j < P.cellsOf e := by rw [← hcl]; exact (List.getElem?_eq_some_iff.1 hj).1
      rw [hc j hjl, hj]
    subst hll
    refine ⟨some ⟨b, o, none⟩, c, l, rfl, .inr ⟨b, o, rfl, fun i a hia => (hr i a hia).1⟩, fun a ha => ?_, by omega, hl, fun _ => hm⟩
    obtain ⟨i, hi⟩ := List.mem_iff_getElem?.1 ha
    exact (hr i a hi).2

set_option maxRecDepth 100000 in
theorem read_string {fuel : Nat} {cs : List Value} {x : DataW H × List MemPlace} (h : DataW.trod enc Try.prog w 0 (fun _ => true) true fuel 9 cs = some x) : ∃ s, cs = strCells s ∧ s.size ≤ maxLen := by
  obtain ⟨s, hs, _, ws⟩ := DataW.trod_string Try.underlying9 h
  exact ⟨s, hs, ws⟩

set_option maxRecDepth 100000 in
theorem read_part {fuel : Nat} {cs : List Value} {x : DataW H × List MemPlace} (h : DataW.trod enc Try.prog w 0 (fun _ => true) true fuel 91 cs = some x) : ∃ p : Prt, cs = p.cells ∧ p.name.size ≤ maxLen := by
  obtain ⟨hl, n, hf⟩ := read_struct Try.underlying91 h
  rw [Try.cellsPart] at hl
  obtain ⟨_, f0⟩ := hf 0 _ rfl
  obtain ⟨_, f1⟩ := hf 1 _ rfl
  obtain ⟨s, e0, hs⟩ := field_string f0
  obtain ⟨b, e1⟩ := field_bool f1
  refine ⟨⟨s, b⟩, ?_, hs⟩
  match cs, hl with
  | [c0, c1], _ =>
    simp at e0 e1
    subst e0 e1
    rfl

set_option maxRecDepth 100000 in
/-- A field that is a slice. -/
theorem field_row {α : Type} {f : α → List Value} {R : α → Prop} {t e : TypeId} {n o size : Nat} {cs : List Value} {y : DataW H × List MemPlace} (ht : Try.prog.underlying t = some (.slice e)) (h1 : Try.prog.cellsOf t = 1) (hC : Try.prog.cellsOf e = size) (h0 : 0 < size)
    (he : ∀ {fuel : Nat} {cs : List Value} {x : DataW H × List MemPlace}, DataW.trod enc Try.prog w 0 (fun _ => true) true fuel e cs = some x → ∃ a, cs = f a ∧ R a)
    (h : DataW.trod enc Try.prog w 0 (fun _ => true) true n t ((cs.drop o).take (Try.prog.cellsOf t)) = some y) :
    ∃ (y : Option Addr) (c : Nat) (l : List α), cs[o]? = some (.slice y l.length c) ∧ RowAt w y size f l ∧ (∀ a ∈ l, R a) ∧ l.length ≤ maxLen ∧ l.length ≤ c ∧ (l ≠ [] → c ≤ maxLen) := by
  rw [h1] at h
  obtain ⟨y, c, l, hc, hr⟩ := read_row ht hC h0 he h
  exact ⟨y, c, l, take_one hc, hr⟩

set_option maxRecDepth 100000 in
theorem read_stretch {fuel : Nat} {cs : List Value} {x : DataW H × List MemPlace} (h : DataW.trod enc Try.prog w 0 (fun _ => true) true fuel 60 cs = some x) : ∃ s : Str, cs = s.cells ∧ StrOk w s := by
  obtain ⟨hl, n, hf⟩ := read_struct Try.underlying60 h
  rw [Try.cellsStretch] at hl
  obtain ⟨_, f0⟩ := hf 0 _ rfl
  obtain ⟨_, f1⟩ := hf 1 _ rfl
  obtain ⟨_, f2⟩ := hf 2 _ rfl
  obtain ⟨_, f3⟩ := hf 3 _ rfl
  obtain ⟨s, e0, hs⟩ := field_string f0
  obtain ⟨sx, sc, sz, e1, r1, q1, l1, _⟩ := field_row Try.underlying57 Try.cellsStrings Try.cellsString (by omega) (fun h => read_string h) f1
  obtain ⟨px, pc, ps, e2, r2, q2, l2, _⟩ := field_row Try.underlying58 Try.cellsParts Try.cellsPart (by omega) (fun h => read_part h) f2
  obtain ⟨n3, e3, h3⟩ := field_int f3
  refine ⟨{ name := s, sx := sx, sc := sc, sizes := sz, px := px, pc := pc, parts := ps, ov := n3 }, ?_, ⟨r1, r2, h3, l1, l2, hs, q1, q2⟩⟩
  match cs, hl with
  | [c0, c1, c2, c3], _ =>
    simp at e0 e1 e2 e3
    subst e0 e1 e2 e3
    rfl

set_option maxRecDepth 100000 in
theorem read_params {fuel : Nat} {cs : List Value} {x : DataW H × List MemPlace} (h : DataW.trod enc Try.prog w 0 (fun _ => true) true fuel 25 cs = some x) :
    ∃ ns : List Int, ns.length = 20 ∧ cs = ns.map (Value.int .i64) ∧ ∀ n ∈ ns, I64 n := by
  obtain ⟨hl, n, hf⟩ := read_struct Try.underlying25 h
  rw [Try.cellsParams] at hl
  obtain ⟨ns, hns, hr⟩ := list_of (fun i z => cs[i]? = some (.int .i64 z) ∧ I64 z) 20 fun i hi => by
    have hcase : i = 0 ∨ i = 1 ∨ i = 2 ∨ i = 3 ∨ i = 4 ∨ i = 5 ∨ i = 6 ∨ i = 7 ∨ i = 8 ∨ i = 9 ∨ i = 10 ∨ i = 11 ∨ i = 12 ∨ i = 13 ∨ i = 14 ∨ i = 15 ∨ i = 16 ∨ i = 17 ∨ i = 18 ∨ i = 19 := by omega
    rcases hcase with rfl | rfl | rfl | rfl | rfl | rfl | rfl | rfl | rfl | rfl | rfl | rfl | rfl | rfl | rfl | rfl | rfl | rfl | rfl | rfl
    · exact field_int (hf 0 _ rfl).choose_spec
    · exact field_int (hf 1 _ rfl).choose_spec
    · exact field_int (hf 2 _ rfl).choose_spec
    · exact field_int (hf 3 _ rfl).choose_spec
    · exact field_int (hf 4 _ rfl).choose_spec
    · exact field_int (hf 5 _ rfl).choose_spec
    · exact field_int (hf 6 _ rfl).choose_spec
    · exact field_int (hf 7 _ rfl).choose_spec
    · exact field_int (hf 8 _ rfl).choose_spec
    · exact field_int (hf 9 _ rfl).choose_spec
    · exact field_int (hf 10 _ rfl).choose_spec
    · exact field_int (hf 11 _ rfl).choose_spec
    · exact field_int (hf 12 _ rfl).choose_spec
    · exact field_int (hf 13 _ rfl).choose_spec
    · exact field_int (hf 14 _ rfl).choose_spec
    · exact field_int (hf 15 _ rfl).choose_spec
    · exact field_int (hf 16 _ rfl).choose_spec
    · exact field_int (hf 17 _ rfl).choose_spec
    · exact field_int (hf 18 _ rfl).choose_spec
    · exact field_int (hf 19 _ rfl).choose_spec
  refine ⟨ns, hns, ?_, fun z hz => ?_⟩
  · apply List.ext_getElem?
    intro i
    by_cases hi : i < 20
    · have h1 : ns[i]? = some ns[i] := List.getElem?_eq_getElem (by omega)
      rw [(hr i _ h1).1, List.getElem?_map, h1]
      rfl
    · rw [List.getElem?_eq_none (by omega), List.getElem?_eq_none (by simp; omega)]
  · obtain ⟨i, hi⟩ := List.mem_iff_getElem?.1 hz
    exact (hr i z hi).2

set_option maxRecDepth 100000 in
theorem read_font {fuel : Nat} {cs : List Value} {x : DataW H × List MemPlace} (h : DataW.trod enc Try.prog w 0 (fun _ => true) true fuel 27 cs = some x) : ∃ F : Fnt, cs = F.cells ∧ FntOk w F := by
  obtain ⟨hl, n, hf⟩ := read_struct Try.underlying27 h
  rw [Try.cellsFont] at hl
  obtain ⟨_, f0⟩ := hf 0 _ rfl
  obtain ⟨_, f1⟩ := hf 1 _ rfl
  obtain ⟨y2, f2⟩ := hf 2 _ rfl
  replace f2 : DataW.trod enc Try.prog w 0 (fun _ => true) true n 25 ((cs.drop 2).take (Try.prog.cellsOf 25)) = some y2 := f2
  obtain ⟨gx, gc, gs, e0, r0, q0, l0, p0⟩ := field_row (f := Gly.cells) (R := fun g => g.wf ∧ g.name.size ≤ maxLen) Try.underlying22 Try.cellsGlyphs Try.cellsGlyph (by omega) (fun h => read_glyph h) f0
  obtain ⟨sx, sc, ss, e1, r1, q1, l1, p1⟩ := field_row Try.underlying23 Try.cellsStretches Try.cellsStretch (by omega) (fun h => read_stretch h) f1
  rw [Try.cellsParams] at f2
  obtain ⟨ns, hns, hc, hw⟩ := read_params f2
  match ns, hns with
  | [n0, n1, n2, n3, n4, n5, n6, n7, n8, n9, n10, n11, n12, n13, n14, n15, n16, n17, n18, n19], _ =>
    refine ⟨{ gx := gx, gc := gc, gs := gs, sx := sx, sc := sc, ss := ss, quad := n0, xheight := n1, axis := n2, rule := n3, num1 := n4, num2 := n5, den1 := n6, den2 := n7, sup1 := n8, sup2 := n9, sup3 := n10, sub1 := n11, sub2 := n12, supdrop := n13, subdrop := n14, script := n15, sscript := n16, dpercent := n17, dshort := n18, acc := n19 }, ?_, ⟨r0, r1, q0, q1, l0, l1, p0, p1, fun z hz => ?_⟩⟩
    · match cs, hl with
      | c0 :: c1 :: rest, hl =>
        simp at e0 e1
        subst e0 e1
        simp only [List.length_cons] at hl
        have hr : (List.drop 2 (Value.slice gx gs.length gc :: Value.slice sx ss.length sc :: rest)).take 20 = rest := by
          show rest.take 20 = rest
          exact List.take_of_length_le (by omega)
        rw [hr] at hc
        rw [hc]
        rfl
    · apply hw
      simp [Fnt.prm] at hz ⊢
      exact hz

set_option maxRecDepth 100000 in
/-- A font as an argument. -/
theorem open_font {r : Reach} {b0 : Nat} {v : Value} {d : DataW H} {p : List MemPlace} (hv : Value.okWide Try.prog w r b0 27 v) (h : DataW.Trod enc Try.prog w 0 (fun _ => true) true 27 v d p) :
    ∃ F : Fnt, v = F.val ∧ FntOk w F := by
  obtain ⟨cs, rfl, _⟩ := okWide_struct Try.underlying27 hv
  obtain ⟨fuel, hf⟩ := h
  obtain ⟨F, hc, hw⟩ := read_font hf
  exact ⟨F, by rw [Array.toList_inj.1 (show cs.toList = (F.cells.toArray).toList from hc)], hw⟩
end
end Go.Proofs.Ytgpabckipmhobaa
namespace Go.Proofs.Ytgpabckipmhobaa
open Go.RowKit Go.ChangeShapes Go.WideShapes Go.Deep

theorem Try.cellsBox : Try.prog.cellsOf 33 = 11 := by kernel_rfl
theorem Try.cellsBoxs : Try.prog.cellsOf 30 = 1 := by kernel_rfl
theorem Try.cellsInts : Try.prog.cellsOf 31 = 1 := by kernel_rfl

section
variable {H : Type} {enc : TypeId × Value → H} {w : World}

set_option maxRecDepth 100000 in
/-- A slice that reads, and by how much fuel its elements read. -/
theorem read_slice_n {P : Program} {t e : TypeId} {fuel : Nat} {cs : List Value} {x : DataW H × List MemPlace} (ht : P.underlying t = some (.slice e)) (hC : 0 < P.cellsOf e)
    (h : DataW.trod enc P w 0 (fun _ => true) true fuel t cs = some x) :
    (∃ y c, cs = [.slice y 0 c]) ∨ ∃ (b o len c n : Nat), n < fuel ∧ 0 < len ∧ cs = [.slice (some ⟨b, o, none⟩) len c] ∧ len ≤ c ∧ c ≤ maxLen ∧
      ∀ i, i < len → ∃ cs' y, cs'.length = P.cellsOf e ∧ (∀ j, j < P.cellsOf e → w.cell? ⟨b, o + i * P.cellsOf e + j, none⟩ = cs'[j]?) ∧ DataW.trod enc P w 0 (fun _ => true) true n e cs' = some y := by
  rcases DataW.trod_slice ht h with ⟨rfl, _⟩ | ⟨a, len, cap, elems, rest, n, hn, rfl, _, _, hl, hm, hlen, hel, _, _⟩
  · exact .inl ⟨_, _, rfl⟩
  · by_cases h0 : len = 0
    · subst h0; exact .inl ⟨_, _, rfl⟩
    · have hi : ∀ i, i < len → ∃ cs' y, w.cells? 0 (a.add (i * P.cellsOf e)) (P.cellsOf e) = some cs' ∧ DataW.trod enc P w 0 (fun _ => true) true n e cs' = some y := by
        intro i hlt
        have h1 := hel i hlt
        rw [List.getElem?_eq_getElem (by omega)] at h1
        obtain ⟨cs', hc, hy⟩ := Option.bind_eq_some_iff.1 h1
        exact ⟨cs', _, hc, hy⟩
      obtain ⟨cs0, _, hc0, _⟩ := hi 0 (by omega)
      obtain ⟨_, hl0, hat0⟩ := World.cells?_some hc0
      obtain ⟨b, o, s⟩ := a
      have hs : s = none := by
        have h1 := hat0 0 hC
        rw [List.getElem?_eq_getElem (by omega)] at h1
        cases s with
        | none => rfl
        | some z => simp [World.cell?, Addr.add] at h1; split at h1 <;> simp at h1
      subst hs
      refine .inr ⟨b, o, len, cap, n, by omega, by omega, rfl, hl, hm, fun i hlt => ?_⟩
      obtain ⟨cs', y, hc', ht'⟩ := hi i hlt
      obtain ⟨_, hl', hat'⟩ := World.cells?_some hc'
      exact ⟨cs', y, hl', fun j hj => by have := hat' j hj; rw [add_plain, add_plain] at this; exact this, ht'⟩

set_option maxRecDepth 100000 in
theorem read_int {fuel : Nat} {cs : List Value} {x : DataW H × List MemPlace} (h : DataW.trod enc Try.prog w 0 (fun _ => true) true fuel 3 cs = some x) : ∃ n, cs = intCells n ∧ I64 n := by
  obtain ⟨z, hz, _, wz⟩ := DataW.trod_int Try.underlying3 h
  exact ⟨z, hz, i64_of wz⟩

set_option maxRecDepth 100000 in
theorem common {css : Nat → List Value} : ∀ len : Nat, (∀ i, i < len → ∃ n b, Rep w n b (css i)) → ∃ N, ∀ i, i < len → ∃ b, Rep w N b (css i) := by
  intro len
  induction len with
  | zero => intro _; exact ⟨0, fun i hi => by omega⟩
  | succ len ih =>
    intro h
    obtain ⟨N, hN⟩ := ih fun i hi => h i (by omega)
    obtain ⟨n, b, hb⟩ := h len (by omega)
    refine ⟨max N n, fun i hi => ?_⟩
    by_cases he : i = len
    · subst he; exact hb.up _ (by omega)
    · obtain ⟨b', hb'⟩ := hN i (by omega)
      exact hb'.up _ (by omega)

set_option maxRecDepth 100000 in
theorem read_box_n : ∀ (N fuel : Nat), fuel ≤ N → ∀ (cs : List Value) (x : DataW H × List MemPlace), DataW.trod enc Try.prog w 0 (fun _ => true) true fuel 33 cs = some x → ∃ n b, Rep w n b cs := by
  intro N
  induction N with
  | zero =>
    intro fuel hf cs x h
    obtain rfl : fuel = 0 := by omega
    simp [DataW.trod] at h
  | succ N ih =>
    intro fuel hfu cs x h
    obtain ⟨xs, n, hn, _, hl, hx, hf0⟩ := DataW.trod_struct Try.underlying33 h
    have hf : ∀ (i : Nat) (f : Field), _ → ∃ y, DataW.trod enc Try.prog w 0 (fun _ => true) true n f.type ((cs.drop f.offset).take (Try.prog.cellsOf f.type)) = some y := fun i f hi => by
      have h1 := hf0 i f hi
      have hlt : i < xs.length := by rw [hx]; exact (Array.getElem?_eq_some_iff.1 hi).1
      exact ⟨xs[i], by rw [h1, List.getElem?_eq_getElem hlt]⟩
    rw [Try.cellsBox] at hl
    obtain ⟨_, f0⟩ := hf 0 _ rfl
    obtain ⟨_, f1⟩ := hf 1 _ rfl
    obtain ⟨_, f2⟩ := hf 2 _ rfl
    obtain ⟨_, f3⟩ := hf 3 _ rfl
    obtain ⟨_, f4⟩ := hf 4 _ rfl
    obtain ⟨_, f5⟩ := hf 5 _ rfl
    obtain ⟨_, f6⟩ := hf 6 _ rfl
    obtain ⟨_, f7⟩ := hf 7 _ rfl
    obtain ⟨y8, f8⟩ := hf 8 _ rfl
    obtain ⟨_, f9⟩ := hf 9 _ rfl
    obtain ⟨_, f10⟩ := hf 10 _ rfl
    obtain ⟨n0, e0, h0⟩ := field_int f0
    obtain ⟨s, e1, h1⟩ := field_string f1
    obtain ⟨n2, e2, h2⟩ := field_int f2
    obtain ⟨n3, e3, h3⟩ := field_int f3
    obtain ⟨n4, e4, h4⟩ := field_int f4
    obtain ⟨n5, e5, h5⟩ := field_int f5
    obtain ⟨n6, e6, h6⟩ := field_int f6
    obtain ⟨n7, e7, h7⟩ := field_int f7
    obtain ⟨n9, e9, h9⟩ := field_int f9
    obtain ⟨sx, sc, src, e10, r10, q10, l10, _⟩ := field_row Try.underlying31 Try.cellsInts Try.cellsInt (by omega) (fun h => read_int h) f10
    replace f8 : DataW.trod enc Try.prog w 0 (fun _ => true) true n 30 ((cs.drop 8).take (Try.prog.cellsOf 30)) = some y8 := f8
    rw [Try.cellsBoxs] at f8
    have hd : HdOk ⟨n0, s, n2, n3, n4, n5, n6, n7, n9, src⟩ := ⟨h0, h2, h3, h4, h5, h6, h7, h9, q10, l10, h1⟩
    have hcs : ∀ k, cs[8]? = some k → cs = Hd.cells ⟨n0, s, n2, n3, n4, n5, n6, n7, n9, src⟩ k (.slice sx src.length sc) := by
      intro k e8
      match cs, hl with
      | [c0, c1, c2, c3, c4, c5, c6, c7, c8, c9, c10], _ =>
        simp at e0 e1 e2 e3 e4 e5 e6 e7 e8 e9 e10
        subst e0 e1 e2 e3 e4 e5 e6 e7 e8 e9 e10
        rfl
    rcases read_slice_n Try.underlying30 (by rw [Try.cellsBox]; omega) f8 with ⟨y, c, hk⟩ | ⟨k, o, len, c, m, hm, hlen, hk, hlc, hcm, hi⟩
    · refine ⟨1, (⟨n0, s, n2, n3, n4, n5, n6, n7, n9, src⟩, []), y, c, sx, sc, hcs _ (take_one hk), hd, by simp, r10, fun _ _ _ _ => trivial, fun i kid hi => by simp at hi⟩
    · have hi2 : ∀ i, i < len → ∃ cs' : List Value, w.rangeAt k (o + i * 11) cs' ∧ ∃ n b, Rep w n b cs' := by
        intro i hlt
        obtain ⟨cs', y, hcl, hc, htr⟩ := hi i hlt
        rw [Try.cellsBox] at hcl hc
        refine ⟨cs', fun j v hj => ?_, ih m (by omega) cs' y htr⟩
        have hjl : j < 11 := by rw [← hcl]; exact (List.getElem?_eq_some_iff.1 hj).1
        rw [hc j hjl, hj]
      obtain ⟨css, hcss⟩ : ∃ css : Nat → List Value, ∀ i, i < len → w.rangeAt k (o + i * 11) (css i) ∧ ∃ n b, Rep w n b (css i) :=
        ⟨fun i => if hlt : i < len then (hi2 i hlt).choose else [], fun i hlt => by simp only [hlt, dif_pos]; exact (hi2 i hlt).choose_spec⟩
      obtain ⟨M, hM⟩ := common len fun i hlt => (hcss i hlt).2
      obtain ⟨kids, hkl, hkr⟩ := list_of (fun i b => Rep w M b (css i)) len hM
      refine ⟨M + 1, (⟨n0, s, n2, n3, n4, n5, n6, n7, n9, src⟩, kids), some ⟨k, o, none⟩, c, sx, sc, ?_, hd, by simp only; omega, r10, fun _ _ _ _ => trivial, fun i kid hik => ?_⟩
      · have := hcs _ (take_one hk)
        rw [← hkl] at this
        exact this
      · have hlt : i < len := by rw [← hkl]; exact (List.getElem?_eq_some_iff.1 hik).1
        exact ⟨k, o, css i, rfl, trivial, (hcss i hlt).1, hkr i kid hik⟩

set_option maxRecDepth 100000 in
/-- A box as an argument, or as a part of one. -/
theorem read_box {fuel : Nat} {cs : List Value} {x : DataW H × List MemPlace} (h : DataW.trod enc Try.prog w 0 (fun _ => true) true fuel 33 cs = some x) : ∃ n b, Rep w n b cs := read_box_n fuel fuel (Nat.le_refl _) cs x h
end
end Go.Proofs.Ytgpabckipmhobaa
namespace Go.Proofs.Ytgpabckipmhobaa
open Go.RowKit

attribute [local irreducible] wpQuiet wpG wpP wpK wpList Code.wp Calls

set_option maxHeartbeats 8000000 in
set_option maxRecDepth 100000 in
theorem ref28_SameInts_same (l : List Int) (x y : Option Addr) (c d : Nat) (w : World) (hx : RowAt w x 1 intCells l) (hy : RowAt w y 1 intCells l) (hl : l.length ≤ 17592186044416) : Calls Try.prog 26 #[.slice x l.length c, .slice y l.length d] w (Gives (.bool true) w) := by
  have HX := Lib.hid hx
  have HY := Lib.hid hy
  clear hx hy
  go_enter Try.func26, Try.ntmps26
  have hS := own_start w
  go_wp2_with (first | (refine own_unguard (by rfl) ?_) | (refine w_ld rfl _ rfl (by rfl) (by first | exact rd_1 (by repeat constructor) (by first | rfl | assumption) | exact rd_w (by repeat constructor) (by rfl) | exact rd_o (by assumption) (by rfl) (by first | exact nmn | assumption | simp) | exact rd_h (by assumption) (by rfl) (by first | exact nmn | assumption | simp) | exact rd_1o (by assumption) (by first | exact nmn | assumption | simp) | exact rd_1h (by assumption) (by first | rfl | assumption) (by first | exact nmn | assumption | simp)) hS ?_) | (refine own_box rfl _ _ rfl (by rfl) hS ?_; clear hS; (try clear ww); intro bb ww hS) | (refine w_st rfl _ _ rfl (by rfl) (by rfl) (by repeat constructor) (by rfl) (by rfl) (by first | rfl | assumption) hS ?_; clear hS; (try clear ww); intro ww hS) | (refine w_s1 rfl _ _ rfl (by rfl) (by repeat constructor) (by first | exact .c | exact .t rfl) (by rfl) (by repeat constructor) hS ?_; clear hS; (try clear ww); intro ww hS))
  go_loopw [5] (fun i wr => ∃ j : Nat, j ≤ l.length ∧ i = .int .i64 j ∧ Own [] w [] wr) (fun i _ => l.length - (intOf i).toNat)
  case atStart => exact ⟨0, Nat.zero_le _, rfl, hS⟩
  case round =>
    clear hS
    obtain ⟨j, hj, rfl, hS⟩ := hrel
    by_cases hlt : j < l.length
    · obtain ⟨n, hn⟩ : ∃ n, l[j]? = some n := ⟨l[j], by simp [hlt]⟩
      obtain ⟨b1, o1, hx1, hr1⟩ := HX.out.get hn
      obtain ⟨b2, o2, hx2, hr2⟩ := HY.out.get hn
      obtain rfl : x = some ⟨b1, o1, none⟩ := hx1
      obtain rfl : y = some ⟨b2, o2, none⟩ := hx2
      have hc1 : w.cell? ⟨b1, o1 + j * 1, none⟩ = some (.int .i64 n) := hr1 0 _ rfl
      have hc2 : w.cell? ⟨b2, o2 + j * 1, none⟩ = some (.int .i64 n) := hr2 0 _ rfl
      rw [Nat.mul_one] at hc1 hc2
      clear hr1 hr2 hn
      go_wp2_with (first | (refine own_unguard (by rfl) ?_) | (refine w_ld rfl _ rfl (by rfl) (by first | exact rd_1 (by repeat constructor) (by first | rfl | assumption) | exact rd_w (by repeat constructor) (by rfl) | exact rd_o (by assumption) (by rfl) (by first | exact nmn | assumption | simp) | exact rd_h (by assumption) (by rfl) (by first | exact nmn | assumption | simp) | exact rd_1o (by assumption) (by first | exact nmn | assumption | simp) | exact rd_1h (by assumption) (by first | rfl | assumption) (by first | exact nmn | assumption | simp)) hS ?_) | (refine own_box rfl _ _ rfl (by rfl) hS ?_; clear hS; (try clear ww); intro bb ww hS) | (refine w_st rfl _ _ rfl (by rfl) (by rfl) (by repeat constructor) (by rfl) (by rfl) (by first | rfl | assumption) hS ?_; clear hS; (try clear ww); intro ww hS) | (refine w_s1 rfl _ _ rfl (by rfl) (by repeat constructor) (by first | exact .c | exact .t rfl) (by rfl) (by repeat constructor) hS ?_; clear hS; (try clear ww); intro ww hS))
      refine own_region hS (by kernel_rfl) (by kernel_rfl) ?_
      (try simp only); (try simp only [List.drop_succ_cons]); (try simp only [List.drop_zero]); (try simp only [List.take_succ_cons]); (try simp only [List.take_zero])
      repeat (first
          | (first | (refine quiet_plain rfl ?_) | (refine quiet_yes rfl rfl rfl (by simp only [List.getElem?_toArray, List.getElem?_cons_succ, List.getElem?_cons_zero]; rfl) (by with_reducible constructor) ?_)
             apply Exists.intro; refine ⟨?_, ?_⟩
             focus (intro wq hq0; have hq : Own _ _ _ wq := hq0; first | (exact quietAt_rd rfl (by rfl) (by first | exact rd_1 (by repeat constructor) (by first | rfl | assumption) | exact rd_w (by repeat constructor) (by rfl) | exact rd_o (by assumption) (by rfl) (by first | exact nmn | assumption | simp) | exact rd_h (by assumption) (by rfl) (by first | exact nmn | assumption | simp) | exact rd_1o (by assumption) (by first | exact nmn | assumption | simp) | exact rd_1h (by assumption) (by first | rfl | assumption) (by first | exact nmn | assumption | simp)) hq) | (go_simp; first | (with_reducible rfl)))
             simp only [Act.put, List.setIfInBounds_toArray, List.set_cons_zero, List.set_cons_succ])
          | (refine quiet_no rfl rfl rfl (by simp only [List.getElem?_toArray, List.getElem?_cons_succ, List.getElem?_cons_zero]; rfl) (by with_reducible constructor) ?_; simp only [Act.put, List.setIfInBounds_toArray, List.set_cons_zero, List.set_cons_succ]))
      refine wpQuiet_nil ?_
      clear hS
      intro ww hS
      go_wp2_with (first | (refine own_unguard (by rfl) ?_) | (refine w_ld rfl _ rfl (by rfl) (by first | exact rd_1 (by repeat constructor) (by first | rfl | assumption) | exact rd_w (by repeat constructor) (by rfl) | exact rd_o (by assumption) (by rfl) (by first | exact nmn | assumption | simp) | exact rd_h (by assumption) (by rfl) (by first | exact nmn | assumption | simp) | exact rd_1o (by assumption) (by first | exact nmn | assumption | simp) | exact rd_1h (by assumption) (by first | rfl | assumption) (by first | exact nmn | assumption | simp)) hS ?_) | (refine own_box rfl _ _ rfl (by rfl) hS ?_; clear hS; (try clear ww); intro bb ww hS) | (refine w_st rfl _ _ rfl (by rfl) (by rfl) (by repeat constructor) (by rfl) (by rfl) (by first | rfl | assumption) hS ?_; clear hS; (try clear ww); intro ww hS) | (refine w_s1 rfl _ _ rfl (by rfl) (by repeat constructor) (by first | exact .c | exact .t rfl) (by rfl) (by repeat constructor) hS ?_; clear hS; (try clear ww); intro ww hS))
      go_roundw
      case rel => exact ⟨j + 1, hlt, by go_num, hS⟩
      case measure => exact loop_meas hlt
    · obtain rfl : j = l.length := by omega
      go_wp2_with (first | (refine own_unguard (by rfl) ?_) | (refine w_ld rfl _ rfl (by rfl) (by first | exact rd_1 (by repeat constructor) (by first | rfl | assumption) | exact rd_w (by repeat constructor) (by rfl) | exact rd_o (by assumption) (by rfl) (by first | exact nmn | assumption | simp) | exact rd_h (by assumption) (by rfl) (by first | exact nmn | assumption | simp) | exact rd_1o (by assumption) (by first | exact nmn | assumption | simp) | exact rd_1h (by assumption) (by first | rfl | assumption) (by first | exact nmn | assumption | simp)) hS ?_) | (refine own_box rfl _ _ rfl (by rfl) hS ?_; clear hS; (try clear ww); intro bb ww hS) | (refine w_st rfl _ _ rfl (by rfl) (by rfl) (by repeat constructor) (by rfl) (by rfl) (by first | rfl | assumption) hS ?_; clear hS; (try clear ww); intro ww hS) | (refine w_s1 rfl _ _ rfl (by rfl) (by repeat constructor) (by first | exact .c | exact .t rfl) (by rfl) (by repeat constructor) hS ?_; clear hS; (try clear ww); intro ww hS))
      go_ret
      exact own_gives hS

set_option maxHeartbeats 16000000 in
set_option maxRecDepth 100000 in
theorem ref28_Equal_step (n : Nat) (ih : ∀ (b : Bx n) (cs ds : List Value) (w : World), Rep w n b cs → Rep w n b ds → Small n b → Calls Try.prog 11 #[.agg cs.toArray, .agg ds.toArray] w (Gives (.bool true) w))
    (b : Bx (n + 1)) (cs ds : List Value) (w : World) (hr : Rep w (n + 1) b cs) (hr2 : Rep w (n + 1) b ds) (hsm : Small (n + 1) b) : Calls Try.prog 11 #[.agg cs.toArray, .agg ds.toArray] w (Gives (.bool true) w) := by
  obtain ⟨⟨kind, name, size, bw, bh, bd, bx, by_, of, src⟩, kids⟩ := b
  obtain ⟨kx, kc, sx, sc, rfl, ha, hkl, hrow0, hkids⟩ := rep_out hr
  obtain ⟨kx2, kc2, sx2, sc2, rfl, _, _, hrow2, hkids2⟩ := rep_out hr2
  have hkl2 : kids.length ≤ 1000000 := hsm.2.1
  have hsl : src.length ≤ 17592186044416 := hsm.1
  have IH := Lib.hid ih
  have HK := Lib.hid hkids
  have HK2 := Lib.hid hkids2
  have HSm := Lib.hid hsm.2.2
  have HRow := Lib.hid hrow0
  have HRow2 := Lib.hid hrow2
  simp only at HRow HRow2
  clear ih hr hr2 ha hkl hrow0 hkids hsm hrow2 hkids2
  go_enter Try.func11, Try.ntmps11
  try simp only [List.append]
  have hS := own_start w
  go_wp2_with (first | (refine own_unguard (by rfl) ?_) | (go_at_call 26; refine own_calls hS (ref28_SameInts_same src sx sx2 sc sc2 _ (HRow.out.own hS) (HRow2.out.own hS) hsl) ?_; clear hS; (try clear ww); intro ww hS) | (refine w_ld rfl _ rfl (by rfl) (by first | exact rd_1 (by repeat constructor) (by first | rfl | assumption) | exact rd_w (by repeat constructor) (by rfl) | exact rd_o (by assumption) (by rfl) (by first | exact nmn | assumption | simp) | exact rd_h (by assumption) (by rfl) (by first | exact nmn | assumption | simp) | exact rd_1o (by assumption) (by first | exact nmn | assumption | simp) | exact rd_1h (by assumption) (by first | rfl | assumption) (by first | exact nmn | assumption | simp)) hS ?_) | (refine own_box rfl _ _ rfl (by rfl) hS ?_; clear hS; (try clear ww); intro bb ww hS) | (refine w_st rfl _ _ rfl (by rfl) (by rfl) (by repeat constructor) (by rfl) (by rfl) (by first | rfl | assumption) hS ?_; clear hS; (try clear ww); intro ww hS) | (refine w_s1 rfl _ _ rfl (by rfl) (by repeat constructor) (by first | exact .c | exact .t rfl) (by rfl) (by repeat constructor) hS ?_; clear hS; (try clear ww); intro ww hS))
  obtain ⟨L0, HL, hS0⟩ := hS.named
  clear hS
  have hS := hS0
  clear hS0
  go_loopw [5] (fun i wr => ∃ j : Nat, j ≤ kids.length ∧ i = .int .i64 j ∧ Own [] w L0 wr) (fun i _ => kids.length - (intOf i).toNat)
  case atStart => exact ⟨0, Nat.zero_le _, rfl, hS⟩
  case round =>
    clear hS
    obtain ⟨j, hj, rfl, hS⟩ := hrel
    obtain rfl := HL.out
    clear HL
    by_cases hlt : j < kids.length
    · obtain ⟨kid, hkid⟩ : ∃ kid, kids[j]? = some kid := ⟨kids[j], by simp [hlt]⟩
      obtain ⟨kb, ko, css, hkx, hrg, hrep⟩ := HK.out j kid hkid
      obtain ⟨kb2, ko2, css2, hkx2, hrg2, hrep2⟩ := HK2.out j kid hkid
      obtain rfl : kx = some ⟨kb, ko, none⟩ := hkx
      obtain rfl : kx2 = some ⟨kb2, ko2, none⟩ := hkx2
      obtain ⟨c0, c1, c2, c3, c4, c5, c6, c7, c8, c9, c10, rfl⟩ := eleven hrep.len
      obtain ⟨d0, d1, d2, d3, d4, d5, d6, d7, d8, d9, d10, rfl⟩ := eleven hrep2.len
      have HE := Lib.hid (fun wq (h : Below w.heap.size w wq) => IH.out kid _ _ wq (hrep.step h) (hrep2.step h) (HSm.out kid (List.mem_of_getElem? hkid)))
      clear hrep hrep2 hkid
      go_wp2_with (first | (refine own_unguard (by rfl) ?_) | (refine w_ld rfl _ rfl (by rfl) (by first | exact rd_1 (by repeat constructor) (by first | rfl | assumption) | exact rd_w (by repeat constructor) (by rfl) | exact rd_o (by assumption) (by rfl) (by first | exact nmn | assumption | simp) | exact rd_h (by assumption) (by rfl) (by first | exact nmn | assumption | simp) | exact rd_1o (by assumption) (by first | exact nmn | assumption | simp) | exact rd_1h (by assumption) (by first | rfl | assumption) (by first | exact nmn | assumption | simp)) hS ?_) | (refine own_box rfl _ _ rfl (by rfl) hS ?_; clear hS; (try clear ww); intro bb ww hS) | (refine w_st rfl _ _ rfl (by rfl) (by rfl) (by repeat constructor) (by rfl) (by rfl) (by first | rfl | assumption) hS ?_; clear hS; (try clear ww); intro ww hS) | (refine w_s1 rfl _ _ rfl (by rfl) (by repeat constructor) (by first | exact .c | exact .t rfl) (by rfl) (by repeat constructor) hS ?_; clear hS; (try clear ww); intro ww hS))
      refine own_region hS (by kernel_rfl) (by kernel_rfl) ?_
      (try simp only); (try simp only [List.drop_succ_cons]); (try simp only [List.drop_zero]); (try simp only [List.take_succ_cons]); (try simp only [List.take_zero])
      repeat (first
          | (first | (refine quiet_plain rfl ?_) | (refine quiet_yes rfl rfl rfl (by simp only [List.getElem?_toArray, List.getElem?_cons_succ, List.getElem?_cons_zero]; rfl) (by with_reducible constructor) ?_)
             apply Exists.intro; refine ⟨?_, ?_⟩
             focus (intro wq hq0; have hq : Own _ _ _ wq := hq0; first | (exact quietAt_rd rfl (by rfl) (by first | exact rd_1 (by repeat constructor) (by first | rfl | assumption) | exact rd_w (by repeat constructor) (by rfl) | exact rd_o (by assumption) (by rfl) (by first | exact nmn | assumption | simp) | exact rd_h (by assumption) (by rfl) (by first | exact nmn | assumption | simp) | exact rd_1o (by assumption) (by first | exact nmn | assumption | simp) | exact rd_1h (by assumption) (by first | rfl | assumption) (by first | exact nmn | assumption | simp)) hq) | (go_simp; first | (go_at_call 11; exact quietG hq (HE.out _ hq.below)) | (with_reducible rfl)))
             simp only [Act.put, List.setIfInBounds_toArray, List.set_cons_zero, List.set_cons_succ])
          | (refine quiet_no rfl rfl rfl (by simp only [List.getElem?_toArray, List.getElem?_cons_succ, List.getElem?_cons_zero]; rfl) (by with_reducible constructor) ?_; simp only [Act.put, List.setIfInBounds_toArray, List.set_cons_zero, List.set_cons_succ]))
      refine wpQuiet_nil ?_
      clear hS
      intro ww hS
      go_wp2_with (first | (refine own_unguard (by rfl) ?_) | (refine w_ld rfl _ rfl (by rfl) (by first | exact rd_1 (by repeat constructor) (by first | rfl | assumption) | exact rd_w (by repeat constructor) (by rfl) | exact rd_o (by assumption) (by rfl) (by first | exact nmn | assumption | simp) | exact rd_h (by assumption) (by rfl) (by first | exact nmn | assumption | simp) | exact rd_1o (by assumption) (by first | exact nmn | assumption | simp) | exact rd_1h (by assumption) (by first | rfl | assumption) (by first | exact nmn | assumption | simp)) hS ?_) | (refine own_box rfl _ _ rfl (by rfl) hS ?_; clear hS; (try clear ww); intro bb ww hS) | (refine w_st rfl _ _ rfl (by rfl) (by rfl) (by repeat constructor) (by rfl) (by rfl) (by first | rfl | assumption) hS ?_; clear hS; (try clear ww); intro ww hS) | (refine w_s1 rfl _ _ rfl (by rfl) (by repeat constructor) (by first | exact .c | exact .t rfl) (by rfl) (by repeat constructor) hS ?_; clear hS; (try clear ww); intro ww hS))
      go_roundw
      case rel => exact ⟨j + 1, hlt, by go_num, hS⟩
      case measure => exact loop_meas hlt
    · obtain rfl : j = kids.length := by omega
      go_wp2_with (first | (refine own_unguard (by rfl) ?_) | (refine w_ld rfl _ rfl (by rfl) (by first | exact rd_1 (by repeat constructor) (by first | rfl | assumption) | exact rd_w (by repeat constructor) (by rfl) | exact rd_o (by assumption) (by rfl) (by first | exact nmn | assumption | simp) | exact rd_h (by assumption) (by rfl) (by first | exact nmn | assumption | simp) | exact rd_1o (by assumption) (by first | exact nmn | assumption | simp) | exact rd_1h (by assumption) (by first | rfl | assumption) (by first | exact nmn | assumption | simp)) hS ?_) | (refine own_box rfl _ _ rfl (by rfl) hS ?_; clear hS; (try clear ww); intro bb ww hS) | (refine w_st rfl _ _ rfl (by rfl) (by rfl) (by repeat constructor) (by rfl) (by rfl) (by first | rfl | assumption) hS ?_; clear hS; (try clear ww); intro ww hS) | (refine w_s1 rfl _ _ rfl (by rfl) (by repeat constructor) (by first | exact .c | exact .t rfl) (by rfl) (by repeat constructor) hS ?_; clear hS; (try clear ww); intro ww hS))
      go_ret
      exact own_gives hS

theorem ref28_Equal_calls : ∀ (n : Nat) (b : Bx n) (cs ds : List Value) (w : World), Rep w n b cs → Rep w n b ds → Small n b → Calls Try.prog 11 #[.agg cs.toArray, .agg ds.toArray] w (Gives (.bool true) w) := by
  intro n
  induction n with
  | zero => intro b cs ds w h; exact h.elim
  | succ n ih => intro b cs ds w h1 h2 h3; exact ref28_Equal_step n ih b cs ds w h1 h2 h3

end Go.Proofs.Ytgpabckipmhobaa
namespace Go.Proofs.Ytgpabckipmhobaa
open Go.RowKit Go.ChangeShapes Go.WideShapes Go.ChangeAt

theorem Try.own : ownKnob Try.prog.godebug = none := by kernel_rfl
theorem Try.laidOut : laidOutB Try.prog = true := by kernel_rfl

/-- All arguments read as before. -/
theorem below_trodAll {H : Type} {enc : TypeId × Value → H} {P : Program} (hl : laidOutB P = true) {W W' : World} (hb : Below W.heap.size W W') (ts : List TypeId) :
    ∀ (vs : List Value) (ds : List (DataW H)) (ps : List MemPlace), (∀ t ∈ ts, P.readableRec t = true ∧ t < P.types.size) → DataW.TrodAll enc P W 0 (fun _ => true) true ts vs ds ps →
    (∀ x ∈ ps, x.block < W.heap.size) → DataW.TrodAll enc P W' 0 (fun b => decide (b < W.heap.size)) true ts vs ds ps := by
  induction ts with
  | nil => intro vs ds ps _ h _; obtain ⟨rfl, rfl, rfl⟩ := trodAll_nil h; exact rfl
  | cons t ts ih =>
    intro vs ds ps hr h hlt
    obtain ⟨v, vs', d, ds', p, q, rfl, rfl, rfl, h1, h2⟩ := trodAll_cons h
    exact ⟨p, q, Below.trod hl (hr t (by simp)).1 (hr t (by simp)).2 h1 hb (fun x hx => hlt x (by simp [hx])),
      ih vs' ds' q (fun u hu => hr u (by simp [hu])) h2 (fun x hx => hlt x (by simp [hx])), rfl⟩

/-- What the row asks behind the call of a law. -/
theorem law_post {H : Type} {enc : TypeId × Value → H} {P : Program} (hl : laidOutB P = true) {f : Func} {s : ChangeSpec} {tb : TypeId} {W W' : World} {args : Array Value} {ds gs : List (DataW H)} {before : List MemPlace}
    (hvars : s.vars = []) (hres : f.resultTypes = #[tb]) (hbool : P.underlying tb = some .bool) (hread : ∀ t ∈ f.params.toList, P.readableRec t = true ∧ t < P.types.size)
    (hspec : s.fn H (ds ++ gs) = { results := [.lit (.bool true)], args := ds }) (hW : DataW.Whole enc P f.params.toList s.vars false W args.toList ds gs before) (hb : Below W.heap.size W W') :
    s.post enc P f false true false false W args (.bool true) W' := by
  obtain ⟨p, q, hA, hV, rfl, hfz, hnd⟩ := id hW
  refine ⟨ds, gs, p ++ q, [], p, [], hW, ?_, ?_, ?_, Below.frame hb _, fun h => by cases h⟩
  · rw [hspec, hres]
    exact trodAll_mk1 (shut_bool hbool true)
  · rw [hspec]
    exact below_trodAll hl hb _ _ _ _ hread hA (fun x hx => hW.lt x (by simp [hx]))
  · rw [hspec, hvars]
    exact rfl
end Go.Proofs.Ytgpabckipmhobaa
