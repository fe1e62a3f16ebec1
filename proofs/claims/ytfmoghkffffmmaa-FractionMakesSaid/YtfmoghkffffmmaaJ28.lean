/- Texts Awf, OpenG, OpF, OpB, Opc. -/
import Derived.Test.YtfmoghkffffmmaaJ25
import Derived.Test.YtfmoghkffffmmaaJ13
import Derived.Test.YtfmoghkffffmmaaJ01
import Derived.Test.YtfmoghkffffmmaaJ12
import Derived.Test.YtfmoghkffffmmaaJ20
import Derived.Test.YtfmoghkffffmmaaJ11
namespace Go.Proofs.Ytfmoghkffffmmaa
open Go.RowKit

attribute [local irreducible] wpQuiet wpG wpP wpK wpList Code.wp Calls

theorem zt_fnt : ZeroTy Try.prog 27 [.slice none 0 0, .slice none 0 0, .int .i64 0, .int .i64 0, .int .i64 0, .int .i64 0, .int .i64 0, .int .i64 0, .int .i64 0, .int .i64 0, .int .i64 0, .int .i64 0, .int .i64 0, .int .i64 0, .int .i64 0, .int .i64 0, .int .i64 0, .int .i64 0, .int .i64 0, .int .i64 0, .int .i64 0, .int .i64 0] := ⟨.agg #[.slice none 0 0, .slice none 0 0, .int .i64 0, .int .i64 0, .int .i64 0, .int .i64 0, .int .i64 0, .int .i64 0, .int .i64 0, .int .i64 0, .int .i64 0, .int .i64 0, .int .i64 0, .int .i64 0, .int .i64 0, .int .i64 0, .int .i64 0, .int .i64 0, .int .i64 0, .int .i64 0, .int .i64 0, .int .i64 0], by kernel_rfl, rfl⟩
/-- The font of the example, its numerator and its denominator. -/
def awF : Fnt := { gx := none, gc := 0, gs := [], sx := none, sc := 0, ss := [], quad := 0, xheight := 0, axis := 250, rule := 40, num1 := 677, num2 := 0, den1 := 686, den2 := 0, sup1 := 0, sup2 := 0, sup3 := 0, sub1 := 0, sub2 := 0, supdrop := 0, subdrop := 0, script := 70, sscript := 50, dpercent := 90, dshort := 0, acc := 0 }
def awN : Bx 1 := (⟨2, ⟨#[]⟩, 0, 10, 0, 300, 0, 0, 0, []⟩, [])
def awD : Bx 1 := (⟨2, ⟨#[]⟩, 0, 0, 0, 0, 0, 0, 0, []⟩, [])
theorem awF_ok (w : World) : FntOk w awF where
  glys := .inl rfl
  strs := .inl rfl
  gok := fun g hg => by cases hg
  sok := fun s hs => by cases hs
  glen := Nat.zero_le _
  slen := Nat.zero_le _
  gcap := ⟨Nat.zero_le _, fun h => absurd rfl h⟩
  scap := ⟨Nat.zero_le _, fun h => absurd rfl h⟩
  prm := fun n hn => by
    simp only [Fnt.prm, awF, List.mem_cons, Value.int.injEq, true_and, List.not_mem_nil, or_false] at hn
    unfold I64
    omega
theorem awF_valid : ValidF awF := ⟨by decide, by decide, by rfl, by simp [awF, GlysOk], fun k s h => by simp [awF] at h⟩
theorem awN_valid : validB 1 awN := ⟨by simp [allOwn, ownOk, lensOk, Hd.lens, kindOk, srcOk, srcEnd, awN, Lib.toList_data], by decide, by decide⟩
theorem awD_valid : validB 1 awD := ⟨by simp [allOwn, ownOk, lensOk, Hd.lens, kindOk, srcOk, srcEnd, awD, Lib.toList_data], by decide, by decide⟩
theorem awR_eq : fracB awF 0 0 awN awD = listB 1 10 690 686 [atXY 1 awN 0 690, atXY 1 (ruleB 0 10 40 0) 0 230, atXY 1 awD 5 (-686)] := by rfl
theorem awR_valid : validB 2 (fracB awF 0 0 awN awD) := by
  rw [awR_eq]
  exact ⟨by simp [allOwn, ownOk, lensOk, Hd.lens, kindOk, srcOk, srcEnd, awN, awD, listB, ruleB, atXY, Lib.toList_data], by decide, by decide⟩
theorem awN_rep (w : World) : Rep w 1 awN [.int .i64 2, .string ⟨#[]⟩, .int .i64 0, .int .i64 10, .int .i64 0, .int .i64 300, .int .i64 0, .int .i64 0, .slice none 0 0, .int .i64 0, .slice none 0 0] :=
  rep_mk (kx := none) (sx := none) (kc := 0) (sc := 0) (hdOk_new (by unfold I64; omega) (by unfold I64; omega) i64_0 (by unfold I64; omega)) (by simp) (.inl rfl) (fun i kid hi => by simp at hi)
theorem awD_rep (w : World) : Rep w 1 awD [.int .i64 2, .string ⟨#[]⟩, .int .i64 0, .int .i64 0, .int .i64 0, .int .i64 0, .int .i64 0, .int .i64 0, .slice none 0 0, .int .i64 0, .slice none 0 0] :=
  rep_mk (kx := none) (sx := none) (kc := 0) (sc := 0) (hdOk_new (by unfold I64; omega) i64_0 i64_0 i64_0) (by simp) (.inl rfl) (fun i kid hi => by simp at hi)
theorem awMake (w : World) : Calls Try.prog 11 #[awF.val, .agg #[.int .i64 0, .bool false], .agg #[.int .i64 2, .string ⟨#[]⟩, .int .i64 0, .int .i64 10, .int .i64 0, .int .i64 300, .int .i64 0, .int .i64 0, .slice none 0 0, .int .i64 0, .slice none 0 0], .agg #[.int .i64 2, .string ⟨#[]⟩, .int .i64 0, .int .i64 0, .int .i64 0, .int .i64 0, .int .i64 0, .int .i64 0, .slice none 0 0, .int .i64 0, .slice none 0 0]] w (GivesBE 2 (fracB awF 0 0 awN awD) 0 w) :=
  fracMake_ok awF 0 false 0 awN awD _ _ w (awF_ok w) (by rfl) awF_valid (awN_rep w) (awD_rep w) awN_valid awD_valid awR_valid
/-- The cells that the example looks at. -/
theorem awLook {w : World} {cs : List Value} (h : Rep w 2 (fracB awF 0 0 awN awD) cs) : ∃ c0 c1 c2 c4 c5 c6 c7 c9 c10 k o kc, cs = [c0, c1, c2, .int .i64 10, c4, c5, c6, c7, .slice (some ⟨k, o, none⟩) 3 kc, c9, c10] ∧ w.cell? ⟨k, o + 7, none⟩ = some (.int .i64 690) ∧ w.cell? ⟨k, o + 11 + 7, none⟩ = some (.int .i64 230) ∧ cs.all (·.oneCell') = true := by
  have hall := rep_all h
  obtain ⟨kx, kc, sx, sc, rfl, _, _, _, hk⟩ := rep_out h
  obtain ⟨k, o, css, rfl, hr0, hp0⟩ := hk 0 _ rfl
  obtain ⟨k1, o1, css1, e1, hr1, hp1⟩ := hk 1 _ rfl
  obtain ⟨rfl, rfl⟩ : k = k1 ∧ o = o1 := by simpa using e1
  obtain ⟨_, _, _, _, rfl, _⟩ := rep_out hp0
  obtain ⟨_, _, _, _, rfl, _⟩ := rep_out hp1
  refine ⟨_, _, _, _, _, _, _, _, _, k, o, kc, rfl, ?_, ?_, hall⟩
  · have := hr0 7 _ rfl
    rw [Nat.zero_mul, Nat.add_zero] at this
    exact this
  · have := hr1 7 _ rfl
    rw [Nat.one_mul] at this
    exact this

set_option maxHeartbeats 8000000 in
set_option maxRecDepth 100000 in
theorem awake32_calls (w : World) : Calls Try.prog 9 #[] w (Gives (.bool true) w) := by
  have HM := Lib.hid (fun w' => awMake w')
  go_enter Try.func9, Try.ntmps9
  have hS := own_start w
  go_wp2_with (first | (refine own_unguard (by rfl) ?_) | (go_at_call 11; refine Calls.mono (HM.out _) ?_; rintro e w6 ⟨cs6, rfl, hr6, hb6⟩; have hB6 := bthen hS.below hb6; obtain ⟨c0, c1, c2, c4, c5, c6, c7, c9, c10, k, o, kc, rfl, hy0, hy1, hall⟩ := awLook hr6; clear hS hr6 hb6; have hS := own_start w6) | (refine own_store rfl _ _ _ rfl rfl rfl hS at0 rt_box (by rfl) hall ?_; clear hS; intro ww hS; (try simp only [List.set_cons_zero] at hS)) | (refine own_load1 rfl _ _ rfl rfl hS (atl (by repeat constructor)) (by first | exact ot_int | exact ot_bool | exact ot_boxs | exact ot_ints) (by first | rfl | assumption) ?_) | (refine own_load rfl _ _ rfl rfl hS (atl (by repeat constructor)) (by first | exact rt_font | exact rt_style | exact rt_box) ?_) | (refine own_load_old rfl _ _ rfl rfl hS (by assumption) (by first | exact List.not_mem_nil | assumption) (by first | exact rt_font | exact rt_style | exact rt_box) ?_) | (refine own_load_has rfl _ _ rfl rfl hS (by assumption) (by first | exact List.not_mem_nil | assumption) (by first | exact rt_font | exact rt_style | exact rt_box) ?_) | (refine own_load1_old rfl _ _ rfl rfl hS (by assumption) (by first | exact List.not_mem_nil | assumption) (by first | exact ot_int | exact ot_bool | exact ot_boxs | exact ot_ints) ?_) | (refine own_load1_has rfl _ _ rfl rfl hS (by assumption) (by first | exact List.not_mem_nil | assumption) (by first | exact ot_int | exact ot_bool | exact ot_boxs | exact ot_ints) (by first | rfl | assumption) ?_) | (refine own_box rfl _ _ rfl rfl hS ?_; clear hS; (try clear ww); intro bb ww hS) | (refine own_alloc rfl _ rfl hS (by first | exact zt_box | exact zt_fnt) ?_; clear hS; (try clear ww); intro bb ww hS) | (refine own_store rfl _ _ _ rfl rfl rfl hS (atl (by repeat constructor)) (by first | exact rt_font | exact rt_style | exact rt_box) (by rfl) (by rfl) ?_; clear hS; (try clear ww); intro ww hS; (try simp only at hS); (try simp only [List.set_cons_succ] at hS); (try simp only [List.set_cons_zero] at hS)) | (refine own_store1 rfl _ _ _ rfl rfl rfl rfl hS (atl (by repeat constructor)) (by first | exact ot_int | exact ot_bool | exact ot_boxs | exact ot_ints) (by simp) ?_; clear hS; (try clear ww); intro ww hS; (try simp only at hS); (try simp only [List.set_cons_succ] at hS); (try simp only [List.set_cons_zero] at hS); (try simp only [Act.eval] at hS); (try simp only [Array.getD_eq_getD_getElem?] at hS); (try simp only [List.getElem?_toArray] at hS); (try simp only [List.getElem?_cons_succ] at hS); (try simp only [List.getElem?_cons_zero] at hS); (try simp only [Option.getD_some] at hS)))
  go_ret
  exact ⟨rfl, bthen hB6 hS.below⟩

end Go.Proofs.Ytfmoghkffffmmaa
namespace Go.Proofs.Ytfmoghkffffmmaa
open Go.RowKit Go.ChangeShapes Go.WideShapes Go.Deep

theorem Try.cellsInt : Try.prog.cellsOf 3 = 1 := by kernel_rfl
theorem Try.cellsString : Try.prog.cellsOf 9 = 1 := by kernel_rfl
theorem Try.cellsBool : Try.prog.cellsOf 4 = 1 := by kernel_rfl
theorem Try.cellsGlyph : Try.prog.cellsOf 85 = 6 := by kernel_rfl

section
variable {H : Type} {enc : TypeId × Value → H} {w : World}

theorem field_int {n o : Nat} {cs : List Value} {y : DataW H × List MemPlace} (h : DataW.trod enc Try.prog w 0 (fun _ => true) true n 3 ((cs.drop o).take (Try.prog.cellsOf 3)) = some y) : ∃ z, cs[o]? = some (.int .i64 z) ∧ I64 z := by
  rw [Try.cellsInt] at h
  obtain ⟨z, hz, _, wz⟩ := DataW.trod_int Try.underlying3 h
  exact ⟨z, take_one hz, i64_of wz⟩
theorem field_string {n o : Nat} {cs : List Value} {y : DataW H × List MemPlace} (h : DataW.trod enc Try.prog w 0 (fun _ => true) true n 9 ((cs.drop o).take (Try.prog.cellsOf 9)) = some y) : ∃ s, cs[o]? = some (.string s) ∧ s.size ≤ maxLen := by
  rw [Try.cellsString] at h
  obtain ⟨s, hs, _, ws⟩ := DataW.trod_string Try.underlying9 h
  exact ⟨s, take_one hs, ws⟩
theorem field_bool {n o : Nat} {cs : List Value} {y : DataW H × List MemPlace} (h : DataW.trod enc Try.prog w 0 (fun _ => true) true n 4 ((cs.drop o).take (Try.prog.cellsOf 4)) = some y) : ∃ b, cs[o]? = some (.bool b) := by
  rw [Try.cellsBool] at h
  obtain ⟨b, hb, _⟩ := DataW.trod_bool Try.underlying4 h
  exact ⟨b, take_one hb⟩

set_option maxRecDepth 100000 in
/-- The cells of a glyph that reads. -/
theorem read_glyph {fuel : Nat} {cs : List Value} {x : DataW H × List MemPlace} (h : DataW.trod enc Try.prog w 0 (fun _ => true) true fuel 85 cs = some x) :
    ∃ g : Gly, cs = [.string g.name, .int .i64 g.w, .int .i64 g.h, .int .i64 g.d, .int .i64 g.it, .int .i64 g.at_] ∧ g.wf ∧ g.name.size ≤ maxLen := by
  obtain ⟨hl, n, hf⟩ := read_struct Try.underlying85 h
  rw [Try.cellsGlyph] at hl
  obtain ⟨_, f0⟩ := hf 0 _ rfl
  obtain ⟨_, f1⟩ := hf 1 _ rfl
  obtain ⟨_, f2⟩ := hf 2 _ rfl
  obtain ⟨_, f3⟩ := hf 3 _ rfl
  obtain ⟨_, f4⟩ := hf 4 _ rfl
  obtain ⟨_, f5⟩ := hf 5 _ rfl
  obtain ⟨s, e0, hs⟩ := field_string f0
  obtain ⟨n1, e1, h1⟩ := field_int f1
  obtain ⟨n2, e2, h2⟩ := field_int f2
  obtain ⟨n3, e3, h3⟩ := field_int f3
  obtain ⟨n4, e4, h4⟩ := field_int f4
  obtain ⟨n5, e5, h5⟩ := field_int f5
  refine ⟨{ name := s, w := n1, h := n2, d := n3, it := n4, at_ := n5 }, ?_, ⟨h1, h2, h3, h4, h5⟩, hs⟩
  match cs, hl with
  | [c0, c1, c2, c3, c4, c5], _ =>
    simp at e0 e1 e2 e3 e4 e5
    subst e0 e1 e2 e3 e4 e5
    rfl

end
end Go.Proofs.Ytfmoghkffffmmaa
namespace Go.Proofs.Ytfmoghkffffmmaa
open Go.RowKit Go.ChangeShapes Go.WideShapes Go.Deep

theorem Try.cellsPart : Try.prog.cellsOf 97 = 2 := by kernel_rfl
theorem Try.cellsStretch : Try.prog.cellsOf 74 = 4 := by kernel_rfl
theorem Try.cellsParams : Try.prog.cellsOf 25 = 20 := by kernel_rfl
theorem Try.cellsFont : Try.prog.cellsOf 27 = 22 := by kernel_rfl
theorem Try.cellsStrings : Try.prog.cellsOf 71 = 1 := by kernel_rfl
theorem Try.cellsParts : Try.prog.cellsOf 72 = 1 := by kernel_rfl
theorem Try.cellsGlyphs : Try.prog.cellsOf 22 = 1 := by kernel_rfl
theorem Try.cellsStretches : Try.prog.cellsOf 23 = 1 := by kernel_rfl

section
variable {H : Type} {enc : TypeId × Value → H} {w : World}

set_option maxRecDepth 100000 in
/-- A slice each of whose elements reads as f of something. -/
theorem read_row {P : Program} {α : Type} {f : α → List Value} {R : α → Prop} {t e : TypeId} {fuel size : Nat} {cs : List Value} {x : DataW H × List MemPlace} (ht : P.underlying t = some (.slice e)) (hC : P.cellsOf e = size) (h0 : 0 < size)
    (he : ∀ {fuel : Nat} {cs : List Value} {x : DataW H × List MemPlace}, DataW.trod enc P w 0 (fun _ => true) true fuel e cs = some x → ∃ a, cs = f a ∧ R a)
    (h : DataW.trod enc P w 0 (fun _ => true) true fuel t cs = some x) :
    ∃ (y : Option Addr) (c : Nat) (l : List α), cs = [.slice y l.length c] ∧ RowAt w y size f l ∧ (∀ a ∈ l, R a) ∧ l.length ≤ maxLen ∧ l.length ≤ c ∧ (l ≠ [] → c ≤ maxLen) := by
  subst hC
  rcases read_slice ht h0 h with ⟨y, c, rfl⟩ | ⟨b, o, len, c, n, hlen, rfl, hl, hm, hi⟩
  · exact ⟨y, c, [], rfl, .inl rfl, by simp, Nat.zero_le _, Nat.zero_le _, fun h => absurd rfl h⟩
  · obtain ⟨l, hll, hr⟩ := list_of (fun i a => w.rangeAt b (o + i * P.cellsOf e) (f a) ∧ R a) len fun i hlt => by
      obtain ⟨cs', y, hcl, hc, htr⟩ := hi i hlt
      obtain ⟨a, rfl, hR⟩ := he htr
      refine ⟨a, fun j v hj => ?_, hR⟩
      have hjl : j < P.cellsOf e := by rw [← hcl]; exact (List.getElem?_eq_some_iff.1 hj).1
      rw [hc j hjl, hj]
    subst hll
    refine ⟨some ⟨b, o, none⟩, c, l, rfl, .inr ⟨b, o, rfl, fun i a hia => (hr i a hia).1⟩, fun a ha => ?_, by omega, hl, fun _ => hm⟩
    obtain ⟨i, hi⟩ := List.mem_iff_getElem?.1 ha
    exact (hr i a hi).2

set_option maxRecDepth 100000 in
theorem read_string {fuel : Nat} {cs : List Value} {x : DataW H × List MemPlace} (h : DataW.trod enc Try.prog w 0 (fun _ => true) true fuel 9 cs = some x) : ∃ s, cs = strCells s ∧ s.size ≤ maxLen := by
  obtain ⟨s, hs, _, ws⟩ := DataW.trod_string Try.underlying9 h
  exact ⟨s, hs, ws⟩

set_option maxRecDepth 100000 in
theorem read_part {fuel : Nat} {cs : List Value} {x : DataW H × List MemPlace} (h : DataW.trod enc Try.prog w 0 (fun _ => true) true fuel 97 cs = some x) : ∃ p : Prt, cs = p.cells ∧ p.name.size ≤ maxLen := by
  obtain ⟨hl, n, hf⟩ := read_struct Try.underlying97 h
  rw [Try.cellsPart] at hl
  obtain ⟨_, f0⟩ := hf 0 _ rfl
  obtain ⟨_, f1⟩ := hf 1 _ rfl
  obtain ⟨s, e0, hs⟩ := field_string f0
  obtain ⟨b, e1⟩ := field_bool f1
  refine ⟨⟨s, b⟩, ?_, hs⟩
  match cs, hl with
  | [c0, c1], _ =>
    simp at e0 e1
    subst e0 e1
    rfl

set_option maxRecDepth 100000 in
/-- A field that is a slice. -/
theorem field_row {α : Type} {f : α → List Value} {R : α → Prop} {t e : TypeId} {n o size : Nat} {cs : List Value} {y : DataW H × List MemPlace} (ht : Try.prog.underlying t = some (.slice e)) (h1 : Try.prog.cellsOf t = 1) (hC : Try.prog.cellsOf e = size) (h0 : 0 < size)
    (he : ∀ {fuel : Nat} {cs : List Value} {x : DataW H × List MemPlace}, DataW.trod enc Try.prog w 0 (fun _ => true) true fuel e cs = some x → ∃ a, cs = f a ∧ R a)
    (h : DataW.trod enc Try.prog w 0 (fun _ => true) true n t ((cs.drop o).take (Try.prog.cellsOf t)) = some y) :
    ∃ (y : Option Addr) (c : Nat) (l : List α), cs[o]? = some (.slice y l.length c) ∧ RowAt w y size f l ∧ (∀ a ∈ l, R a) ∧ l.length ≤ maxLen ∧ l.length ≤ c ∧ (l ≠ [] → c ≤ maxLen) := by
  rw [h1] at h
  obtain ⟨y, c, l, hc, hr⟩ := read_row ht hC h0 he h
  exact ⟨y, c, l, take_one hc, hr⟩

set_option maxRecDepth 100000 in
theorem read_stretch {fuel : Nat} {cs : List Value} {x : DataW H × List MemPlace} (h : DataW.trod enc Try.prog w 0 (fun _ => true) true fuel 74 cs = some x) : ∃ s : Str, cs = s.cells ∧ StrOk w s := by
  obtain ⟨hl, n, hf⟩ := read_struct Try.underlying74 h
  rw [Try.cellsStretch] at hl
  obtain ⟨_, f0⟩ := hf 0 _ rfl
  obtain ⟨_, f1⟩ := hf 1 _ rfl
  obtain ⟨_, f2⟩ := hf 2 _ rfl
  obtain ⟨_, f3⟩ := hf 3 _ rfl
  obtain ⟨s, e0, hs⟩ := field_string f0
  obtain ⟨sx, sc, sz, e1, r1, q1, l1, _⟩ := field_row Try.underlying71 Try.cellsStrings Try.cellsString (by omega) (fun h => read_string h) f1
  obtain ⟨px, pc, ps, e2, r2, q2, l2, _⟩ := field_row Try.underlying72 Try.cellsParts Try.cellsPart (by omega) (fun h => read_part h) f2
  obtain ⟨n3, e3, h3⟩ := field_int f3
  refine ⟨{ name := s, sx := sx, sc := sc, sizes := sz, px := px, pc := pc, parts := ps, ov := n3 }, ?_, ⟨r1, r2, h3, l1, l2, hs, q1, q2⟩⟩
  match cs, hl with
  | [c0, c1, c2, c3], _ =>
    simp at e0 e1 e2 e3
    subst e0 e1 e2 e3
    rfl

set_option maxRecDepth 100000 in
theorem read_params {fuel : Nat} {cs : List Value} {x : DataW H × List MemPlace} (h : DataW.trod enc Try.prog w 0 (fun _ => true) true fuel 25 cs = some x) :
    ∃ ns : List Int, ns.length = 20 ∧ cs = ns.map (Value.int .i64) ∧ ∀ n ∈ ns, I64 n := by
  obtain ⟨hl, n, hf⟩ := read_struct Try.underlying25 h
  rw [Try.cellsParams] at hl
  obtain ⟨ns, hns, hr⟩ := list_of (fun i z => cs[i]? = some (.int .i64 z) ∧ I64 z) 20 fun i hi => by
    have hcase : i = 0 ∨ i = 1 ∨ i = 2 ∨ i = 3 ∨ i = 4 ∨ i = 5 ∨ i = 6 ∨ i = 7 ∨ i = 8 ∨ i = 9 ∨ i = 10 ∨ i = 11 ∨ i = 12 ∨ i = 13 ∨ i = 14 ∨ i = 15 ∨ i = 16 ∨ i = 17 ∨ i = 18 ∨ i = 19 := by omega
    rcases hcase with rfl | rfl | rfl | rfl | rfl | rfl | rfl | rfl | rfl | rfl | rfl | rfl | rfl | rfl | rfl | rfl | rfl | rfl | rfl | rfl
    · exact field_int (hf 0 _ rfl).choose_spec
    · exact field_int (hf 1 _ rfl).choose_spec
    · exact field_int (hf 2 _ rfl).choose_spec
    · exact field_int (hf 3 _ rfl).choose_spec
    · exact field_int (hf 4 _ rfl).choose_spec
    · exact field_int (hf 5 _ rfl).choose_spec
    · exact field_int (hf 6 _ rfl).choose_spec
    · exact field_int (hf 7 _ rfl).choose_spec
    · exact field_int (hf 8 _ rfl).choose_spec
    · exact field_int (hf 9 _ rfl).choose_spec
    · exact field_int (hf 10 _ rfl).choose_spec
    · exact field_int (hf 11 _ rfl).choose_spec
    · exact field_int (hf 12 _ rfl).choose_spec
    · exact field_int (hf 13 _ rfl).choose_spec
    · exact field_int (hf 14 _ rfl).choose_spec
    · exact field_int (hf 15 _ rfl).choose_spec
    · exact field_int (hf 16 _ rfl).choose_spec
    · exact field_int (hf 17 _ rfl).choose_spec
    · exact field_int (hf 18 _ rfl).choose_spec
    · exact field_int (hf 19 _ rfl).choose_spec
  refine ⟨ns, hns, ?_, fun z hz => ?_⟩
  · apply List.ext_getElem?
    intro i
    by_cases hi : i < 20
    · have h1 : ns[i]? = some ns[i] := List.getElem?_eq_getElem (by omega)
      rw [(hr i _ h1).1, List.getElem?_map, h1]
      rfl
    · rw [List.getElem?_eq_none (by omega), List.getElem?_eq_none (by simp; omega)]
  · obtain ⟨i, hi⟩ := List.mem_iff_getElem?.1 hz
    exact (hr i z hi).2

set_option maxRecDepth 100000 in
theorem read_font {fuel : Nat} {cs : List Value} {x : DataW H × List MemPlace} (h : DataW.trod enc Try.prog w 0 (fun _ => true) true fuel 27 cs = some x) : ∃ F : Fnt, cs = F.cells ∧ FntOk w F := by
  obtain ⟨hl, n, hf⟩ := read_struct Try.underlying27 h
  rw [Try.cellsFont] at hl
  obtain ⟨_, f0⟩ := hf 0 _ rfl
  obtain ⟨_, f1⟩ := hf 1 _ rfl
  obtain ⟨y2, f2⟩ := hf 2 _ rfl
  replace f2 : DataW.trod enc Try.prog w 0 (fun _ => true) true n 25 ((cs.drop 2).take (Try.prog.cellsOf 25)) = some y2 := f2
  obtain ⟨gx, gc, gs, e0, r0, q0, l0, p0⟩ := field_row (f := Gly.cells) (R := fun g => g.wf ∧ g.name.size ≤ maxLen) Try.underlying22 Try.cellsGlyphs Try.cellsGlyph (by omega) (fun h => read_glyph h) f0
  obtain ⟨sx, sc, ss, e1, r1, q1, l1, p1⟩ := field_row Try.underlying23 Try.cellsStretches Try.cellsStretch (by omega) (fun h => read_stretch h) f1
  rw [Try.cellsParams] at f2
  obtain ⟨ns, hns, hc, hw⟩ := read_params f2
  match ns, hns with
  | [n0, n1, n2, n3, n4, n5, n6, n7, n8, n9, n10, n11, n12, n13, n14, n15, n16, n17, n18, n19], _ =>
    refine ⟨{ gx := gx, gc := gc, gs := gs, sx := sx, sc := sc, ss := ss, quad := n0, xheight := n1, axis := n2, rule := n3, num1 := n4, num2 := n5, den1 := n6, den2 := n7, sup1 := n8, sup2 := n9, sup3 := n10, sub1 := n11, sub2 := n12, supdrop := n13, subdrop := n14, script := n15, sscript := n16, dpercent := n17, dshort := n18, acc := n19 }, ?_, ⟨r0, r1, q0, q1, l0, l1, p0, p1, fun z hz => ?_⟩⟩
    · match cs, hl with
      | c0 :: c1 :: rest, hl =>
        simp at e0 e1
        subst e0 e1
        simp only [List.length_cons] at hl
        have hr : (List.drop 2 (Value.slice gx gs.length gc :: Value.slice sx ss.length sc :: rest)).take 20 = rest := by
          show rest.take 20 = rest
          exact List.take_of_length_le (by omega)
        rw [hr] at hc
        rw [hc]
        rfl
    · apply hw
      simp [Fnt.prm] at hz ⊢
      exact hz

end
end Go.Proofs.Ytfmoghkffffmmaa
namespace Go.Proofs.Ytfmoghkffffmmaa
open Go.RowKit Go.ChangeShapes Go.WideShapes Go.Deep

theorem Try.cellsBox : Try.prog.cellsOf 33 = 11 := by kernel_rfl
theorem Try.cellsBoxs : Try.prog.cellsOf 30 = 1 := by kernel_rfl
theorem Try.cellsInts : Try.prog.cellsOf 31 = 1 := by kernel_rfl

section
variable {H : Type} {enc : TypeId × Value → H} {w : World}

set_option maxRecDepth 100000 in
/-- A slice that reads, and by how much fuel its elements read. -/
theorem read_slice_n {P : Program} {t e : TypeId} {fuel : Nat} {cs : List Value} {x : DataW H × List MemPlace} (ht : P.underlying t = some (.slice e)) (hC : 0 < P.cellsOf e)
    (h : DataW.trod enc P w 0 (fun _ => true) true fuel t cs = some x) :
    (∃ y c, cs = [.slice y 0 c]) ∨ ∃ (b o len c n : Nat), n < fuel ∧ 0 < len ∧ cs = [.slice (some ⟨b, o, none⟩) len c] ∧ len ≤ c ∧ c ≤ maxLen ∧
      ∀ i, i < len → ∃ cs' y, cs'.length = P.cellsOf e ∧ (∀ j, j < P.cellsOf e → w.cell? ⟨b, o + i * P.cellsOf e + j, none⟩ = cs'[j]?) ∧ DataW.trod enc P w 0 (fun _ => true) true n e cs' = some y := by
  rcases DataW.trod_slice ht h with ⟨rfl, _⟩ | ⟨a, len, cap, elems, rest, n, hn, rfl, _, _, hl, hm, hlen, hel, _, _⟩
  · exact .inl ⟨_, _, rfl⟩
  · by_cases h0 : len = 0
    · subst h0; exact .inl ⟨_, _, rfl⟩
    · have hi : ∀ i, i < len → ∃ cs' y, w.cells? 0 (a.add (i * P.cellsOf e)) (P.cellsOf e) = some cs' ∧ DataW.trod enc P w 0 (fun _ => true) true n e cs' = some y := by
        intro i hlt
        have h1 := hel i hlt
        rw [List.getElem?_eq_getElem (by omega)] at h1
        obtain ⟨cs', hc, hy⟩ := Option.bind_eq_some_iff.1 h1
        exact ⟨cs', _, hc, hy⟩
      obtain ⟨cs0, _, hc0, _⟩ := hi 0 (by omega)
      obtain ⟨_, hl0, hat0⟩ := World.cells?_some hc0
      obtain ⟨b, o, s⟩ := a
      have hs : s = none := by
        have h1 := hat0 0 hC
        rw [List.getElem?_eq_getElem (by omega)] at h1
        cases s with
        | none => rfl
        | some z => simp [World.cell?, Addr.add] at h1; split at h1 <;> simp at h1
      subst hs
      refine .inr ⟨b, o, len, cap, n, by omega, by omega, rfl, hl, hm, fun i hlt => ?_⟩
      obtain ⟨cs', y, hc', ht'⟩ := hi i hlt
      obtain ⟨_, hl', hat'⟩ := World.cells?_some hc'
      exact ⟨cs', y, hl', fun j hj => by have := hat' j hj; rw [add_plain, add_plain] at this; exact this, ht'⟩

set_option maxRecDepth 100000 in
theorem read_int {fuel : Nat} {cs : List Value} {x : DataW H × List MemPlace} (h : DataW.trod enc Try.prog w 0 (fun _ => true) true fuel 3 cs = some x) : ∃ n, cs = intCells n ∧ I64 n := by
  obtain ⟨z, hz, _, wz⟩ := DataW.trod_int Try.underlying3 h
  exact ⟨z, hz, i64_of wz⟩

set_option maxRecDepth 100000 in
theorem common {css : Nat → List Value} : ∀ len : Nat, (∀ i, i < len → ∃ n b, Rep w n b (css i)) → ∃ N, ∀ i, i < len → ∃ b, Rep w N b (css i) := by
  intro len
  induction len with
  | zero => intro _; exact ⟨0, fun i hi => by omega⟩
  | succ len ih =>
    intro h
    obtain ⟨N, hN⟩ := ih fun i hi => h i (by omega)
    obtain ⟨n, b, hb⟩ := h len (by omega)
    refine ⟨max N n, fun i hi => ?_⟩
    by_cases he : i = len
    · subst he; exact hb.up _ (by omega)
    · obtain ⟨b', hb'⟩ := hN i (by omega)
      exact hb'.up _ (by omega)

set_option maxRecDepth 100000 in
theorem read_box_n : ∀ (N fuel : Nat), fuel ≤ N → ∀ (cs : List Value) (x : DataW H × List MemPlace), DataW.trod enc Try.prog w 0 (fun _ => true) true fuel 33 cs = some x → ∃ n b, Rep w n b cs := by
  intro N
  induction N with
  | zero =>
    intro fuel hf cs x h
    obtain rfl : fuel = 0 := by omega
    simp [DataW.trod] at h
  | succ N ih =>
    intro fuel hfu cs x h
    obtain ⟨xs, n, hn, _, hl, hx, hf0⟩ := DataW.trod_struct Try.underlying33 h
    have hf : ∀ (i : Nat) (f : Field), _ → ∃ y, DataW.trod enc Try.prog w 0 (fun _ => true) true n f.type ((cs.drop f.offset).take (Try.prog.cellsOf f.type)) = some y := fun i f hi => by
      have h1 := hf0 i f hi
      have hlt : i < xs.length := by rw [hx]; exact (Array.getElem?_eq_some_iff.1 hi).1
      exact ⟨xs[i], by rw [h1, List.getElem?_eq_getElem hlt]⟩
    rw [Try.cellsBox] at hl
    obtain ⟨_, f0⟩ := hf 0 _ rfl
    obtain ⟨_, f1⟩ := hf 1 _ rfl
    obtain ⟨_, f2⟩ := hf 2 _ rfl
    obtain ⟨_, f3⟩ := hf 3 _ rfl
    obtain ⟨_, f4⟩ := hf 4 _ rfl
    obtain ⟨_, f5⟩ := hf 5 _ rfl
    obtain ⟨_, f6⟩ := hf 6 _ rfl
    obtain ⟨_, f7⟩ := hf 7 _ rfl
    obtain ⟨y8, f8⟩ := hf 8 _ rfl
    obtain ⟨_, f9⟩ := hf 9 _ rfl
    obtain ⟨_, f10⟩ := hf 10 _ rfl
    obtain ⟨n0, e0, h0⟩ := field_int f0
    obtain ⟨s, e1, h1⟩ := field_string f1
    obtain ⟨n2, e2, h2⟩ := field_int f2
    obtain ⟨n3, e3, h3⟩ := field_int f3
    obtain ⟨n4, e4, h4⟩ := field_int f4
    obtain ⟨n5, e5, h5⟩ := field_int f5
    obtain ⟨n6, e6, h6⟩ := field_int f6
    obtain ⟨n7, e7, h7⟩ := field_int f7
    obtain ⟨n9, e9, h9⟩ := field_int f9
    obtain ⟨sx, sc, src, e10, r10, q10, l10, _⟩ := field_row Try.underlying31 Try.cellsInts Try.cellsInt (by omega) (fun h => read_int h) f10
    replace f8 : DataW.trod enc Try.prog w 0 (fun _ => true) true n 30 ((cs.drop 8).take (Try.prog.cellsOf 30)) = some y8 := f8
    rw [Try.cellsBoxs] at f8
    have hd : HdOk ⟨n0, s, n2, n3, n4, n5, n6, n7, n9, src⟩ := ⟨h0, h2, h3, h4, h5, h6, h7, h9, q10, l10, h1⟩
    have hcs : ∀ k, cs[8]? = some k → cs = Hd.cells ⟨n0, s, n2, n3, n4, n5, n6, n7, n9, src⟩ k (.slice sx src.length sc) := by
      intro k e8
      match cs, hl with
      | [c0, c1, c2, c3, c4, c5, c6, c7, c8, c9, c10], _ =>
        simp at e0 e1 e2 e3 e4 e5 e6 e7 e8 e9 e10
        subst e0 e1 e2 e3 e4 e5 e6 e7 e8 e9 e10
        rfl
    rcases read_slice_n Try.underlying30 (by rw [Try.cellsBox]; omega) f8 with ⟨y, c, hk⟩ | ⟨k, o, len, c, m, hm, hlen, hk, hlc, hcm, hi⟩
    · refine ⟨1, (⟨n0, s, n2, n3, n4, n5, n6, n7, n9, src⟩, []), y, c, sx, sc, hcs _ (take_one hk), hd, by simp, r10, fun _ _ _ _ => trivial, fun i kid hi => by simp at hi⟩
    · have hi2 : ∀ i, i < len → ∃ cs' : List Value, w.rangeAt k (o + i * 11) cs' ∧ ∃ n b, Rep w n b cs' := by
        intro i hlt
        obtain ⟨cs', y, hcl, hc, htr⟩ := hi i hlt
        rw [Try.cellsBox] at hcl hc
        refine ⟨cs', fun j v hj => ?_, ih m (by omega) cs' y htr⟩
        have hjl : j < 11 := by rw [← hcl]; exact (List.getElem?_eq_some_iff.1 hj).1
        rw [hc j hjl, hj]
      obtain ⟨css, hcss⟩ : ∃ css : Nat → List Value, ∀ i, i < len → w.rangeAt k (o + i * 11) (css i) ∧ ∃ n b, Rep w n b (css i) :=
        ⟨fun i => if hlt : i < len then (hi2 i hlt).choose else [], fun i hlt => by simp only [hlt, dif_pos]; exact (hi2 i hlt).choose_spec⟩
      obtain ⟨M, hM⟩ := common len fun i hlt => (hcss i hlt).2
      obtain ⟨kids, hkl, hkr⟩ := list_of (fun i b => Rep w M b (css i)) len hM
      refine ⟨M + 1, (⟨n0, s, n2, n3, n4, n5, n6, n7, n9, src⟩, kids), some ⟨k, o, none⟩, c, sx, sc, ?_, hd, by simp only; omega, r10, fun _ _ _ _ => trivial, fun i kid hik => ?_⟩
      · have := hcs _ (take_one hk)
        rw [← hkl] at this
        exact this
      · have hlt : i < len := by rw [← hkl]; exact (List.getElem?_eq_some_iff.1 hik).1
        exact ⟨k, o, css i, rfl, trivial, (hcss i hlt).1, hkr i kid hik⟩

set_option maxRecDepth 100000 in
/-- A box as an argument, or as a part of one. -/
theorem read_box {fuel : Nat} {cs : List Value} {x : DataW H × List MemPlace} (h : DataW.trod enc Try.prog w 0 (fun _ => true) true fuel 33 cs = some x) : ∃ n b, Rep w n b cs := read_box_n fuel fuel (Nat.le_refl _) cs x h
end
end Go.Proofs.Ytfmoghkffffmmaa
namespace Go.Proofs.Ytfmoghkffffmmaa
open Go.RowKit Go.ChangeShapes Go.WideShapes Go.Deep

attribute [local irreducible] wpQuiet wpG wpP wpK wpList Code.wp Calls

theorem Try.cellsStyle2 : Try.prog.cellsOf 29 = 2 := by kernel_rfl
theorem Try.cellsCase32 : Try.prog.cellsOf 35 = 46 := by kernel_rfl

/-- The cells of a case. -/
@[reducible] def caseL (F : Fnt) (l : Int) (c : Bool) (cs ds : List Value) : List Value := F.cells ++ ([.int .i64 l, .bool c] ++ (cs ++ ds))

section
variable {H : Type} {enc : TypeId × Value → H} {w : World}

set_option maxRecDepth 100000 in
theorem read_style {fuel : Nat} {cs : List Value} {x : DataW H × List MemPlace} (h : DataW.trod enc Try.prog w 0 (fun _ => true) true fuel 29 cs = some x) : ∃ (l : Int) (c : Bool), cs = [.int .i64 l, .bool c] ∧ I64 l := by
  obtain ⟨hl, n, hf⟩ := read_struct Try.underlying29 h
  rw [Try.cellsStyle2] at hl
  obtain ⟨_, f0⟩ := hf 0 _ rfl
  obtain ⟨_, f1⟩ := hf 1 _ rfl
  obtain ⟨n0, e0, h0⟩ := field_int f0
  obtain ⟨b, e1⟩ := field_bool f1
  refine ⟨n0, b, ?_, h0⟩
  match cs, hl with
  | [c0, c1], _ =>
    simp at e0 e1
    subst e0 e1
    rfl

set_option maxRecDepth 100000 in
/-- A case as an argument. -/
theorem open_case {r : Reach} {b0 : Nat} {v : Value} {d : DataW H} {p : List MemPlace} (hv : Value.okWide Try.prog w r b0 35 v) (h : DataW.Trod enc Try.prog w 0 (fun _ => true) true 35 v d p) :
    ∃ (F : Fnt) (l : Int) (c : Bool) (n : Nat) (num den : Bx (n + 1)) (cs ds : List Value), v = .agg (caseL F l c cs ds).toArray ∧ FntOk w F ∧ Rep w (n + 1) num cs ∧ Rep w (n + 1) den ds := by
  obtain ⟨cs, rfl, _⟩ := okWide_struct Try.underlying35 hv
  obtain ⟨fuel, hf⟩ := h
  obtain ⟨hl, n, hf⟩ := read_struct Try.underlying35 hf
  rw [Try.cellsCase32] at hl
  have hl2 : cs.toList.length = 46 := hl
  obtain ⟨y0, f0⟩ := hf 0 _ rfl
  obtain ⟨y1, f1⟩ := hf 1 _ rfl
  obtain ⟨y2, f2⟩ := hf 2 _ rfl
  obtain ⟨y3, f3⟩ := hf 3 _ rfl
  replace f0 : DataW.trod enc Try.prog w 0 (fun _ => true) true n 27 ((cs.toList.drop 0).take (Try.prog.cellsOf 27)) = some y0 := f0
  replace f1 : DataW.trod enc Try.prog w 0 (fun _ => true) true n 29 ((cs.toList.drop 22).take (Try.prog.cellsOf 29)) = some y1 := f1
  replace f2 : DataW.trod enc Try.prog w 0 (fun _ => true) true n 33 ((cs.toList.drop 24).take (Try.prog.cellsOf 33)) = some y2 := f2
  replace f3 : DataW.trod enc Try.prog w 0 (fun _ => true) true n 33 ((cs.toList.drop 35).take (Try.prog.cellsOf 33)) = some y3 := f3
  rw [Try.cellsFont] at f0
  rw [Try.cellsStyle2] at f1
  rw [Try.cellsBox] at f2 f3
  obtain ⟨F, e0, hF⟩ := read_font f0
  obtain ⟨l, c, e1, _⟩ := read_style f1
  obtain ⟨n2, b2, r2⟩ := read_box f2
  obtain ⟨n3, b3, r3⟩ := read_box f3
  obtain ⟨b2', r2'⟩ := r2.up (max n2 n3 + 1) (by omega)
  obtain ⟨b3', r3'⟩ := r3.up (max n2 n3 + 1) (by omega)
  refine ⟨F, l, c, max n2 n3, b2', b3', _, _, ?_, hF, r2', r3'⟩
  have e : cs.toList = caseL F l c ((cs.toList.drop 24).take 11) ((cs.toList.drop 35).take 11) := by
    unfold caseL
    rw [← e0, ← e1]
    clear hl hv f0 f1 f2 f3 e0 e1 r2 r3 r2' r3' hf
    generalize cs.toList = L at *
    apply List.ext_getElem?
    intro i
    rw [List.drop_zero]
    by_cases h1 : i < 22
    · rw [List.getElem?_append_left (by simp; omega), List.getElem?_take, if_pos h1]
    · rw [List.getElem?_append_right (by simp; omega)]
      simp only [List.length_take]
      rw [Nat.min_eq_left (by omega)]
      by_cases h2 : i < 24
      · rw [List.getElem?_append_left (by simp; omega), List.getElem?_take, if_pos (by omega), List.getElem?_drop]
        congr 1; omega
      · rw [List.getElem?_append_right (by simp; omega)]
        simp only [List.length_take, List.length_drop]
        rw [Nat.min_eq_left (by omega)]
        by_cases h3 : i < 35
        · rw [List.getElem?_append_left (by simp; omega), List.getElem?_take, if_pos (by omega), List.getElem?_drop]
          congr 1; omega
        · rw [List.getElem?_append_right (by simp; omega)]
          simp only [List.length_take, List.length_drop]
          rw [Nat.min_eq_left (by omega)]
          by_cases h4 : i < 46
          · rw [List.getElem?_take, if_pos (by omega), List.getElem?_drop]
            congr 1; omega
          · rw [List.getElem?_eq_none (by omega), List.getElem?_eq_none (by simp; omega)]
  exact congrArg Value.agg (Array.toList_inj.1 e)
end
end Go.Proofs.Ytfmoghkffffmmaa
