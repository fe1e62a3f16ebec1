/- Texts Dat, Find, Typ, Fnt, App, Str, Few, Num, Prm, Prr, Scal, ScalR, Glo, Flo, Ofl, Val, Fnd, Stq, Vlr. -/
import Derived.Test.YtfmoghkffffmmaaK00
import Derived.Laws.Append
import Derived.Laws.OwnMore
import Derived.Great.Walk
namespace Go.Proofs.Ytfmoghkffffmmaa
open Go.RowKit

/-- A glyph. -/
structure Gly where
  name : ByteArray
  w : Int
  h : Int
  d : Int
  it : Int
  at_ : Int

/-- An int of Go's. -/
def I64 (n : Int) : Prop := -9223372036854775808 ≤ n ∧ n ≤ 9223372036854775807

def Gly.wf (g : Gly) : Prop := I64 g.w ∧ I64 g.h ∧ I64 g.d ∧ I64 g.it ∧ I64 g.at_
def Gly.val (g : Gly) : Value := .agg #[.string g.name, .int .i64 g.w, .int .i64 g.h, .int .i64 g.d, .int .i64 g.it, .int .i64 g.at_]

/-- The first glyph with a name. -/
def findG (gs : List Gly) (s : ByteArray) : Option Gly := gs.find? fun g => g.name.toList == s.toList

end Go.Proofs.Ytfmoghkffffmmaa
namespace Go.Proofs.Ytfmoghkffffmmaa
open Go.RowKit

end Go.Proofs.Ytfmoghkffffmmaa
namespace Go.Proofs.Ytfmoghkffffmmaa
open Go.RowKit

instance rt_font : RowTy Try.prog 27 22 := ⟨⟨_, Try.underlying27, rfl⟩, by kernel_rfl⟩
instance rt_glyph : RowTy Try.prog 85 6 := ⟨⟨_, Try.underlying85, rfl⟩, by kernel_rfl⟩
instance ot_int : OneTy Try.prog 3 := ⟨⟨_, Try.underlying3, rfl⟩, by kernel_rfl⟩
instance ot_string : OneTy Try.prog 9 := ⟨⟨_, Try.underlying9, rfl⟩, by kernel_rfl⟩
instance zt_glyph : ZeroTy Try.prog 85 [.string ⟨#[]⟩, .int .i64 0, .int .i64 0, .int .i64 0, .int .i64 0, .int .i64 0] := ⟨.agg #[.string ⟨#[]⟩, .int .i64 0, .int .i64 0, .int .i64 0, .int .i64 0, .int .i64 0], by kernel_rfl, rfl⟩

end Go.Proofs.Ytfmoghkffffmmaa
namespace Go.Proofs.Ytfmoghkffffmmaa
open Go.RowKit

/-- The elements of a list lie one after the other from x on; each takes size cells. -/
def RowAt {α : Type} (w : World) (x : Option Addr) (size : Nat) (f : α → List Value) (l : List α) : Prop :=
  l = [] ∨ ∃ b o, x = some ⟨b, o, none⟩ ∧ ∀ i a, l[i]? = some a → w.rangeAt b (o + i * size) (f a)

section
variable {α : Type} {w w' : World} {x : Option Addr} {size : Nat} {f : α → List Value} {l : List α}
theorem rangeAt_below {b o : Nat} {cs : List Value} (h : w.rangeAt b o cs) (hb : Below w.heap.size w w') : w'.rangeAt b o cs := fun j v hj => by
  have h1 := h j v hj
  exact (hb.cell (World.block_lt_of_cell? w _ h1)).trans h1
theorem RowAt.below (h : RowAt w x size f l) (hb : Below w.heap.size w w') : RowAt w' x size f l := by
  rcases h with h | ⟨b, o, hx, h⟩
  · exact .inl h
  · exact .inr ⟨b, o, hx, fun i a hi => rangeAt_below (h i a hi) hb⟩
theorem RowAt.own {L : List (Nat × List Value)} (h : RowAt w x size f l) (hS : Own [] w L w') : RowAt w' x size f l := h.below hS.below
theorem RowAt.get (h : RowAt w x size f l) {k : Nat} {a : α} (hk : l[k]? = some a) : ∃ b o, x = some ⟨b, o, none⟩ ∧ w.rangeAt b (o + k * size) (f a) := by
  rcases h with rfl | ⟨b, o, hx, h⟩
  · simp at hk
  · exact ⟨b, o, hx, h k a hk⟩
/-- In a block that is known whole. -/
theorem RowAt.of_has {b : Nat} {junk : List Value} (hf : ∀ a ∈ l, (f a).length = size) (h : Has w b (l.flatMap f ++ junk)) : RowAt w (some ⟨b, 0, none⟩) size f l := by
  refine .inr ⟨b, 0, rfl, fun i a hi j v hj => ?_⟩
  rw [h.cell, Nat.zero_add]
  have key : ∀ (l : List α) (i : Nat), (∀ a ∈ l, (f a).length = size) → l[i]? = some a → (l.flatMap f ++ junk)[i * size + j]? = some v := by
    intro l
    induction l with
    | nil => intro i _ hi; simp at hi
    | cons y l ih =>
      intro i hf hi
      have hy := hf y (by simp)
      cases i with
      | zero =>
        simp at hi
        subst hi
        have hjl : j < (f y).length := (List.getElem?_eq_some_iff.1 hj).1
        rw [List.flatMap_cons, List.append_assoc, List.getElem?_append_left (by omega)]
        simpa using hj
      | succ i =>
        rw [List.flatMap_cons, List.append_assoc, List.getElem?_append_right (by rw [hy, Nat.succ_mul]; omega), hy, show (i + 1) * size + j - size = i * size + j by rw [Nat.succ_mul]; omega]
        exact ih i (fun a ha => hf a (by simp [ha])) (by simpa using hi)
  exact key l i hf hi
theorem RowAt.flat (h : RowAt w x size f l) (hf : ∀ a ∈ l, (f a).length = size) (hl : l ≠ []) : ∃ b o, x = some ⟨b, o, none⟩ ∧ w.rangeAt b o (l.flatMap f) := by
  rcases h with h | ⟨b, o, hx, h⟩
  · exact absurd h hl
  · refine ⟨b, o, hx, ?_⟩
    have key : ∀ (l : List α) (o : Nat), (∀ a ∈ l, (f a).length = size) → (∀ i a, l[i]? = some a → w.rangeAt b (o + i * size) (f a)) → w.rangeAt b o (l.flatMap f) := by
      intro l
      induction l with
      | nil => intro o _ _ j v hj; simp at hj
      | cons y l ih =>
        intro o hf h j v hj
        have hy := hf y (by simp)
        rw [List.flatMap_cons] at hj
        by_cases hlt : j < (f y).length
        · rw [List.getElem?_append_left hlt] at hj
          simpa using h 0 y rfl j v hj
        · rw [List.getElem?_append_right (by omega), hy] at hj
          have := ih (o + size) (fun a ha => hf a (by simp [ha])) (fun i a hi => by
            have := h (i + 1) a (by simpa using hi)
            rwa [Nat.succ_mul, show o + (i * size + size) = o + size + i * size by omega] at this) _ _ hj
          rwa [show o + size + (j - size) = o + j by omega] at this
    exact key l o hf h
end

theorem flat_len {α : Type} {f : α → List Value} {size : Nat} (hf : ∀ a, (f a).length = size) (l : List α) : (l.flatMap f).length = l.length * size := by
  induction l with
  | nil => simp
  | cons a l ih => rw [List.flatMap_cons, List.length_append, hf, ih, List.length_cons, Nat.succ_mul]; omega

/-- A part of an assembly. -/
structure Prt where
  name : ByteArray
  ext : Bool
def Prt.cells (p : Prt) : List Value := [.string p.name, .bool p.ext]
def strCells (s : ByteArray) : List Value := [.string s]

/-- A stretch, and where its lists lie. -/
structure Str where
  name : ByteArray
  sx : Option Addr
  sc : Nat
  sizes : List ByteArray
  px : Option Addr
  pc : Nat
  parts : List Prt
  ov : Int
@[reducible] def Str.cells (s : Str) : List Value := [.string s.name, .slice s.sx s.sizes.length s.sc, .slice s.px s.parts.length s.pc, .int .i64 s.ov]
/-- Its lists lie there. -/
structure StrOk (w : World) (s : Str) : Prop where
  sizes : RowAt w s.sx 1 strCells s.sizes
  parts : RowAt w s.px 2 Prt.cells s.parts
  ov : I64 s.ov
  sizesLen : s.sizes.length ≤ maxLen
  partsLen : s.parts.length ≤ maxLen
  nameLen : s.name.size ≤ maxLen
  sizeLen : ∀ n ∈ s.sizes, n.size ≤ maxLen
  partLen : ∀ p ∈ s.parts, p.name.size ≤ maxLen
theorem StrOk.below {w w' : World} {s : Str} (h : StrOk w s) (hb : Below w.heap.size w w') : StrOk w' s :=
  { h with sizes := h.sizes.below hb, parts := h.parts.below hb }
/-- The same stretch, wherever its lists lie. -/
def Str.Same (s t : Str) : Prop := s.name = t.name ∧ s.sizes = t.sizes ∧ s.parts = t.parts ∧ s.ov = t.ov

@[reducible] def Gly.cells (g : Gly) : List Value := [.string g.name, .int .i64 g.w, .int .i64 g.h, .int .i64 g.d, .int .i64 g.it, .int .i64 g.at_]

/-- A font, and where its lists lie. -/
structure Fnt where
  gx : Option Addr
  gc : Nat
  gs : List Gly
  sx : Option Addr
  sc : Nat
  ss : List Str
  quad : Int
  xheight : Int
  axis : Int
  rule : Int
  num1 : Int
  num2 : Int
  den1 : Int
  den2 : Int
  sup1 : Int
  sup2 : Int
  sup3 : Int
  sub1 : Int
  sub2 : Int
  supdrop : Int
  subdrop : Int
  script : Int
  sscript : Int
  dpercent : Int
  dshort : Int
  acc : Int
@[reducible] def Fnt.prm (F : Fnt) : List Value := [.int .i64 F.quad, .int .i64 F.xheight, .int .i64 F.axis, .int .i64 F.rule, .int .i64 F.num1, .int .i64 F.num2, .int .i64 F.den1, .int .i64 F.den2, .int .i64 F.sup1, .int .i64 F.sup2, .int .i64 F.sup3, .int .i64 F.sub1, .int .i64 F.sub2, .int .i64 F.supdrop, .int .i64 F.subdrop, .int .i64 F.script, .int .i64 F.sscript, .int .i64 F.dpercent, .int .i64 F.dshort, .int .i64 F.acc]
@[reducible] def Fnt.cells (F : Fnt) : List Value := [.slice F.gx F.gs.length F.gc, .slice F.sx F.ss.length F.sc, .int .i64 F.quad, .int .i64 F.xheight, .int .i64 F.axis, .int .i64 F.rule, .int .i64 F.num1, .int .i64 F.num2, .int .i64 F.den1, .int .i64 F.den2, .int .i64 F.sup1, .int .i64 F.sup2, .int .i64 F.sup3, .int .i64 F.sub1, .int .i64 F.sub2, .int .i64 F.supdrop, .int .i64 F.subdrop, .int .i64 F.script, .int .i64 F.sscript, .int .i64 F.dpercent, .int .i64 F.dshort, .int .i64 F.acc]
@[reducible] def Fnt.val (F : Fnt) : Value := .agg #[.slice F.gx F.gs.length F.gc, .slice F.sx F.ss.length F.sc, .int .i64 F.quad, .int .i64 F.xheight, .int .i64 F.axis, .int .i64 F.rule, .int .i64 F.num1, .int .i64 F.num2, .int .i64 F.den1, .int .i64 F.den2, .int .i64 F.sup1, .int .i64 F.sup2, .int .i64 F.sup3, .int .i64 F.sub1, .int .i64 F.sub2, .int .i64 F.supdrop, .int .i64 F.subdrop, .int .i64 F.script, .int .i64 F.sscript, .int .i64 F.dpercent, .int .i64 F.dshort, .int .i64 F.acc]
/-- Its lists lie there. -/
structure FntOk (w : World) (F : Fnt) : Prop where
  glys : RowAt w F.gx 6 Gly.cells F.gs
  strs : RowAt w F.sx 4 Str.cells F.ss
  gok : ∀ g ∈ F.gs, g.wf ∧ g.name.size ≤ maxLen
  sok : ∀ s ∈ F.ss, StrOk w s
  glen : F.gs.length ≤ maxLen
  slen : F.ss.length ≤ maxLen
  gcap : F.gs.length ≤ F.gc ∧ (F.gs ≠ [] → F.gc ≤ maxLen)
  scap : F.ss.length ≤ F.sc ∧ (F.ss ≠ [] → F.sc ≤ maxLen)
  prm : ∀ n, Value.int .i64 n ∈ F.prm → I64 n
theorem FntOk.below {w w' : World} {F : Fnt} (h : FntOk w F) (hb : Below w.heap.size w w') : FntOk w' F :=
  { h with glys := h.glys.below hb, strs := h.strs.below hb, sok := fun s hs => (h.sok s hs).below hb }
/-- Has a stretch at most 50 sizes and parts? -/
def fewS (s : Str) : Bool := decide (s.sizes.length ≤ 50) && decide (s.parts.length ≤ 50)
/-- Is a font not too large? -/
def fewB (F : Fnt) : Bool := decide (F.gs.length ≤ 500) && decide (F.ss.length ≤ 50) && F.ss.all fewS
theorem fewS_drop {ss : List Str} {k : Nat} {t : Str} (h : ss[k]? = some t) : (ss.drop k).all fewS = (fewS t && (ss.drop (k + 1)).all fewS) := by
  obtain ⟨hk, rfl⟩ := List.getElem?_eq_some_iff.1 h
  rw [List.drop_eq_getElem_cons hk, List.all_cons]

def zeroS : Str := { name := ⟨#[]⟩, sx := none, sc := 0, sizes := [], px := none, pc := 0, parts := [], ov := 0 }
theorem zeroS_ok (w : World) : StrOk w zeroS where
  sizes := .inl rfl
  parts := .inl rfl
  ov := by show I64 0; unfold I64; omega
  sizesLen := Nat.zero_le _
  partsLen := Nat.zero_le _
  nameLen := Nat.zero_le _
  sizeLen := by simp [zeroS]
  partLen := by simp [zeroS]

/-- What Stretch gives. -/
def StretchGives (r : Option Str) (w : World) (e : Ending) (w' : World) : Prop :=
  match r with
  | some s => ∃ t : Str, s.Same t ∧ StrOk w' t ∧ e = .returned (.tuple #[.agg #[.string t.name, .slice t.sx t.sizes.length t.sc, .slice t.px t.parts.length t.pc, .int .i64 t.ov], .bool true]) ∧ Below w.heap.size w w'
  | none => e = .returned (.tuple #[.agg #[.string ⟨#[]⟩, .slice none 0 0, .slice none 0 0, .int .i64 0], .bool false]) ∧ Below w.heap.size w w'

/-- The same in one form. -/
def StretchAny (r : Option Str) (w : World) (e : Ending) (w' : World) : Prop :=
  ∃ t : Str, ((r.getD zeroS).Same t ∧ StrOk w' t) ∧ e = .returned (.tuple #[.agg #[.string t.name, .slice t.sx t.sizes.length t.sc, .slice t.px t.parts.length t.pc, .int .i64 t.ov], .bool r.isSome]) ∧ Below w.heap.size w w'
theorem StretchGives.any {r : Option Str} {w w' : World} {e : Ending} (h : StretchGives r w e w') : StretchAny r w e w' := by
  cases r with
  | none => exact ⟨zeroS, ⟨⟨rfl, rfl, rfl, rfl⟩, zeroS_ok w'⟩, h⟩
  | some s =>
    obtain ⟨t, h1, h2, h3, h4⟩ := h
    exact ⟨t, ⟨h1, h2⟩, h3, h4⟩
end Go.Proofs.Ytfmoghkffffmmaa
namespace Go.Proofs.Ytfmoghkffffmmaa
open Go.RowKit

/-- t is the type of slices of e; an element has size cells and bytes bytes. -/
structure ElTy (P : Program) (t e : TypeId) (size bytes : Nat) : Prop where
  und : P.underlying t = some (.slice e)
  inf : ∃ i z, P.info? e = some i ∧ i.zero = some z ∧ i.size = size ∧ i.bytes = bytes ∧ z.cells.size = size
theorem ElTy.mk' {P : Program} {t e : TypeId} {size bytes : Nat} (z : Value) (hu : P.underlying t = some (.slice e)) (h : (P.info? e).map (fun i => (i.zero, i.size, i.bytes)) = some (some z, size, bytes)) (hz : z.cells.size = size) : ElTy P t e size bytes := by
  refine ⟨hu, ?_⟩
  cases hq : P.info? e with
  | none => simp [hq] at h
  | some i =>
    simp [hq] at h
    exact ⟨i, z, rfl, h.1, h.2.1, h.2.2, hz⟩

section
variable {P : Program} {rest : List Oper} {ops' : Array Oper} {o : Oper} {a : Act} {Q : Exit → Act → World → Prop} {D : List Nat} {W w : World} {L : List (Nat × List Value)}

end
end Go.Proofs.Ytfmoghkffffmmaa
namespace Go.Proofs.Ytfmoghkffffmmaa
open Go.RowKit

attribute [local irreducible] wpQuiet wpList Code.wp

instance rt_stretch : RowTy Try.prog 74 4 := ⟨⟨_, Try.underlying74, rfl⟩, by kernel_rfl⟩
instance zt_stretch : ZeroTy Try.prog 74 [.string ⟨#[]⟩, .slice none 0 0, .slice none 0 0, .int .i64 0] := ⟨.agg #[.string ⟨#[]⟩, .slice none 0 0, .slice none 0 0, .int .i64 0], by kernel_rfl, rfl⟩
instance rt_part : RowTy Try.prog 97 2 := ⟨⟨_, Try.underlying97, rfl⟩, by kernel_rfl⟩
instance ot_strings : OneTy Try.prog 71 := ⟨⟨_, Try.underlying71, rfl⟩, by kernel_rfl⟩
instance ot_parts : OneTy Try.prog 72 := ⟨⟨_, Try.underlying72, rfl⟩, by kernel_rfl⟩
instance ot_stretches : OneTy Try.prog 23 := ⟨⟨_, Try.underlying23, rfl⟩, by kernel_rfl⟩
instance ot_glyphs : OneTy Try.prog 22 := ⟨⟨_, Try.underlying22, rfl⟩, by kernel_rfl⟩
theorem loop_meas {k n : Nat} (h : k < n) : n - (intOf (.int .i64 ((k : Int) + 1))).toNat < n - (intOf (.int .i64 (k : Int))).toNat := by
  simp [intOf]; omega
end Go.Proofs.Ytfmoghkffffmmaa
namespace Go.Proofs.Ytfmoghkffffmmaa
open Go.RowKit

attribute [local irreducible] wpQuiet wpList Code.wp

theorem not_lt_dec {a b : Nat} (h : a ≤ b) : decide (b < a) = false ∧ decide ((b : Int) < (a : Int)) = false := by
  constructor <;> simp <;> omega
theorem lt_dec {a b : Nat} (h : ¬ a ≤ b) : decide (b < a) = true ∧ decide ((b : Int) < (a : Int)) = true := by
  constructor <;> simp <;> omega

set_option maxHeartbeats 4000000 in
set_option maxRecDepth 100000 in
theorem ref05_Few_g (F : Fnt) (w : World) (h : ¬ F.gs.length ≤ 500) : Calls Try.prog 19 #[F.val] w (Gives (.bool false) w) := by
  obtain ⟨d1, d2⟩ := lt_dec h
  simp only [Int.cast_ofNat_Int] at d2
  clear h
  go_enter Try.func19, Try.ntmps19
  have hS := own_start w
  go_wp2_with (first | (refine own_unguard (by rfl) ?_) | (refine w_ld rfl _ rfl (by rfl) (by first | exact rd_1 (by repeat constructor) (by first | rfl | assumption) | exact rd_w (by repeat constructor) (by rfl) | exact rd_o (by assumption) (by rfl) (by first | exact nmn | assumption | simp) | exact rd_h (by assumption) (by rfl) (by first | exact nmn | assumption | simp) | exact rd_1o (by assumption) (by first | exact nmn | assumption | simp) | exact rd_1h (by assumption) (by first | rfl | assumption) (by first | exact nmn | assumption | simp)) hS ?_) | (refine own_box rfl _ _ rfl (by rfl) hS ?_; clear hS; (try clear ww); intro bb ww hS) | (refine w_al rfl rfl hS ?_; clear hS; (try clear ww); intro bb ww hS) | (refine w_st rfl _ _ rfl (by rfl) (by rfl) (by repeat constructor) (by rfl) (by rfl) (by first | rfl | assumption) hS ?_; clear hS; (try clear ww); intro ww hS) | (refine w_s1 rfl _ _ rfl (by rfl) (by repeat constructor) (by first | exact .c | exact .t rfl) (by rfl) (by repeat constructor) hS ?_; clear hS; (try clear ww); intro ww hS))
  go_ret
  exact own_gives hS
set_option maxHeartbeats 4000000 in
set_option maxRecDepth 100000 in
theorem ref05_Few_s (F : Fnt) (w : World) (h0 : F.gs.length ≤ 500) (h : ¬ F.ss.length ≤ 50) : Calls Try.prog 19 #[F.val] w (Gives (.bool false) w) := by
  obtain ⟨d1, d2⟩ := lt_dec h
  obtain ⟨d3, d4⟩ := not_lt_dec h0
  simp only [Int.cast_ofNat_Int] at d2 d4
  clear h h0
  go_enter Try.func19, Try.ntmps19
  have hS := own_start w
  go_wp2_with (first | (refine own_unguard (by rfl) ?_) | (refine w_ld rfl _ rfl (by rfl) (by first | exact rd_1 (by repeat constructor) (by first | rfl | assumption) | exact rd_w (by repeat constructor) (by rfl) | exact rd_o (by assumption) (by rfl) (by first | exact nmn | assumption | simp) | exact rd_h (by assumption) (by rfl) (by first | exact nmn | assumption | simp) | exact rd_1o (by assumption) (by first | exact nmn | assumption | simp) | exact rd_1h (by assumption) (by first | rfl | assumption) (by first | exact nmn | assumption | simp)) hS ?_) | (refine own_box rfl _ _ rfl (by rfl) hS ?_; clear hS; (try clear ww); intro bb ww hS) | (refine w_al rfl rfl hS ?_; clear hS; (try clear ww); intro bb ww hS) | (refine w_st rfl _ _ rfl (by rfl) (by rfl) (by repeat constructor) (by rfl) (by rfl) (by first | rfl | assumption) hS ?_; clear hS; (try clear ww); intro ww hS) | (refine w_s1 rfl _ _ rfl (by rfl) (by repeat constructor) (by first | exact .c | exact .t rfl) (by rfl) (by repeat constructor) hS ?_; clear hS; (try clear ww); intro ww hS))
  go_ret
  exact own_gives hS

set_option maxHeartbeats 4000000 in
set_option maxRecDepth 100000 in
theorem ref05_Few_loop (F : Fnt) (w : World) (hF : FntOk w F) (h0 : F.gs.length ≤ 500) (h1 : F.ss.length ≤ 50) : Calls Try.prog 19 #[F.val] w (Gives (.bool (F.ss.all fewS)) w) := by
  obtain ⟨gx, gc, gs, sx, sc, ss, q0, q1, q2, q3, q4, q5, q6, q7, q8, q9, q10, q11, q12, q13, q14, q15, q16, q17, q18, q19⟩ := F
  simp only at h0 h1
  obtain ⟨d1, d2⟩ := not_lt_dec h1
  obtain ⟨d3, d4⟩ := not_lt_dec h0
  simp only [Int.cast_ofNat_Int] at d2 d4
  have HF := Lib.hid hF
  clear hF
  go_enter Try.func19, Try.ntmps19
  have hS := own_start w
  go_wp2_with (first | (refine own_unguard (by rfl) ?_) | (refine w_ld rfl _ rfl (by rfl) (by first | exact rd_1 (by repeat constructor) (by first | rfl | assumption) | exact rd_w (by repeat constructor) (by rfl) | exact rd_o (by assumption) (by rfl) (by first | exact nmn | assumption | simp) | exact rd_h (by assumption) (by rfl) (by first | exact nmn | assumption | simp) | exact rd_1o (by assumption) (by first | exact nmn | assumption | simp) | exact rd_1h (by assumption) (by first | rfl | assumption) (by first | exact nmn | assumption | simp)) hS ?_) | (refine own_box rfl _ _ rfl (by rfl) hS ?_; clear hS; (try clear ww); intro bb ww hS) | (refine w_al rfl rfl hS ?_; clear hS; (try clear ww); intro bb ww hS) | (refine w_st rfl _ _ rfl (by rfl) (by rfl) (by repeat constructor) (by rfl) (by rfl) (by first | rfl | assumption) hS ?_; clear hS; (try clear ww); intro ww hS) | (refine w_s1 rfl _ _ rfl (by rfl) (by repeat constructor) (by first | exact .c | exact .t rfl) (by rfl) (by repeat constructor) hS ?_; clear hS; (try clear ww); intro ww hS))
  obtain ⟨L0, HL, hS⟩ := hS.named
  go_loopw [3] (fun i wr => ∃ k : Nat, k ≤ ss.length ∧ i = .int .i64 k ∧ ss.all fewS = (ss.drop k).all fewS ∧ Own [] w L0 wr) (fun i _ => ss.length - (intOf i).toNat)
  case atStart => exact ⟨0, Nat.zero_le _, rfl, rfl, hS⟩
  case round =>
    clear hS
    obtain ⟨k, hk, rfl, hf, hS⟩ := hrel
    by_cases hlt : k < ss.length
    · obtain ⟨t, ht⟩ : ∃ t, ss[k]? = some t := ⟨ss[k], by simp [hlt]⟩
      obtain ⟨b, o, hx, hr0⟩ := HF.out.strs.get ht
      obtain rfl : sx = some ⟨b, o, none⟩ := hx
      obtain rfl := HL.out
      clear HL
      rw [fewS_drop ht] at hf
      have HE := Lib.hid hf
      clear hf ht
      have c1 : w.cell? ⟨b, o + k * 4 + 1, none⟩ = some (.slice t.sx t.sizes.length t.sc) := hr0 1 _ rfl
      have c2 : w.cell? ⟨b, o + k * 4 + 2, none⟩ = some (.slice t.px t.parts.length t.pc) := hr0 2 _ rfl
      clear hr0
      by_cases hs : t.sizes.length ≤ 50
      · obtain ⟨e1, e2⟩ := not_lt_dec hs
        simp only [Int.cast_ofNat_Int] at e2
        by_cases hp : t.parts.length ≤ 50
        · obtain ⟨e3, e4⟩ := not_lt_dec hp
          simp only [Int.cast_ofNat_Int] at e4
          have E1 := Lib.hid (show ss.all fewS = (ss.drop (k + 1)).all fewS by rw [HE.out]; simp [fewS, hs, hp])
          clear HE hs hp
          go_wp2_with (first | (refine own_unguard (by rfl) ?_) | (refine w_ld rfl _ rfl (by rfl) (by first | exact rd_1 (by repeat constructor) (by first | rfl | assumption) | exact rd_w (by repeat constructor) (by rfl) | exact rd_o (by assumption) (by rfl) (by first | exact nmn | assumption | simp) | exact rd_h (by assumption) (by rfl) (by first | exact nmn | assumption | simp) | exact rd_1o (by assumption) (by first | exact nmn | assumption | simp) | exact rd_1h (by assumption) (by first | rfl | assumption) (by first | exact nmn | assumption | simp)) hS ?_) | (refine own_box rfl _ _ rfl (by rfl) hS ?_; clear hS; (try clear ww); intro bb ww hS) | (refine w_al rfl rfl hS ?_; clear hS; (try clear ww); intro bb ww hS) | (refine w_st rfl _ _ rfl (by rfl) (by rfl) (by repeat constructor) (by rfl) (by rfl) (by first | rfl | assumption) hS ?_; clear hS; (try clear ww); intro ww hS) | (refine w_s1 rfl _ _ rfl (by rfl) (by repeat constructor) (by first | exact .c | exact .t rfl) (by rfl) (by repeat constructor) hS ?_; clear hS; (try clear ww); intro ww hS))
          go_roundw
          case rel => exact ⟨k + 1, hlt, by go_num, E1.out, hS⟩
          case measure => exact loop_meas hlt
        · obtain ⟨e3, e4⟩ := lt_dec hp
          simp only [Int.cast_ofNat_Int] at e4
          have E1 := Lib.hid (show ss.all fewS = false by rw [HE.out]; simp [fewS, hp])
          clear HE hs hp
          go_wp2_with (first | (refine own_unguard (by rfl) ?_) | (refine w_ld rfl _ rfl (by rfl) (by first | exact rd_1 (by repeat constructor) (by first | rfl | assumption) | exact rd_w (by repeat constructor) (by rfl) | exact rd_o (by assumption) (by rfl) (by first | exact nmn | assumption | simp) | exact rd_h (by assumption) (by rfl) (by first | exact nmn | assumption | simp) | exact rd_1o (by assumption) (by first | exact nmn | assumption | simp) | exact rd_1h (by assumption) (by first | rfl | assumption) (by first | exact nmn | assumption | simp)) hS ?_) | (refine own_box rfl _ _ rfl (by rfl) hS ?_; clear hS; (try clear ww); intro bb ww hS) | (refine w_al rfl rfl hS ?_; clear hS; (try clear ww); intro bb ww hS) | (refine w_st rfl _ _ rfl (by rfl) (by rfl) (by repeat constructor) (by rfl) (by rfl) (by first | rfl | assumption) hS ?_; clear hS; (try clear ww); intro ww hS) | (refine w_s1 rfl _ _ rfl (by rfl) (by repeat constructor) (by first | exact .c | exact .t rfl) (by rfl) (by repeat constructor) hS ?_; clear hS; (try clear ww); intro ww hS))
          go_ret
          exact ⟨ret_bool E1.out.symm, hS.below⟩
      · obtain ⟨e1, e2⟩ := lt_dec hs
        simp only [Int.cast_ofNat_Int] at e2
        have E1 := Lib.hid (show ss.all fewS = false by rw [HE.out]; simp [fewS, hs])
        clear HE hs
        go_wp2_with (first | (refine own_unguard (by rfl) ?_) | (refine w_ld rfl _ rfl (by rfl) (by first | exact rd_1 (by repeat constructor) (by first | rfl | assumption) | exact rd_w (by repeat constructor) (by rfl) | exact rd_o (by assumption) (by rfl) (by first | exact nmn | assumption | simp) | exact rd_h (by assumption) (by rfl) (by first | exact nmn | assumption | simp) | exact rd_1o (by assumption) (by first | exact nmn | assumption | simp) | exact rd_1h (by assumption) (by first | rfl | assumption) (by first | exact nmn | assumption | simp)) hS ?_) | (refine own_box rfl _ _ rfl (by rfl) hS ?_; clear hS; (try clear ww); intro bb ww hS) | (refine w_al rfl rfl hS ?_; clear hS; (try clear ww); intro bb ww hS) | (refine w_st rfl _ _ rfl (by rfl) (by rfl) (by repeat constructor) (by rfl) (by rfl) (by first | rfl | assumption) hS ?_; clear hS; (try clear ww); intro ww hS) | (refine w_s1 rfl _ _ rfl (by rfl) (by repeat constructor) (by first | exact .c | exact .t rfl) (by rfl) (by repeat constructor) hS ?_; clear hS; (try clear ww); intro ww hS))
        go_ret
        exact ⟨ret_bool E1.out.symm, hS.below⟩
    · have E1 := Lib.hid (show ss.all fewS = true by rw [hf, List.drop_of_length_le (by omega)]; rfl)
      obtain rfl := HL.out
      clear hf HL
      go_wp2_with (first | (refine own_unguard (by rfl) ?_) | (refine w_ld rfl _ rfl (by rfl) (by first | exact rd_1 (by repeat constructor) (by first | rfl | assumption) | exact rd_w (by repeat constructor) (by rfl) | exact rd_o (by assumption) (by rfl) (by first | exact nmn | assumption | simp) | exact rd_h (by assumption) (by rfl) (by first | exact nmn | assumption | simp) | exact rd_1o (by assumption) (by first | exact nmn | assumption | simp) | exact rd_1h (by assumption) (by first | rfl | assumption) (by first | exact nmn | assumption | simp)) hS ?_) | (refine own_box rfl _ _ rfl (by rfl) hS ?_; clear hS; (try clear ww); intro bb ww hS) | (refine w_al rfl rfl hS ?_; clear hS; (try clear ww); intro bb ww hS) | (refine w_st rfl _ _ rfl (by rfl) (by rfl) (by repeat constructor) (by rfl) (by rfl) (by first | rfl | assumption) hS ?_; clear hS; (try clear ww); intro ww hS) | (refine w_s1 rfl _ _ rfl (by rfl) (by repeat constructor) (by first | exact .c | exact .t rfl) (by rfl) (by repeat constructor) hS ?_; clear hS; (try clear ww); intro ww hS))
      go_ret
      exact ⟨ret_bool E1.out.symm, hS.below⟩

theorem ref05_Few_calls (F : Fnt) (w : World) (hF : FntOk w F) : Calls Try.prog 19 #[F.val] w (Gives (.bool (fewB F)) w) := by
  by_cases h0 : F.gs.length ≤ 500
  · by_cases h1 : F.ss.length ≤ 50
    · have := ref05_Few_loop F w hF h0 h1
      rwa [show fewB F = F.ss.all fewS by simp [fewB, h0, h1]]
    · have := ref05_Few_s F w h0 h1
      rwa [show fewB F = false by simp [fewB, h1]]
  · have := ref05_Few_g F w h0
    rwa [show fewB F = false by simp [fewB, h0]]

end Go.Proofs.Ytfmoghkffffmmaa
namespace Go.Proofs.Ytfmoghkffffmmaa
open Go.RowKit

/-- All bytes of a name are from 32 to 126. -/
def bytesOk (l : List UInt8) : Bool := l.all fun c => decide (32 ≤ (c.toNat : Int)) && decide ((c.toNat : Int) ≤ 126)
/-- Is it a name? -/
def nameOk (s : ByteArray) : Bool := bytesOk s.data.toList && decide (1 ≤ (s.size : Int)) && decide ((s.size : Int) ≤ 16)

theorem bytesOk_drop (s : ByteArray) (k : Nat) (h : k < s.size) :
    bytesOk (s.data.toList.drop k) = (decide (32 ≤ (s[k].toNat : Int)) && decide ((s[k].toNat : Int) ≤ 126) && bytesOk (s.data.toList.drop (k + 1))) := by
  have h' : k < s.data.toList.length := by simpa using h
  rw [List.drop_eq_getElem_cons h']
  simp [bytesOk]
  rfl

set_option maxHeartbeats 1000000 in
theorem font_named_calls (s : ByteArray) (w : World) (hs : s.size ≤ 9223372036854775807) :
    Calls Try.prog 55 #[.string s] w fun e w' => e = .returned (.bool (nameOk s)) ∧ w = w' := by
  go_enter Try.func55, Try.ntmps55
  go_wp2
  go_loop [3] (fun i => ∃ k : Nat, k ≤ s.size ∧ i = .int .i64 k ∧ bytesOk s.data.toList = bytesOk (s.data.toList.drop k)) (fun i => s.size - (intOf i).toNat)
  case atStart => exact ⟨0, Nat.zero_le _, rfl, rfl⟩
  case round =>
    obtain ⟨k, hk, rfl, hf⟩ := hrel
    by_cases hlt : k < s.size
    · rw [bytesOk_drop s k hlt] at hf
      have HF := Lib.hid hf
      clear hf
      by_cases h1 : (s[k].toNat : Int) < 32
      · have e1 : bytesOk s.data.toList = false := by rw [HF.out]; simp; omega
        have E1 := Lib.hid e1
        clear e1
        go_wp2
        go_ret
        refine ⟨ret_bool ?_, rfl⟩
        unfold nameOk
        rw [E1.out]; rfl
      · by_cases h2 : 126 < (s[k].toNat : Int)
        · have e1 : bytesOk s.data.toList = false := by rw [HF.out]; simp; omega
          have E1 := Lib.hid e1
          clear e1
          go_wp2
          go_ret
          refine ⟨ret_bool ?_, rfl⟩
          unfold nameOk
          rw [E1.out]; rfl
        · have e1 : bytesOk s.data.toList = bytesOk (s.data.toList.drop (k + 1)) := by rw [HF.out]; simp; omega
          have E1 := Lib.hid e1
          clear e1
          go_wp2
          go_round
          case rel => exact ⟨k + 1, by omega, by go_num, E1.out⟩
          case measure => simp [intOf]; omega
    · have e1 : bytesOk s.data.toList = true := by rw [hf, List.drop_of_length_le (by simp; omega)]; rfl
      have E1 := Lib.hid e1
      clear e1 hf
      go_wp2
      all_goals
        go_ret
        refine ⟨ret_bool ?_, rfl⟩
        unfold nameOk
        rw [E1.out]
        simp
        try omega

/-- All numbers are in a range. -/
def allIn (a b : Int) (ns : List Int) : Bool := ns.all fun n => decide (a ≤ n) && decide (n ≤ b)
theorem allIn_drop (a b : Int) (ns : List Int) (k : Nat) (n : Int) (h : ns[k]? = some n) : allIn a b (ns.drop k) = (decide (a ≤ n) && decide (n ≤ b) && allIn a b (ns.drop (k + 1))) := by
  obtain ⟨hk, rfl⟩ := List.getElem?_eq_some_iff.1 h
  unfold allIn
  rw [List.drop_eq_getElem_cons hk, List.all_cons]

set_option maxHeartbeats 1000000 in
theorem font_within_calls (lo hi : Int) (ns : List Int) (b o c : Nat) (w : World) (hn : ns.length ≤ 1000000)
    (hc : ∀ i n, ns[i]? = some n → w.cell? ⟨b, o + i, none⟩ = some (.int .i64 n)) :
    Calls Try.prog 56 #[.int .i64 lo, .int .i64 hi, .slice (some ⟨b, o, none⟩) ns.length c] w fun e w' => e = .returned (.bool (allIn lo hi ns)) ∧ w = w' := by
  have HC := Lib.hid hc
  clear hc
  go_enter Try.func56, Try.ntmps56
  go_wp2
  go_loop [11] (fun i => ∃ k : Nat, k ≤ ns.length ∧ i = .int .i64 k ∧ allIn lo hi ns = allIn lo hi (ns.drop k)) (fun i => ns.length - (intOf i).toNat)
  case atStart => exact ⟨0, Nat.zero_le _, rfl, rfl⟩
  case round =>
    obtain ⟨k, hk, rfl, hf⟩ := hrel
    by_cases hlt : k < ns.length
    · obtain ⟨n, hg⟩ : ∃ n, ns[k]? = some n := ⟨ns[k], by simp [hlt]⟩
      have g0 := HC.out k n hg
      rw [allIn_drop lo hi ns k n hg] at hf
      have HF := Lib.hid hf
      clear hf hg
      by_cases h1 : n < lo
      · have E1 := Lib.hid (show allIn lo hi ns = false by rw [HF.out]; simp; omega)
        go_wp2
        go_ret
        exact ⟨ret_bool E1.out.symm, rfl⟩
      · by_cases h2 : hi < n
        · have E1 := Lib.hid (show allIn lo hi ns = false by rw [HF.out]; simp; omega)
          go_wp2
          go_ret
          exact ⟨ret_bool E1.out.symm, rfl⟩
        · have E1 := Lib.hid (show allIn lo hi ns = allIn lo hi (ns.drop (k + 1)) by rw [HF.out]; simp; omega)
          go_wp2
          go_round
          case rel => exact ⟨k + 1, by omega, by go_num, E1.out⟩
          case measure => simp [intOf]; omega
    · have E1 := Lib.hid (show allIn lo hi ns = true by rw [hf, List.drop_of_length_le (by omega)]; rfl)
      clear hf
      go_wp2
      go_ret
      exact ⟨ret_bool E1.out.symm, rfl⟩





end Go.Proofs.Ytfmoghkffffmmaa
namespace Go.Proofs.Ytfmoghkffffmmaa
open Go.RowKit

attribute [local irreducible] wpQuiet wpList Code.wp

/-- A small slice literal. -/
theorem own_buildSlice {P : Program} {rest : List Oper} {ops' : Array Oper} {o : Oper} {a : Act} {Q : Exit → Act → World → Prop} {D : List Nat} {W w : World} {L : List (Nat × List Value)} (hgd : o.guard = none) (t e : TypeId) (len : Nat) (parts : Array (Nat × Operand)) (ho : o.op = .buildSlice t len parts) (cells : List Value) (hS : Own D W L w) (hu : P.underlying t = some (.slice e))
    (hf : P.builtSlice e len (parts.map fun (i, x) => (i, a.eval x)).toList = some cells.toArray)
    (h : ∀ b w', Own D W ((b, cells) :: L) w' → wpList P ops' Q rest (a.put o.dst (.slice (some ⟨b, 0, none⟩) len len)) w') : wpList P ops' Q (o :: rest) a w :=
  Great.wpList_buildSliceTo hgd t e len parts ho w.heap.size rfl o.dst rfl hu cells.toArray hf (h _ _ (hS.new cells e))

theorem font_within_has {lo hi : Int} (ns : List Int) {b c : Nat} {w : World} {v : Bool} (hh : Has w b (ns.map (Value.int .i64))) (hn : ns.length ≤ 1000000) (hv : allIn lo hi ns = v) :
    Calls Try.prog 56 #[.int .i64 lo, .int .i64 hi, .slice (some ⟨b, 0, none⟩) ns.length c] w fun e w' => e = .returned (.bool v) ∧ w = w' := by
  subst hv
  refine font_within_calls lo hi ns b 0 c w hn fun i n hi => ?_
  rw [hh.cell, Nat.zero_add, List.getElem?_map, hi]
  rfl

/-- The lengths among the parameters; the percentages. -/
@[reducible] def Fnt.lens (F : Fnt) : List Int := [F.quad, F.xheight, F.axis, F.rule, F.num1, F.num2, F.den1, F.den2, F.sup1, F.sup2, F.sup3, F.sub1, F.sub2, F.supdrop, F.subdrop, F.dshort, F.acc]
@[reducible] def Fnt.pers (F : Fnt) : List Int := [F.script, F.sscript, F.dpercent]
def prmOk (F : Fnt) : Bool := allIn 1 100 F.pers && allIn 0 20000 F.lens

instance rt_params : RowTy Try.prog 25 20 := ⟨⟨_, Try.underlying25, rfl⟩, by kernel_rfl⟩

set_option maxHeartbeats 4000000 in
set_option maxRecDepth 100000 in
theorem font_validParams_no (F : Fnt) (w : World) (h : allIn 1 100 F.pers = false) : Calls Try.prog 54 #[.agg F.prm.toArray] w (Gives (.bool false) w) := by
  have HV := Lib.hid h
  clear h
  go_enter Try.func54, Try.ntmps54
  have hS := own_start w
  go_wp2_with (first | (refine own_unguard (by rfl) ?_) | (refine own_buildSlice rfl _ _ 3 _ rfl [.int .i64 F.script, .int .i64 F.sscript, .int .i64 F.dpercent] hS Try.underlying31 (by kernel_rfl) ?_; clear hS; (try clear ww); intro bb ww hS) | (go_at_call 56; refine own_callsS hS (font_within_has F.pers (hS.get at0) (by simp) HV.out) ?_) | (refine w_ld rfl _ rfl (by rfl) (by first | exact rd_1 (by repeat constructor) (by first | rfl | assumption) | exact rd_w (by repeat constructor) (by rfl) | exact rd_o (by assumption) (by rfl) (by first | exact nmn | assumption | simp) | exact rd_h (by assumption) (by rfl) (by first | exact nmn | assumption | simp) | exact rd_1o (by assumption) (by first | exact nmn | assumption | simp) | exact rd_1h (by assumption) (by first | rfl | assumption) (by first | exact nmn | assumption | simp)) hS ?_) | (refine own_box rfl _ _ rfl (by rfl) hS ?_; clear hS; (try clear ww); intro bb ww hS) | (refine w_st rfl _ _ rfl (by rfl) (by rfl) (by repeat constructor) (by rfl) (by rfl) (by first | rfl | assumption) hS ?_; clear hS; (try clear ww); intro ww hS) | (refine w_s1 rfl _ _ rfl (by rfl) (by repeat constructor) (by first | exact .c | exact .t rfl) (by rfl) (by repeat constructor) hS ?_; clear hS; (try clear ww); intro ww hS))
  go_ret
  exact own_gives hS

set_option maxHeartbeats 4000000 in
set_option maxRecDepth 100000 in
theorem font_validParams_yes (F : Fnt) (w : World) (v : Bool) (h : allIn 1 100 F.pers = true) (h2 : allIn 0 20000 F.lens = v) : Calls Try.prog 54 #[.agg F.prm.toArray] w (Gives (.bool v) w) := by
  have HV := Lib.hid h
  have HL := Lib.hid h2
  have tok1 : True := trivial
  clear h h2
  go_enter Try.func54, Try.ntmps54
  have hS := own_start w
  go_wp2_with (first | (refine own_unguard (by rfl) ?_) | (refine own_buildSlice rfl _ _ 3 _ rfl [.int .i64 F.script, .int .i64 F.sscript, .int .i64 F.dpercent] hS Try.underlying31 (by kernel_rfl) ?_; clear hS; (try clear ww); intro bb ww hS) | (refine own_buildSlice rfl _ _ 17 _ rfl (F.lens.map (Value.int .i64)) hS Try.underlying31 (by kernel_rfl) ?_; clear hS; (try clear ww); intro bb ww hS) | (go_at_call 56; have _t := tok1; refine own_callsS hS (font_within_has F.pers (hS.get at0) (by simp) HV.out) ?_; clear tok1) | (go_at_call 56; refine own_callsS hS (font_within_has F.lens (hS.get at0) (by simp) HL.out) ?_) | (refine w_ld rfl _ rfl (by rfl) (by first | exact rd_1 (by repeat constructor) (by first | rfl | assumption) | exact rd_w (by repeat constructor) (by rfl) | exact rd_o (by assumption) (by rfl) (by first | exact nmn | assumption | simp) | exact rd_h (by assumption) (by rfl) (by first | exact nmn | assumption | simp) | exact rd_1o (by assumption) (by first | exact nmn | assumption | simp) | exact rd_1h (by assumption) (by first | rfl | assumption) (by first | exact nmn | assumption | simp)) hS ?_) | (refine own_box rfl _ _ rfl (by rfl) hS ?_; clear hS; (try clear ww); intro bb ww hS) | (refine w_st rfl _ _ rfl (by rfl) (by rfl) (by repeat constructor) (by rfl) (by rfl) (by first | rfl | assumption) hS ?_; clear hS; (try clear ww); intro ww hS) | (refine w_s1 rfl _ _ rfl (by rfl) (by repeat constructor) (by first | exact .c | exact .t rfl) (by rfl) (by repeat constructor) hS ?_; clear hS; (try clear ww); intro ww hS))
  go_ret
  exact own_gives hS

theorem font_validParams_calls (F : Fnt) (w : World) : Calls Try.prog 54 #[.agg F.prm.toArray] w (Gives (.bool (prmOk F)) w) := by
  unfold prmOk
  cases h : allIn 1 100 F.pers
  · exact font_validParams_no F w h
  · exact font_validParams_yes F w _ h rfl

end Go.Proofs.Ytfmoghkffffmmaa
namespace Go.Proofs.Ytfmoghkffffmmaa
open Go.RowKit

attribute [local irreducible] wpQuiet wpList Code.wp

end Go.Proofs.Ytfmoghkffffmmaa
namespace Go.Proofs.Ytfmoghkffffmmaa
open Go.RowKit

/-- The metrics of a glyph. -/
def Gly.nums (g : Gly) : List Int := [g.w, g.h, g.d, g.it, g.at_]
/-- All metrics are at most 20000. -/
def metricsOk (g : Gly) : Bool := allIn (-20000) 20000 g.nums
theorem metricsOk_bd {g : Gly} (h : metricsOk g = true) : (-20000 ≤ g.w ∧ g.w ≤ 20000) ∧ (-20000 ≤ g.h ∧ g.h ≤ 20000) ∧ (-20000 ≤ g.d ∧ g.d ≤ 20000) ∧ (-20000 ≤ g.it ∧ g.it ≤ 20000) ∧ (-20000 ≤ g.at_ ∧ g.at_ ≤ 20000) := by
  simp [metricsOk, allIn, Gly.nums] at h
  omega





end Go.Proofs.Ytfmoghkffffmmaa
namespace Go.Proofs.Ytfmoghkffffmmaa
open Go.RowKit



end Go.Proofs.Ytfmoghkffffmmaa
namespace Go.Proofs.Ytfmoghkffffmmaa
open Go.RowKit

attribute [local irreducible] wpQuiet wpList Code.wp

/-- A glyph by itself. -/
def gIn (g : Gly) : Bool := nameOk g.name && metricsOk g && decide (0 ≤ g.w)
/-- No glyph ahead has its name. -/
def freshG (gs : List Gly) (k : Nat) (g : Gly) : Prop := ∀ j, j < k → ∀ g', gs[j]? = some g' → (g'.name.toList == g.name.toList) = false
/-- All glyphs are as required. -/
def GlysOk (gs : List Gly) : Prop := ∀ k g, gs[k]? = some g → gIn g = true ∧ freshG gs k g

theorem GlysOk.not_in {gs : List Gly} {k : Nat} {g : Gly} {b : Bool} (hb : Hid (b = true ↔ GlysOk gs)) (h : gs[k]? = some g) (hn : gIn g = false) : false = b := by
  cases b
  · rfl
  · have := (hb.out.1 rfl k g h).1
    rw [hn] at this; cases this
theorem GlysOk.not_fresh {gs : List Gly} {k j : Nat} {g g' : Gly} {b : Bool} (hb : Hid (b = true ↔ GlysOk gs)) (h : gs[k]? = some g) (hj : j < k) (h' : gs[j]? = some g') (hn : (g'.name.toList == g.name.toList) = true) : false = b := by
  cases b
  · rfl
  · have := (hb.out.1 rfl k g h).2 j hj g' h'
    rw [hn] at this; cases this
theorem GlysOk.all {gs : List Gly} {b : Bool} (hb : Hid (b = true ↔ GlysOk gs)) (h : ∀ j, j < gs.length → ∀ g, gs[j]? = some g → gIn g = true ∧ freshG gs j g) : true = b :=
  (hb.out.2 fun k g hk => h k (List.getElem?_eq_some_iff.1 hk).1 g hk).symm
theorem glys_next {gs : List Gly} {k : Nat} {g : Gly} (h : Hid (∀ j, j < k → ∀ g, gs[j]? = some g → gIn g = true ∧ freshG gs j g)) (hg : gs[k]? = some g) (h1 : gIn g = true) (h2 : freshG gs k g) : ∀ j, j < k + 1 → ∀ g, gs[j]? = some g → gIn g = true ∧ freshG gs j g := by
  intro j hj g' hg'
  by_cases he : j = k
  · subst he
    rw [hg] at hg'
    cases hg'
    exact ⟨h1, h2⟩
  · exact h.out j (by omega) g' hg'

end Go.Proofs.Ytfmoghkffffmmaa
namespace Go.Proofs.Ytfmoghkffffmmaa
open Go.RowKit
section
variable {P : Program} {ops : Array Oper} {md : Region.Mode} {C : World → Prop}

/-- The operation yields v in the world that it got, or calls a function that gives v. -/
def givesUpon (P : Program) (w : World) (v : Value) : Result Next → Prop
  | .ok (.value u) w' => w' = w ∧ u = v
  | .ok .skip w' => w' = w ∧ v = undef
  | .ok (.enter f args) w' => w' = w ∧ Calls P f args w (Gives v w)
  | _ => False
def givesAt (P : Program) (o : Oper) (a : Act) (w : World) (v : Value) : Prop := givesUpon P w v ((execOp a.eval o).run P w)
/-- .. in every world of the class; or it is not wanted. -/
def GivesIn (P : Program) (ops : Array Oper) (C : World → Prop) (o : Oper) (v : Value) (a : Act) : Prop :=
  (Region.wanted o (yielded ops a.tmps) = true ∧ ∀ w, C w → givesAt P o a w v) ∨ (Region.wanted o (yielded ops a.tmps) = false ∧ v = undef)

theorem GivesIn.of_same {o : Oper} {v : Value} {a a' : Act} (h : GivesIn P ops C o v a) (he : execOp a'.eval o = execOp a.eval o) (hw : Region.wanted o (yielded ops a'.tmps) = Region.wanted o (yielded ops a.tmps)) : GivesIn P ops C o v a' := by
  unfold GivesIn givesAt at *
  rw [he, hw]
  exact h
theorem GivesIn.put {oi oj : Oper} {u v : Value} {a : Act} (hsj : ∀ cs b, oj.op ≠ .select cs b) (hap : oi.apart ops oj = true) (h : GivesIn P ops C oj u a) : GivesIn P ops C oj u (a.put oi.dst v) :=
  h.of_same (execOp_put oj hsj a oi.dst v (Oper.apart_spec hap).1) (wanted_put oj a oi.dst v (Oper.apart_spec hap).1)
/-- Operation i comes up: it yields, and K holds behind it. -/
def gOp (P : Program) (ops : Array Oper) (C : World → Prop) (i : Nat) (K : Act → Prop) (a : Act) : Prop :=
  ∃ o v, ops[i]? = some o ∧ GivesIn P ops C o v a ∧ K (a.put o.dst v)
theorem gOp.mono {i : Nat} {K K' : Act → Prop} {a : Act} (hk : ∀ a, K a → K' a) (h : gOp P ops C i K a) : gOp P ops C i K' a :=
  let ⟨o, v, ho, hg, h1⟩ := h
  ⟨o, v, ho, hg, hk _ h1⟩

/-- Only heads may come up: each operation from n on waits for one that is not listed. -/
structure Heads (md : Region.Mode) (ops : Array Oper) (n m : Nat) (listed : Array Bool) : Prop where
  closed : ∀ j oj, ops[j]? = some oj → listed.getD j false = true → ∀ e ∈ oj.after, Region.binds md e = true → listed.getD e.on false = true
  tail : ∀ t, n ≤ t → t ≠ m → t < ops.size → listed.getD t false = false
  mid : listed.getD m true = true

/-- The Bool that says so: each head but the last is waited for by a later head, each of the others (but m) by one behind the heads' last one. -/
def headsB (md : Region.Mode) (ops : Array Oper) (n m : Nat) : Bool :=
  (List.range n).all (fun i => decide (i + 1 = n) || (List.range n).any fun j => decide (i < j) && Region.waitsFor md ops j i) &&
  (List.range ops.size).all (fun t => decide (t < n) || decide (t = m) || (List.range t).any fun j => decide (n ≤ j + 1) && decide (j ≠ m) && Region.waitsFor md ops t j)

theorem Heads.last {n m : Nat} {listed : Array Bool} (hB : headsB md ops n m = true) (h : Heads md ops n m listed) : ∀ (d i : Nat), n - i = d → i < n → listed.getD i false = false → listed.getD (n - 1) false = false := by
  simp only [headsB, Bool.and_eq_true] at hB
  intro d
  induction d using Nat.strongRecOn with
  | _ d ih =>
    intro i hd hi hun
    have h1 := List.all_eq_true.1 hB.1 i (List.mem_range.2 hi)
    simp only [Bool.or_eq_true, decide_eq_true_eq] at h1
    rcases h1 with h1 | h1
    · rw [show n - 1 = i by omega]; exact hun
    · obtain ⟨j, hj, hj2⟩ := List.any_eq_true.1 h1
      simp only [Bool.and_eq_true, decide_eq_true_eq] at hj2
      obtain ⟨oj, hoj, e, he, hb, hon⟩ := Region.waitsFor_spec hj2.2
      have hjn := List.mem_range.1 hj
      cases hl : listed.getD j false with
      | true =>
        have h2 := h.closed j oj hoj hl e he hb
        rw [hon, hun] at h2
        cases h2
      | false => exact ih (n - j) (by omega) j rfl hjn hl

theorem Heads.lt {n m : Nat} {listed : Array Bool} (hB : headsB md ops n m = true) (h : Heads md ops n m listed) {i : Nat} (hi : i < n) (hun : listed.getD i false = false) {t : Nat} (ht : t ∈ Region.ready md ops listed) : t < n := by
  obtain ⟨htu, ot, hot, hall⟩ := mem_ready.1 ht
  have hl := h.last hB (n - i) i rfl hi hun
  have htm : t ≠ m := fun e => by subst e; rw [h.mid] at htu; cases htu
  simp only [headsB, Bool.and_eq_true] at hB
  have h1 := List.all_eq_true.1 hB.2 t (List.mem_range.2 (Array.getElem?_eq_some_iff.1 hot).1)
  simp only [Bool.or_eq_true, decide_eq_true_eq] at h1
  rcases h1 with (h1 | h1) | h1
  · exact h1
  · exact absurd h1 htm
  · obtain ⟨j, hj, hj2⟩ := List.any_eq_true.1 h1
    simp only [Bool.and_eq_true, decide_eq_true_eq] at hj2
    obtain ⟨oj, hoj, e, he, hb, hon⟩ := Region.waitsFor_spec hj2.2
    have : oj = ot := Option.some.inj (hoj.symm.trans hot)
    subst this
    have h2 := hall e he hb
    rw [hon] at h2
    by_cases hjn : j = n - 1
    · rw [hjn, hl] at h2; cases h2
    · have hjs : j < ops.size := by have := List.mem_range.1 hj; have := (Array.getElem?_eq_some_iff.1 hot).1; omega
      rw [h.tail j (by omega) hj2.1.2 hjs] at h2; cases h2

theorem Heads.set {n m i : Nat} {listed : Array Bool} (h : Heads md ops n m listed) (hi : i ∈ Region.ready md ops listed) (hin : i < n) : Heads md ops n m (listed.setIfInBounds i true) := by
  obtain ⟨_, oi, hoi, hall⟩ := mem_ready.1 hi
  refine ⟨fun j oj hj hl e he hb => ?_, fun t ht htm ht' => by rw [getD_set_ne false (by omega)]; exact h.tail t ht htm ht', ?_⟩
  · by_cases hij : i = j
    · subst hij
      have : oj = oi := Option.some.inj (hj.symm.trans hoi)
      subst this
      exact getD_set_true (hall e he hb)
    · rw [getD_set_ne false hij] at hl
      exact getD_set_true (h.closed j oj hj hl e he hb)
  · by_cases him : i = m
    · subst him
      have h1 := (mem_ready.1 hi).1
      rw [h.mid] at h1; cases h1
    · rw [getD_set_ne true him]; exact h.mid

/-- The walk in the text's order. -/
def wpG (P : Program) (ops : Array Oper) (C : World → Prop) (R : Act → Prop) : List Oper → Act → Prop
  | [], a => R a
  | o :: rest, a => ∃ v, GivesIn P ops C o v a ∧ wpG P ops C R rest (a.put o.dst v)

/-- Copies, in the text's order. -/
def wpP (P : Program) (ops : Array Oper) (R : Act → Prop) : List Oper → Act → Prop
  | [], a => R a
  | o :: rest, a => ∃ v, Yields P ops o v a ∧ wpP P ops R rest (a.put o.dst v)

attribute [go_sem] givesAt givesUpon

theorem g_plain {R : Act → Prop} {a : Act} {o : Oper} {rest : List Oper} (hg : o.guard = none) (h : ∃ v, (∀ w, C w → givesAt P o a w v) ∧ wpG P ops C R rest (a.put o.dst v)) : wpG P ops C R (o :: rest) a :=
  let ⟨v, h1, h2⟩ := h
  ⟨v, .inl ⟨by simp [Region.wanted, hg], h1⟩, h2⟩
theorem g_at {R : Act → Prop} {a : Act} {o oj : Oper} {rest : List Oper} {j d : Nat} {b : Bool} {x : Value} (hg : o.guard = some (j, b)) (hj : ops[j]? = some oj) (hd : oj.dst = some d) (hv : a.tmps[d]? = some x)
    (h : QG x b (∃ v, (∀ w, C w → givesAt P o a w v) ∧ wpG P ops C R rest (a.put o.dst v)) (wpG P ops C R rest (a.put o.dst undef))) : wpG P ops C R (o :: rest) a := by
  have hw : Region.wanted o (yielded ops a.tmps) = (boolOf x == some b) := by
    unfold Region.wanted
    simp only [hg, yielded_at hj hd hv]
  by_cases hx : boolOf x = some b
  · obtain ⟨v, h1, h2⟩ := QG_yes hx h
    exact ⟨v, .inl ⟨by rw [hw]; simpa using hx, h1⟩, h2⟩
  · exact ⟨undef, .inr ⟨by rw [hw]; simpa using hx, rfl⟩, QG_no hx h⟩
theorem g_yes {R : Act → Prop} {a : Act} {o oj : Oper} {rest : List Oper} {j d : Nat} {b : Bool} {x : Value} (hg : o.guard = some (j, b)) (hj : ops[j]? = some oj) (hd : oj.dst = some d) (hv : a.tmps[d]? = some x) (hx : YesG x b)
    (h : ∃ v, (∀ w, C w → givesAt P o a w v) ∧ wpG P ops C R rest (a.put o.dst v)) : wpG P ops C R (o :: rest) a := g_at hg hj hd hv (hx.qg h)
theorem g_no {R : Act → Prop} {a : Act} {o oj : Oper} {rest : List Oper} {j d : Nat} {b : Bool} {x : Value} (hg : o.guard = some (j, b)) (hj : ops[j]? = some oj) (hd : oj.dst = some d) (hv : a.tmps[d]? = some x) (hx : NoG x b)
    (h : wpG P ops C R rest (a.put o.dst undef)) : wpG P ops C R (o :: rest) a := g_at hg hj hd hv (hx.qg h)
theorem g_nil {R : Act → Prop} {a : Act} (h : R a) : wpG P ops C R [] a := h
end
end Go.Proofs.Ytfmoghkffffmmaa
namespace Go.Proofs.Ytfmoghkffffmmaa
open Go.RowKit

theorem givesAt_rd {P : Program} {o : Oper} {a : Act} {D : List Nat} {W w : World} {L : List (Nat × List Value)} {ty : TypeId} {x : Operand} {p : Addr} {v : Value} (ho : o.op = .load ty x) (hx : a.eval x = .pointer (some p)) (hr : Reads P D W L ty p v) (hS : Own D W L w) : givesAt P o a w v := by
  unfold givesAt execOp
  simp only [ho, hx, Sem.run_bind, hr w hS, Sem.run_pure, Result.andThen_ok, givesUpon]
  first | done | exact ⟨rfl, rfl⟩ | exact ⟨trivial, trivial⟩ | trivial

end Go.Proofs.Ytfmoghkffffmmaa
namespace Go.Proofs.Ytfmoghkffffmmaa
open Go.RowKit

attribute [local irreducible] wpQuiet wpG wpP wpList Code.wp

/-- The k-th size is there, and higher than the one ahead. -/
def SizeOk (gs : List Gly) (sz : List ByteArray) (k : Nat) (n : ByteArray) : Prop :=
  ∃ g, findG gs n = some g ∧ ∀ m n' g', k = m + 1 → sz[m]? = some n' → findG gs n' = some g' → g'.h + g'.d < g.h + g.d
/-- A part is there, and higher than the overlap. -/
def PartOk (gs : List Gly) (ov : Int) (p : Prt) : Prop := ∃ g, findG gs p.name = some g ∧ ov < g.h + g.d
/-- A stretch by itself. -/
def StrReq (gs : List Gly) (s : Str) : Prop :=
  nameOk s.name = true ∧ 1 ≤ s.sizes.length ∧ s.sizes.length ≤ 16 ∧ s.parts.length ≤ 8 ∧ (∀ k n, s.sizes[k]? = some n → SizeOk gs s.sizes k n) ∧
  ((s.parts = [] ∧ s.ov = 0) ∨ (s.parts ≠ [] ∧ (∀ p ∈ s.parts, PartOk gs s.ov p) ∧ (s.parts.any fun p => p.ext) = true ∧ 0 ≤ s.ov))
/-- No stretch ahead has its name. -/
def freshS (ss : List Str) (k : Nat) (s : Str) : Prop := ∀ j, j < k → ∀ s', ss[j]? = some s' → (s'.name.toList == s.name.toList) = false
def StrsReq (gs : List Gly) (ss : List Str) : Prop := ∀ k s, ss[k]? = some s → StrReq gs s ∧ freshS ss k s
/-- A font is valid. -/
def ValidF (F : Fnt) : Prop := F.gs.length ≤ 400 ∧ F.ss.length ≤ 40 ∧ prmOk F = true ∧ GlysOk F.gs ∧ StrsReq F.gs F.ss

end Go.Proofs.Ytfmoghkffffmmaa
namespace Go.Proofs.Ytfmoghkffffmmaa
open Go.RowKit



end Go.Proofs.Ytfmoghkffffmmaa
namespace Go.Proofs.Ytfmoghkffffmmaa
open Go.RowKit

attribute [local irreducible] wpQuiet wpG wpP wpList Code.wp

instance ot_bool : OneTy Try.prog 4 := ⟨⟨_, Try.underlying4, rfl⟩, by kernel_rfl⟩

theorem find_mem {gs : List Gly} {s : ByteArray} {g : Gly} (h : findG gs s = some g) : g ∈ gs := List.mem_of_find?_eq_some h
theorem height_bd {g : Gly} (h : metricsOk g = true) : -40000 ≤ g.h + g.d ∧ g.h + g.d ≤ 40000 := by
  have := metricsOk_bd h
  omega
theorem sizes_next {gs : List Gly} {sz : List ByteArray} {k : Nat} {n : ByteArray} (h : Hid (∀ j, j < k → ∀ n, sz[j]? = some n → SizeOk gs sz j n)) (hn : sz[k]? = some n) (h1 : SizeOk gs sz k n) : ∀ j, j < k + 1 → ∀ n, sz[j]? = some n → SizeOk gs sz j n := by
  intro j hj n' hn'
  by_cases he : j = k
  · subst he
    rw [hn] at hn'
    cases hn'
    exact h1
  · exact h.out j (by omega) n' hn'
theorem any_take {ps : List Prt} {k : Nat} {p : Prt} (h : ps[k]? = some p) : (ps.take (k + 1)).any (fun p => p.ext) = ((ps.take k).any (fun p => p.ext) || p.ext) := by
  rw [List.take_add_one, h]
  simp
/-- The height of the size ahead. -/
def lastIs (gs : List Gly) (sz : List ByteArray) (k : Nat) (lst : Int) : Prop := ∀ m n' g', k = m + 1 → sz[m]? = some n' → findG gs n' = some g' → g'.h + g'.d = lst
theorem lastIs_next {gs : List Gly} {sz : List ByteArray} {k : Nat} {n : ByteArray} {g : Gly} (hn : sz[k]? = some n) (hg : findG gs n = some g) : lastIs gs sz (k + 1) (g.h + g.d) := by
  intro m n' g' hk hn' hg'
  obtain rfl : k = m := by omega
  rw [hn] at hn'; cases hn'
  rw [hg] at hg'; cases hg'
  rfl

section
variable {gs : List Gly} {s : Str} {b : Bool}
theorem StrReq.no_name (hb : Hid (b = true ↔ StrReq gs s)) (h : nameOk s.name = false) : false = b := by
  cases b
  · rfl
  · have := (hb.out.1 rfl).1; rw [h] at this; cases this
theorem StrReq.no_len (hb : Hid (b = true ↔ StrReq gs s)) (h : s.sizes.length < 1 ∨ 16 < s.sizes.length ∨ 8 < s.parts.length) : false = b := by
  cases b
  · rfl
  · have := hb.out.1 rfl; obtain ⟨_, h1, h2, h3, _⟩ := this; omega
theorem StrReq.no_find (hb : Hid (b = true ↔ StrReq gs s)) {k : Nat} {n : ByteArray} (hn : s.sizes[k]? = some n) (h : findG gs n = none) : false = b := by
  cases b
  · rfl
  · obtain ⟨g, hg, _⟩ := (hb.out.1 rfl).2.2.2.2.1 k n hn
    rw [h] at hg; cases hg
theorem StrReq.no_rise (hb : Hid (b = true ↔ StrReq gs s)) {k m : Nat} {n n' : ByteArray} {g g' : Gly} (hn : s.sizes[k]? = some n) (hg : findG gs n = some g) (hk : k = m + 1) (hn' : s.sizes[m]? = some n') (hg' : findG gs n' = some g') (h : g.h + g.d ≤ g'.h + g'.d) : false = b := by
  cases b
  · rfl
  · obtain ⟨g2, hg2, h2⟩ := (hb.out.1 rfl).2.2.2.2.1 k n hn
    rw [hg] at hg2; cases hg2
    have := h2 m n' g' hk hn' hg'
    omega
theorem StrReq.no_part (hb : Hid (b = true ↔ StrReq gs s)) {k : Nat} {p : Prt} (hp : s.parts[k]? = some p) (h : ¬ PartOk gs s.ov p) : false = b := by
  cases b
  · rfl
  · rcases (hb.out.1 rfl).2.2.2.2.2 with ⟨h1, _⟩ | ⟨_, h1, _⟩
    · rw [h1] at hp; simp at hp
    · exact absurd (h1 p (List.mem_of_getElem? hp)) h
theorem StrReq.nil_ (hb : Hid (b = true ↔ StrReq gs s)) (h1 : nameOk s.name = true) (h2 : 1 ≤ s.sizes.length ∧ s.sizes.length ≤ 16 ∧ s.parts.length ≤ 8) (h3 : ∀ k n, s.sizes[k]? = some n → SizeOk gs s.sizes k n) (hp : s.parts = []) : decide (s.ov = 0) = b := by
  by_cases h : s.ov = 0
  · rw [hb.out.2 ⟨h1, h2.1, h2.2.1, h2.2.2, h3, .inl ⟨hp, h⟩⟩]; simp [h]
  · cases b
    · simp [h]
    · rcases (hb.out.1 rfl).2.2.2.2.2 with ⟨_, h4⟩ | ⟨h4, _⟩
      · exact absurd h4 h
      · exact absurd hp h4
theorem StrReq.end_ (hb : Hid (b = true ↔ StrReq gs s)) (h1 : nameOk s.name = true) (h2 : 1 ≤ s.sizes.length ∧ s.sizes.length ≤ 16 ∧ s.parts.length ≤ 8) (h3 : ∀ k n, s.sizes[k]? = some n → SizeOk gs s.sizes k n) (hp : s.parts ≠ []) (h4 : ∀ (k : Nat) (p : Prt), s.parts[k]? = some p → PartOk gs s.ov p) :
    ((s.parts.any fun p => p.ext) && decide (0 ≤ s.ov)) = b := by
  have h4' : ∀ p ∈ s.parts, PartOk gs s.ov p := fun p hp => by
    obtain ⟨k, hk⟩ := List.mem_iff_getElem?.1 hp
    exact h4 k p hk
  by_cases h : (s.parts.any fun p => p.ext) = true ∧ 0 ≤ s.ov
  · rw [hb.out.2 ⟨h1, h2.1, h2.2.1, h2.2.2, h3, .inr ⟨hp, h4', h.1, h.2⟩⟩, h.1]; simp [h.2]
  · cases b
    · by_cases e : (s.parts.any fun p => p.ext) = true
      · have : ¬ 0 ≤ s.ov := fun h' => h ⟨e, h'⟩
        simp [this]
      · have e' : (s.parts.any fun p => p.ext) = false := by simpa using e
        rw [e']; rfl
    · rcases (hb.out.1 rfl).2.2.2.2.2 with ⟨h5, _⟩ | ⟨_, _, h5⟩
      · exact absurd h5 hp
      · exact absurd h5 h
end

end Go.Proofs.Ytfmoghkffffmmaa
namespace Go.Proofs.Ytfmoghkffffmmaa
open Go.RowKit

attribute [local irreducible] wpQuiet wpG wpP wpList Code.wp

theorem iff_t {p : Prop} (h : p) : true = true ↔ p := ⟨fun _ => h, fun _ => rfl⟩
theorem iff_f {p : Prop} (h : ¬ p) : false = true ↔ p := ⟨fun h => (by cases h), fun h' => absurd h' h⟩
section
variable {F : Fnt} {b : Bool}
theorem ValidF.no (hb : Hid (b = true ↔ ValidF F)) (h : ¬ ValidF F) : false = b := by
  cases b
  · rfl
  · exact absurd (hb.out.1 rfl) h
theorem ValidF.no_str (hb : Hid (b = true ↔ ValidF F)) {k : Nat} {s : Str} (hs : F.ss[k]? = some s) (h : ¬ StrReq F.gs s) : false = b :=
  ValidF.no hb fun hv => h (hv.2.2.2.2 k s hs).1
theorem ValidF.no_fresh (hb : Hid (b = true ↔ ValidF F)) {k j : Nat} {s s' : Str} (hs : F.ss[k]? = some s) (hj : j < k) (hs' : F.ss[j]? = some s') (h : (s'.name.toList == s.name.toList) = true) : false = b :=
  ValidF.no hb fun hv => by
    have := (hv.2.2.2.2 k s hs).2 j hj s' hs'
    rw [h] at this; cases this
theorem ValidF.yes (hb : Hid (b = true ↔ ValidF F)) (h1 : F.gs.length ≤ 400 ∧ F.ss.length ≤ 40) (h2 : prmOk F = true) (h3 : GlysOk F.gs) (h4 : ∀ j, j < F.ss.length → ∀ s, F.ss[j]? = some s → StrReq F.gs s ∧ freshS F.ss j s) : true = b :=
  (hb.out.2 ⟨h1.1, h1.2, h2, h3, fun k s hk => h4 k (List.getElem?_eq_some_iff.1 hk).1 s hk⟩).symm
end
theorem strs_next {gs : List Gly} {ss : List Str} {k : Nat} {s : Str} (h : Hid (∀ j, j < k → ∀ s, ss[j]? = some s → StrReq gs s ∧ freshS ss j s)) (hs : ss[k]? = some s) (h1 : StrReq gs s) (h2 : freshS ss k s) : ∀ j, j < k + 1 → ∀ s, ss[j]? = some s → StrReq gs s ∧ freshS ss j s := by
  intro j hj s' hs'
  by_cases he : j = k
  · subst he
    rw [hs] at hs'
    cases hs'
    exact ⟨h1, h2⟩
  · exact h.out j (by omega) s' hs'
theorem fresh_next {ss : List Str} {m : Nat} {s s2 : Str} (h : Hid (freshS ss m s)) (h2 : ss[m]? = some s2) (he : (s2.name.toList == s.name.toList) = false) : freshS ss (m + 1) s := by
  intro j hj s' hs'
  by_cases e : j = m
  · subst e
    rw [h2] at hs'
    cases hs'
    exact he
  · exact h.out j (by omega) s' hs'
theorem glys_metrics {gs : List Gly} (h : GlysOk gs) : ∀ g ∈ gs, metricsOk g = true := by
  intro g hg
  obtain ⟨k, hk⟩ := List.mem_iff_getElem?.1 hg
  have := (h k g hk).1
  simp [gIn] at this
  exact this.1.2

end Go.Proofs.Ytfmoghkffffmmaa
