/- Fonts as plain data, and how they lie in memory. -/
import Derived.Test.YtgknameejoalnaaSeg
import Derived.Test.YtgknameejoalnaaTyp
namespace Go.Proofs.Ytgknameejoalnaa
open Go.RowKit

/-- The elements of a list lie one after the other from x on; each takes size cells. -/
def RowAt {α : Type} (w : World) (x : Option Addr) (size : Nat) (f : α → List Value) (l : List α) : Prop :=
  l = [] ∨ ∃ b o, x = some ⟨b, o, none⟩ ∧ ∀ i a, l[i]? = some a → w.rangeAt b (o + i * size) (f a)

section
variable {α : Type} {w w' : World} {x : Option Addr} {size : Nat} {f : α → List Value} {l : List α}
theorem rangeAt_below {b o : Nat} {cs : List Value} (h : w.rangeAt b o cs) (hb : Below w.heap.size w w') : w'.rangeAt b o cs := fun j v hj => by
  have h1 := h j v hj
  exact (hb.cell (World.block_lt_of_cell? w _ h1)).trans h1
theorem RowAt.below (h : RowAt w x size f l) (hb : Below w.heap.size w w') : RowAt w' x size f l := by
  rcases h with h | ⟨b, o, hx, h⟩
  · exact .inl h
  · exact .inr ⟨b, o, hx, fun i a hi => rangeAt_below (h i a hi) hb⟩
theorem RowAt.own {L : List (Nat × List Value)} (h : RowAt w x size f l) (hS : Own [] w L w') : RowAt w' x size f l := h.below hS.below
theorem RowAt.get (h : RowAt w x size f l) {k : Nat} {a : α} (hk : l[k]? = some a) : ∃ b o, x = some ⟨b, o, none⟩ ∧ w.rangeAt b (o + k * size) (f a) := by
  rcases h with rfl | ⟨b, o, hx, h⟩
  · simp at hk
  · exact ⟨b, o, hx, h k a hk⟩
/-- In a block that is known whole. -/
theorem RowAt.of_has {b : Nat} {junk : List Value} (hf : ∀ a ∈ l, (f a).length = size) (h : Has w b (l.flatMap f ++ junk)) : RowAt w (some ⟨b, 0, none⟩) size f l := by
  refine .inr ⟨b, 0, rfl, fun i a hi j v hj => ?_⟩
  rw [h.cell, Nat.zero_add]
  have key : ∀ (l : List α) (i : Nat), (∀ a ∈ l, (f a).length = size) → l[i]? = some a → (l.flatMap f ++ junk)[i * size + j]? = some v := by
    intro l
    induction l with
    | nil => intro i _ hi; simp at hi
    | cons y l ih =>
      intro i hf hi
      have hy := hf y (by simp)
      cases i with
      | zero =>
        simp at hi
        subst hi
        have hjl : j < (f y).length := (List.getElem?_eq_some_iff.1 hj).1
        rw [List.flatMap_cons, List.append_assoc, List.getElem?_append_left (by omega)]
        simpa using hj
      | succ i =>
        rw [List.flatMap_cons, List.append_assoc, List.getElem?_append_right (by rw [hy, Nat.succ_mul]; omega), hy, show (i + 1) * size + j - size = i * size + j by rw [Nat.succ_mul]; omega]
        exact ih i (fun a ha => hf a (by simp [ha])) (by simpa using hi)
  exact key l i hf hi
theorem RowAt.flat (h : RowAt w x size f l) (hf : ∀ a ∈ l, (f a).length = size) (hl : l ≠ []) : ∃ b o, x = some ⟨b, o, none⟩ ∧ w.rangeAt b o (l.flatMap f) := by
  rcases h with h | ⟨b, o, hx, h⟩
  · exact absurd h hl
  · refine ⟨b, o, hx, ?_⟩
    have key : ∀ (l : List α) (o : Nat), (∀ a ∈ l, (f a).length = size) → (∀ i a, l[i]? = some a → w.rangeAt b (o + i * size) (f a)) → w.rangeAt b o (l.flatMap f) := by
      intro l
      induction l with
      | nil => intro o _ _ j v hj; simp at hj
      | cons y l ih =>
        intro o hf h j v hj
        have hy := hf y (by simp)
        rw [List.flatMap_cons] at hj
        by_cases hlt : j < (f y).length
        · rw [List.getElem?_append_left hlt] at hj
          simpa using h 0 y rfl j v hj
        · rw [List.getElem?_append_right (by omega), hy] at hj
          have := ih (o + size) (fun a ha => hf a (by simp [ha])) (fun i a hi => by
            have := h (i + 1) a (by simpa using hi)
            rwa [Nat.succ_mul, show o + (i * size + size) = o + size + i * size by omega] at this) _ _ hj
          rwa [show o + size + (j - size) = o + j by omega] at this
    exact key l o hf h
end

theorem flat_len {α : Type} {f : α → List Value} {size : Nat} (hf : ∀ a, (f a).length = size) (l : List α) : (l.flatMap f).length = l.length * size := by
  induction l with
  | nil => simp
  | cons a l ih => rw [List.flatMap_cons, List.length_append, hf, ih, List.length_cons, Nat.succ_mul]; omega

/-- A part of an assembly. -/
structure Prt where
  name : ByteArray
  ext : Bool
def Prt.cells (p : Prt) : List Value := [.string p.name, .bool p.ext]
def strCells (s : ByteArray) : List Value := [.string s]

/-- A stretch, and where its lists lie. -/
structure Str where
  name : ByteArray
  sx : Option Addr
  sc : Nat
  sizes : List ByteArray
  px : Option Addr
  pc : Nat
  parts : List Prt
  ov : Int
@[reducible] def Str.cells (s : Str) : List Value := [.string s.name, .slice s.sx s.sizes.length s.sc, .slice s.px s.parts.length s.pc, .int .i64 s.ov]
/-- Its lists lie there. -/
structure StrOk (w : World) (s : Str) : Prop where
  sizes : RowAt w s.sx 1 strCells s.sizes
  parts : RowAt w s.px 2 Prt.cells s.parts
  ov : I64 s.ov
  sizesLen : s.sizes.length ≤ maxLen
  partsLen : s.parts.length ≤ maxLen
  nameLen : s.name.size ≤ maxLen
  sizeLen : ∀ n ∈ s.sizes, n.size ≤ maxLen
  partLen : ∀ p ∈ s.parts, p.name.size ≤ maxLen
theorem StrOk.below {w w' : World} {s : Str} (h : StrOk w s) (hb : Below w.heap.size w w') : StrOk w' s :=
  { h with sizes := h.sizes.below hb, parts := h.parts.below hb }
/-- The same stretch, wherever its lists lie. -/
def Str.Same (s t : Str) : Prop := s.name = t.name ∧ s.sizes = t.sizes ∧ s.parts = t.parts ∧ s.ov = t.ov

@[reducible] def Gly.cells (g : Gly) : List Value := [.string g.name, .int .i64 g.w, .int .i64 g.h, .int .i64 g.d, .int .i64 g.it, .int .i64 g.at_]

/-- A font, and where its lists lie. -/
structure Fnt where
  gx : Option Addr
  gc : Nat
  gs : List Gly
  sx : Option Addr
  sc : Nat
  ss : List Str
  quad : Int
  xheight : Int
  axis : Int
  rule : Int
  num1 : Int
  num2 : Int
  den1 : Int
  den2 : Int
  sup1 : Int
  sup2 : Int
  sup3 : Int
  sub1 : Int
  sub2 : Int
  supdrop : Int
  subdrop : Int
  script : Int
  sscript : Int
  dpercent : Int
  dshort : Int
  acc : Int
@[reducible] def Fnt.prm (F : Fnt) : List Value := [.int .i64 F.quad, .int .i64 F.xheight, .int .i64 F.axis, .int .i64 F.rule, .int .i64 F.num1, .int .i64 F.num2, .int .i64 F.den1, .int .i64 F.den2, .int .i64 F.sup1, .int .i64 F.sup2, .int .i64 F.sup3, .int .i64 F.sub1, .int .i64 F.sub2, .int .i64 F.supdrop, .int .i64 F.subdrop, .int .i64 F.script, .int .i64 F.sscript, .int .i64 F.dpercent, .int .i64 F.dshort, .int .i64 F.acc]
@[reducible] def Fnt.cells (F : Fnt) : List Value := [.slice F.gx F.gs.length F.gc, .slice F.sx F.ss.length F.sc, .int .i64 F.quad, .int .i64 F.xheight, .int .i64 F.axis, .int .i64 F.rule, .int .i64 F.num1, .int .i64 F.num2, .int .i64 F.den1, .int .i64 F.den2, .int .i64 F.sup1, .int .i64 F.sup2, .int .i64 F.sup3, .int .i64 F.sub1, .int .i64 F.sub2, .int .i64 F.supdrop, .int .i64 F.subdrop, .int .i64 F.script, .int .i64 F.sscript, .int .i64 F.dpercent, .int .i64 F.dshort, .int .i64 F.acc]
@[reducible] def Fnt.val (F : Fnt) : Value := .agg #[.slice F.gx F.gs.length F.gc, .slice F.sx F.ss.length F.sc, .int .i64 F.quad, .int .i64 F.xheight, .int .i64 F.axis, .int .i64 F.rule, .int .i64 F.num1, .int .i64 F.num2, .int .i64 F.den1, .int .i64 F.den2, .int .i64 F.sup1, .int .i64 F.sup2, .int .i64 F.sup3, .int .i64 F.sub1, .int .i64 F.sub2, .int .i64 F.supdrop, .int .i64 F.subdrop, .int .i64 F.script, .int .i64 F.sscript, .int .i64 F.dpercent, .int .i64 F.dshort, .int .i64 F.acc]
/-- Its lists lie there. -/
structure FntOk (w : World) (F : Fnt) : Prop where
  glys : RowAt w F.gx 6 Gly.cells F.gs
  strs : RowAt w F.sx 4 Str.cells F.ss
  gok : ∀ g ∈ F.gs, g.wf ∧ g.name.size ≤ maxLen
  sok : ∀ s ∈ F.ss, StrOk w s
  glen : F.gs.length ≤ maxLen
  slen : F.ss.length ≤ maxLen
  gcap : F.gs.length ≤ F.gc ∧ (F.gs ≠ [] → F.gc ≤ maxLen)
  scap : F.ss.length ≤ F.sc ∧ (F.ss ≠ [] → F.sc ≤ maxLen)
  prm : ∀ n, Value.int .i64 n ∈ F.prm → I64 n
theorem FntOk.below {w w' : World} {F : Fnt} (h : FntOk w F) (hb : Below w.heap.size w w') : FntOk w' F :=
  { h with glys := h.glys.below hb, strs := h.strs.below hb, sok := fun s hs => (h.sok s hs).below hb }
theorem FntOk.glysAt {w : World} {F : Fnt} (h : FntOk w F) : GlysAt w (.slice F.gx F.gs.length F.gc) F.gs := by
  rcases h.glys with h1 | ⟨b, o, hx, h1⟩
  · exact .inl ⟨F.gx, F.gc, by rw [h1]; rfl, h1⟩
  · refine .inr ⟨b, o, F.gc, by rw [hx], fun i g hi => ?_⟩
    have h2 := h1 i g hi
    exact ⟨h2 0 _ rfl, h2 1 _ rfl, h2 2 _ rfl, h2 3 _ rfl, h2 4 _ rfl, h2 5 _ rfl⟩

/-- Has a stretch at most 50 sizes and parts? -/
def fewS (s : Str) : Bool := decide (s.sizes.length ≤ 50) && decide (s.parts.length ≤ 50)
/-- Is a font not too large? -/
def fewB (F : Fnt) : Bool := decide (F.gs.length ≤ 500) && decide (F.ss.length ≤ 50) && F.ss.all fewS
theorem fewB_iff {F : Fnt} : fewB F = true ↔ F.gs.length ≤ 500 ∧ F.ss.length ≤ 50 ∧ ∀ s ∈ F.ss, s.sizes.length ≤ 50 ∧ s.parts.length ≤ 50 := by
  simp [fewB, fewS, and_assoc]
theorem fewS_drop {ss : List Str} {k : Nat} {t : Str} (h : ss[k]? = some t) : (ss.drop k).all fewS = (fewS t && (ss.drop (k + 1)).all fewS) := by
  obtain ⟨hk, rfl⟩ := List.getElem?_eq_some_iff.1 h
  rw [List.drop_eq_getElem_cons hk, List.all_cons]

/-- The first stretch with a name. -/
def findS (ss : List Str) (s : ByteArray) : Option Str := ss.find? fun t => t.name.toList == s.toList
theorem findS_drop {ss : List Str} {s : ByteArray} {k : Nat} {t : Str} (h : ss[k]? = some t) :
    findS (ss.drop k) s = if (t.name.toList == s.toList) = true then some t else findS (ss.drop (k + 1)) s := by
  obtain ⟨hk, rfl⟩ := List.getElem?_eq_some_iff.1 h
  unfold findS
  rw [List.drop_eq_getElem_cons hk, List.find?_cons]
  split <;> simp_all
theorem findS_end {ss : List Str} {s : ByteArray} {k : Nat} (h : ss.length ≤ k) : findS (ss.drop k) s = none := by
  rw [List.drop_of_length_le h]; rfl

def nilG : Gly := { name := ⟨#[]⟩, w := 0, h := 0, d := 0, it := 0, at_ := 0 }
def zeroS : Str := { name := ⟨#[]⟩, sx := none, sc := 0, sizes := [], px := none, pc := 0, parts := [], ov := 0 }
theorem findVal_any (r : Option Gly) : findVal r = .tuple #[.agg #[.string (r.getD nilG).name, .int .i64 (r.getD nilG).w, .int .i64 (r.getD nilG).h, .int .i64 (r.getD nilG).d, .int .i64 (r.getD nilG).it, .int .i64 (r.getD nilG).at_], .bool r.isSome] := by
  cases r <;> rfl
theorem zeroS_ok (w : World) : StrOk w zeroS where
  sizes := .inl rfl
  parts := .inl rfl
  ov := by show I64 0; unfold I64; omega
  sizesLen := Nat.zero_le _
  partsLen := Nat.zero_le _
  nameLen := Nat.zero_le _
  sizeLen := by simp [zeroS]
  partLen := by simp [zeroS]

/-- What Stretch gives. -/
def StretchGives (r : Option Str) (w : World) (e : Ending) (w' : World) : Prop :=
  match r with
  | some s => ∃ t : Str, s.Same t ∧ StrOk w' t ∧ e = .returned (.tuple #[.agg #[.string t.name, .slice t.sx t.sizes.length t.sc, .slice t.px t.parts.length t.pc, .int .i64 t.ov], .bool true]) ∧ Below w.heap.size w w'
  | none => e = .returned (.tuple #[.agg #[.string ⟨#[]⟩, .slice none 0 0, .slice none 0 0, .int .i64 0], .bool false]) ∧ Below w.heap.size w w'

/-- The same in one form. -/
def StretchAny (r : Option Str) (w : World) (e : Ending) (w' : World) : Prop :=
  ∃ t : Str, ((r.getD zeroS).Same t ∧ StrOk w' t) ∧ e = .returned (.tuple #[.agg #[.string t.name, .slice t.sx t.sizes.length t.sc, .slice t.px t.parts.length t.pc, .int .i64 t.ov], .bool r.isSome]) ∧ Below w.heap.size w w'
theorem StretchGives.any {r : Option Str} {w w' : World} {e : Ending} (h : StretchGives r w e w') : StretchAny r w e w' := by
  cases r with
  | none => exact ⟨zeroS, ⟨⟨rfl, rfl, rfl, rfl⟩, zeroS_ok w'⟩, h⟩
  | some s =>
    obtain ⟨t, h1, h2, h3, h4⟩ := h
    exact ⟨t, ⟨h1, h2⟩, h3, h4⟩
/-- A call that gives one of some values, with a fact on the world behind it. -/
theorem own_callsE {α : Type} {P : Program} {D : List Nat} {W w : World} {L : List (Nat × List Value)} {f : FuncId} {args : Array Value} {v : α → Value} {A : α → World → Prop} {R : Ending → World → Prop} (hS : Own D W L w)
    (hc : Calls P f args w fun e w' => ∃ x, A x w' ∧ e = .returned (v x) ∧ Below w.heap.size w w') (h : ∀ x w', A x w' → Own D W L w' → R (.returned (v x)) w') : Calls P f args w R :=
  hc.mono fun _ _ hg => by obtain ⟨x, ha, rfl, hb⟩ := hg; exact h x _ ha (hS.step hb)

end Go.Proofs.Ytgknameejoalnaa
