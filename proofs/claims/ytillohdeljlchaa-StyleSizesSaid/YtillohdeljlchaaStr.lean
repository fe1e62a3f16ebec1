/- Stretch, in package font and in its reference. -/
import Derived.Test.YtillohdeljlchaaFnt
import Derived.Test.YtillohdeljlchaaApp
namespace Go.Proofs.Ytillohdeljlchaa
open Go.RowKit

attribute [local irreducible] wpQuiet wpList Code.wp

theorem rt_stretch : RowTy Try.prog 55 4 := ⟨⟨_, Try.underlying55, rfl⟩, by kernel_rfl⟩
theorem zt_stretch : ZeroTy Try.prog 55 [.string ⟨#[]⟩, .slice none 0 0, .slice none 0 0, .int .i64 0] := ⟨.agg #[.string ⟨#[]⟩, .slice none 0 0, .slice none 0 0, .int .i64 0], by kernel_rfl, rfl⟩
theorem rt_part : RowTy Try.prog 70 2 := ⟨⟨_, Try.underlying70, rfl⟩, by kernel_rfl⟩
theorem ot_strings : OneTy Try.prog 52 := ⟨⟨_, Try.underlying52, rfl⟩, by kernel_rfl⟩
theorem ot_parts : OneTy Try.prog 53 := ⟨⟨_, Try.underlying53, rfl⟩, by kernel_rfl⟩
theorem ot_stretches : OneTy Try.prog 35 := ⟨⟨_, Try.underlying35, rfl⟩, by kernel_rfl⟩
theorem ot_glyphs : OneTy Try.prog 34 := ⟨⟨_, Try.underlying34, rfl⟩, by kernel_rfl⟩
theorem el_string : ElTy Try.prog 52 9 1 16 := ElTy.mk' (.string ⟨#[]⟩) Try.underlying52 (by kernel_rfl) rfl
theorem el_part : ElTy Try.prog 53 70 2 24 := ElTy.mk' (.agg #[.string ⟨#[]⟩, .bool false]) Try.underlying53 (by kernel_rfl) rfl

theorem loop_meas {k n : Nat} (h : k < n) : n - (intOf (.int .i64 ((k : Int) + 1))).toNat < n - (intOf (.int .i64 (k : Int))).toNat := by
  simp [intOf]; omega
/-- The loop's round where the name fits: the lists are copied. -/
theorem str_copied {w W : World} {n : ByteArray} {sz : List ByteArray} {ps : List Prt} {ov : Int} {x y : Option Addr} {a b : Nat} {sx px : Option Addr} {sc pc : Nat} {name : ByteArray} {ss : List Str} {e : Ending} (h : Hid (StrOk W { name := n, sx := x, sc := a, sizes := sz, px := y, pc := b, parts := ps, ov := ov })) (hE : Hid (findS ss name = some { name := n, sx := x, sc := a, sizes := sz, px := y, pc := b, parts := ps, ov := ov }))
    (h1 : RowAt w sx 1 strCells sz) (h2 : RowAt w px 2 Prt.cells ps) (hb : Below W.heap.size W w) (he : e = .returned (.tuple #[.agg #[.string n, .slice sx sz.length sc, .slice px ps.length pc, .int .i64 ov], .bool true])) : StretchGives (findS ss name) W e w := by
  rw [hE.out]
  exact ⟨{ name := n, sx := sx, sc := sc, sizes := sz, px := px, pc := pc, parts := ps, ov := ov }, ⟨rfl, rfl, rfl, rfl⟩, { sizes := h1, parts := h2, ov := h.out.ov, sizesLen := h.out.sizesLen, partsLen := h.out.partsLen, nameLen := h.out.nameLen, sizeLen := h.out.sizeLen, partLen := h.out.partLen }, he, hb⟩





end Go.Proofs.Ytillohdeljlchaa
