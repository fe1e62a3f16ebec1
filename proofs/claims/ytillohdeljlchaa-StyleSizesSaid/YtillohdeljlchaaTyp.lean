/- The types of fonts: how many cells they have. -/
import Derived.Test.YtillohdeljlchaaOwn
import Derived.Test.YtillohdeljlchaaFind
namespace Go.Proofs.Ytillohdeljlchaa
open Go.RowKit

theorem rt_font : RowTy Try.prog 39 22 := ⟨⟨_, Try.underlying39, rfl⟩, by kernel_rfl⟩
theorem rt_glyph : RowTy Try.prog 61 6 := ⟨⟨_, Try.underlying61, rfl⟩, by kernel_rfl⟩
theorem ot_int : OneTy Try.prog 3 := ⟨⟨_, Try.underlying3, rfl⟩, by kernel_rfl⟩
theorem ot_string : OneTy Try.prog 9 := ⟨⟨_, Try.underlying9, rfl⟩, by kernel_rfl⟩
theorem zt_glyph : ZeroTy Try.prog 61 [.string ⟨#[]⟩, .int .i64 0, .int .i64 0, .int .i64 0, .int .i64 0, .int .i64 0] := ⟨.agg #[.string ⟨#[]⟩, .int .i64 0, .int .i64 0, .int .i64 0, .int .i64 0, .int .i64 0], by kernel_rfl, rfl⟩

end Go.Proofs.Ytillohdeljlchaa
