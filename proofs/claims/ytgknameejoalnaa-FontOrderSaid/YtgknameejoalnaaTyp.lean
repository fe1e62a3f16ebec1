/- The types of fonts: how many cells they have. -/
import Derived.Test.YtgknameejoalnaaOwn
import Derived.Test.YtgknameejoalnaaFind
namespace Go.Proofs.Ytgknameejoalnaa
open Go.RowKit

theorem rt_font : RowTy Try.prog 38 22 := ⟨⟨_, Try.underlying38, rfl⟩, by kernel_rfl⟩
theorem rt_glyph : RowTy Try.prog 23 6 := ⟨⟨_, Try.underlying23, rfl⟩, by kernel_rfl⟩
theorem ot_int : OneTy Try.prog 3 := ⟨⟨_, Try.underlying3, rfl⟩, by kernel_rfl⟩
theorem ot_string : OneTy Try.prog 9 := ⟨⟨_, Try.underlying9, rfl⟩, by kernel_rfl⟩
theorem zt_glyph : ZeroTy Try.prog 23 [.string ⟨#[]⟩, .int .i64 0, .int .i64 0, .int .i64 0, .int .i64 0, .int .i64 0] := ⟨.agg #[.string ⟨#[]⟩, .int .i64 0, .int .i64 0, .int .i64 0, .int .i64 0, .int .i64 0], by kernel_rfl, rfl⟩

end Go.Proofs.Ytgknameejoalnaa
