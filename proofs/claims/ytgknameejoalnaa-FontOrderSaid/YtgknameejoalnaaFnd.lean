/- Find, of a font. -/
import Derived.Test.YtgknameejoalnaaFnt
namespace Go.Proofs.Ytgknameejoalnaa
open Go.RowKit

theorem font_find (F : Fnt) (s : ByteArray) (w : World) (h : FntOk w F) (hn : F.gs.length ≤ 500) : Calls Try.prog 15 #[F.val, .string s] w (Gives (.tuple #[.agg #[.string ((findG F.gs s).getD nilG).name, .int .i64 ((findG F.gs s).getD nilG).w, .int .i64 ((findG F.gs s).getD nilG).h, .int .i64 ((findG F.gs s).getD nilG).d, .int .i64 ((findG F.gs s).getD nilG).it, .int .i64 ((findG F.gs s).getD nilG).at_], .bool (findG F.gs s).isSome]) w) := by
  rw [← findVal_any]
  exact font_Find_calls _ _ _ _ _ _ _ _ _ _ _ _ _ _ _ _ _ _ _ _ _ _ F.gs s w (by omega) h.glysAt

theorem ref05_find (F : Fnt) (s : ByteArray) (w : World) (h : FntOk w F) (hn : F.gs.length ≤ 500) : Calls Try.prog 16 #[F.val, .string s] w (Gives (.tuple #[.agg #[.string ((findG F.gs s).getD nilG).name, .int .i64 ((findG F.gs s).getD nilG).w, .int .i64 ((findG F.gs s).getD nilG).h, .int .i64 ((findG F.gs s).getD nilG).d, .int .i64 ((findG F.gs s).getD nilG).it, .int .i64 ((findG F.gs s).getD nilG).at_], .bool (findG F.gs s).isSome]) w) := by
  rw [← findVal_any]
  exact ref05_Find_calls _ _ _ _ _ _ _ _ _ _ _ _ _ _ _ _ _ _ _ _ _ _ F.gs s w (by omega) h.glysAt

end Go.Proofs.Ytgknameejoalnaa
