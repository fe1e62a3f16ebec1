/- Chapter 34, ScriptGrows: the law returns true. -/
import Derived.Test.YtgpabckipmhobaaW4a
import Derived.Test.YtgpabckipmhobaaW4b
import Derived.Test.YtgpabckipmhobaaW4c
namespace Go.Proofs.Ytgpabckipmhobaa
open Go.RowKit

attribute [local irreducible] wpQuiet wpG wpP wpK wpList Code.wp Calls

theorem scriptGrows_calls (F : Fnt) (l : Int) (c : Bool) (n : Nat) (base : Bx (n + 1)) (subs sups : List (Bx (n + 1))) (cs : List Value) (sx ux : Option Addr) (sc uc : Nat) (z : Int) (w : World) (hF : FntOk w F) (hr : Rep w (n + 1) base cs) (hs : RepL w (n + 1) sx subs) (hu : RepL w (n + 1) ux sups) (b1 : subs.length ≤ 1048576) (b2 : sups.length ≤ 1048576) (hz : 0 ≤ z ∧ z ≤ 65535) : Calls Try.prog 8 #[.agg (caseS F l c cs (.slice sx subs.length sc) (.slice ux sups.length uc)).toArray, .int .u16 z] w (Gives (.bool true) w) := by
  cases hi : innerS (n + 1) base with
  | some g =>
    by_cases h : MadeOkS F l c n base subs sups
    · exact scriptGrows_simple F l c n base subs sups cs sx ux sc uc w hF hr hs hu b1 b2 z g hi h
    · exact scriptGrows_bad1 F l c n base subs sups cs sx ux sc uc w hF hr hs hu b1 b2 z g hi h
  | none =>
    by_cases h : MadeOkS F l c n base subs sups
    · have h1 := h.2.1
      have h2 := h.2.2.1
      rcases subs with _ | ⟨sb, _ | ⟨x, subs⟩⟩
      · rcases sups with _ | ⟨sp, _ | ⟨y, sups⟩⟩
        · exact scriptGrows_00 F l c n base cs sx ux sc uc w hF hr hs hu b1 b2 z hz hi h
        · exact scriptGrows_01 F l c n base sp cs sx ux sc uc w hF hr hs hu b1 b2 z hz hi h
        · simp at h2
      · rcases sups with _ | ⟨sp, _ | ⟨y, sups⟩⟩
        · exact scriptGrows_10 F l c n base sb cs sx ux sc uc w hF hr hs hu b1 b2 z hz hi h
        · exact scriptGrows_11 F l c n base sb sp cs sx ux sc uc w hF hr hs hu b1 b2 z hz hi h
        · simp at h2
      · simp at h1
    · exact scriptGrows_bad0 F l c n base subs sups cs sx ux sc uc w hF hr hs hu b1 b2 z hi h

end Go.Proofs.Ytgpabckipmhobaa
