/- Chapter 35, LimitsApart: the law returns true. -/
import Derived.Test.YtdbcdjiclkmknaaAp5a
import Derived.Test.YtdbcdjiclkmknaaAp5b
namespace Go.Proofs.Ytdbcdjiclkmknaa
open Go.RowKit

attribute [local irreducible] wpQuiet wpG wpP wpK wpList Code.wp Calls

theorem limitsApart_calls (F : Fnt) (l : Int) (c : Bool) (n : Nat) (base : Bx (n + 1)) (subs sups : List (Bx (n + 1))) (cs : List Value) (sx ux : Option Addr) (sc uc : Nat) (w : World) (hF : FntOk w F) (hr : Rep w (n + 1) base cs) (hs : RepL w (n + 1) sx subs) (hu : RepL w (n + 1) ux sups) (b1 : subs.length ≤ 1048576) (b2 : sups.length ≤ 1048576) : Calls Try.prog 7 #[.agg (caseS F l c cs (.slice sx subs.length sc) (.slice ux sups.length uc)).toArray] w (Gives (.bool true) w) := by
  by_cases h : MadeOk5 F l n base subs sups
  · have h1 := h.2.1
    have h2 := h.2.2.1
    rcases subs with _ | ⟨sb, _ | ⟨x, subs⟩⟩
    · rcases sups with _ | ⟨sp, _ | ⟨y, sups⟩⟩
      · exact limitsApart_00 F l c n base cs sx ux sc uc w hF hr hs hu b1 b2 h
      · exact limitsApart_01 F l c n base sp cs sx ux sc uc w hF hr hs hu b1 b2 h
      · simp at h2
    · rcases sups with _ | ⟨sp, _ | ⟨y, sups⟩⟩
      · exact limitsApart_10 F l c n base sb cs sx ux sc uc w hF hr hs hu b1 b2 h
      · exact limitsApart_11 F l c n base sb sp cs sx ux sc uc w hF hr hs hu b1 b2 h
      · simp at h2
    · simp at h1
  · exact limitsApart_bad F l c n base subs sups cs sx ux sc uc w hF hr hs hu b1 b2 h

end Go.Proofs.Ytdbcdjiclkmknaa
