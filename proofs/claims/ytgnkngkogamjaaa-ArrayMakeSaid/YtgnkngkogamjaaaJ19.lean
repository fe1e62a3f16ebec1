/- What calls give lies away from the caller's own blocks. -/
import Derived.Test.YtgnkngkogamjaaaJ18
namespace Go.Proofs.Ytgnkngkogamjaaa
open Go.RowKit

attribute [local irreducible] wpQuiet wpG wpP wpK wpList Code.wp Calls

/-- What lies where P says is there and stays, where D alone may turn; it is where R says, or not below B; what lies below B stays, too. -/
structure Safe (R : Nat → Prop) (B : Nat) (P : Nat → Prop) (D : List Nat) (W : World) : Prop where
  off : ∀ k, P k → k < W.heap.size ∧ k ∉ D
  low : ∀ k, P k → R k ∨ B ≤ k
  size : B ≤ W.heap.size
  old : ∀ k, k < B → k ∉ D

section
variable {R P : Nat → Prop} {B : Nat} {D : List Nat} {W w w1 w3 : World} {L K : List (Nat × List Value)} {n : Nat} {b : Bx n} {cs : List Value}

theorem Safe.turn (hs : Safe R B P D W) (hr : RepP P W n b cs) (hS : Own D W L w) : RepP P w n b cs := repP_turn hr hS (fun k hk => (hs.off k hk).2)
theorem Safe.ends (hs : Safe R B P D W) (hr : RepP P W n b cs) (hS : Own D W L w) : RepP (fun k => R k ∨ B ≤ k) w n b cs := repP_mono (hs.turn hr hS) hs.low
theorem Safe.range (hs : Safe R B P D W) (hS : Own D W L w) {k o : Nat} {xs : List Value} (hk : k < B) (h : W.rangeAt k o xs) : w.rangeAt k o xs := hS.range (hs.old k hk) h
end

/-- The cells are those of some boxes, one behind the other. -/
def AllP (P : Nat → Prop) (w : World) (n : Nat) : List (Bx n) → List Value → Prop
  | [], xs => xs = []
  | b :: bs, xs => ∃ c rest, xs = c ++ rest ∧ RepP P w n b c ∧ AllP P w n bs rest
theorem allP_row {P : Nat → Prop} {w : World} {n : Nat} : ∀ (kids : List (Bx n)) (xs : List Value), AllP P w n kids xs → ∃ l : List { c : List Value // c.length = 11 }, l.flatMap Subtype.val = xs ∧ l.length = kids.length ∧ ∀ (i : Nat) (c : { c : List Value // c.length = 11 }) (b : Bx n), l[i]? = some c → kids[i]? = some b → RepP P w n b c.1
  | [], xs, h => ⟨[], by obtain rfl : xs = [] := h; rfl, rfl, fun i c b hc => by simp at hc⟩
  | k :: ks, xs, h => by
    obtain ⟨c, rest, rfl, hr, h2⟩ := h
    obtain ⟨l, e1, e2, e3⟩ := allP_row ks rest h2
    refine ⟨⟨c, hr.len⟩ :: l, by rw [List.flatMap_cons, e1], by simp [e2], fun i c' b hc hb => ?_⟩
    cases i with
    | zero =>
      simp only [List.getElem?_cons_zero, Option.some.injEq] at hc hb
      subst hc hb
      exact hr
    | succ i => exact e3 i c' b (by simpa using hc) (by simpa using hb)
/-- .. in a block that is known whole. -/
theorem has_kids {P : Nat → Prop} {w : World} {k n : Nat} {kids : List (Bx n)} {xs : List Value} (h : Has w k xs) (ha : AllP P w n kids xs) : RepLP P w n (some ⟨k, 0, none⟩) kids := by
  obtain ⟨l, rfl, e2, e3⟩ := allP_row kids xs ha
  have hrow : RowAt w (some ⟨k, 0, none⟩) 11 Subtype.val l := RowAt.of_has (junk := []) (fun a _ => a.2) (by simpa using h)
  intro i kid hi
  have hlt : i < l.length := by rw [e2]; exact (List.getElem?_eq_some_iff.1 hi).1
  obtain ⟨k, o, hx, hrg⟩ := hrow.get (List.getElem?_eq_getElem hlt)
  exact ⟨k, o, _, hx, hrg, e3 i _ kid (List.getElem?_eq_getElem hlt) hi⟩

end Go.Proofs.Ytgnkngkogamjaaa
