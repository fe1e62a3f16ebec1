/- What a slice of the call's own holds. -/
import Derived.Test.YtgknameejoalnaaApn
import Derived.Test.YtgknameejoalnaaFnt
namespace Go.Proofs.Ytgknameejoalnaa
open Go.RowKit

/-- What a slice of the call's own holds, RowAt tells. -/
theorem Sl.rowAt {D : List Nat} {W w : World} {L : List (Nat × List Value)} {α : Type} {size n : Nat} {v : Value} {f : α → List Value} {l : List α} {X : List (Nat × List Value)} (hS : Own D W L w) (hm : ∀ x ∈ X, x ∈ L) (h : Sl size n v (l.flatMap f) X) (hf : ∀ a, (f a).length = size) (h0 : 0 < size) : ∃ y c, v = .slice y l.length c ∧ RowAt w y size f l ∧ l.length ≤ c ∧ c ≤ maxLen := by
  obtain ⟨hl, h⟩ := h
  have hn : n = l.length := by
    rw [flat_len hf] at hl
    exact (Nat.eq_of_mul_eq_mul_right h0 hl).symm
  subst hn
  rcases h with ⟨y, _, rfl, h, rfl⟩ | ⟨b, c, junk, rfl, h1, h2, h3, rfl⟩
  · exact ⟨y, 0, by rw [h], .inl (List.eq_nil_of_length_eq_zero h), by omega, by simp [maxLen]⟩
  · exact ⟨_, c, rfl, RowAt.of_has (fun a _ => hf a) (hS.has (b, l.flatMap f ++ junk) (hm _ (by simp))), h1, h2⟩
end Go.Proofs.Ytgknameejoalnaa
