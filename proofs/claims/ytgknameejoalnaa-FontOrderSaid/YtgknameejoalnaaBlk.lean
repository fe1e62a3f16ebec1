/- A block known whole, and what becomes of it. -/
import Derived.Test.YtgknameejoalnaaReg
import Derived.Laws.Rows
import Derived.Deep.DeepCutAuto
namespace Go.Proofs.Ytgknameejoalnaa
open Go.RowKit

/-- Block b is just these cells, and none is frozen. -/
def Has (w : World) (b : Nat) (cs : List Value) : Prop := ∃ t, w.heap[b]? = some (.cells cs.toArray t (0, 0))

theorem Has.lt {w : World} {b : Nat} {cs : List Value} (h : Has w b cs) : b < w.heap.size := by
  obtain ⟨t, h⟩ := h
  rcases Nat.lt_or_ge b w.heap.size with hlt | hge
  · exact hlt
  · rw [Array.getElem?_eq_none hge] at h; cases h
theorem Has.cell {w : World} {b : Nat} {cs : List Value} (h : Has w b cs) : ∀ i, w.cell? ⟨b, i, none⟩ = cs[i]? := by
  obtain ⟨t, h⟩ := h
  intro i
  simp [World.cell?, h]
theorem Has.frozen {w : World} {b : Nat} {cs : List Value} (h : Has w b cs) : ∀ i, w.frozen? ⟨b, i, none⟩ = false := by
  obtain ⟨t, h⟩ := h
  intro i
  simp [World.frozen?, h]
theorem Has.new (w : World) (cs : List Value) (t : TypeId) : Has (w.alloc (.cells cs.toArray t)) w.heap.size cs := ⟨t, heap_alloc_new w _⟩
theorem Has.new' {w : World} {b : Nat} (cs : List Value) (t : TypeId) (hb : b = w.heap.size) : Has (w.alloc (.cells cs.toArray t)) b cs := by subst hb; exact Has.new w cs t
theorem Has.drew {w : World} {b : Nat} {cs : List Value} (h : Has w b cs) : Has w.drew b cs := h
theorem Has.drewN {w : World} {b : Nat} {cs : List Value} (h : Has w b cs) (n : Nat) : Has (w.drewN n) b cs := h
theorem Has.alloc {w : World} {b : Nat} {cs : List Value} (h : Has w b cs) (o : Obj) : Has (w.alloc o) b cs := by
  obtain ⟨t, h'⟩ := id h
  exact ⟨t, (Below.heap_alloc w o b h.lt).trans h'⟩
theorem Has.set_ {w : World} {b : Nat} {cs : List Value} (h : Has w b cs) (i : Nat) (u : Value) : Has (w.setCell ⟨b, i, none⟩ u) b (cs.set i u) := by
  obtain ⟨t, h⟩ := h
  refine ⟨t, ?_⟩
  simp [World.setCell, Array.getElem?_modify, h]
theorem Has.far {w : World} {b : Nat} {cs : List Value} (h : Has w b cs) {p : Addr} (hp : b ≠ p.block) (u : Value) : Has (w.setCell p u) b cs := by
  obtain ⟨t, h⟩ := h
  exact ⟨t, (Below.heap_setCell w p u b hp).trans h⟩
theorem Has.below {w w' : World} {b : Nat} {cs : List Value} (h : Has w b cs) (hb : Below w.heap.size w w') : Has w' b cs := by
  obtain ⟨t, h'⟩ := id h
  exact ⟨t, (hb.block b h.lt).trans h'⟩
theorem Has.belowB {w w' : World} {b B : Nat} {cs : List Value} (h : Has w b cs) (hb : Below B w w') (hlt : b < B) : Has w' b cs := by
  obtain ⟨t, h'⟩ := id h
  exact ⟨t, (hb.block b hlt).trans h'⟩
/-- Two blocks that hold different cells are two blocks. -/
theorem Has.ne {w : World} {b b' : Nat} {cs cs' : List Value} (h : Has w b cs) (h' : Has w b' cs') (hne : cs ≠ cs') : b ≠ b' := by
  rintro rfl
  obtain ⟨t, h⟩ := h
  obtain ⟨t', h'⟩ := h'
  rw [h] at h'
  injection h' with h'
  injection h' with h1
  exact hne (by simpa using h1)

/-- The world behind a step is forgotten but for what S says of it. -/
theorem wp_gen {P : Program} {c : Code} {Q : Exit → Act → World → Prop} {a : Act} {w : World} (S : World → Prop) (h : S w) (k : ∀ w', S w' → c.wp P Q a w') : c.wp P Q a w := k w h
theorem wpList_gen {P : Program} {ops : Array Oper} {l : List Oper} {Q : Exit → Act → World → Prop} {a : Act} {w : World} (S : World → Prop) (h : S w) (k : ∀ w', S w' → wpList P ops Q l a w') : wpList P ops Q l a w := k w h

end Go.Proofs.Ytgknameejoalnaa
