/- A map of the call's own, from names to heights. -/
import Derived.Test.YtfmoghkffffmmaaJ01
import Derived.Laws.StructEq
import Derived.Maps.Own
namespace Go.Proofs.Ytfmoghkffffmmaa
open Go.RowKit

/-- Block b is a map that holds the heights of these glyphs, whose names differ. -/
def MapAt (w : World) (b : Nat) (gs : List Gly) : Prop :=
  ∃ es clock, w.heap[b]? = some (.map es clock) ∧ es.toList.map (fun e => (e.key, e.val)) = gs.map fun g => (Value.string g.name, Value.int .i64 (g.h + g.d))
/-- The height of the glyph with a name; 0 if there is none. -/
def htOr (gs : List Gly) (s : ByteArray) : Int := match findG gs s with | some g => g.h + g.d | none => 0

theorem MapAt.made (w : World) : MapAt (w.alloc (.map #[] 0)) w.heap.size [] := ⟨#[], 0, heap_alloc_new w _, rfl⟩
theorem MapAt.lt {w : World} {b : Nat} {gs : List Gly} (h : MapAt w b gs) : b < w.heap.size := by
  obtain ⟨es, c, h, _⟩ := h
  exact (Array.getElem?_eq_some_iff.1 h).1
theorem MapAt.below {w w' : World} {b : Nat} {gs : List Gly} (h : MapAt w b gs) (hb : Below w.heap.size w w') : MapAt w' b gs := by
  have hlt := h.lt
  obtain ⟨es, c, h, he⟩ := h
  exact ⟨es, c, (hb.block b hlt).trans h, he⟩
theorem MapAt.ne {w : World} {b b' : Nat} {gs : List Gly} {cs : List Value} (h : MapAt w b gs) (h' : Has w b' cs) : b' ≠ b := by
  rintro rfl
  obtain ⟨es, c, h, _⟩ := h
  obtain ⟨t, h'⟩ := h'
  rw [h] at h'
  cases h'

theorem findNow_names (s : ByteArray) : ∀ (gs : List Gly) (es : List MapEntry) (i : Nat), es.map (fun e => (e.key, e.val)) = (gs.map fun g => (Value.string g.name, Value.int .i64 (g.h + g.d))) →
    ∃ r, Instr.findNow .string (.string s) es i = some r ∧ r.map (·.2) = (findG gs s).map fun g => Value.int .i64 (g.h + g.d) := by
  intro gs
  induction gs with
  | nil =>
    intro es i h
    simp at h
    subst h
    exact ⟨none, rfl, rfl⟩
  | cons g gs ih =>
    intro es i h
    cases es with
    | nil => simp at h
    | cons e es =>
      simp only [List.map_cons, List.cons.injEq, Prod.mk.injEq] at h
      obtain ⟨⟨hk, hv⟩, hr⟩ := h
      unfold Instr.findNow
      rw [hk]
      simp only [Instr.sameNow, beq_toListBytes]
      by_cases hs : (s.toList == g.name.toList) = true
      · rw [hs]
        refine ⟨some (i, e.val), rfl, ?_⟩
        have hs' : (g.name.toList == s.toList) = true := by rw [beq_iff_eq] at hs ⊢; exact hs.symm
        simp [findG, hs', hv]
      · have hs1 : (s.toList == g.name.toList) = false := by simpa using hs
        have hs' : (g.name.toList == s.toList) = false := by
          rw [beq_eq_false_iff_ne] at hs1 ⊢; exact fun h => hs1 h.symm
        rw [hs1]
        obtain ⟨r, h1, h2⟩ := ih es (i + 1) hr
        refine ⟨r, h1, ?_⟩
        rw [h2]
        simp [findG, hs']

section
variable {P : Program} {w : World} {t k e : TypeId}
theorem run_checkKey_string (hk : P.underlying k = some .string) (b : Bool) (s : ByteArray) : (Instr.checkKey b 10000 k (.string s)).run P w = .ok () w := by
  rw [show (10000 : Nat) = 9999 + 1 from rfl]
  unfold Instr.checkKey
  simp [run_underlying hk]
theorem run_lookup_names (ht : P.underlying t = some (.map k e)) (hk : P.underlying k = some .string) (hz : (zeroValue e).run P w = .ok (.int .i64 0) w) {b : Nat} {gs : List Gly} (h : MapAt w b gs) (s : ByteArray) :
    (Instr.lookup t (.map (some b)) (.string s) true).run P w = .ok (.tuple #[.int .i64 (htOr gs s), .bool (findG gs s).isSome]) w := by
  obtain ⟨es, c, hb, he⟩ := h
  obtain ⟨r, h1, h2⟩ := findNow_names s gs es.toList 0 he
  unfold Instr.lookup Instr.findKey
  simp only [Sem.run_bind, run_underlying ht, Result.andThen_ok, MapKept.run_getObj_map hb, run_checkKey_string hk, run_underlying hk, h1, Sem.run_pure]
  cases hf : findG gs s with
  | none =>
    rw [hf] at h2
    cases r with
    | none => simp [hz, htOr, hf]
    | some x => simp at h2
  | some g =>
    rw [hf] at h2
    cases r with
    | none => simp at h2
    | some x =>
      obtain ⟨j, v⟩ := x
      simp at h2
      simp [h2, htOr, hf]
/-- One entry more. -/
theorem run_update_names (ht : P.underlying t = some (.map k e)) (hk : P.underlying k = some .string) {b : Nat} {gs : List Gly} (h : MapAt w b gs) (g : Gly) (hn : findG gs g.name = none) :
    ∃ w', (Instr.mapUpdate t (.map (some b)) (.string g.name) (.int .i64 (g.h + g.d))).run P w = .ok () w' ∧ MapAt w' b (gs ++ [g]) ∧ w'.os = w.os ∧ w'.tape = w.tape ∧ w'.output = w.output ∧ w'.heap.size = w.heap.size ∧ ∀ i, i ≠ b → w'.heap[i]? = w.heap[i]? := by
  obtain ⟨es, c, hb, he⟩ := h
  obtain ⟨r, h1, h2⟩ := findNow_names g.name gs es.toList 0 he
  rw [hn] at h2
  have hr : r = none := by cases r <;> simp_all
  subst hr
  refine ⟨{ w with heap := w.heap.setIfInBounds b (.map (es.push { key := .string g.name, val := .int .i64 (g.h + g.d), born := c }) (c + 1)) }, ?_, ?_, rfl, rfl, rfl, by simp, fun i hi => ?_⟩
  · unfold Instr.mapUpdate Instr.findKey
    simp only [Sem.run_bind, run_underlying ht, Result.andThen_ok, MapKept.run_getObj_map hb, run_checkKey_string hk, run_underlying hk, h1, Sem.run_pure]
    simp [setObj, Sem.run, hb]
  · refine ⟨es.push { key := .string g.name, val := .int .i64 (g.h + g.d), born := c }, c + 1, ?_, ?_⟩
    · show (w.heap.setIfInBounds b _)[b]? = some _
      have hlt : b < w.heap.size := (Array.getElem?_eq_some_iff.1 hb).1
      rw [Array.getElem?_setIfInBounds_self_of_lt hlt]
    · simp [he]
  · show (w.heap.setIfInBounds b _)[i]? = _
    rw [Array.getElem?_setIfInBounds_ne (Ne.symm hi)]
end
end Go.Proofs.Ytfmoghkffffmmaa
