/- append onto nil: a copy of a slice. -/
import Derived.Test.YtgknameejoalnaaOwn
import Derived.Laws.Append
import Derived.Laws.OwnMore
namespace Go.Proofs.Ytgknameejoalnaa
open Go.RowKit

/-- t is the type of slices of e; an element has size cells and bytes bytes. -/
structure ElTy (P : Program) (t e : TypeId) (size bytes : Nat) : Prop where
  und : P.underlying t = some (.slice e)
  inf : ∃ i z, P.info? e = some i ∧ i.zero = some z ∧ i.size = size ∧ i.bytes = bytes ∧ z.cells.size = size
theorem ElTy.mk' {P : Program} {t e : TypeId} {size bytes : Nat} (z : Value) (hu : P.underlying t = some (.slice e)) (h : (P.info? e).map (fun i => (i.zero, i.size, i.bytes)) = some (some z, size, bytes)) (hz : z.cells.size = size) : ElTy P t e size bytes := by
  refine ⟨hu, ?_⟩
  cases hq : P.info? e with
  | none => simp [hq] at h
  | some i =>
    simp [hq] at h
    exact ⟨i, z, rfl, h.1, h.2.1, h.2.2, hz⟩

section
variable {P : Program} {rest : List Oper} {ops' : Array Oper} {o : Oper} {a : Act} {Q : Exit → Act → World → Prop} {D : List Nat} {W w : World} {L : List (Nat × List Value)}

theorem own_append_nil (hgd : o.guard = none) (s x : Operand) (t : TypeId) (ho : o.op = .call { callee := .builtin .append, args := #[s, x], argTypes := #[t, t] }) (hs : a.eval s = .slice none 0 0)
    {b f n c : Nat} (hx : a.eval x = .slice (some ⟨b, f, none⟩) n c) (hS : Own D W L w) {xs : List Value} (hr : W.rangeAt b f xs) (hd : b ∉ D) {e : TypeId} {size bytes : Nat} (T : ElTy P t e size bytes) (hl : xs.length = n * size) (h0 : 0 < n) (hn1 : n ≤ 140737488355328) (hn2 : n * bytes ≤ 140737488355328)
    (h : ∀ b' c' junk w', Own D W ((b', xs ++ junk) :: L) w' → n ≤ c' → wpList P ops' Q rest (a.put o.dst (.slice (some ⟨b', 0, none⟩) n c')) w') : wpList P ops' Q (o :: rest) a w := by
  obtain ⟨i, z, hi, hz, hsz, hby, hzz⟩ := T.inf
  subst hsz hby
  have hrun := run_append_nil (P := P) w t o.type e i z T.und hi hz ⟨b, f, none⟩ n c xs hl (fun j v hv => by rw [Addr.add_mid]; exact hS.cell hd (hr j v hv)) h0 (by omega) (by omega)
  have hge : n ≤ grownCap w n 0 e := by
    unfold grownCap
    simp [Question.cut]
  refine wpList_plain hgd fun K hK => ?_
  unfold Oper.wp execOp
  simp only [ho, resolve, invoke, builtin, Sem.run_bind, Sem.run_pure, Result.andThen_ok, List.map_toArray, List.map_cons, List.map_nil, hs, hx, hrun]
  refine hK _ _ (h _ _ (Builtin.zeroCells z.cells (grownCap w n 0 e - n)).toList _ ?_ hge)
  have := hS.drew.new (xs ++ (Builtin.zeroCells z.cells (grownCap w n 0 e - n)).toList) e
  rw [show (xs ++ (Builtin.zeroCells z.cells (grownCap w n 0 e - n)).toList).toArray = xs.toArray ++ Builtin.zeroCells z.cells (grownCap w n 0 e - n) by rw [← Array.toList_inj]; simp] at this
  exact this
theorem own_append_nil0 (hgd : o.guard = none) (s x : Operand) (t : TypeId) (ho : o.op = .call { callee := .builtin .append, args := #[s, x], argTypes := #[t, t] }) (hs : a.eval s = .slice none 0 0)
    {y : Option Addr} {c : Nat} (hx : a.eval x = .slice y 0 c) {e : TypeId} {size bytes : Nat} (T : ElTy P t e size bytes) (h : wpList P ops' Q rest (a.put o.dst (.slice none 0 0)) w) : wpList P ops' Q (o :: rest) a w := by
  obtain ⟨i, z, hi, hz, hsz, hby, hzz⟩ := T.inf
  have hrun : (Builtin.append_ #[t, t] o.type #[.slice none 0 0, .slice y 0 c]).run P w = .ok (.slice none 0 0) w := by
    cases y with
    | none => simp [Builtin.append_, run_underlying T.und, sizeOf, typeInfo, hi, Builtin.lenOf, Builtin.firstCells]
    | some ad => simp [Builtin.append_, run_underlying T.und, sizeOf, typeInfo, hi, Builtin.lenOf, Builtin.firstCells, loadCells, loadCellsFrom]
  refine wpList_plain hgd fun K hK => ?_
  unfold Oper.wp execOp
  simp only [ho, resolve, invoke, builtin, Sem.run_bind, Sem.run_pure, Result.andThen_ok, List.map_toArray, List.map_cons, List.map_nil, hs, hx, hrun]
  exact hK _ _ h
end
end Go.Proofs.Ytgknameejoalnaa
