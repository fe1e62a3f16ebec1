/- The map's operations in a walk told by Own. -/
import Derived.Test.YtfmoghkffffmmaaJ08
namespace Go.Proofs.Ytfmoghkffffmmaa
open Go.RowKit

attribute [local irreducible] wpQuiet wpG wpP wpList Code.wp

theorem zt_map : ZeroTy Try.prog 82 [.map none] := ⟨.map none, by kernel_rfl, rfl⟩

theorem quietAt_lookup {P : Program} {o : Oper} {a : Act} {C : World → Prop} {w : World} {t : TypeId} {x i : Operand} {m k r : Value} (ho : o.op = .lookup t x i true) (hx : a.eval x = m) (hi : a.eval i = k) (hrun : (Instr.lookup t m k true).run P w = .ok r w) : o.quietAt P a C w r := by
  unfold Oper.quietAt execOp
  simp only [ho, hx, hi, Sem.run_bind, hrun, Sem.run_pure, Result.andThen_ok, Oper.quietUpon]
  first | done | exact ⟨rfl, rfl⟩ | exact ⟨trivial, trivial⟩ | trivial

section
variable {P : Program} {rest : List Oper} {ops' : Array Oper} {o : Oper} {a : Act} {Q : Exit → Act → World → Prop} {D : List Nat} {W w : World} {L : List (Nat × List Value)}
theorem own_makeMap (hgd : o.guard = none) (t : TypeId) (x : Operand) (ho : o.op = .makeMap t (some x)) {kd : IntKind} {n : Int} (hx : a.eval x = .int kd n) {k e : TypeId} (ht : P.underlying t = some (.map k e)) (hS : Own D W L w)
    (h : ∀ bm w', w.heap.size ≤ bm → MapAt w' bm [] → Own D W L w' → wpList P ops' Q rest (a.put o.dst (.map (some bm))) w') : wpList P ops' Q (o :: rest) a w :=
  wpList_plain hgd fun _ hK => by
    have hrun : (Instr.makeMap t (some (.int kd n))).run P w = .ok (.map (some w.heap.size)) (w.alloc (.map #[] 0)) := by
      simp [Instr.makeMap, run_underlying ht]; rfl
    unfold Oper.wp execOp
    simp only [ho, hx, Option.map_some, Sem.run_bind, hrun, Result.andThen_ok]
    exact hK _ _ (h _ _ (Nat.le_refl _) (MapAt.made w) (hS.alloc _))
theorem own_mapUpdate (hgd : o.guard = none) (t : TypeId) (m x v : Operand) (ho : o.op = .mapUpdate t m x v) {bm : Nat} {g : Gly} {gs : List Gly} (hm : a.eval m = .map (some bm)) (hx : a.eval x = .string g.name) (hv : a.eval v = .int .i64 (g.h + g.d)) {k e : TypeId} (ht : P.underlying t = some (.map k e)) (hk : P.underlying k = some .string)
    (hS : Own [] W [] w) (hMp : MapAt W bm gs) (hn : findG gs g.name = none)
    (h : ∀ w', MapAt w' bm (gs ++ [g]) → (∀ b cs, Has W b cs → Has w' b cs) → (∀ B W0, Below B W0 W → B ≤ bm → Below B W0 w') → wpList P ops' Q rest (a.put o.dst undef) w') : wpList P ops' Q (o :: rest) a w :=
  wpList_plain hgd fun _ hK => by
    have hM := hMp.below hS.below
    obtain ⟨w', hrun, h1, h2, h3, h4, h5, h6⟩ := run_update_names (P := P) ht hk hM g hn
    unfold Oper.wp execOp
    simp only [ho, hm, hx, hv, Sem.run_bind, hrun, Result.andThen_ok]
    refine hK _ _ (h w' h1 (fun b cs hb => ?_) (fun B W0 hB hle => ?_))
    · have hb' := hb.below hS.below
      have hne := hM.ne hb'
      obtain ⟨t', hb'⟩ := hb'
      exact ⟨t', (h6 b hne).trans hb'⟩
    · have h0 := hS.below
      have hBs : B ≤ w.heap.size := Nat.le_trans hle (Nat.le_of_lt hM.lt)
      have hBW : B ≤ W.heap.size := Nat.le_trans hle (Nat.le_of_lt hMp.lt)
      have hb2 := hB.trans (h0.mono hBW)
      exact hb2.trans ⟨h2, h3, h4, by omega, fun k hk => h6 k (by omega)⟩
end
end Go.Proofs.Ytfmoghkffffmmaa
