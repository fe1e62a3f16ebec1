/- A drawn region with one new variable, its world told by Own. -/
import Derived.Test.YtgknameejoalnaaSeg
import Derived.Test.YtgknameejoalnaaFlo
namespace Go.Proofs.Ytgknameejoalnaa
open Go.RowKit

theorem givesAt_row {P : Program} {o : Oper} {a : Act} {w : World} {ty : TypeId} {x : Operand} {b : Nat} {cs : List Value} (ho : o.op = .load ty x) (hx : a.eval x = .pointer (some ⟨b, 0, none⟩)) (h : Has w b cs) (T : RowTy P ty cs.length) : givesAt P o a w (.agg cs.toArray) := by
  obtain ⟨t, hg⟩ := h
  obtain ⟨d, hu, hd⟩ := T.agg
  unfold givesAt execOp
  simp only [ho, hx, Instr.loadAt, Instr.sureAddr, Sem.run_bind, Sem.run_pure, Result.andThen_ok, run_loadVar_row (P := P) w b t ty cs.toArray (0, 0) d hg hu (by cases d <;> first | rfl | cases hd) (by simpa using T.size), givesUpon]
  first | done | exact ⟨rfl, rfl⟩ | exact ⟨trivial, trivial⟩ | trivial
theorem givesAt_cell {P : Program} {o : Oper} {a : Act} {w : World} {ty : TypeId} {x : Operand} {p : Addr} {v : Value} (ho : o.op = .load ty x) (hx : a.eval x = .pointer (some p)) (h : w.cell? p = some v) (T : OneTy P ty) : givesAt P o a w v := by
  unfold givesAt execOp
  simp only [ho, hx, Sem.run_bind, run_loadAt_one T w p h, Sem.run_pure, Result.andThen_ok, givesUpon]
  first | done | exact ⟨rfl, rfl⟩ | exact ⟨trivial, trivial⟩ | trivial
theorem givesAt_one {P : Program} {o : Oper} {a : Act} {w : World} {ty : TypeId} {x : Operand} {b i : Nat} {cs : List Value} {v : Value} (ho : o.op = .load ty x) (hx : a.eval x = .pointer (some ⟨b, i, none⟩)) (h : Has w b cs) (hi : cs[i]? = some v) (T : OneTy P ty) : givesAt P o a w v :=
  givesAt_cell ho hx ((h.cell i).trans hi) T
theorem givesAt_mid {P : Program} {o : Oper} {a : Act} {w : World} {ty : TypeId} {x : Operand} {b i : Nat} {cs : List Value} (ho : o.op = .load ty x) (hx : a.eval x = .pointer (some ⟨b, i, none⟩)) (h : w.rangeAt b i cs) (T : RowTy P ty cs.length) : givesAt P o a w (.agg cs.toArray) := by
  obtain ⟨d, hu, hd⟩ := T.agg
  unfold givesAt execOp
  simp only [ho, hx, Sem.run_bind, run_loadAt_mid (P := P) w b i ty cs d h hu hd T.size, Sem.run_pure, Result.andThen_ok, givesUpon]
  first | done | exact ⟨rfl, rfl⟩ | exact ⟨trivial, trivial⟩ | trivial

theorem own_float {P : Program} {id : Nat} {Q : Exit → Act → World → Prop} {a : Act} {l : List Oper} {om : Oper} {D : List Nat} {W w : World} {L : List (Nat × List Value)} (hS : Own D W L w) (n m : Nat) (z : List Value) (t : TypeId) (hm : P.follows .mixedOrders = true) (hB : floatB .any l.toArray n m = true)
    (hom : l[m]? = some om) (hQ : ∀ c a (d : Tmp) v w, Q (.panic c) (Act.put a (some d) v) w → Q (.panic c) a w)
    (hal : ∀ (a : Act) (w : World), (execOp a.eval om).run P w = .ok (.value (.pointer (some ⟨w.heap.size, 0, none⟩))) (w.alloc (.cells z.toArray t)))
    (h : ∀ C : World → Prop, (∀ w', C w' → Own D W L w') → wpG P l.toArray C (fun a1 => wpP P l.toArray (fun a2 => ∀ b w', Own D W ((b, z) :: L) w' → wpList P l.toArray Q (l.drop (m + 1)) (a2.put om.dst (.pointer (some ⟨b, 0, none⟩))) w') ((l.take m).drop n) a1) (l.take n) a) :
    (Code.region id l.toArray true).wp P Q a w := by
  have wpP_mono : ∀ (l' : List Oper) (R R' : Act → Prop) (a : Act), (∀ a, R a → R' a) → wpP P l.toArray R l' a → wpP P l.toArray R' l' a := by
    intro l'
    induction l' with
    | nil => intro R R' a hR h; exact hR a h
    | cons o l' ih => intro R R' a hR ⟨v, h1, h2⟩; exact ⟨v, h1, ih R R' _ hR h2⟩
  have wpG_mono : ∀ (C : World → Prop) (l' : List Oper) (R R' : Act → Prop) (a : Act), (∀ a, R a → R' a) → wpG P l.toArray C R l' a → wpG P l.toArray C R' l' a := by
    intro C l'
    induction l' with
    | nil => intro R R' a hR h; exact hR a h
    | cons o l' ih => intro R R' a hR ⟨v, h1, h2⟩; exact ⟨v, h1, ih R R' _ hR h2⟩
  refine wp_region_float [] n m (.cells z.toArray t) hm hB hom hQ hal (by simp) fun C hC => ?_
  refine wpG_mono C _ _ _ _ (fun a1 h1 => ?_) (h C fun w' hw' => hS.step (hC.below w' hw'))
  refine wpP_mono _ _ _ _ (fun a2 h2 b w' hw' hb hO => ?_) h1
  exact h2 b w' (hS.add (hC.below w' hw') ⟨t, hO⟩ hb)

end Go.Proofs.Ytgknameejoalnaa
