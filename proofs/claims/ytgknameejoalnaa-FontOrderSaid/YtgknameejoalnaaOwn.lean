/- A walk that knows the world by a list of the call's own blocks. -/
import Derived.Test.YtgknameejoalnaaBlk
import Derived.Test.YtgknameejoalnaaLen
import Derived.Deep.MidRow
namespace Go.Proofs.Ytgknameejoalnaa
open Go.RowKit

/-- The world w behind W: what was there is as it was, but for the blocks of D; each block of the list L holds its cells; these are the call's own (new, or of D), and differ. -/
structure Own (D : List Nat) (W : World) (L : List (Nat × List Value)) (w : World) : Prop where
  os : w.os = W.os
  tape : w.tape = W.tape
  output : w.output = W.output
  size : W.heap.size ≤ w.heap.size
  block : ∀ k, k < W.heap.size → k ∉ D → w.heap[k]? = W.heap[k]?
  has : ∀ x ∈ L, Has w x.1 x.2
  ge : ∀ x ∈ L, x.1 ∈ D ∨ W.heap.size ≤ x.1
  apart : (L.map (·.1)).Nodup

/-- The n-th block of the list. -/
def At (n : Nat) (L : List (Nat × List Value)) (b : Nat) (cs : List Value) : Prop := L[n]? = some (b, cs)
section
variable {x0 x1 x2 x3 x4 x5 x6 x7 : Nat × List Value} {b : Nat} {cs : List Value} {L : List (Nat × List Value)}
theorem at0 : At 0 ((b, cs) :: L) b cs := rfl
theorem at1 : At 1 (x0 :: (b, cs) :: L) b cs := rfl
theorem at2 : At 2 (x0 :: x1 :: (b, cs) :: L) b cs := rfl
theorem at3 : At 3 (x0 :: x1 :: x2 :: (b, cs) :: L) b cs := rfl
theorem at4 : At 4 (x0 :: x1 :: x2 :: x3 :: (b, cs) :: L) b cs := rfl
theorem at5 : At 5 (x0 :: x1 :: x2 :: x3 :: x4 :: (b, cs) :: L) b cs := rfl
theorem at6 : At 6 (x0 :: x1 :: x2 :: x3 :: x4 :: x5 :: (b, cs) :: L) b cs := rfl
theorem at7 : At 7 (x0 :: x1 :: x2 :: x3 :: x4 :: x5 :: x6 :: (b, cs) :: L) b cs := rfl
theorem at8 : At 8 (x0 :: x1 :: x2 :: x3 :: x4 :: x5 :: x6 :: x7 :: (b, cs) :: L) b cs := rfl
end

section
variable {D : List Nat} {W w w' : World} {L : List (Nat × List Value)} {n b : Nat} {cs : List Value}

theorem own_start (W : World) : Own [] W [] W := ⟨rfl, rfl, rfl, Nat.le_refl _, fun _ _ _ => rfl, by simp, by simp, List.nodup_nil⟩
theorem At.mem (h : At n L b cs) : (b, cs) ∈ L := List.mem_of_getElem? h
theorem Own.get (hS : Own D W L w) (h : At n L b cs) : Has w b cs := hS.has _ h.mem
theorem Own.geAt (hS : Own D W L w) (h : At n L b cs) : b ∈ D ∨ W.heap.size ≤ b := hS.ge _ h.mem
theorem Own.below (hS : Own [] W L w) : Below W.heap.size W w := ⟨hS.os, hS.tape, hS.output, hS.size, fun k hk => hS.block k hk (by simp)⟩
theorem Own.belowD (hS : Own D W L w) {W0 : World} (hW : Below W0.heap.size W0 W) (hD : ∀ k ∈ D, W0.heap.size ≤ k) : Below W0.heap.size W0 w :=
  hW.trans ⟨hS.os, hS.tape, hS.output, hS.size, fun k hk => hS.block k (Nat.lt_of_lt_of_le hk hW.size) (fun h => by have := hD k h; omega)⟩
/-- A cell that was there before. -/
theorem Own.cell (hS : Own D W L w) {a : Addr} {v : Value} (hd : a.block ∉ D) (h : W.cell? a = some v) : w.cell? a = some v :=
  (World.cell?_of_block (w := W) (hS.block _ (World.block_lt_of_cell? W a h) hd)).trans h
theorem Own.hasOld (hS : Own D W L w) (hd : b ∉ D) (h : Has W b cs) : Has w b cs := by
  obtain ⟨t, h'⟩ := id h
  exact ⟨t, (hS.block b h.lt hd).trans h'⟩
theorem Own.step (hS : Own D W L w) (hb : Below w.heap.size w w') : Own D W L w' where
  os := hb.os.trans hS.os
  tape := hb.tape.trans hS.tape
  output := hb.output.trans hS.output
  size := Nat.le_trans hS.size hb.size
  block := fun k hk hd => (hb.block k (Nat.lt_of_lt_of_le hk hS.size)).trans (hS.block k hk hd)
  has := fun x hx => (hS.has x hx).below hb
  ge := hS.ge
  apart := hS.apart
theorem Own.drew (hS : Own D W L w) : Own D W L w.drew := hS.step (bself w).drew
theorem Own.drewN (hS : Own D W L w) (n : Nat) : Own D W L (w.drewN n) := hS.step (below_drewN (bself w) n)
theorem Own.alloc (hS : Own D W L w) (o : Obj) : Own D W L (w.alloc o) := hS.step (bnew (bself w) o)
theorem Own.add (hS : Own D W L w) (hb : Below w.heap.size w w') (hh : Has w' b cs) (hg : w.heap.size ≤ b) : Own D W ((b, cs) :: L) w' := by
  have h1 := hS.step hb
  refine ⟨h1.os, h1.tape, h1.output, h1.size, h1.block, fun x hx => ?_, fun x hx => ?_, ?_⟩
  · rcases List.mem_cons.1 hx with rfl | hx
    · exact hh
    · exact h1.has x hx
  · rcases List.mem_cons.1 hx with rfl | hx
    · exact .inr (Nat.le_trans hS.size hg)
    · exact h1.ge x hx
  · refine List.nodup_cons.2 ⟨fun h => ?_, hS.apart⟩
    obtain ⟨x, hx, he⟩ := List.mem_map.1 h
    have := (hS.has x hx).lt
    simp only at he
    omega
theorem Own.new (hS : Own D W L w) (cs : List Value) (t : TypeId) : Own D W ((w.heap.size, cs) :: L) (w.alloc (.cells cs.toArray t)) :=
  hS.add (bnew (bself w) _) (Has.new w cs t) (Nat.le_refl _)
theorem Own.forget (hS : Own D W L w) {L' : List (Nat × List Value)} (h : L'.Sublist L) : Own D W L' w :=
  ⟨hS.os, hS.tape, hS.output, hS.size, hS.block, fun x hx => hS.has x (h.subset hx), fun x hx => hS.ge x (h.subset hx), List.Nodup.sublist (h.map _) hS.apart⟩
/-- What is known now is what was there before. -/
theorem Own.rebase (hS : Own D W L w) : Own (L.map (·.1)) w L w :=
  ⟨rfl, rfl, rfl, Nat.le_refl _, fun _ _ _ => rfl, hS.has, fun _ hx => .inl (List.mem_map_of_mem hx), hS.apart⟩

/-- The list under a name. -/
theorem Own.named (hS : Own D W L w) : ∃ L0, Hid (L0 = L) ∧ Own D W L0 w := ⟨L, rfl, hS⟩

theorem map_set_same {L : List (Nat × List Value)} {n b : Nat} {cs cs' : List Value} (h : At n L b cs) : (L.set n (b, cs')).map (·.1) = L.map (·.1) := by
  unfold At at h
  rw [List.map_set]
  apply List.ext_getElem?
  intro i
  rw [List.getElem?_set]
  split
  · rename_i hi
    subst hi
    simp [h]
    exact (List.getElem?_eq_some_iff.1 h).1
  · rfl

/-- A block of the list has turned, and no other that was there. -/
theorem Own.turn (hS : Own D W L w) (hat : At n L b cs) {cs' : List Value} (ho : w'.os = w.os) (ht : w'.tape = w.tape) (hp : w'.output = w.output) (hz : w.heap.size ≤ w'.heap.size) (hk : ∀ k, k < w.heap.size → k ≠ b → w'.heap[k]? = w.heap[k]?) (hh : Has w' b cs') : Own D W (L.set n (b, cs')) w' := by
  refine ⟨ho.trans hS.os, ht.trans hS.tape, hp.trans hS.output, Nat.le_trans hS.size hz, fun k hlt hd => ?_, fun x hx => ?_, fun x hx => ?_, by rw [map_set_same hat]; exact hS.apart⟩
  · rw [hk k (Nat.lt_of_lt_of_le hlt hS.size) ?_]
    · exact hS.block k hlt hd
    · rintro rfl
      rcases hS.geAt hat with h | h
      · exact hd h
      · omega
  · obtain ⟨i, hi⟩ := List.mem_iff_getElem?.1 hx
    rw [List.getElem?_set] at hi
    split at hi
    · split at hi
      · injection hi with hi; subst hi; exact hh
      · cases hi
    · rename_i hne
      obtain ⟨t, h1⟩ := hS.has x (List.mem_of_getElem? hi)
      refine ⟨t, (hk _ (Has.lt ⟨t, h1⟩) (fun he => ?_)).trans h1⟩
      unfold At at hat
      have h1 : (L.map (·.1))[i]? = some b := by rw [List.getElem?_map, hi]; simp [he]
      have h2 : (L.map (·.1))[n]? = some b := by rw [List.getElem?_map, hat]; rfl
      have := (List.getElem?_inj (List.getElem?_eq_some_iff.1 h2).1 hS.apart).1 (h2.trans h1.symm)
      exact hne this
  · have hx' : x.1 ∈ (L.set n (b, cs')).map (·.1) := List.mem_map_of_mem hx
    rw [map_set_same hat] at hx'
    obtain ⟨y, hy, he⟩ := List.mem_map.1 hx'
    rw [← he]; exact hS.ge y hy
theorem Own.set_ (hS : Own D W L w) (hat : At n L b cs) (i : Nat) (u : Value) : Own D W (L.set n (b, cs.set i u)) (w.setCell ⟨b, i, none⟩ u) :=
  hS.turn hat rfl rfl rfl (by simp [World.setCell]) (fun k _ hk => Below.heap_setCell _ _ _ _ hk) ((hS.get hat).set_ i u)
theorem Has.row {w : World} {b : Nat} {cs cs' : List Value} (h : Has w b cs) : Has (w.setRow b cs'.toArray) b cs' := by
  obtain ⟨t, h⟩ := h
  exact ⟨t, by simp [World.setRow, Array.getElem?_modify, h]⟩
theorem heap_setRow (w : World) (b : Nat) (c : Array Value) (k : Nat) (h : k ≠ b) : (w.setRow b c).heap[k]? = w.heap[k]? := by
  simp only [World.setRow, Array.getElem?_modify]
  rw [if_neg (by omega)]
theorem Own.row (hS : Own D W L w) (hat : At n L b cs) (cs' : List Value) : Own D W (L.set n (b, cs')) (w.setRow b cs'.toArray) :=
  hS.turn hat rfl rfl rfl (by simp [World.setRow]) (fun k _ hk => heap_setRow _ _ _ _ hk) (hS.get hat).row
end

/-- A type of several cells; a type of one cell. -/
structure RowTy (P : Program) (ty : TypeId) (n : Nat) : Prop where
  agg : ∃ d, P.underlying ty = some d ∧ d.isRow = true
  size : (P.info? ty).map (·.size) = some n
structure OneTy (P : Program) (ty : TypeId) : Prop where
  one : ∃ d, P.underlying ty = some d ∧ d.isRow = false
  size : (P.info? ty).map (·.size) = some 1
/-- What a new variable of a type holds. -/
def ZeroTy (P : Program) (ty : TypeId) (z : List Value) : Prop := ∃ v : Value, (P.info? ty).bind (·.zero) = some v ∧ v.cells = z.toArray

theorem run_loadAt_one {P : Program} {ty : TypeId} (T : OneTy P ty) (w : World) (a : Addr) {v : Value} (h : w.cell? a = some v) : (Instr.loadAt ty (.pointer (some a))).run P w = .ok v w := by
  obtain ⟨d, hu, hd⟩ := T.one
  have hagg : (isAgg ty).run P w = .ok false w := by
    unfold isAgg
    rw [Sem.run_bind, run_underlying hu w]
    cases d <;> simp_all
  simp only [Instr.loadAt, Instr.sureAddr, Sem.run_bind, Sem.run_pure, Result.andThen_ok]
  unfold loadVar
  rw [Sem.run_bind, hagg, Result.andThen_ok]
  simp [load, Sem.run, h]

section
variable {P : Program} {ops rest : List Oper} {ops' : Array Oper} {o : Oper} {a : Act} {Q : Exit → Act → World → Prop} {D : List Nat} {W w : World} {L : List (Nat × List Value)} {n b : Nat} {cs : List Value}

/-- An operation whose guard says yes. -/
theorem own_unguard {dst : Option Tmp} {op : Op} {ty : TypeId} {pos : String} {after : Array Edge} {g : Nat × Bool} (hw : Region.wanted ⟨dst, op, ty, pos, after, some g⟩ (yielded ops' a.tmps) = true) (h : wpList P ops' Q (⟨dst, op, ty, pos, after, none⟩ :: rest) a w) :
    wpList P ops' Q (⟨dst, op, ty, pos, after, some g⟩ :: rest) a w := by
  unfold wpList at h ⊢
  rw [if_pos (by simp [Region.wanted])] at h
  rw [if_pos hw]
  exact h
/-- A struct is read out of one of the call's own blocks. -/
theorem own_load (hgd : o.guard = none) (ty : TypeId) (x : Operand) (ho : o.op = .load ty x) (hx : a.eval x = .pointer (some ⟨b, 0, none⟩)) (hS : Own D W L w) (hm : At n L b cs) (T : RowTy P ty cs.length)
    (h : wpList P ops' Q rest (a.put o.dst (.agg cs.toArray)) w) : wpList P ops' Q (o :: rest) a w := by
  obtain ⟨t, hg⟩ := hS.get hm
  obtain ⟨d, hu, hd⟩ := T.agg
  exact wpList_load_row hgd ty x ho b hx t cs.toArray (0, 0) d hg hu (by cases d <;> first | rfl | cases hd) (by simpa using T.size) h
/-- One cell. -/
theorem wpList_load_one (hgd : o.guard = none) (ty : TypeId) (x : Operand) (ho : o.op = .load ty x) {p : Addr} (hx : a.eval x = .pointer (some p)) (T : OneTy P ty) {v : Value} (hv : w.cell? p = some v)
    (h : wpList P ops' Q rest (a.put o.dst v) w) : wpList P ops' Q (o :: rest) a w :=
  wpList_plain hgd fun _ hK => by
    unfold Oper.wp execOp
    simp only [ho, hx, Sem.run_bind, run_loadAt_one T w p hv, Result.andThen_ok]
    exact hK _ _ h
/-- A part of one of the call's own blocks is read. -/
theorem own_load_sub {i : Nat} (hgd : o.guard = none) (ty : TypeId) (x : Operand) (ho : o.op = .load ty x) (hx : a.eval x = .pointer (some ⟨b, i, none⟩)) (hS : Own D W L w) (hm : At n L b cs) {cs' : List Value} (hc : (cs.drop i).take cs'.length = cs') (T : RowTy P ty cs'.length)
    (h : wpList P ops' Q rest (a.put o.dst (.agg cs'.toArray)) w) : wpList P ops' Q (o :: rest) a w := by
  obtain ⟨d, hu, hd⟩ := T.agg
  refine wpList_load_mid hgd ty x ho b i hx cs' d (fun j v hj => ?_) hu hd T.size h
  rw [(hS.get hm).cell, ← hj, ← hc, List.getElem?_take, List.getElem?_drop]
  have hjl : j < cs'.length := (List.getElem?_eq_some_iff.1 hj).1
  rw [if_pos hjl]
theorem own_load1 {i : Nat} (hgd : o.guard = none) (ty : TypeId) (x : Operand) (ho : o.op = .load ty x) (hx : a.eval x = .pointer (some ⟨b, i, none⟩)) (hS : Own D W L w) (hm : At n L b cs) (T : OneTy P ty) {v : Value} (hv : cs[i]? = some v)
    (h : wpList P ops' Q rest (a.put o.dst v) w) : wpList P ops' Q (o :: rest) a w :=
  wpList_load_one hgd ty x ho hx T (((hS.get hm).cell i).trans hv) h
/-- A struct, or one cell, is read out of what was there before. -/
theorem own_load_old {i : Nat} (hgd : o.guard = none) (ty : TypeId) (x : Operand) (ho : o.op = .load ty x) (hx : a.eval x = .pointer (some ⟨b, i, none⟩)) (hS : Own D W L w) (hv : W.rangeAt b i cs) (hd : b ∉ D) (T : RowTy P ty cs.length)
    (h : wpList P ops' Q rest (a.put o.dst (.agg cs.toArray)) w) : wpList P ops' Q (o :: rest) a w := by
  obtain ⟨d, hu, hr⟩ := T.agg
  exact wpList_load_mid hgd ty x ho b i hx cs d (fun j v hj => hS.cell hd (hv j v hj)) hu hr T.size h
theorem own_load1_old {p : Addr} (hgd : o.guard = none) (ty : TypeId) (x : Operand) (ho : o.op = .load ty x) (hx : a.eval x = .pointer (some p)) (hS : Own D W L w) {v : Value} (hv : W.cell? p = some v) (hd : p.block ∉ D) (T : OneTy P ty)
    (h : wpList P ops' Q rest (a.put o.dst v) w) : wpList P ops' Q (o :: rest) a w :=
  wpList_load_one hgd ty x ho hx T (hS.cell hd hv) h

/-- A new variable that holds a value. -/
theorem own_box (hgd : o.guard = none) (ty : TypeId) (x : Operand) (ho : o.op = .box ty x) (hx : a.eval x = .agg cs.toArray) (hS : Own D W L w)
    (h : ∀ b w', Own D W ((b, cs) :: L) w' → wpList P ops' Q rest (a.put o.dst (.pointer (some ⟨b, 0, none⟩))) w') : wpList P ops' Q (o :: rest) a w := by
  refine wpList_plain hgd fun K hK => ?_
  unfold Oper.wp execOp
  simp only [ho, hx, Sem.run_bind, Instr.box, newVar, newRow, run_newObj_alloc, Sem.run_pure, Result.andThen_ok]
  exact hK _ _ (h _ _ (hS.new cs ty))
theorem own_box1 {v : Value} (hgd : o.guard = none) (ty : TypeId) (x : Operand) (ho : o.op = .box ty x) (hx : a.eval x = v) (h1 : v.oneCell' = true) (hS : Own D W L w)
    (h : ∀ b w', Own D W ((b, [v]) :: L) w' → wpList P ops' Q rest (a.put o.dst (.pointer (some ⟨b, 0, none⟩))) w') : wpList P ops' Q (o :: rest) a w := by
  refine wpList_plain hgd fun K hK => ?_
  unfold Oper.wp execOp
  have hc : v.cells = [v].toArray := by cases v <;> first | rfl | cases h1
  simp only [ho, hx, Sem.run_bind, Instr.box, newVar, newRow, run_newObj_alloc, Sem.run_pure, Result.andThen_ok, hc]
  exact hK _ _ (h _ _ (hS.new [v] ty))
/-- A new variable. -/
theorem own_alloc (hgd : o.guard = none) (ty : TypeId) (ho : o.op = .alloc ty) (hS : Own D W L w) {z : List Value} (Z : ZeroTy P ty z)
    (h : ∀ b w', Own D W ((b, z) :: L) w' → wpList P ops' Q rest (a.put o.dst (.pointer (some ⟨b, 0, none⟩))) w') : wpList P ops' Q (o :: rest) a w := by
  refine wpList_plain hgd fun K hK => ?_
  obtain ⟨v, hz, hc⟩ := Z
  cases hq : P.info? ty with
  | none => simp [hq] at hz
  | some i =>
    have hz' : i.zero = some v := by simpa [hq] using hz
    unfold Oper.wp execOp
    simp only [ho, Sem.run_bind, Instr.alloc, zeroValue, typeInfo, program, Sem.run, hq, hz', newVar, newRow, run_newObj_alloc, Sem.run_pure, Result.andThen_ok, hc]
    exact hK _ _ (h _ _ (hS.new z ty))
/-- A struct is stored into one of the call's own blocks. -/
theorem own_store (hgd : o.guard = none) (ty : TypeId) (x y : Operand) (ho : o.op = .store ty x y) {cs' : List Value} (hx : a.eval x = .pointer (some ⟨b, 0, none⟩)) (hy : a.eval y = .agg cs'.toArray) (hS : Own D W L w) (hm : At n L b cs) (T : RowTy P ty cs'.length)
    (hl : cs.length = cs'.length) (h1 : cs'.all (·.oneCell') = true)
    (h : ∀ w', Own D W (L.set n (b, cs')) w' → wpList P ops' Q rest (a.put o.dst undef) w') : wpList P ops' Q (o :: rest) a w := by
  obtain ⟨t, hg⟩ := hS.get hm
  exact wpList_store_row hgd ty x y ho b cs'.toArray hx hy t cs.toArray hg (by simpa using T.size) (by simpa using hl) (by simpa using h1) (h _ (hS.row hm cs'))
/-- One cell is stored. -/
theorem own_store1 {i : Nat} (hgd : o.guard = none) (ty : TypeId) (x y : Operand) (ho : o.op = .store ty x y) (hx : a.eval x = .pointer (some ⟨b, i, none⟩)) {v : Value} (hy : a.eval y = v) (h1 : v.oneCell' = true) (hS : Own D W L w) (hm : At n L b cs) (T : OneTy P ty)
    (hl : i < cs.length)
    (h : ∀ w', Own D W (L.set n (b, cs.set i v)) w' → wpList P ops' Q rest (a.put o.dst undef) w') : wpList P ops' Q (o :: rest) a w := by
  have hh := hS.get hm
  have hc : w.cell? ⟨b, i, none⟩ = some cs[i] := by rw [hh.cell i]; simp [hl]
  have hf := hh.frozen i
  have hvc : v.cells = #[v] := by cases v <;> first | rfl | cases h1
  refine wpList_plain hgd fun K hK => ?_
  cases hq : P.info? ty with
  | none => have := T.size; simp [hq] at this
  | some inf =>
    have hs : inf.size = 1 := by have := T.size; simpa [hq] using this
    unfold Oper.wp execOp
    simp only [ho, hx, hy, Sem.run_bind, Instr.storeAt, Instr.sureAddr, Sem.run_pure, Result.andThen_ok, storeVar, sizeOf, typeInfo, program, Sem.run, hq, hs, hvc, ne_eq, List.size_toArray, List.length_cons, List.length_nil, not_true_eq_false, if_false, storeCells]
    rw [show (⟨b, i, none⟩ : Addr).add 0 = ⟨b, i, none⟩ from rfl, run_store P w _ v _ h1, hc]
    simp [hf]
    exact hK _ _ (h _ (hS.set_ hm i v))
/-- A call by its contract. -/
theorem own_calls {f : FuncId} {args : Array Value} {v : Value} {R : Ending → World → Prop} (hS : Own D W L w) (hc : Calls P f args w (Gives v w)) (h : ∀ w', Own D W L w' → R (.returned v) w') : Calls P f args w R :=
  hc.mono fun _ _ hg => hg.1 ▸ h _ (hS.step hg.2)
theorem own_callsD {f : FuncId} {args : Array Value} {v : Value} {R : Ending → World → Prop} (hS : Own D W L w) (hc : Calls P f args w (Draws v w)) (h : ∀ w', Own D W L w' → R (.returned v) w') : Calls P f args w R :=
  hc.mono fun _ _ hg => by obtain ⟨rfl, k, rfl⟩ := hg; exact h _ (hS.drewN k)
theorem own_callsS {f : FuncId} {args : Array Value} {v : Value} {R : Ending → World → Prop} (_hS : Own D W L w) (hc : Calls P f args w fun e w' => e = .returned v ∧ w = w') (h : R (.returned v) w) : Calls P f args w R :=
  hc.mono fun _ _ hg => by obtain ⟨rfl, rfl⟩ := hg; exact h
/-- The end. -/
theorem own_gives {v : Value} (hS : Own [] W L w) : Gives v W (.returned v) w := ⟨rfl, hS.below⟩
/-- A struct, or one cell, is read out of a block that was there before and is known whole. -/
theorem own_load_has (hgd : o.guard = none) (ty : TypeId) (x : Operand) (ho : o.op = .load ty x) (hx : a.eval x = .pointer (some ⟨b, 0, none⟩)) (hS : Own D W L w) (hv : Has W b cs) (hd : b ∉ D) (T : RowTy P ty cs.length)
    (h : wpList P ops' Q rest (a.put o.dst (.agg cs.toArray)) w) : wpList P ops' Q (o :: rest) a w := by
  obtain ⟨t, hg⟩ := hS.hasOld hd hv
  obtain ⟨d, hu, hd⟩ := T.agg
  exact wpList_load_row hgd ty x ho b hx t cs.toArray (0, 0) d hg hu (by cases d <;> first | rfl | cases hd) (by simpa using T.size) h
theorem own_load1_has {i : Nat} (hgd : o.guard = none) (ty : TypeId) (x : Operand) (ho : o.op = .load ty x) (hx : a.eval x = .pointer (some ⟨b, i, none⟩)) (hS : Own D W L w) (hv : Has W b cs) (hd : b ∉ D) (T : OneTy P ty) {v : Value} (hi : cs[i]? = some v)
    (h : wpList P ops' Q rest (a.put o.dst v) w) : wpList P ops' Q (o :: rest) a w :=
  wpList_load_one hgd ty x ho hx T (((hS.hasOld hd hv).cell i).trans hi) h
end
end Go.Proofs.Ytgknameejoalnaa
