/- append onto a slice that the call itself has made: nil, or a block of its own. -/
import Derived.Test.YtgknameejoalnaaApp
import Derived.ArgAppend
import Derived.Deep.MidRow
namespace Go.Proofs.Ytgknameejoalnaa
open Go.RowKit

theorem Own.perm {D : List Nat} {W w : World} {L L' : List (Nat × List Value)} (hS : Own D W L w) (h : L.Perm L') : Own D W L' w :=
  ⟨hS.os, hS.tape, hS.output, hS.size, hS.block, fun x hx => hS.has x (h.mem_iff.2 hx), fun x hx => hS.ge x (h.mem_iff.2 hx), (h.map (·.1)).nodup_iff.1 hS.apart⟩

/-- The slice v holds n elements, the cells xs; X: its block, if there is one (a slice without room needs none). -/
def Sl (size n : Nat) (v : Value) (xs : List Value) (X : List (Nat × List Value)) : Prop :=
  xs.length = n * size ∧ ((∃ y, (y = none ∨ ∃ b o, y = some ⟨b, o, none⟩) ∧ v = .slice y 0 0 ∧ n = 0 ∧ X = []) ∨ ∃ b c junk, v = .slice (some ⟨b, 0, none⟩) n c ∧ n ≤ c ∧ c ≤ maxLen ∧ (xs ++ junk).length = c * size ∧ X = [(b, xs ++ junk)])
theorem sl_nil (size : Nat) : Sl size 0 (.slice none 0 0) [] [] := ⟨by simp, .inl ⟨none, .inl rfl, rfl, rfl, rfl⟩⟩
theorem Sl.one {size n : Nat} {v : Value} {xs : List Value} {X : List (Nat × List Value)} (h : Sl size n v xs X) : v.oneCell' = true := by
  rcases h.2 with ⟨y, _, rfl, _, _⟩ | ⟨b, c, junk, rfl, _⟩ <;> rfl
theorem Sl.slice {size n : Nat} {v : Value} {xs : List Value} {X : List (Nat × List Value)} (h : Sl size n v xs X) : ∃ y c, v = .slice y n c := by
  rcases h.2 with ⟨y, _, rfl, rfl, _⟩ | ⟨b, c, junk, rfl, _⟩
  · exact ⟨y, 0, rfl⟩
  · exact ⟨_, _, rfl⟩

section
variable {w : World} {b : Nat}
def setL : List Value → Nat → List Value → List Value
  | cs, _, [] => cs
  | cs, o, v :: vs => setL (cs.set o v) (o + 1) vs
theorem Has.setCells : ∀ (vs : List Value) (o : Nat) {w : World} {cs : List Value}, Has w b cs → Has (w.setCells b o vs) b (setL cs o vs) := by
  intro vs
  induction vs with
  | nil => intro o w cs h; exact h
  | cons v vs ih => intro o w cs h; exact ih (o + 1) (h.set_ o v)
theorem setL_app : ∀ (vs xs junk : List Value), vs.length ≤ junk.length → setL (xs ++ junk) xs.length vs = xs ++ vs ++ junk.drop vs.length := by
  intro vs
  induction vs with
  | nil => intro xs junk _; simp [setL]
  | cons v vs ih =>
    intro xs junk h
    cases junk with
    | nil => simp at h
    | cons y junk =>
      have h1 : (xs ++ y :: junk).set xs.length v = (xs ++ [v]) ++ junk := by simp
      have h2 := ih (xs ++ [v]) junk (by simpa using h)
      simp only [setL, h1]
      rw [show xs.length + 1 = (xs ++ [v]).length by simp, h2]
      simp
theorem setCells_rest : ∀ (vs : List Value) (o : Nat) (w : World), (w.setCells b o vs).os = w.os ∧ (w.setCells b o vs).tape = w.tape ∧ (w.setCells b o vs).output = w.output ∧ (w.setCells b o vs).heap.size = w.heap.size ∧ ∀ k, k ≠ b → (w.setCells b o vs).heap[k]? = w.heap[k]? := by
  intro vs
  induction vs with
  | nil => intro o w; exact ⟨rfl, rfl, rfl, rfl, fun _ _ => rfl⟩
  | cons v vs ih =>
    intro o w
    obtain ⟨h1, h2, h3, h4, h5⟩ := ih (o + 1) (w.setCell ⟨b, o, none⟩ v)
    exact ⟨h1, h2, h3, h4.trans (by simp [World.setCell]), fun k hk => (h5 k hk).trans (Below.heap_setCell _ _ _ _ hk)⟩
end

theorem Own.setCells {D : List Nat} {W w : World} {L : List (Nat × List Value)} {k b : Nat} {cs : List Value} (hS : Own D W L w) (hat : At k L b cs) (o : Nat) (vs : List Value) : Own D W (L.set k (b, setL cs o vs)) (w.setCells b o vs) := by
  obtain ⟨h1, h2, h3, h4, h5⟩ := setCells_rest (b := b) vs o w
  exact hS.turn hat h1 h2 h3 (by omega) (fun k _ hk => h5 k hk) ((hS.get hat).setCells vs o)

section
variable {P : Program} {rest : List Oper} {ops' : Array Oper} {o : Oper} {a : Act} {Q : Exit → Act → World → Prop} {D : List Nat} {W w : World} {L : List (Nat × List Value)}

/-- A row that a law of the kit tells, among the blocks of the call. -/
theorem own_row {X : List (Nat × List Value)} {w' : World} {e : TypeId} {size n : Nat} {v' : Value} {xs : List Value} (hS : Own D W (L ++ X) w) (h : w'.ownsRow w.heap.size e size v' n xs) (hg : w.grownBy w' none) : ∃ X', Own D W (L ++ X') w' ∧ Sl size n v' xs X' := by
  obtain ⟨hl, h⟩ := h
  have hb : Below w.heap.size w w' := ⟨hg.os, hg.tape, hg.output, hg.size, fun k hk => hg.block k hk (by simp)⟩
  rcases h with ⟨rfl, rfl⟩ | ⟨g, cap, cur, rfl, hge, hh, hnc, hcm, hcs, htk⟩
  · exact ⟨[], (hS.forget (by simp)).step hb, hl, .inl ⟨none, .inl rfl, rfl, rfl, rfl⟩⟩
  · refine ⟨[(g, cur.toList)], ?_, hl, .inr ⟨g, cap, cur.toList.drop (n * size), rfl, hnc, hcm, ?_, ?_⟩⟩
    · have h1 : Own D W ((g, cur.toList) :: (L ++ X)) w' := hS.add hb ⟨e, by simpa using hh⟩ hge
      have h2 : Own D W ((g, cur.toList) :: L) w' := h1.forget (by simp)
      exact h2.perm (by simpa using (List.perm_append_comm (l₁ := [(g, cur.toList)]) (l₂ := L)))
    · rw [← htk, List.take_append_drop]; simpa using hcs
    · rw [← htk, List.take_append_drop]

theorem own_append (hgd : o.guard = none) (s x : Operand) (t : TypeId) (ho : o.op = .call { callee := .builtin .append, args := #[s, x], argTypes := #[t, t] })
    {size bytes n : Nat} {v : Value} {xs : List Value} {X : List (Nat × List Value)} {e : TypeId} (hX : Sl size n v xs X) (hs : a.eval s = v) {ad : Addr} {m c : Nat} {news : List Value} (hx : a.eval x = .slice (some ad) m c)
    (hS : Own D W (L ++ X) w) (hn : ∀ j u, news[j]? = some u → w.cell? (ad.add j) = some u) (hl : news.length = m * size) (h1 : ∀ u ∈ news, u.oneCell' = true) (T : ElTy P t e size bytes) (h0 : 0 < size)
    (b1 : n + m ≤ maxLen) (b2 : (n + m) * bytes ≤ 140737488355328)
    (h : ∀ v' X' w', Own D W (L ++ X') w' → Sl size (n + m) v' (xs ++ news) X' → wpList P ops' Q rest (a.put o.dst v') w') : wpList P ops' Q (o :: rest) a w := by
  obtain ⟨i, z, hi, hz, hsz, hby, hzz⟩ := T.inf
  refine wpList_plain hgd fun K hK => ?_
  obtain ⟨hxl, hX2⟩ := id hX
  rcases hX2 with ⟨y, hy, rfl, rfl, rfl⟩ | ⟨b, cp, junk, rfl, hnc, hcm, hjl, rfl⟩
  · obtain rfl : xs = [] := List.eq_nil_of_length_eq_zero (by simpa using hxl)
    rcases hy with rfl | ⟨b, f, rfl⟩
    · obtain ⟨v', w', hrun, r1, r2, _⟩ := run_append_own (P := P) w w.heap.size t o.type e i z size bytes T.und hi hz hsz hby hzz h0 (.slice none 0 0) 0 [] (World.ownsRow_nil w _ e size) ad m c news hl hn h1 b1 b2 (Nat.le_refl _)
      obtain ⟨X', h3, h4⟩ := own_row hS r1 (by simpa [Value.ownBlock] using r2)
      unfold Oper.wp
      simp [execOp, ho, resolve, invoke, builtin, hs, hx, hrun, Result.andThen]
      exact hK _ _ (h v' X' w' h3 h4)
    · by_cases hm : m = 0
      · subst hm
        obtain rfl : news = [] := List.eq_nil_of_length_eq_zero (by simpa using hl)
        have hrun := run_append_room_cells (P := P) w t o.type e i T.und hi b f 0 0 ad 0 c [] (by simp) (by simp) (by simp) (Nat.le_refl _) (fun j hj => by simp at hj) (fun j hj => by simp at hj)
        unfold Oper.wp
        simp [execOp, ho, resolve, invoke, builtin, hs, hx, hrun, Result.andThen]
        exact hK _ _ (h _ [] _ (by simpa [World.setCells] using hS) ⟨by simp, .inl ⟨_, .inr ⟨b, f, rfl⟩, rfl, rfl, rfl⟩⟩)
      · obtain ⟨v', w', hrun, r1, r2⟩ := run_append_arg_grows (P := P) w t o.type e i z size bytes T.und hi hz hsz hby hzz h0 ⟨b, f, none⟩ 0 0 [] (by simp) (fun j u hj => by simp at hj) ad m c news hl hn (by omega) b1 b2
        obtain ⟨X', h3, h4⟩ := own_row hS r1 r2
        unfold Oper.wp
        simp [execOp, ho, resolve, invoke, builtin, hs, hx, hrun, Result.andThen]
        exact hK _ _ (h v' X' w' h3 h4)
  · have hat : At L.length (L ++ [(b, xs ++ junk)]) b (xs ++ junk) := by unfold At; simp
    have hb := hS.get hat
    by_cases hr : n + m ≤ cp
    · have hroom : (n + m) * size ≤ cp * size := Nat.mul_le_mul_right _ hr
      rw [Nat.add_mul] at hroom
      have hjn : news.length ≤ junk.length := by rw [List.length_append] at hjl; omega
      subst hsz
      have hrun := run_append_room_cells (P := P) w t o.type e i T.und hi b 0 n cp ad m c news hl hn h1 hr (fun j hj => by
        rw [hb.cell, Nat.zero_add]
        rw [List.getElem?_eq_getElem (by rw [List.length_append]; omega)]; rfl) (fun j _ => hb.frozen _)
      have hS2 := hS.setCells hat (n * i.size) news
      rw [← hxl, setL_app news xs junk hjn, List.set_append_right _ _ (Nat.le_refl _), Nat.sub_self] at hS2
      simp only [List.set_cons_zero] at hS2
      unfold Oper.wp
      simp [execOp, ho, resolve, invoke, builtin, hs, hx, hrun, Result.andThen]
      refine hK _ _ (h _ [(b, xs ++ news ++ junk.drop news.length)] _ ?_ ⟨by rw [List.length_append, hxl, hl, Nat.add_mul], .inr ⟨b, cp, junk.drop news.length, rfl, hr, hcm, ?_, rfl⟩⟩)
      · rw [← hxl]; exact hS2
      · rw [← hjl]; simp; omega
    · obtain ⟨v', w', hrun, r1, r2⟩ := run_append_arg_grows (P := P) w t o.type e i z size bytes T.und hi hz hsz hby hzz h0 ⟨b, 0, none⟩ n cp xs hxl (fun j u hj => by
        rw [Addr.add_lit, hb.cell, Nat.zero_add, List.getElem?_append_left (List.getElem?_eq_some_iff.1 hj).1]; exact hj) ad m c news hl hn (by omega) b1 b2
      obtain ⟨X', h3, h4⟩ := own_row hS r1 r2
      unfold Oper.wp
      simp [execOp, ho, resolve, invoke, builtin, hs, hx, hrun, Result.andThen]
      exact hK _ _ (h v' X' w' h3 h4)

/-- .. what is appended being a new block of the call, forgotten then. -/
theorem own_append_new (hgd : o.guard = none) (s x : Operand) (t : TypeId) (ho : o.op = .call { callee := .builtin .append, args := #[s, x], argTypes := #[t, t] })
    {size bytes n : Nat} {v : Value} {xs : List Value} {X : List (Nat × List Value)} {e : TypeId} (hX : Sl size n v xs X) (hs : a.eval s = v) {b m c : Nat} {news : List Value} (hx : a.eval x = .slice (some ⟨b, 0, none⟩) m c)
    (hS : Own D W (((b, news) :: L) ++ X) w) (hl : news.length = m * size) (h1 : news.all (·.oneCell') = true) (T : ElTy P t e size bytes) (h0 : 0 < size)
    (b1 : n + m ≤ maxLen) (b2 : (n + m) * bytes ≤ 140737488355328)
    (h : ∀ v' X' w', Own D W (L ++ X') w' → Sl size (n + m) v' (xs ++ news) X' → wpList P ops' Q rest (a.put o.dst v') w') : wpList P ops' Q (o :: rest) a w := by
  have hb : Has w b news := hS.has (b, news) (by simp)
  refine own_append hgd s x t ho hX hs hx (hS.forget (List.sublist_cons_self _ _) : Own D W (L ++ X) w) (fun j u hj => ?_) hl (fun u hu => List.all_eq_true.1 h1 u hu) T h0 b1 b2 h
  rw [Addr.add_lit, hb.cell, Nat.zero_add]
  exact hj

/-- A literal of a slice without elements. -/
theorem own_buildEmpty (hgd : o.guard = none) (t e : TypeId) (ho : o.op = .buildSlice t 0 #[]) (hS : Own D W L w) (hu : P.underlying t = some (.slice e)) (hi : (P.info? e).isSome = true)
    (h : ∀ b w', Own D W ((b, []) :: L) w' → wpList P ops' Q rest (a.put o.dst (.slice (some ⟨b, 0, none⟩) 0 0)) w') : wpList P ops' Q (o :: rest) a w := by
  refine wpList_plain hgd fun K hK => ?_
  cases hq : P.info? e with
  | none => simp [hq] at hi
  | some i =>
    have hrun : (execOp a.eval o).run P w = .ok (.value (.slice (some ⟨w.heap.size, 0, none⟩) 0 0)) (w.alloc (.cells [].toArray e)) := by
      unfold execOp
      have hf : Instr.fill (fun i_1 => some (i_1 * i.size, i.size)) (Array.map (fun _ => (default : Value)) (Array.range 0)) [] = some #[] := by simp [Instr.fill]
      simp [ho, Instr.buildSlice, run_underlying hu, sizeOf, typeInfo, hq, newRow, hf]
    unfold Oper.wp
    rw [hrun]
    exact hK _ _ (h _ _ (hS.new [] e))

/-- A struct is stored into the middle of a block of the call. -/
theorem own_store_sub {k b i : Nat} {cs : List Value} (hgd : o.guard = none) (ty : TypeId) (x y : Operand) (ho : o.op = .store ty x y) {cs' : List Value} (hx : a.eval x = .pointer (some ⟨b, i, none⟩)) (hy : a.eval y = .agg cs'.toArray) (hS : Own D W L w) (hm : At k L b cs) (T : RowTy P ty cs'.length)
    (hl : i + cs'.length ≤ cs.length) (h1 : cs'.all (·.oneCell') = true)
    (h : ∀ w', Own D W (L.set k (b, setL cs i cs')) w' → wpList P ops' Q rest (a.put o.dst undef) w') : wpList P ops' Q (o :: rest) a w := by
  have hb := hS.get hm
  refine wpList_store_mid hgd ty x y ho b i cs'.toArray hx hy (fun j hj => ⟨?_, hb.frozen _⟩) (by simpa using T.size) (by simpa using h1) (h _ (by simpa using hS.setCells hm i cs'))
  rw [hb.cell, List.getElem?_eq_getElem (by simp at hj; omega)]; rfl

end
end Go.Proofs.Ytgknameejoalnaa
