/- A region that draws its order, cut into segments: in some the operations are quiet and come in any order, in the others they come in one order. -/
import Derived.Test.YtgknameejoalnaaOwn
namespace Go.Proofs.Ytgknameejoalnaa
open Go.RowKit
section
variable {P : Program} {ops : Array Oper} {C : World → Prop}

/-- The first n operations are done. -/
def upTo (m : Nat) : Nat → Array Bool
  | 0 => Array.replicate m false
  | n + 1 => (upTo m n).setIfInBounds n true
theorem upTo_size (m n : Nat) : (upTo m n).size = m := by induction n <;> simp [upTo, *]
theorem upTo_get (m n i : Nat) (hi : i < m) : (upTo m n).getD i true = decide (i < n) := by
  induction n with
  | zero => simp [upTo, hi]
  | succ n ih =>
    unfold upTo
    by_cases h : n = i
    · subst h
      simp [upTo_size, hi]
    · rw [getD_set_ne true h, ih]
      simp; omega
theorem upTo_getF (m n i : Nat) (hi : i < m) : (upTo m n).getD i false = decide (i < n) := by
  have := upTo_get m n i hi
  have h1 : i < (upTo m n).size := by rw [upTo_size]; exact hi
  simp [h1] at this ⊢
  exact this

/-- From s on, all that comes ahead of n is waited for by something up to n; all behind n waits for something from n on. -/
def sinkS (ops : Array Oper) (s n : Nat) : Bool :=
  (List.range n).all fun i => decide (i < s) || (List.range (n + 1)).any fun j => decide (i < j) && Region.waitsFor .any ops j i
def behindS (ops : Array Oper) (n : Nat) : Bool :=
  (List.range ops.size).all fun t => decide (t ≤ n) || (List.range t).any fun u => decide (n ≤ u) && Region.waitsFor .any ops t u

theorem tail_waitsS {s n : Nat} {listed : Array Bool} (hs : sinkS ops s n = true) (hc : behindS ops n = true) (inv : HeadInv .any ops n listed) :
    ∀ (d i : Nat), n - i = d → s ≤ i → i < n → listed.getD i true = false → ∀ t, n ≤ t → t ∉ Region.ready .any ops listed := by
  intro d
  induction d using Nat.strongRecOn with
  | _ d ih =>
    intro i hd hsi hi hun t ht hr
    obtain ⟨_, ot, hot, hall⟩ := mem_ready.1 hr
    have htlt : t < ops.size := (Array.getElem?_eq_some_iff.1 hot).1
    by_cases htn : t = n
    · subst htn
      have h1 := List.all_eq_true.1 hs i (List.mem_range.2 hi)
      rw [show decide (i < s) = false by simp; omega, Bool.false_or] at h1
      obtain ⟨j, hj, hj2⟩ := List.any_eq_true.1 h1
      simp only [Bool.and_eq_true, decide_eq_true_eq] at hj2
      obtain ⟨oj, hoj, e, he, hb, hon⟩ := Region.waitsFor_spec hj2.2
      have hjle : j ≤ t := by have := List.mem_range.1 hj; omega
      by_cases hjt : j = t
      · subst hjt
        have : oj = ot := Option.some.inj (hoj.symm.trans hot)
        subst this
        have h2 := hall e he hb
        rw [hon, getD_both hun] at h2
        cases h2
      · cases hl : listed.getD j false with
        | true =>
          have h2 := inv.closed j oj hoj hl e he hb
          rw [hon, getD_both hun] at h2
          cases h2
        | false =>
          have hjs : j < listed.size := by rw [inv.size]; omega
          exact ih (t - j) (by omega) j rfl (by omega) (by omega) (getD_in hjs hl) t (Nat.le_refl _) hr
    · have h1 := List.all_eq_true.1 hc t (List.mem_range.2 htlt)
      rw [show decide (t ≤ n) = false by simp; omega, Bool.false_or] at h1
      obtain ⟨u, hu, hu2⟩ := List.any_eq_true.1 h1
      simp only [Bool.and_eq_true, decide_eq_true_eq] at hu2
      obtain ⟨o', ho', e, he, hb, hon⟩ := Region.waitsFor_spec hu2.2
      have : o' = ot := Option.some.inj (ho'.symm.trans hot)
      subst this
      have hut : u < t := List.mem_range.1 hu
      have h2 := hall e he hb
      rw [hon, getD_both (inv.tail u hu2.1 (by omega))] at h2
      cases h2

theorem headAny_firstS {s n i : Nat} {oi : Oper} {v : Value} {L : Array Bool → Act → Prop} (hi : ops[i]? = some oi) (hsel : Region.noSelect ops = true)
    (hs : sinkS ops s n = true) (hc : behindS ops n = true) (hsi : s ≤ i) (hin : i < n)
    (hdone : ∀ listed a, L listed a → ∀ j ∈ Region.ready .any ops listed, n ≤ j) (f : Nat) :
    ∀ (listed : Array Bool) (a : Act), HeadInv .any ops n listed →
      (∀ j oj, ops[j]? = some oj → j ≠ i → listed.getD j true = false → (∀ e ∈ oj.after, Region.binds .any e = true → e.on ≠ i) → oi.apart ops oj = true) →
      i ∈ Region.ready .any ops listed → YieldsIn P ops C oi v a →
      headAny P .any ops C n L f (listed.setIfInBounds i true) (a.put oi.dst v) → headAny P .any ops C n L (f + 1) listed a := by
  have hlt : ∀ {listed : Array Bool}, HeadInv .any ops n listed → listed.getD i true = false → ∀ {j}, j ∈ Region.ready .any ops listed → j < n := fun {listed} inv hun {j} hj => by
    by_cases h : j < n
    · exact h
    · exact absurd hj (tail_waitsS hs hc inv _ i rfl hsi hin hun j (by omega))
  have hsel' := Region.noSelect_spec hsel
  induction f with
  | zero =>
    intro listed a inv _ hr hy H
    refine ⟨List.ne_nil_of_mem hr, fun j hj => ⟨hlt inv (mem_ready.1 hr).1 hj, ?_⟩⟩
    by_cases hji : j = i
    · subst hji; exact hy.qOp hi H
    · have h1 := hdone _ _ H j (ready_mono hj hji)
      have h2 := hlt inv (mem_ready.1 hr).1 hj
      omega
  | succ f ih =>
    intro listed a inv hfree hr hy H
    have hun := (mem_ready.1 hr).1
    refine ⟨List.ne_nil_of_mem hr, fun j hj => ⟨hlt inv hun hj, ?_⟩⟩
    by_cases hji : j = i
    · subst hji; exact hy.qOp hi H
    · obtain ⟨hjun, oj, hoj, hall⟩ := mem_ready.1 hj
      have hap : oi.apart ops oj = true := hfree j oj hoj hji hjun fun e he hb heq => by
        have h1 := hall e he hb
        rw [heq, getD_both hun] at h1
        cases h1
      refine qOp_mono (fun a' h3 => ih (listed.setIfInBounds j true) a' (inv.set hj (hlt inv hun hj)) ?_ (ready_mono hr (Ne.symm hji)) h3.1 ?_)
        (qOp_put hoj hap (fun cs b => hsel' i oi cs b hi) (fun cs b => hsel' j oj cs b hoj) hy ((H.2 j (ready_mono hj hji)).2))
      · intro k ok hk hki hunk hno
        refine hfree k ok hk hki ?_ hno
        by_cases hjk : j = k
        · subst hjk; exact hjun
        · rw [getD_set_ne true hjk] at hunk; exact hunk
      · rw [Array.setIfInBounds_comm _ _ hji]
        exact h3.2

/-- The lexical order goes through, from k on. -/
def lexS (ops : Array Oper) (m : Nat) : Nat → Nat → Bool
  | 0, _ => true
  | f + 1, k => (Region.ready .any ops (upTo m k)).contains k && Region.free .any ops (upTo m k) k && lexS ops m f (k + 1)
/-- What is to be checked of a quiet segment. -/
def segB (ops : Array Oper) (s n : Nat) : Bool :=
  Region.noSelect ops && decide (s ≤ n) && decide (n ≤ ops.size) && sinkS ops s n && behindS ops n && lexS ops ops.size (n - s) s &&
  (List.range s).all fun j => match ops[j]? with | some oj => oj.after.all fun e => !Region.binds .any e || decide (e.on < s) | none => true

theorem headAny_lexS {s n : Nat} {R : Act → Prop} (hsel : Region.noSelect ops = true) (hs : sinkS ops s n = true) (hc : behindS ops n = true) (hn : n ≤ ops.size) (l : List Oper) :
    ∀ (k : Nat) (a : Act), (∀ j, j < l.length → l[j]? = ops[k + j]?) → s ≤ k → k + l.length = n → HeadInv .any ops n (upTo ops.size k) →
    lexS ops ops.size l.length k = true → wpQuiet P ops C R l a →
    headAny P .any ops C n (fun listed' a' => listed' = upTo ops.size n ∧ R a') l.length (upTo ops.size k) a := by
  induction l with
  | nil =>
    intro k a _ _ hk _ _ h
    have hkn : k = n := by simpa using hk
    subst hkn
    exact ⟨rfl, h⟩
  | cons o l ih =>
    intro k a hl hsk hk inv hB h
    have h0 : ops[k]? = some o := by simpa using (hl 0 (by simp)).symm
    simp only [List.length_cons, lexS, Bool.and_eq_true] at hB
    have hkn : k < n := by simp only [List.length_cons] at hk; omega
    have hr : k ∈ Region.ready .any ops (upTo ops.size k) := by simpa using hB.1.1
    have hq : qOp P ops C k (wpQuiet P ops C R l) a := by unfold qOp; simp only [h0]; exact h
    obtain ⟨v, hy, hK⟩ := yieldsIn_of_qOp h0 hq
    refine headAny_firstS h0 hsel hs hc hsk hkn (fun listed' a' hL j hj => ?_) l.length _ a inv (Region.free_spec h0 hB.1.2) hr hy ?_
    · rw [hL.1] at hj
      obtain ⟨hun, oj, hoj, _⟩ := mem_ready.1 hj
      have hjs : j < ops.size := (Array.getElem?_eq_some_iff.1 hoj).1
      rw [upTo_get _ _ _ hjs] at hun
      simpa using hun
    · refine ih (k + 1) _ (fun j hj => ?_) (by omega) (by simp only [List.length_cons] at hk; omega) (inv.set hr hkn) hB.2 hK
      have := hl (j + 1) (by simp; omega)
      simpa [Nat.add_assoc, Nat.add_comm 1 j] using this

/-- A segment of quiet operations. -/
theorem seg_quiet {l : List Oper} {Q : Exit → Act → World → Prop} {a : Act} {w : World} (C : World → Prop) (s n : Nat) (hB : segB l.toArray s n = true) (hC : C w)
    (h : wpQuiet P l.toArray C (fun a' => ∀ w', C w' → wpAny P .any l.toArray Q (l.length - n) (upTo l.length n) a' w') ((l.drop s).take (n - s)) a) : wpAny P .any l.toArray Q (l.length - s) (upTo l.length s) a w := by
  simp only [segB, Bool.and_eq_true, decide_eq_true_eq] at hB
  obtain ⟨⟨⟨⟨⟨⟨hsel, hsn⟩, hn⟩, hs⟩, hc⟩, hlex⟩, hcl⟩ := hB
  have hz : l.toArray.size = l.length := by simp
  rw [hz] at hn hlex
  have hlen : ((l.drop s).take (n - s)).length = n - s := by simp; omega
  have inv : HeadInv .any l.toArray n (upTo l.length s) := by
    refine ⟨by rw [upTo_size, hz], fun j oj hj hl e he hb => ?_, fun t ht ht' => ?_⟩
    · have hjs : j < l.length := by have := (Array.getElem?_eq_some_iff.1 hj).1; simpa using this
      rw [upTo_getF _ _ _ hjs] at hl
      have h1 := List.all_eq_true.1 hcl j (List.mem_range.2 (by simpa using hl))
      rw [hj] at h1
      have h2 := Array.all_eq_true_iff_forall_mem.1 h1 e he
      rw [hb] at h2
      simp at h2
      rw [upTo_getF _ _ _ (by omega)]
      simpa using h2
    · rw [upTo_get _ _ _ (by simpa using ht')]
      simp; omega
  have H := headAny_lexS (P := P) (C := C) (R := fun a' => ∀ w', C w' → wpAny P .any l.toArray Q (l.length - n) (upTo l.length n) a' w') hsel hs hc (by rw [hz]; exact hn) ((l.drop s).take (n - s)) s a (fun j hj => by
    rw [hlen] at hj
    simp [hj]) (Nat.le_refl _) (by rw [hlen]; omega) (by rw [hz]; exact inv) (by rw [hlen, hz]; exact hlex) h
  rw [hlen, hz] at H
  have := wpAny_of_headAny (Q := Q) (g := l.length - n) (fun listed a' w' hw' hL => by rw [hL.1]; exact hL.2 w' hw') _ _ _ _ hC H
  rwa [show n - s + (l.length - n) = l.length - s by omega] at this

/-- Operations s to n - 1 come one after the other. -/
def oneB (ops : Array Oper) (m : Nat) : Nat → Nat → Bool
  | 0, _ => true
  | f + 1, k => decide (Region.ready .any ops (upTo m k) = [k]) && oneB ops m f (k + 1)
theorem seg_list_go {Q : Exit → Act → World → Prop} {n : Nat} (hn : n ≤ ops.size) (l : List Oper) : ∀ (k : Nat) (a : Act) (w : World), (∀ j, j < l.length → l[j]? = ops[k + j]?) → k + l.length = n → oneB ops ops.size l.length k = true →
    wpList P ops (Exit.then (fun a' w' => wpAny P .any ops Q (ops.size - n) (upTo ops.size n) a' w') Q) l a w → wpAny P .any ops Q (l.length + (ops.size - n)) (upTo ops.size k) a w := by
  induction l with
  | nil =>
    intro k a w _ hk _ h
    have hkn : k = n := by simpa using hk
    subst hkn
    simpa [wpList, Exit.then] using h
  | cons o l ih =>
    intro k a w hl hk hB h
    have h0 : ops[k]? = some o := by simpa using (hl 0 (by simp)).symm
    simp only [List.length_cons, oneB, Bool.and_eq_true, decide_eq_true_eq] at hB
    rw [show (o :: l).length + (ops.size - n) = (l.length + (ops.size - n)) + 1 by simp; omega]
    refine ⟨fun h1 => (by rw [hB.1] at h1; cases h1), fun i hi => ?_⟩
    rw [hB.1] at hi
    have hik : i = k := by simpa using hi
    subst hik
    have hw : wpOp P ops (Exit.then (fun a' w' => wpAny P .any ops Q (ops.size - n) (upTo ops.size n) a' w') Q) i (wpList P ops (Exit.then (fun a' w' => wpAny P .any ops Q (ops.size - n) (upTo ops.size n) a' w') Q) l) a w := by
      unfold wpOp; simp only [h0]; exact h
    have hw2 := wpOp_mono (K' := wpAny P .any ops Q (l.length + (ops.size - n)) (upTo ops.size (i + 1))) (fun a' w' h' => ih (i + 1) a' w' (fun j hj => by
      have := hl (j + 1) (by simp; omega)
      simpa [Nat.add_assoc, Nat.add_comm 1 j] using this) (by simp only [List.length_cons] at hk; omega) hB.2 h') hw
    show wpOp P ops Q i (wpAny P .any ops Q (l.length + (ops.size - n)) (upTo ops.size (i + 1))) a w
    unfold wpOp at hw2 ⊢
    simp only [h0] at hw2 ⊢
    by_cases hwt : Region.wanted o (yielded ops a.tmps) = true
    · simp only [hwt, if_true] at hw2 ⊢
      rcases hw2 with hw2 | ⟨hask, a0, w0, hq⟩
      · refine .inl ?_
        unfold Oper.wp Oper.upon at hw2 ⊢
        generalize (execOp a.eval o).run P w = r at hw2 ⊢
        cases r with
        | ok x w' => cases x <;> first | exact hw2 | exact hw2.mono (fun e w'' h => by cases e <;> exact h)
        | halt x w' => cases x <;> exact hw2
      · exact .inr ⟨hask, a0, w0, hq⟩
    · simp only [hwt] at hw2 ⊢
      exact hw2
theorem seg_list {l : List Oper} {Q : Exit → Act → World → Prop} {a : Act} {w : World} (s n : Nat) (hB : (decide (s ≤ n) && decide (n ≤ l.length) && oneB l.toArray l.length (n - s) s) = true)
    (h : wpList P l.toArray (Exit.then (fun a' w' => wpAny P .any l.toArray Q (l.length - n) (upTo l.length n) a' w') Q) ((l.drop s).take (n - s)) a w) : wpAny P .any l.toArray Q (l.length - s) (upTo l.length s) a w := by
  simp only [Bool.and_eq_true, decide_eq_true_eq] at hB
  obtain ⟨⟨hsn, hn⟩, hone⟩ := hB
  have hlen : ((l.drop s).take (n - s)).length = n - s := by simp; omega
  have hz : l.toArray.size = l.length := by simp
  have := seg_list_go (P := P) (ops := l.toArray) (Q := Q) (n := n) (by rw [hz]; exact hn) ((l.drop s).take (n - s)) s a w (fun j hj => by
    rw [hlen] at hj
    simp [hj]) (by rw [hlen]; omega) (by rw [hlen, hz]; exact hone) (by rw [hz]; exact h)
  rw [hlen, hz] at this
  rwa [show n - s + (l.length - n) = l.length - s by omega] at this
/-- A region by segments. -/
theorem wp_region_segs {l : List Oper} {id : Nat} {Q : Exit → Act → World → Prop} {a : Act} {w : World} (hm : P.follows .mixedOrders = true)
    (h : wpAny P .any l.toArray Q (l.length - 0) (upTo l.length 0) a w.drew) : (Code.region id l.toArray true).wp P Q a w :=
  wp_region_any hm (by simpa [upTo] using h)
/-- The last segment, quiet. -/
theorem seg_last {l : List Oper} {Q : Exit → Act → World → Prop} {a : Act} {w : World} {n : Nat} (hn : n = l.length) (h : Q .normal a w) : wpAny P .any l.toArray Q (l.length - n) (upTo l.length n) a w := by
  subst hn
  rw [Nat.sub_self]
  refine ⟨?_, h⟩
  refine List.eq_nil_iff_forall_not_mem.2 fun j hj => ?_
  obtain ⟨hun, oj, hoj, _⟩ := mem_ready.1 hj
  have hjs : j < l.length := by have := (Array.getElem?_eq_some_iff.1 hoj).1; simpa using this
  rw [upTo_get _ _ _ hjs] at hun
  simp at hun
  omega
end
/-- A region all of whose operations are quiet in the worlds that Own tells. -/
theorem own_region {P : Program} {l : List Oper} {id : Nat} {Q : Exit → Act → World → Prop} {a : Act} {D : List Nat} {W w : World} {L : List (Nat × List Value)} (hS : Own D W L w) (hm : P.follows .mixedOrders = true) (hB : Region.lexB .any l.toArray = true)
    (h : wpQuiet P l.toArray (fun w' => Own D W L w') (fun a' => ∀ w', Own D W L w' → Q .normal a' w') l a) : (Code.region id l.toArray true).wp P Q a w :=
  wp_region_quiets (fun w' => Own D W L w') hm hB hS.drew h
theorem own_segs {P : Program} {l : List Oper} {id : Nat} {Q : Exit → Act → World → Prop} {a : Act} {D : List Nat} {W w : World} {L : List (Nat × List Value)} (hS : Own D W L w) (hm : P.follows .mixedOrders = true)
    (h : ∀ w', Own D W L w' → wpAny P .any l.toArray Q (l.length - 0) (upTo l.length 0) a w') : (Code.region id l.toArray true).wp P Q a w :=
  wp_region_segs hm (h _ hS.drew)
theorem own_seg {P : Program} {l : List Oper} {Q : Exit → Act → World → Prop} {a : Act} {D : List Nat} {W w : World} {L : List (Nat × List Value)} (hS : Own D W L w) (s n : Nat) (hB : segB l.toArray s n = true)
    (h : wpQuiet P l.toArray (fun w' => Own D W L w') (fun a' => ∀ w', Own D W L w' → wpAny P .any l.toArray Q (l.length - n) (upTo l.length n) a' w') ((l.drop s).take (n - s)) a) : wpAny P .any l.toArray Q (l.length - s) (upTo l.length s) a w :=
  seg_quiet (fun w' => Own D W L w') s n hB hS h
/-- A load in a quiet segment: a struct, one cell of a block that is known whole, a cell. -/
theorem quietAt_row {P : Program} {o : Oper} {a : Act} {C : World → Prop} {w : World} {ty : TypeId} {x : Operand} {b : Nat} {cs : List Value} (ho : o.op = .load ty x) (hx : a.eval x = .pointer (some ⟨b, 0, none⟩)) (h : Has w b cs) (T : RowTy P ty cs.length) : o.quietAt P a C w (.agg cs.toArray) := by
  obtain ⟨t, hg⟩ := h
  obtain ⟨d, hu, hd⟩ := T.agg
  unfold Oper.quietAt execOp
  simp only [ho, hx, Instr.loadAt, Instr.sureAddr, Sem.run_bind, Sem.run_pure, Result.andThen_ok, run_loadVar_row (P := P) w b t ty cs.toArray (0, 0) d hg hu (by cases d <;> first | rfl | cases hd) (by simpa using T.size), Oper.quietUpon]
  first | done | exact ⟨rfl, rfl⟩ | exact ⟨trivial, trivial⟩ | trivial
theorem quietAt_cell {P : Program} {o : Oper} {a : Act} {C : World → Prop} {w : World} {ty : TypeId} {x : Operand} {p : Addr} {v : Value} (ho : o.op = .load ty x) (hx : a.eval x = .pointer (some p)) (h : w.cell? p = some v) (T : OneTy P ty) : o.quietAt P a C w v := by
  unfold Oper.quietAt execOp
  simp only [ho, hx, Sem.run_bind, run_loadAt_one T w p h, Sem.run_pure, Result.andThen_ok, Oper.quietUpon]
  first | done | exact ⟨rfl, rfl⟩ | exact ⟨trivial, trivial⟩ | trivial
theorem quietAt_one {P : Program} {o : Oper} {a : Act} {C : World → Prop} {w : World} {ty : TypeId} {x : Operand} {b i : Nat} {cs : List Value} {v : Value} (ho : o.op = .load ty x) (hx : a.eval x = .pointer (some ⟨b, i, none⟩)) (h : Has w b cs) (hi : cs[i]? = some v) (T : OneTy P ty) : o.quietAt P a C w v :=
  quietAt_cell ho hx ((h.cell i).trans hi) T
theorem quietAt_mid {P : Program} {o : Oper} {a : Act} {C : World → Prop} {w : World} {ty : TypeId} {x : Operand} {b i : Nat} {cs : List Value} (ho : o.op = .load ty x) (hx : a.eval x = .pointer (some ⟨b, i, none⟩)) (h : w.rangeAt b i cs) (T : RowTy P ty cs.length) : o.quietAt P a C w (.agg cs.toArray) := by
  obtain ⟨d, hu, hd⟩ := T.agg
  unfold Oper.quietAt execOp
  simp only [ho, hx, Sem.run_bind, run_loadAt_mid (P := P) w b i ty cs d h hu hd T.size, Sem.run_pure, Result.andThen_ok, Oper.quietUpon]
  first | done | exact ⟨rfl, rfl⟩ | exact ⟨trivial, trivial⟩ | trivial
theorem Own.range {D : List Nat} {W w : World} {L : List (Nat × List Value)} (hS : Own D W L w) {b i : Nat} {cs : List Value} (hd : b ∉ D) (h : W.rangeAt b i cs) : w.rangeAt b i cs := fun j v hj => hS.cell hd (h j v hj)
/-- The call in a quiet segment, its class the worlds that Own tells. -/
theorem quietS {D : List Nat} {W w : World} {L : List (Nat × List Value)} {P : Program} {f : FuncId} {args : Array Value} {v : Value} (hS : Own D W L w) (hc : Calls P f args w fun e w' => e = .returned v ∧ w = w') :
    Calls P f args w (fun e w'' => e = .returned v ∧ Own D W L w'') := hc.mono fun _ _ ⟨he, hw⟩ => ⟨he, hw ▸ hS⟩
theorem quietG {D : List Nat} {W w : World} {L : List (Nat × List Value)} {P : Program} {f : FuncId} {args : Array Value} {v : Value} (hS : Own D W L w) (hc : Calls P f args w (Gives v w)) :
    Calls P f args w (fun e w'' => e = .returned v ∧ Own D W L w'') := hc.mono fun _ _ ⟨he, hw⟩ => ⟨he, hS.step hw⟩
theorem quietD {D : List Nat} {W w : World} {L : List (Nat × List Value)} {P : Program} {f : FuncId} {args : Array Value} {v : Value} (hS : Own D W L w) (hc : Calls P f args w (Draws v w)) :
    Calls P f args w (fun e w'' => e = .returned v ∧ Own D W L w'') := hc.mono fun _ _ ⟨he, n, hw⟩ => ⟨he, hw ▸ hS.drewN n⟩
end Go.Proofs.Ytgknameejoalnaa
