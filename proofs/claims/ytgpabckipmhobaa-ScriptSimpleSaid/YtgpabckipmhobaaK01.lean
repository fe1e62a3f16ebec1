/- Texts Seg, Dat, Find, Typ, Fnt, Slr, Tre. -/
import Derived.Test.YtgpabckipmhobaaK00
namespace Go.Proofs.Ytgpabckipmhobaa
open Go.RowKit
section
variable {P : Program} {ops : Array Oper} {C : World → Prop}

/-- The first n operations are done. -/
def upTo (m : Nat) : Nat → Array Bool
  | 0 => Array.replicate m false
  | n + 1 => (upTo m n).setIfInBounds n true
theorem upTo_size (m n : Nat) : (upTo m n).size = m := by induction n <;> simp [upTo, *]
theorem upTo_get (m n i : Nat) (hi : i < m) : (upTo m n).getD i true = decide (i < n) := by
  induction n with
  | zero => simp [upTo, hi]
  | succ n ih =>
    unfold upTo
    by_cases h : n = i
    · subst h
      simp [upTo_size, hi]
    · rw [getD_set_ne true h, ih]
      simp; omega
theorem upTo_getF (m n i : Nat) (hi : i < m) : (upTo m n).getD i false = decide (i < n) := by
  have := upTo_get m n i hi
  have h1 : i < (upTo m n).size := by rw [upTo_size]; exact hi
  simp [h1] at this ⊢
  exact this

/-- From s on, all that comes ahead of n is waited for by something up to n; all behind n waits for something from n on. -/
def sinkS (ops : Array Oper) (s n : Nat) : Bool :=
  (List.range n).all fun i => decide (i < s) || (List.range (n + 1)).any fun j => decide (i < j) && Region.waitsFor .any ops j i
def behindS (ops : Array Oper) (n : Nat) : Bool :=
  (List.range ops.size).all fun t => decide (t ≤ n) || (List.range t).any fun u => decide (n ≤ u) && Region.waitsFor .any ops t u

theorem tail_waitsS {s n : Nat} {listed : Array Bool} (hs : sinkS ops s n = true) (hc : behindS ops n = true) (inv : HeadInv .any ops n listed) :
    ∀ (d i : Nat), n - i = d → s ≤ i → i < n → listed.getD i true = false → ∀ t, n ≤ t → t ∉ Region.ready .any ops listed := by
  intro d
  induction d using Nat.strongRecOn with
  | _ d ih =>
    intro i hd hsi hi hun t ht hr
    obtain ⟨_, ot, hot, hall⟩ := mem_ready.1 hr
    have htlt : t < ops.size := (Array.getElem?_eq_some_iff.1 hot).1
    by_cases htn : t = n
    · subst htn
      have h1 := List.all_eq_true.1 hs i (List.mem_range.2 hi)
      rw [show decide (i < s) = false by simp; omega, Bool.false_or] at h1
      obtain ⟨j, hj, hj2⟩ := List.any_eq_true.1 h1
      simp only [Bool.and_eq_true, decide_eq_true_eq] at hj2
      obtain ⟨oj, hoj, e, he, hb, hon⟩ := Region.waitsFor_spec hj2.2
      have hjle : j ≤ t := by have := List.mem_range.1 hj; omega
      by_cases hjt : j = t
      · subst hjt
        have : oj = ot := Option.some.inj (hoj.symm.trans hot)
        subst this
        have h2 := hall e he hb
        rw [hon, getD_both hun] at h2
        cases h2
      · cases hl : listed.getD j false with
        | true =>
          have h2 := inv.closed j oj hoj hl e he hb
          rw [hon, getD_both hun] at h2
          cases h2
        | false =>
          have hjs : j < listed.size := by rw [inv.size]; omega
          exact ih (t - j) (by omega) j rfl (by omega) (by omega) (getD_in hjs hl) t (Nat.le_refl _) hr
    · have h1 := List.all_eq_true.1 hc t (List.mem_range.2 htlt)
      rw [show decide (t ≤ n) = false by simp; omega, Bool.false_or] at h1
      obtain ⟨u, hu, hu2⟩ := List.any_eq_true.1 h1
      simp only [Bool.and_eq_true, decide_eq_true_eq] at hu2
      obtain ⟨o', ho', e, he, hb, hon⟩ := Region.waitsFor_spec hu2.2
      have : o' = ot := Option.some.inj (ho'.symm.trans hot)
      subst this
      have hut : u < t := List.mem_range.1 hu
      have h2 := hall e he hb
      rw [hon, getD_both (inv.tail u hu2.1 (by omega))] at h2
      cases h2

theorem headAny_firstS {s n i : Nat} {oi : Oper} {v : Value} {L : Array Bool → Act → Prop} (hi : ops[i]? = some oi) (hsel : Region.noSelect ops = true)
    (hs : sinkS ops s n = true) (hc : behindS ops n = true) (hsi : s ≤ i) (hin : i < n)
    (hdone : ∀ listed a, L listed a → ∀ j ∈ Region.ready .any ops listed, n ≤ j) (f : Nat) :
    ∀ (listed : Array Bool) (a : Act), HeadInv .any ops n listed →
      (∀ j oj, ops[j]? = some oj → j ≠ i → listed.getD j true = false → (∀ e ∈ oj.after, Region.binds .any e = true → e.on ≠ i) → oi.apart ops oj = true) →
      i ∈ Region.ready .any ops listed → YieldsIn P ops C oi v a →
      headAny P .any ops C n L f (listed.setIfInBounds i true) (a.put oi.dst v) → headAny P .any ops C n L (f + 1) listed a := by
  have hlt : ∀ {listed : Array Bool}, HeadInv .any ops n listed → listed.getD i true = false → ∀ {j}, j ∈ Region.ready .any ops listed → j < n := fun {listed} inv hun {j} hj => by
    by_cases h : j < n
    · exact h
    · exact absurd hj (tail_waitsS hs hc inv _ i rfl hsi hin hun j (by omega))
  have hsel' := Region.noSelect_spec hsel
  induction f with
  | zero =>
    intro listed a inv _ hr hy H
    refine ⟨List.ne_nil_of_mem hr, fun j hj => ⟨hlt inv (mem_ready.1 hr).1 hj, ?_⟩⟩
    by_cases hji : j = i
    · subst hji; exact hy.qOp hi H
    · have h1 := hdone _ _ H j (ready_mono hj hji)
      have h2 := hlt inv (mem_ready.1 hr).1 hj
      omega
  | succ f ih =>
    intro listed a inv hfree hr hy H
    have hun := (mem_ready.1 hr).1
    refine ⟨List.ne_nil_of_mem hr, fun j hj => ⟨hlt inv hun hj, ?_⟩⟩
    by_cases hji : j = i
    · subst hji; exact hy.qOp hi H
    · obtain ⟨hjun, oj, hoj, hall⟩ := mem_ready.1 hj
      have hap : oi.apart ops oj = true := hfree j oj hoj hji hjun fun e he hb heq => by
        have h1 := hall e he hb
        rw [heq, getD_both hun] at h1
        cases h1
      refine qOp_mono (fun a' h3 => ih (listed.setIfInBounds j true) a' (inv.set hj (hlt inv hun hj)) ?_ (ready_mono hr (Ne.symm hji)) h3.1 ?_)
        (qOp_put hoj hap (fun cs b => hsel' i oi cs b hi) (fun cs b => hsel' j oj cs b hoj) hy ((H.2 j (ready_mono hj hji)).2))
      · intro k ok hk hki hunk hno
        refine hfree k ok hk hki ?_ hno
        by_cases hjk : j = k
        · subst hjk; exact hjun
        · rw [getD_set_ne true hjk] at hunk; exact hunk
      · rw [Array.setIfInBounds_comm _ _ hji]
        exact h3.2

/-- The lexical order goes through, from k on. -/
def lexS (ops : Array Oper) (m : Nat) : Nat → Nat → Bool
  | 0, _ => true
  | f + 1, k => (Region.ready .any ops (upTo m k)).contains k && Region.free .any ops (upTo m k) k && lexS ops m f (k + 1)
/-- What is to be checked of a quiet segment. -/
def segB (ops : Array Oper) (s n : Nat) : Bool :=
  Region.noSelect ops && decide (s ≤ n) && decide (n ≤ ops.size) && sinkS ops s n && behindS ops n && lexS ops ops.size (n - s) s &&
  (List.range s).all fun j => match ops[j]? with | some oj => oj.after.all fun e => !Region.binds .any e || decide (e.on < s) | none => true

theorem headAny_lexS {s n : Nat} {R : Act → Prop} (hsel : Region.noSelect ops = true) (hs : sinkS ops s n = true) (hc : behindS ops n = true) (hn : n ≤ ops.size) (l : List Oper) :
    ∀ (k : Nat) (a : Act), (∀ j, j < l.length → l[j]? = ops[k + j]?) → s ≤ k → k + l.length = n → HeadInv .any ops n (upTo ops.size k) →
    lexS ops ops.size l.length k = true → wpQuiet P ops C R l a →
    headAny P .any ops C n (fun listed' a' => listed' = upTo ops.size n ∧ R a') l.length (upTo ops.size k) a := by
  induction l with
  | nil =>
    intro k a _ _ hk _ _ h
    have hkn : k = n := by simpa using hk
    subst hkn
    exact ⟨rfl, h⟩
  | cons o l ih =>
    intro k a hl hsk hk inv hB h
    have h0 : ops[k]? = some o := by simpa using (hl 0 (by simp)).symm
    simp only [List.length_cons, lexS, Bool.and_eq_true] at hB
    have hkn : k < n := by simp only [List.length_cons] at hk; omega
    have hr : k ∈ Region.ready .any ops (upTo ops.size k) := by simpa using hB.1.1
    have hq : qOp P ops C k (wpQuiet P ops C R l) a := by unfold qOp; simp only [h0]; exact h
    obtain ⟨v, hy, hK⟩ := yieldsIn_of_qOp h0 hq
    refine headAny_firstS h0 hsel hs hc hsk hkn (fun listed' a' hL j hj => ?_) l.length _ a inv (Region.free_spec h0 hB.1.2) hr hy ?_
    · rw [hL.1] at hj
      obtain ⟨hun, oj, hoj, _⟩ := mem_ready.1 hj
      have hjs : j < ops.size := (Array.getElem?_eq_some_iff.1 hoj).1
      rw [upTo_get _ _ _ hjs] at hun
      simpa using hun
    · refine ih (k + 1) _ (fun j hj => ?_) (by omega) (by simp only [List.length_cons] at hk; omega) (inv.set hr hkn) hB.2 hK
      have := hl (j + 1) (by simp; omega)
      simpa [Nat.add_assoc, Nat.add_comm 1 j] using this

/-- A segment of quiet operations. -/
theorem seg_quiet {l : List Oper} {Q : Exit → Act → World → Prop} {a : Act} {w : World} (C : World → Prop) (s n : Nat) (hB : segB l.toArray s n = true) (hC : C w)
    (h : wpQuiet P l.toArray C (fun a' => ∀ w', C w' → wpAny P .any l.toArray Q (l.length - n) (upTo l.length n) a' w') ((l.drop s).take (n - s)) a) : wpAny P .any l.toArray Q (l.length - s) (upTo l.length s) a w := by
  simp only [segB, Bool.and_eq_true, decide_eq_true_eq] at hB
  obtain ⟨⟨⟨⟨⟨⟨hsel, hsn⟩, hn⟩, hs⟩, hc⟩, hlex⟩, hcl⟩ := hB
  have hz : l.toArray.size = l.length := by simp
  rw [hz] at hn hlex
  have hlen : ((l.drop s).take (n - s)).length = n - s := by simp; omega
  have inv : HeadInv .any l.toArray n (upTo l.length s) := by
    refine ⟨by rw [upTo_size, hz], fun j oj hj hl e he hb => ?_, fun t ht ht' => ?_⟩
    · have hjs : j < l.length := by have := (Array.getElem?_eq_some_iff.1 hj).1; simpa using this
      rw [upTo_getF _ _ _ hjs] at hl
      have h1 := List.all_eq_true.1 hcl j (List.mem_range.2 (by simpa using hl))
      rw [hj] at h1
      have h2 := Array.all_eq_true_iff_forall_mem.1 h1 e he
      rw [hb] at h2
      simp at h2
      rw [upTo_getF _ _ _ (by omega)]
      simpa using h2
    · rw [upTo_get _ _ _ (by simpa using ht')]
      simp; omega
  have H := headAny_lexS (P := P) (C := C) (R := fun a' => ∀ w', C w' → wpAny P .any l.toArray Q (l.length - n) (upTo l.length n) a' w') hsel hs hc (by rw [hz]; exact hn) ((l.drop s).take (n - s)) s a (fun j hj => by
    rw [hlen] at hj
    simp [hj]) (Nat.le_refl _) (by rw [hlen]; omega) (by rw [hz]; exact inv) (by rw [hlen, hz]; exact hlex) h
  rw [hlen, hz] at H
  have := wpAny_of_headAny (Q := Q) (g := l.length - n) (fun listed a' w' hw' hL => by rw [hL.1]; exact hL.2 w' hw') _ _ _ _ hC H
  rwa [show n - s + (l.length - n) = l.length - s by omega] at this

/-- Operations s to n - 1 come one after the other. -/
def oneB (ops : Array Oper) (m : Nat) : Nat → Nat → Bool
  | 0, _ => true
  | f + 1, k => decide (Region.ready .any ops (upTo m k) = [k]) && oneB ops m f (k + 1)
theorem seg_list_go {Q : Exit → Act → World → Prop} {n : Nat} (hn : n ≤ ops.size) (l : List Oper) : ∀ (k : Nat) (a : Act) (w : World), (∀ j, j < l.length → l[j]? = ops[k + j]?) → k + l.length = n → oneB ops ops.size l.length k = true →
    wpList P ops (Exit.then (fun a' w' => wpAny P .any ops Q (ops.size - n) (upTo ops.size n) a' w') Q) l a w → wpAny P .any ops Q (l.length + (ops.size - n)) (upTo ops.size k) a w := by
  induction l with
  | nil =>
    intro k a w _ hk _ h
    have hkn : k = n := by simpa using hk
    subst hkn
    simpa [wpList, Exit.then] using h
  | cons o l ih =>
    intro k a w hl hk hB h
    have h0 : ops[k]? = some o := by simpa using (hl 0 (by simp)).symm
    simp only [List.length_cons, oneB, Bool.and_eq_true, decide_eq_true_eq] at hB
    rw [show (o :: l).length + (ops.size - n) = (l.length + (ops.size - n)) + 1 by simp; omega]
    refine ⟨fun h1 => (by rw [hB.1] at h1; cases h1), fun i hi => ?_⟩
    rw [hB.1] at hi
    have hik : i = k := by simpa using hi
    subst hik
    have hw : wpOp P ops (Exit.then (fun a' w' => wpAny P .any ops Q (ops.size - n) (upTo ops.size n) a' w') Q) i (wpList P ops (Exit.then (fun a' w' => wpAny P .any ops Q (ops.size - n) (upTo ops.size n) a' w') Q) l) a w := by
      unfold wpOp; simp only [h0]; exact h
    have hw2 := wpOp_mono (K' := wpAny P .any ops Q (l.length + (ops.size - n)) (upTo ops.size (i + 1))) (fun a' w' h' => ih (i + 1) a' w' (fun j hj => by
      have := hl (j + 1) (by simp; omega)
      simpa [Nat.add_assoc, Nat.add_comm 1 j] using this) (by simp only [List.length_cons] at hk; omega) hB.2 h') hw
    show wpOp P ops Q i (wpAny P .any ops Q (l.length + (ops.size - n)) (upTo ops.size (i + 1))) a w
    unfold wpOp at hw2 ⊢
    simp only [h0] at hw2 ⊢
    by_cases hwt : Region.wanted o (yielded ops a.tmps) = true
    · simp only [hwt, if_true] at hw2 ⊢
      rcases hw2 with hw2 | ⟨hask, a0, w0, hq⟩
      · refine .inl ?_
        unfold Oper.wp Oper.upon at hw2 ⊢
        generalize (execOp a.eval o).run P w = r at hw2 ⊢
        cases r with
        | ok x w' => cases x <;> first | exact hw2 | exact hw2.mono (fun e w'' h => by cases e <;> exact h)
        | halt x w' => cases x <;> exact hw2
      · exact .inr ⟨hask, a0, w0, hq⟩
    · simp only [hwt] at hw2 ⊢
      exact hw2
theorem seg_list {l : List Oper} {Q : Exit → Act → World → Prop} {a : Act} {w : World} (s n : Nat) (hB : (decide (s ≤ n) && decide (n ≤ l.length) && oneB l.toArray l.length (n - s) s) = true)
    (h : wpList P l.toArray (Exit.then (fun a' w' => wpAny P .any l.toArray Q (l.length - n) (upTo l.length n) a' w') Q) ((l.drop s).take (n - s)) a w) : wpAny P .any l.toArray Q (l.length - s) (upTo l.length s) a w := by
  simp only [Bool.and_eq_true, decide_eq_true_eq] at hB
  obtain ⟨⟨hsn, hn⟩, hone⟩ := hB
  have hlen : ((l.drop s).take (n - s)).length = n - s := by simp; omega
  have hz : l.toArray.size = l.length := by simp
  have := seg_list_go (P := P) (ops := l.toArray) (Q := Q) (n := n) (by rw [hz]; exact hn) ((l.drop s).take (n - s)) s a w (fun j hj => by
    rw [hlen] at hj
    simp [hj]) (by rw [hlen]; omega) (by rw [hlen, hz]; exact hone) (by rw [hz]; exact h)
  rw [hlen, hz] at this
  rwa [show n - s + (l.length - n) = l.length - s by omega] at this
/-- A region by segments. -/
theorem wp_region_segs {l : List Oper} {id : Nat} {Q : Exit → Act → World → Prop} {a : Act} {w : World} (hm : P.follows .mixedOrders = true)
    (h : wpAny P .any l.toArray Q (l.length - 0) (upTo l.length 0) a w.drew) : (Code.region id l.toArray true).wp P Q a w :=
  wp_region_any hm (by simpa [upTo] using h)
/-- The last segment, quiet. -/
theorem seg_last {l : List Oper} {Q : Exit → Act → World → Prop} {a : Act} {w : World} {n : Nat} (hn : n = l.length) (h : Q .normal a w) : wpAny P .any l.toArray Q (l.length - n) (upTo l.length n) a w := by
  subst hn
  rw [Nat.sub_self]
  refine ⟨?_, h⟩
  refine List.eq_nil_iff_forall_not_mem.2 fun j hj => ?_
  obtain ⟨hun, oj, hoj, _⟩ := mem_ready.1 hj
  have hjs : j < l.length := by have := (Array.getElem?_eq_some_iff.1 hoj).1; simpa using this
  rw [upTo_get _ _ _ hjs] at hun
  simp at hun
  omega
end
/-- A region all of whose operations are quiet in the worlds that Own tells. -/
theorem own_region {P : Program} {l : List Oper} {id : Nat} {Q : Exit → Act → World → Prop} {a : Act} {D : List Nat} {W w : World} {L : List (Nat × List Value)} (hS : Own D W L w) (hm : P.follows .mixedOrders = true) (hB : Region.lexB .any l.toArray = true)
    (h : wpQuiet P l.toArray (fun w' => Own D W L w') (fun a' => ∀ w', Own D W L w' → Q .normal a' w') l a) : (Code.region id l.toArray true).wp P Q a w :=
  wp_region_quiets (fun w' => Own D W L w') hm hB hS.drew h
theorem own_segs {P : Program} {l : List Oper} {id : Nat} {Q : Exit → Act → World → Prop} {a : Act} {D : List Nat} {W w : World} {L : List (Nat × List Value)} (hS : Own D W L w) (hm : P.follows .mixedOrders = true)
    (h : ∀ w', Own D W L w' → wpAny P .any l.toArray Q (l.length - 0) (upTo l.length 0) a w') : (Code.region id l.toArray true).wp P Q a w :=
  wp_region_segs hm (h _ hS.drew)
theorem own_seg {P : Program} {l : List Oper} {Q : Exit → Act → World → Prop} {a : Act} {D : List Nat} {W w : World} {L : List (Nat × List Value)} (hS : Own D W L w) (s n : Nat) (hB : segB l.toArray s n = true)
    (h : wpQuiet P l.toArray (fun w' => Own D W L w') (fun a' => ∀ w', Own D W L w' → wpAny P .any l.toArray Q (l.length - n) (upTo l.length n) a' w') ((l.drop s).take (n - s)) a) : wpAny P .any l.toArray Q (l.length - s) (upTo l.length s) a w :=
  seg_quiet (fun w' => Own D W L w') s n hB hS h
theorem quietAt_rd {P : Program} {o : Oper} {a : Act} {C : World → Prop} {D : List Nat} {W w : World} {L : List (Nat × List Value)} {ty : TypeId} {x : Operand} {p : Addr} {v : Value} (ho : o.op = .load ty x) (hx : a.eval x = .pointer (some p)) (hr : Reads P D W L ty p v) (hS : Own D W L w) : o.quietAt P a C w v := by
  unfold Oper.quietAt execOp
  simp only [ho, hx, Sem.run_bind, hr w hS, Sem.run_pure, Result.andThen_ok, Oper.quietUpon]
  first | done | exact ⟨rfl, rfl⟩ | exact ⟨trivial, trivial⟩ | trivial
theorem Own.range {D : List Nat} {W w : World} {L : List (Nat × List Value)} (hS : Own D W L w) {b i : Nat} {cs : List Value} (hd : b ∉ D) (h : W.rangeAt b i cs) : w.rangeAt b i cs := fun j v hj => hS.cell hd (h j v hj)
/-- The call in a quiet segment, its class the worlds that Own tells. -/
theorem quietS {D : List Nat} {W w : World} {L : List (Nat × List Value)} {P : Program} {f : FuncId} {args : Array Value} {v : Value} (hS : Own D W L w) (hc : Calls P f args w fun e w' => e = .returned v ∧ w = w') :
    Calls P f args w (fun e w'' => e = .returned v ∧ Own D W L w'') := hc.mono fun _ _ ⟨he, hw⟩ => ⟨he, hw ▸ hS⟩
theorem quietG {D : List Nat} {W w : World} {L : List (Nat × List Value)} {P : Program} {f : FuncId} {args : Array Value} {v : Value} (hS : Own D W L w) (hc : Calls P f args w (Gives v w)) :
    Calls P f args w (fun e w'' => e = .returned v ∧ Own D W L w'') := hc.mono fun _ _ ⟨he, hw⟩ => ⟨he, hS.step hw⟩
end Go.Proofs.Ytgpabckipmhobaa
namespace Go.Proofs.Ytgpabckipmhobaa
open Go.RowKit

/-- A glyph. -/
structure Gly where
  name : ByteArray
  w : Int
  h : Int
  d : Int
  it : Int
  at_ : Int

/-- An int of Go's. -/
def I64 (n : Int) : Prop := -9223372036854775808 ≤ n ∧ n ≤ 9223372036854775807

def Gly.wf (g : Gly) : Prop := I64 g.w ∧ I64 g.h ∧ I64 g.d ∧ I64 g.it ∧ I64 g.at_
def Gly.val (g : Gly) : Value := .agg #[.string g.name, .int .i64 g.w, .int .i64 g.h, .int .i64 g.d, .int .i64 g.it, .int .i64 g.at_]

/-- The six cells of a glyph at a place. -/
def GlyAt (w : World) (b o : Nat) (g : Gly) : Prop :=
  w.cell? ⟨b, o, none⟩ = some (.string g.name) ∧ w.cell? ⟨b, o + 1, none⟩ = some (.int .i64 g.w) ∧ w.cell? ⟨b, o + 2, none⟩ = some (.int .i64 g.h) ∧
  w.cell? ⟨b, o + 3, none⟩ = some (.int .i64 g.d) ∧ w.cell? ⟨b, o + 4, none⟩ = some (.int .i64 g.it) ∧ w.cell? ⟨b, o + 5, none⟩ = some (.int .i64 g.at_)

/-- The slice v holds these glyphs. -/
def GlysAt (w : World) (v : Value) (gs : List Gly) : Prop :=
  (∃ x c, v = .slice x 0 c ∧ gs = []) ∨ ∃ b o c, v = .slice (some ⟨b, o, none⟩) gs.length c ∧ ∀ i g, gs[i]? = some g → GlyAt w b (o + i * 6) g

/-- The first glyph with a name. -/
def findG (gs : List Gly) (s : ByteArray) : Option Gly := gs.find? fun g => g.name.toList == s.toList

end Go.Proofs.Ytgpabckipmhobaa
namespace Go.Proofs.Ytgpabckipmhobaa
open Go.RowKit

theorem findG_drop {gs : List Gly} {s : ByteArray} {k : Nat} {g : Gly} (h : gs[k]? = some g) :
    findG (gs.drop k) s = if (g.name.toList == s.toList) = true then some g else findG (gs.drop (k + 1)) s := by
  obtain ⟨hk, rfl⟩ := List.getElem?_eq_some_iff.1 h
  unfold findG
  rw [List.drop_eq_getElem_cons hk, List.find?_cons]
  split <;> simp_all
theorem findG_end {gs : List Gly} {s : ByteArray} {k : Nat} (h : gs.length ≤ k) : findG (gs.drop k) s = none := by
  rw [List.drop_of_length_le h]; rfl

/-- What Find returns. -/
def findVal : Option Gly → Value
  | some g => .tuple #[.agg #[.string g.name, .int .i64 g.w, .int .i64 g.h, .int .i64 g.d, .int .i64 g.it, .int .i64 g.at_], .bool true]
  | none => .tuple #[.agg #[.string ⟨#[]⟩, .int .i64 0, .int .i64 0, .int .i64 0, .int .i64 0, .int .i64 0], .bool false]

set_option maxHeartbeats 2000000 in
set_option maxRecDepth 100000 in
theorem font_Find_full (sv p0 p1 p2 p3 p4 p5 p6 p7 p8 p9 p10 p11 p12 p13 p14 p15 p16 p17 p18 p19 : Value) (b o c : Nat) (gs : List Gly) (s : ByteArray) (w : World) (hn : gs.length ≤ 1000000)
    (hc : ∀ i g, gs[i]? = some g → GlyAt w b (o + i * 6) g) :
    Calls Try.prog 65 #[.agg #[.slice (some ⟨b, o, none⟩) gs.length c, sv, p0, p1, p2, p3, p4, p5, p6, p7, p8, p9, p10, p11, p12, p13, p14, p15, p16, p17, p18, p19], .string s] w (Gives (findVal (findG gs s)) w) := by
  have HC := Lib.hid hc
  clear hc
  go_enter Try.func65, Try.ntmps65
  go_wp2_with fail
  go_loop [10] (fun i => ∃ k : Nat, k ≤ gs.length ∧ i = .int .i64 k ∧ findG gs s = findG (gs.drop k) s) (fun i => gs.length - (intOf i).toNat)
  case atStart => exact ⟨0, Nat.zero_le _, rfl, rfl⟩
  case round =>
    obtain ⟨k, hk, rfl, hf⟩ := hrel
    by_cases hlt : k < gs.length
    · obtain ⟨g, hg⟩ : ∃ g, gs[k]? = some g := ⟨gs[k], by simp [hlt]⟩
      obtain ⟨g0, g1, g2, g3, g4, g5⟩ := HC.out k g hg
      have hb := lt_more (World.block_lt_of_cell? w _ g0)
      simp only [] at hb
      rw [findG_drop hg] at hf
      have HF := Lib.hid hf
      clear hf hg
      by_cases hs : (g.name.toList == s.toList) = true
      · have E1 := Lib.hid (show findG gs s = some g by rw [HF.out, if_pos hs])
        go_wp2_with fail
        rw [E1.out]
        refine bodyPost_ret (v := findVal (some g)) (by simp [results, Try.results65, findVal, go_sem]) rfl ⟨rfl, bnew (bnew (bself w) _) _⟩
      · have hs' : (g.name.toList == s.toList) = false := by simpa using hs
        have E1 := Lib.hid (show findG gs s = findG (gs.drop (k + 1)) s by rw [HF.out, if_neg hs])
        clear hs
        go_wp2_with fail
        go_round
        case rel => exact ⟨k + 1, by omega, by go_num, E1.out⟩
        case measure => simp [intOf]; omega
    · have E1 := Lib.hid (show findG gs s = none by rw [hf]; exact findG_end (by omega))
      clear hf
      go_wp2_with fail
      rw [E1.out]
      refine bodyPost_ret (v := findVal none) (by simp [results, Try.results65, findVal, go_sem]) rfl ⟨rfl, bnew (bnew (bself w) _) _⟩

set_option maxHeartbeats 2000000 in
set_option maxRecDepth 100000 in
theorem font_Find_nil (sv p0 p1 p2 p3 p4 p5 p6 p7 p8 p9 p10 p11 p12 p13 p14 p15 p16 p17 p18 p19 : Value) (x : Option Addr) (c : Nat) (s : ByteArray) (w : World) :
    Calls Try.prog 65 #[.agg #[.slice x 0 c, sv, p0, p1, p2, p3, p4, p5, p6, p7, p8, p9, p10, p11, p12, p13, p14, p15, p16, p17, p18, p19], .string s] w (Gives (findVal none) w) := by
  go_enter Try.func65, Try.ntmps65
  go_wp2_with fail
  refine wp_loop_once ?_
  go_wp2_with fail
  refine bodyPost_ret (v := findVal none) (by simp [results, Try.results65, findVal, go_sem]) rfl ⟨rfl, bnew (bnew (bself w) _) _⟩

theorem font_Find_calls (gv sv p0 p1 p2 p3 p4 p5 p6 p7 p8 p9 p10 p11 p12 p13 p14 p15 p16 p17 p18 p19 : Value) (gs : List Gly) (s : ByteArray) (w : World) (hn : gs.length ≤ 1000000) (h : GlysAt w gv gs) :
    Calls Try.prog 65 #[.agg #[gv, sv, p0, p1, p2, p3, p4, p5, p6, p7, p8, p9, p10, p11, p12, p13, p14, p15, p16, p17, p18, p19], .string s] w (Gives (findVal (findG gs s)) w) := by
  rcases h with ⟨x, c, rfl, rfl⟩ | ⟨b, o, c, rfl, hc⟩
  · exact font_Find_nil sv p0 p1 p2 p3 p4 p5 p6 p7 p8 p9 p10 p11 p12 p13 p14 p15 p16 p17 p18 p19 x c s w
  · exact font_Find_full sv p0 p1 p2 p3 p4 p5 p6 p7 p8 p9 p10 p11 p12 p13 p14 p15 p16 p17 p18 p19 b o c gs s w hn hc

set_option maxHeartbeats 2000000 in
set_option maxRecDepth 100000 in
theorem ref05_Find_full (sv p0 p1 p2 p3 p4 p5 p6 p7 p8 p9 p10 p11 p12 p13 p14 p15 p16 p17 p18 p19 : Value) (b o c : Nat) (gs : List Gly) (s : ByteArray) (w : World) (hn : gs.length ≤ 1000000)
    (hc : ∀ i g, gs[i]? = some g → GlyAt w b (o + i * 6) g) :
    Calls Try.prog 54 #[.agg #[.slice (some ⟨b, o, none⟩) gs.length c, sv, p0, p1, p2, p3, p4, p5, p6, p7, p8, p9, p10, p11, p12, p13, p14, p15, p16, p17, p18, p19], .string s] w (Gives (findVal (findG gs s)) w) := by
  have HC := Lib.hid hc
  clear hc
  go_enter Try.func54, Try.ntmps54
  go_wp2_with fail
  go_loop [6] (fun i => ∃ k : Nat, k ≤ gs.length ∧ i = .int .i64 k ∧ findG gs s = findG (gs.drop k) s) (fun i => gs.length - (intOf i).toNat)
  case atStart => exact ⟨0, Nat.zero_le _, rfl, rfl⟩
  case round =>
    obtain ⟨k, hk, rfl, hf⟩ := hrel
    by_cases hlt : k < gs.length
    · obtain ⟨g, hg⟩ : ∃ g, gs[k]? = some g := ⟨gs[k], by simp [hlt]⟩
      obtain ⟨g0, g1, g2, g3, g4, g5⟩ := HC.out k g hg
      have hb := lt_more (World.block_lt_of_cell? w _ g0)
      simp only [] at hb
      rw [findG_drop hg] at hf
      have HF := Lib.hid hf
      clear hf hg
      by_cases hs : (g.name.toList == s.toList) = true
      · have E1 := Lib.hid (show findG gs s = some g by rw [HF.out, if_pos hs])
        go_wp2_with fail
        rw [E1.out]
        refine bodyPost_ret (v := findVal (some g)) (by simp [results, Try.results54, findVal, go_sem]) rfl ⟨rfl, bnew (bnew (bself w) _) _⟩
      · have hs' : (g.name.toList == s.toList) = false := by simpa using hs
        have E1 := Lib.hid (show findG gs s = findG (gs.drop (k + 1)) s by rw [HF.out, if_neg hs])
        clear hs
        go_wp2_with fail
        go_round
        case rel => exact ⟨k + 1, by omega, by go_num, E1.out⟩
        case measure => simp [intOf]; omega
    · have E1 := Lib.hid (show findG gs s = none by rw [hf]; exact findG_end (by omega))
      clear hf
      go_wp2_with fail
      rw [E1.out]
      refine bodyPost_ret (v := findVal none) (by simp [results, Try.results54, findVal, go_sem]) rfl ⟨rfl, bnew (bnew (bself w) _) _⟩

set_option maxHeartbeats 2000000 in
set_option maxRecDepth 100000 in
theorem ref05_Find_nil (sv p0 p1 p2 p3 p4 p5 p6 p7 p8 p9 p10 p11 p12 p13 p14 p15 p16 p17 p18 p19 : Value) (x : Option Addr) (c : Nat) (s : ByteArray) (w : World) :
    Calls Try.prog 54 #[.agg #[.slice x 0 c, sv, p0, p1, p2, p3, p4, p5, p6, p7, p8, p9, p10, p11, p12, p13, p14, p15, p16, p17, p18, p19], .string s] w (Gives (findVal none) w) := by
  go_enter Try.func54, Try.ntmps54
  go_wp2_with fail
  refine wp_loop_once ?_
  go_wp2_with fail
  refine bodyPost_ret (v := findVal none) (by simp [results, Try.results54, findVal, go_sem]) rfl ⟨rfl, bnew (bnew (bself w) _) _⟩

theorem ref05_Find_calls (gv sv p0 p1 p2 p3 p4 p5 p6 p7 p8 p9 p10 p11 p12 p13 p14 p15 p16 p17 p18 p19 : Value) (gs : List Gly) (s : ByteArray) (w : World) (hn : gs.length ≤ 1000000) (h : GlysAt w gv gs) :
    Calls Try.prog 54 #[.agg #[gv, sv, p0, p1, p2, p3, p4, p5, p6, p7, p8, p9, p10, p11, p12, p13, p14, p15, p16, p17, p18, p19], .string s] w (Gives (findVal (findG gs s)) w) := by
  rcases h with ⟨x, c, rfl, rfl⟩ | ⟨b, o, c, rfl, hc⟩
  · exact ref05_Find_nil sv p0 p1 p2 p3 p4 p5 p6 p7 p8 p9 p10 p11 p12 p13 p14 p15 p16 p17 p18 p19 x c s w
  · exact ref05_Find_full sv p0 p1 p2 p3 p4 p5 p6 p7 p8 p9 p10 p11 p12 p13 p14 p15 p16 p17 p18 p19 b o c gs s w hn hc

end Go.Proofs.Ytgpabckipmhobaa
namespace Go.Proofs.Ytgpabckipmhobaa
open Go.RowKit

instance rt_font : RowTy Try.prog 27 22 := ⟨⟨_, Try.underlying27, rfl⟩, by kernel_rfl⟩
instance rt_glyph : RowTy Try.prog 55 6 := ⟨⟨_, Try.underlying55, rfl⟩, by kernel_rfl⟩
instance ot_int : OneTy Try.prog 3 := ⟨⟨_, Try.underlying3, rfl⟩, by kernel_rfl⟩
instance ot_string : OneTy Try.prog 9 := ⟨⟨_, Try.underlying9, rfl⟩, by kernel_rfl⟩
instance zt_glyph : ZeroTy Try.prog 55 [.string ⟨#[]⟩, .int .i64 0, .int .i64 0, .int .i64 0, .int .i64 0, .int .i64 0] := ⟨.agg #[.string ⟨#[]⟩, .int .i64 0, .int .i64 0, .int .i64 0, .int .i64 0, .int .i64 0], by kernel_rfl, rfl⟩

end Go.Proofs.Ytgpabckipmhobaa
namespace Go.Proofs.Ytgpabckipmhobaa
open Go.RowKit

/-- The elements of a list lie one after the other from x on; each takes size cells. -/
def RowAt {α : Type} (w : World) (x : Option Addr) (size : Nat) (f : α → List Value) (l : List α) : Prop :=
  l = [] ∨ ∃ b o, x = some ⟨b, o, none⟩ ∧ ∀ i a, l[i]? = some a → w.rangeAt b (o + i * size) (f a)

section
variable {α : Type} {w w' : World} {x : Option Addr} {size : Nat} {f : α → List Value} {l : List α}
theorem rangeAt_below {b o : Nat} {cs : List Value} (h : w.rangeAt b o cs) (hb : Below w.heap.size w w') : w'.rangeAt b o cs := fun j v hj => by
  have h1 := h j v hj
  exact (hb.cell (World.block_lt_of_cell? w _ h1)).trans h1
theorem RowAt.below (h : RowAt w x size f l) (hb : Below w.heap.size w w') : RowAt w' x size f l := by
  rcases h with h | ⟨b, o, hx, h⟩
  · exact .inl h
  · exact .inr ⟨b, o, hx, fun i a hi => rangeAt_below (h i a hi) hb⟩
theorem RowAt.own {L : List (Nat × List Value)} (h : RowAt w x size f l) (hS : Own [] w L w') : RowAt w' x size f l := h.below hS.below
theorem RowAt.get (h : RowAt w x size f l) {k : Nat} {a : α} (hk : l[k]? = some a) : ∃ b o, x = some ⟨b, o, none⟩ ∧ w.rangeAt b (o + k * size) (f a) := by
  rcases h with rfl | ⟨b, o, hx, h⟩
  · simp at hk
  · exact ⟨b, o, hx, h k a hk⟩
/-- In a block that is known whole. -/
theorem RowAt.of_has {b : Nat} {junk : List Value} (hf : ∀ a ∈ l, (f a).length = size) (h : Has w b (l.flatMap f ++ junk)) : RowAt w (some ⟨b, 0, none⟩) size f l := by
  refine .inr ⟨b, 0, rfl, fun i a hi j v hj => ?_⟩
  rw [h.cell, Nat.zero_add]
  have key : ∀ (l : List α) (i : Nat), (∀ a ∈ l, (f a).length = size) → l[i]? = some a → (l.flatMap f ++ junk)[i * size + j]? = some v := by
    intro l
    induction l with
    | nil => intro i _ hi; simp at hi
    | cons y l ih =>
      intro i hf hi
      have hy := hf y (by simp)
      cases i with
      | zero =>
        simp at hi
        subst hi
        have hjl : j < (f y).length := (List.getElem?_eq_some_iff.1 hj).1
        rw [List.flatMap_cons, List.append_assoc, List.getElem?_append_left (by omega)]
        simpa using hj
      | succ i =>
        rw [List.flatMap_cons, List.append_assoc, List.getElem?_append_right (by rw [hy, Nat.succ_mul]; omega), hy, show (i + 1) * size + j - size = i * size + j by rw [Nat.succ_mul]; omega]
        exact ih i (fun a ha => hf a (by simp [ha])) (by simpa using hi)
  exact key l i hf hi
theorem RowAt.flat (h : RowAt w x size f l) (hf : ∀ a ∈ l, (f a).length = size) (hl : l ≠ []) : ∃ b o, x = some ⟨b, o, none⟩ ∧ w.rangeAt b o (l.flatMap f) := by
  rcases h with h | ⟨b, o, hx, h⟩
  · exact absurd h hl
  · refine ⟨b, o, hx, ?_⟩
    have key : ∀ (l : List α) (o : Nat), (∀ a ∈ l, (f a).length = size) → (∀ i a, l[i]? = some a → w.rangeAt b (o + i * size) (f a)) → w.rangeAt b o (l.flatMap f) := by
      intro l
      induction l with
      | nil => intro o _ _ j v hj; simp at hj
      | cons y l ih =>
        intro o hf h j v hj
        have hy := hf y (by simp)
        rw [List.flatMap_cons] at hj
        by_cases hlt : j < (f y).length
        · rw [List.getElem?_append_left hlt] at hj
          simpa using h 0 y rfl j v hj
        · rw [List.getElem?_append_right (by omega), hy] at hj
          have := ih (o + size) (fun a ha => hf a (by simp [ha])) (fun i a hi => by
            have := h (i + 1) a (by simpa using hi)
            rwa [Nat.succ_mul, show o + (i * size + size) = o + size + i * size by omega] at this) _ _ hj
          rwa [show o + size + (j - size) = o + j by omega] at this
    exact key l o hf h
end

theorem flat_len {α : Type} {f : α → List Value} {size : Nat} (hf : ∀ a, (f a).length = size) (l : List α) : (l.flatMap f).length = l.length * size := by
  induction l with
  | nil => simp
  | cons a l ih => rw [List.flatMap_cons, List.length_append, hf, ih, List.length_cons, Nat.succ_mul]; omega

/-- A part of an assembly. -/
structure Prt where
  name : ByteArray
  ext : Bool
def Prt.cells (p : Prt) : List Value := [.string p.name, .bool p.ext]
def strCells (s : ByteArray) : List Value := [.string s]

/-- A stretch, and where its lists lie. -/
structure Str where
  name : ByteArray
  sx : Option Addr
  sc : Nat
  sizes : List ByteArray
  px : Option Addr
  pc : Nat
  parts : List Prt
  ov : Int
@[reducible] def Str.cells (s : Str) : List Value := [.string s.name, .slice s.sx s.sizes.length s.sc, .slice s.px s.parts.length s.pc, .int .i64 s.ov]
/-- Its lists lie there. -/
structure StrOk (w : World) (s : Str) : Prop where
  sizes : RowAt w s.sx 1 strCells s.sizes
  parts : RowAt w s.px 2 Prt.cells s.parts
  ov : I64 s.ov
  sizesLen : s.sizes.length ≤ maxLen
  partsLen : s.parts.length ≤ maxLen
  nameLen : s.name.size ≤ maxLen
  sizeLen : ∀ n ∈ s.sizes, n.size ≤ maxLen
  partLen : ∀ p ∈ s.parts, p.name.size ≤ maxLen
theorem StrOk.below {w w' : World} {s : Str} (h : StrOk w s) (hb : Below w.heap.size w w') : StrOk w' s :=
  { h with sizes := h.sizes.below hb, parts := h.parts.below hb }
/-- The same stretch, wherever its lists lie. -/
def Str.Same (s t : Str) : Prop := s.name = t.name ∧ s.sizes = t.sizes ∧ s.parts = t.parts ∧ s.ov = t.ov

@[reducible] def Gly.cells (g : Gly) : List Value := [.string g.name, .int .i64 g.w, .int .i64 g.h, .int .i64 g.d, .int .i64 g.it, .int .i64 g.at_]

/-- A font, and where its lists lie. -/
structure Fnt where
  gx : Option Addr
  gc : Nat
  gs : List Gly
  sx : Option Addr
  sc : Nat
  ss : List Str
  quad : Int
  xheight : Int
  axis : Int
  rule : Int
  num1 : Int
  num2 : Int
  den1 : Int
  den2 : Int
  sup1 : Int
  sup2 : Int
  sup3 : Int
  sub1 : Int
  sub2 : Int
  supdrop : Int
  subdrop : Int
  script : Int
  sscript : Int
  dpercent : Int
  dshort : Int
  acc : Int
@[reducible] def Fnt.prm (F : Fnt) : List Value := [.int .i64 F.quad, .int .i64 F.xheight, .int .i64 F.axis, .int .i64 F.rule, .int .i64 F.num1, .int .i64 F.num2, .int .i64 F.den1, .int .i64 F.den2, .int .i64 F.sup1, .int .i64 F.sup2, .int .i64 F.sup3, .int .i64 F.sub1, .int .i64 F.sub2, .int .i64 F.supdrop, .int .i64 F.subdrop, .int .i64 F.script, .int .i64 F.sscript, .int .i64 F.dpercent, .int .i64 F.dshort, .int .i64 F.acc]
@[reducible] def Fnt.cells (F : Fnt) : List Value := [.slice F.gx F.gs.length F.gc, .slice F.sx F.ss.length F.sc, .int .i64 F.quad, .int .i64 F.xheight, .int .i64 F.axis, .int .i64 F.rule, .int .i64 F.num1, .int .i64 F.num2, .int .i64 F.den1, .int .i64 F.den2, .int .i64 F.sup1, .int .i64 F.sup2, .int .i64 F.sup3, .int .i64 F.sub1, .int .i64 F.sub2, .int .i64 F.supdrop, .int .i64 F.subdrop, .int .i64 F.script, .int .i64 F.sscript, .int .i64 F.dpercent, .int .i64 F.dshort, .int .i64 F.acc]
@[reducible] def Fnt.val (F : Fnt) : Value := .agg #[.slice F.gx F.gs.length F.gc, .slice F.sx F.ss.length F.sc, .int .i64 F.quad, .int .i64 F.xheight, .int .i64 F.axis, .int .i64 F.rule, .int .i64 F.num1, .int .i64 F.num2, .int .i64 F.den1, .int .i64 F.den2, .int .i64 F.sup1, .int .i64 F.sup2, .int .i64 F.sup3, .int .i64 F.sub1, .int .i64 F.sub2, .int .i64 F.supdrop, .int .i64 F.subdrop, .int .i64 F.script, .int .i64 F.sscript, .int .i64 F.dpercent, .int .i64 F.dshort, .int .i64 F.acc]
/-- Its lists lie there. -/
structure FntOk (w : World) (F : Fnt) : Prop where
  glys : RowAt w F.gx 6 Gly.cells F.gs
  strs : RowAt w F.sx 4 Str.cells F.ss
  gok : ∀ g ∈ F.gs, g.wf ∧ g.name.size ≤ maxLen
  sok : ∀ s ∈ F.ss, StrOk w s
  glen : F.gs.length ≤ maxLen
  slen : F.ss.length ≤ maxLen
  gcap : F.gs.length ≤ F.gc ∧ (F.gs ≠ [] → F.gc ≤ maxLen)
  scap : F.ss.length ≤ F.sc ∧ (F.ss ≠ [] → F.sc ≤ maxLen)
  prm : ∀ n, Value.int .i64 n ∈ F.prm → I64 n
theorem FntOk.below {w w' : World} {F : Fnt} (h : FntOk w F) (hb : Below w.heap.size w w') : FntOk w' F :=
  { h with glys := h.glys.below hb, strs := h.strs.below hb, sok := fun s hs => (h.sok s hs).below hb }
theorem FntOk.glysAt {w : World} {F : Fnt} (h : FntOk w F) : GlysAt w (.slice F.gx F.gs.length F.gc) F.gs := by
  rcases h.glys with h1 | ⟨b, o, hx, h1⟩
  · exact .inl ⟨F.gx, F.gc, by rw [h1]; rfl, h1⟩
  · refine .inr ⟨b, o, F.gc, by rw [hx], fun i g hi => ?_⟩
    have h2 := h1 i g hi
    exact ⟨h2 0 _ rfl, h2 1 _ rfl, h2 2 _ rfl, h2 3 _ rfl, h2 4 _ rfl, h2 5 _ rfl⟩

/-- Has a stretch at most 50 sizes and parts? -/
def fewS (s : Str) : Bool := decide (s.sizes.length ≤ 50) && decide (s.parts.length ≤ 50)
/-- Is a font not too large? -/
def fewB (F : Fnt) : Bool := decide (F.gs.length ≤ 500) && decide (F.ss.length ≤ 50) && F.ss.all fewS
theorem fewB_iff {F : Fnt} : fewB F = true ↔ F.gs.length ≤ 500 ∧ F.ss.length ≤ 50 ∧ ∀ s ∈ F.ss, s.sizes.length ≤ 50 ∧ s.parts.length ≤ 50 := by
  simp [fewB, fewS, and_assoc]
theorem fewS_drop {ss : List Str} {k : Nat} {t : Str} (h : ss[k]? = some t) : (ss.drop k).all fewS = (fewS t && (ss.drop (k + 1)).all fewS) := by
  obtain ⟨hk, rfl⟩ := List.getElem?_eq_some_iff.1 h
  rw [List.drop_eq_getElem_cons hk, List.all_cons]

def nilG : Gly := { name := ⟨#[]⟩, w := 0, h := 0, d := 0, it := 0, at_ := 0 }
def zeroS : Str := { name := ⟨#[]⟩, sx := none, sc := 0, sizes := [], px := none, pc := 0, parts := [], ov := 0 }
theorem findVal_any (r : Option Gly) : findVal r = .tuple #[.agg #[.string (r.getD nilG).name, .int .i64 (r.getD nilG).w, .int .i64 (r.getD nilG).h, .int .i64 (r.getD nilG).d, .int .i64 (r.getD nilG).it, .int .i64 (r.getD nilG).at_], .bool r.isSome] := by
  cases r <;> rfl
theorem zeroS_ok (w : World) : StrOk w zeroS where
  sizes := .inl rfl
  parts := .inl rfl
  ov := by show I64 0; unfold I64; omega
  sizesLen := Nat.zero_le _
  partsLen := Nat.zero_le _
  nameLen := Nat.zero_le _
  sizeLen := by simp [zeroS]
  partLen := by simp [zeroS]

/-- What Stretch gives. -/
def StretchGives (r : Option Str) (w : World) (e : Ending) (w' : World) : Prop :=
  match r with
  | some s => ∃ t : Str, s.Same t ∧ StrOk w' t ∧ e = .returned (.tuple #[.agg #[.string t.name, .slice t.sx t.sizes.length t.sc, .slice t.px t.parts.length t.pc, .int .i64 t.ov], .bool true]) ∧ Below w.heap.size w w'
  | none => e = .returned (.tuple #[.agg #[.string ⟨#[]⟩, .slice none 0 0, .slice none 0 0, .int .i64 0], .bool false]) ∧ Below w.heap.size w w'

/-- The same in one form. -/
def StretchAny (r : Option Str) (w : World) (e : Ending) (w' : World) : Prop :=
  ∃ t : Str, ((r.getD zeroS).Same t ∧ StrOk w' t) ∧ e = .returned (.tuple #[.agg #[.string t.name, .slice t.sx t.sizes.length t.sc, .slice t.px t.parts.length t.pc, .int .i64 t.ov], .bool r.isSome]) ∧ Below w.heap.size w w'
theorem StretchGives.any {r : Option Str} {w w' : World} {e : Ending} (h : StretchGives r w e w') : StretchAny r w e w' := by
  cases r with
  | none => exact ⟨zeroS, ⟨⟨rfl, rfl, rfl, rfl⟩, zeroS_ok w'⟩, h⟩
  | some s =>
    obtain ⟨t, h1, h2, h3, h4⟩ := h
    exact ⟨t, ⟨h1, h2⟩, h3, h4⟩
end Go.Proofs.Ytgpabckipmhobaa
namespace Go.Proofs.Ytgpabckipmhobaa
open Go.RowKit

/-- What a slice of the call's own holds, RowAt tells. -/
theorem Sl.rowAt {D : List Nat} {W w : World} {L : List (Nat × List Value)} {α : Type} {size n : Nat} {v : Value} {f : α → List Value} {l : List α} {X : List (Nat × List Value)} (hS : Own D W L w) (hm : ∀ x ∈ X, x ∈ L) (h : Sl size n v (l.flatMap f) X) (hf : ∀ a, (f a).length = size) (h0 : 0 < size) : ∃ y c, v = .slice y l.length c ∧ RowAt w y size f l ∧ l.length ≤ c ∧ c ≤ maxLen := by
  obtain ⟨hl, h⟩ := h
  have hn : n = l.length := by
    rw [flat_len hf] at hl
    exact (Nat.eq_of_mul_eq_mul_right h0 hl).symm
  subst hn
  rcases h with ⟨y, _, rfl, h, rfl⟩ | ⟨b, c, junk, rfl, h1, h2, h3, rfl⟩
  · exact ⟨y, 0, by rw [h], .inl (List.eq_nil_of_length_eq_zero h), by omega, by simp [maxLen]⟩
  · exact ⟨_, c, rfl, RowAt.of_has (fun a _ => hf a) (hS.has (b, l.flatMap f ++ junk) (hm _ (by simp))), h1, h2⟩
end Go.Proofs.Ytgpabckipmhobaa
namespace Go.Proofs.Ytgpabckipmhobaa
open Go.RowKit

/-- What a box holds, but for its kids. -/
structure Hd where
  kind : Int
  name : ByteArray
  size : Int
  w : Int
  h : Int
  d : Int
  x : Int
  y : Int
  of : Int
  src : List Int
/-- Boxes of at most n levels. -/
@[reducible] def Bx : Nat → Type
  | 0 => Empty
  | n + 1 => Hd × List (Bx n)

@[reducible] def Hd.cells (a : Hd) (k s : Value) : List Value := [.int .i64 a.kind, .string a.name, .int .i64 a.size, .int .i64 a.w, .int .i64 a.h, .int .i64 a.d, .int .i64 a.x, .int .i64 a.y, k, .int .i64 a.of, s]
def intCells (n : Int) : List Value := [.int .i64 n]
/-- Its numbers are numbers of a machine. -/
structure HdOk (a : Hd) : Prop where
  kind : I64 a.kind
  size : I64 a.size
  w : I64 a.w
  h : I64 a.h
  d : I64 a.d
  x : I64 a.x
  y : I64 a.y
  of : I64 a.of
  src : ∀ n ∈ a.src, I64 n
  srcLen : a.src.length ≤ maxLen
  nameLen : a.name.size ≤ maxLen

/-- The cells cs are the box b; its lists of kids lie where ko says, its sources where so says. -/
def RepG (ko : Nat → Nat → Prop) (so : Nat → Prop) (w : World) : (n : Nat) → Bx n → List Value → Prop
  | 0, _, _ => False
  | n + 1, b, cs => ∃ (kx : Option Addr) (kc : Nat) (sx : Option Addr) (sc : Nat), cs = b.1.cells (.slice kx b.2.length kc) (.slice sx b.1.src.length sc) ∧ HdOk b.1 ∧ b.2.length ≤ maxLen ∧
      RowAt w sx 1 intCells b.1.src ∧ (b.1.src ≠ [] → ∀ k o, sx = some ⟨k, o, none⟩ → so k) ∧
      ∀ i kid, b.2[i]? = some kid → ∃ k o css, kx = some ⟨k, o, none⟩ ∧ ko k o ∧ w.rangeAt k (o + i * 11) css ∧ RepG ko so w n kid css
/-- .. wherever. -/
@[reducible] def Rep (w : World) (n : Nat) (b : Bx n) (cs : List Value) : Prop := RepG (fun _ _ => True) (fun _ => True) w n b cs

theorem RepG.mono {ko ko' : Nat → Nat → Prop} {so so' : Nat → Prop} {w : World} (hk : ∀ k o, ko k o → ko' k o) (hs : ∀ k, so k → so' k) : ∀ (n : Nat) (b : Bx n) (cs : List Value), RepG ko so w n b cs → RepG ko' so' w n b cs := by
  intro n
  induction n with
  | zero => intro b cs h; exact h
  | succ n ih =>
    rintro b cs ⟨kx, kc, sx, sc, h1, h2, h3, h4, h5, h6⟩
    refine ⟨kx, kc, sx, sc, h1, h2, h3, h4, fun hne k o he => hs _ (h5 hne k o he), fun i kid hi => ?_⟩
    obtain ⟨k, o, css, e, e1, e2, e3⟩ := h6 i kid hi
    exact ⟨k, o, css, e, hk _ _ e1, e2, ih _ _ e3⟩
theorem RepG.step {ko : Nat → Nat → Prop} {so : Nat → Prop} {w w' : World} (hb : Below w.heap.size w w') : ∀ (n : Nat) (b : Bx n) (cs : List Value), RepG ko so w n b cs → RepG ko so w' n b cs := by
  intro n
  induction n with
  | zero => intro b cs h; exact h
  | succ n ih =>
    rintro b cs ⟨kx, kc, sx, sc, h1, h2, h3, h4, h5, h6⟩
    refine ⟨kx, kc, sx, sc, h1, h2, h3, h4.below hb, h5, fun i kid hi => ?_⟩
    obtain ⟨k, o, css, e, e1, e2, e3⟩ := h6 i kid hi
    exact ⟨k, o, css, e, e1, rangeAt_below e2 hb, ih _ _ e3⟩
theorem Rep.step {w w' : World} {n : Nat} {b : Bx n} {cs : List Value} (h : Rep w n b cs) (hb : Below w.heap.size w w') : Rep w' n b cs := RepG.step hb n b cs h
theorem RepG.len {ko : Nat → Nat → Prop} {so : Nat → Prop} {w : World} {n : Nat} {b : Bx n} {cs : List Value} (h : RepG ko so w n b cs) : cs.length = 11 := by
  cases n with
  | zero => exact h.elim
  | succ n => obtain ⟨kx, kc, sx, sc, rfl, _⟩ := h; rfl

/-- One level more. -/
def lift : (n : Nat) → Bx n → Bx (n + 1)
  | 0, b => b.elim
  | n + 1, b => (b.1, b.2.map (lift n))
theorem Rep.lift {w : World} : ∀ {n : Nat} {b : Bx n} {cs : List Value}, Rep w n b cs → Rep w (n + 1) (lift n b) cs := by
  intro n
  induction n with
  | zero => intro b cs h; exact h.elim
  | succ n ih =>
    rintro b cs ⟨kx, kc, sx, sc, h1, h2, h3, h4, h5, h6⟩
    refine ⟨kx, kc, sx, sc, by simpa [Proofs.Ytgpabckipmhobaa.lift] using h1, h2, by simpa [Proofs.Ytgpabckipmhobaa.lift] using h3, h4, h5, fun i kid hi => ?_⟩
    simp only [Proofs.Ytgpabckipmhobaa.lift, List.getElem?_map] at hi
    cases hq : b.2[i]? with
    | none => rw [hq] at hi; cases hi
    | some y =>
      rw [hq] at hi
      obtain rfl : Proofs.Ytgpabckipmhobaa.lift n y = kid := by simpa using hi
      obtain ⟨k, o, css, e, e1, e2, e3⟩ := h6 i y hq
      exact ⟨k, o, css, e, e1, e2, ih e3⟩
theorem Rep.up {w : World} {n : Nat} {b : Bx n} {cs : List Value} (h : Rep w n b cs) : ∀ m, n ≤ m → ∃ b', Rep w m b' cs := by
  intro m hm
  induction m with
  | zero =>
    obtain rfl : n = 0 := by omega
    exact ⟨b, h⟩
  | succ m ih =>
    by_cases he : n = m + 1
    · subst he; exact ⟨b, h⟩
    · obtain ⟨b', h'⟩ := ih (by omega)
      exact ⟨_, Rep.lift h'⟩

/-- The number of boxes; the number of levels. -/
def bCount : (n : Nat) → Bx n → Nat
  | 0, _ => 0
  | n + 1, b => 1 + (b.2.map (bCount n)).sum
def bNested : (n : Nat) → Bx n → Nat
  | 0, _ => 0
  | n + 1, b => 1 + b.2.foldl (fun m k => max m (bNested n k)) 0

end Go.Proofs.Ytgpabckipmhobaa
