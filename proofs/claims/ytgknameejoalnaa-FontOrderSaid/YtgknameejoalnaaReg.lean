/- A region that draws its order: its operations up to number n yield one value in every world of a class, and behind them a tail comes in one order: one walk in the text's order serves every order. -/
import Derived.Test.YtgknameejoalnaaBase
import Derived.Deep.Quiet
import Derived.StillTail
namespace Go.Proofs.Ytgknameejoalnaa
open Go.RowKit
section
variable {P : Program} {ops : Array Oper} {md : Region.Mode} {C : World → Prop}

/-- Whatever head operation is picked, till the head is done. -/
def headAny (P : Program) (md : Region.Mode) (ops : Array Oper) (C : World → Prop) (n : Nat) (L : Array Bool → Act → Prop) : Nat → Array Bool → Act → Prop
  | 0, listed, a => L listed a
  | f + 1, listed, a => Region.ready md ops listed ≠ [] ∧ ∀ i ∈ Region.ready md ops listed, i < n ∧ qOp P ops C i (headAny P md ops C n L f (listed.setIfInBounds i true)) a

theorem wpAny_of_headAny {n g : Nat} {L : Array Bool → Act → Prop} {Q : Exit → Act → World → Prop} (hL : ∀ listed a w, C w → L listed a → wpAny P md ops Q g listed a w) (f : Nat) :
    ∀ (listed : Array Bool) (a : Act) (w : World), C w → headAny P md ops C n L f listed a → wpAny P md ops Q (f + g) listed a w := by
  induction f with
  | zero => intro listed a w hC h; rw [Nat.zero_add]; exact hL _ _ _ hC h
  | succ f ih =>
    intro listed a w hC h
    rw [Nat.add_right_comm f 1 g]
    exact ⟨fun h0 => absurd h0 h.1, fun i hi => wpOp_of_qOp hC (fun a' w' hw' h' => ih _ a' w' hw' h') (h.2 i hi).2⟩

theorem head_lt {n i : Nat} {listed : Array Bool} (hs : Region.sinkB md ops n = true) (hc : Region.chainB md ops n = true) (hn : n < ops.size) (inv : HeadInv md ops n listed)
    (hin : i < n) (hun : listed.getD i true = false) {j : Nat} (hj : j ∈ Region.ready md ops listed) : j < n := by
  by_cases h : j < n
  · exact h
  · exact absurd hj (tail_waits hs hc hn inv _ i rfl hin hun j (by omega))

/-- A head operation that is ready may be taken first. -/
theorem headAny_first {n i : Nat} {oi : Oper} {v : Value} {L : Array Bool → Act → Prop} (hi : ops[i]? = some oi) (hsel : Region.noSelect ops = true)
    (hs : Region.sinkB md ops n = true) (hc : Region.chainB md ops n = true) (hn : n < ops.size) (hin : i < n)
    (hdone : ∀ listed a, L listed a → ∀ j ∈ Region.ready md ops listed, n ≤ j) (f : Nat) :
    ∀ (listed : Array Bool) (a : Act), HeadInv md ops n listed →
      (∀ j oj, ops[j]? = some oj → j ≠ i → listed.getD j true = false → (∀ e ∈ oj.after, Region.binds md e = true → e.on ≠ i) → oi.apart ops oj = true) →
      i ∈ Region.ready md ops listed → YieldsIn P ops C oi v a →
      headAny P md ops C n L f (listed.setIfInBounds i true) (a.put oi.dst v) → headAny P md ops C n L (f + 1) listed a := by
  have hsel' := Region.noSelect_spec hsel
  induction f with
  | zero =>
    intro listed a inv _ hr hy H
    refine ⟨List.ne_nil_of_mem hr, fun j hj => ⟨head_lt hs hc hn inv hin (mem_ready.1 hr).1 hj, ?_⟩⟩
    by_cases hji : j = i
    · subst hji; exact hy.qOp hi H
    · have h1 := hdone _ _ H j (ready_mono hj hji)
      have h2 := head_lt hs hc hn inv hin (mem_ready.1 hr).1 hj
      omega
  | succ f ih =>
    intro listed a inv hfree hr hy H
    have hun := (mem_ready.1 hr).1
    refine ⟨List.ne_nil_of_mem hr, fun j hj => ⟨head_lt hs hc hn inv hin hun hj, ?_⟩⟩
    by_cases hji : j = i
    · subst hji; exact hy.qOp hi H
    · obtain ⟨hjun, oj, hoj, hall⟩ := mem_ready.1 hj
      have hap : oi.apart ops oj = true := hfree j oj hoj hji hjun fun e he hb heq => by
        have h1 := hall e he hb
        rw [heq, getD_both hun] at h1
        cases h1
      refine qOp_mono (fun a' h3 => ih (listed.setIfInBounds j true) a' (inv.set hj (head_lt hs hc hn inv hin hun hj)) ?_ (ready_mono hr (Ne.symm hji)) h3.1 ?_)
        (qOp_put hoj hap (fun cs b => hsel' i oi cs b hi) (fun cs b => hsel' j oj cs b hoj) hy ((H.2 j (ready_mono hj hji)).2))
      · intro k ok hk hki hunk hno
        refine hfree k ok hk hki ?_ hno
        by_cases hjk : j = k
        · subst hjk; exact hjun
        · rw [getD_set_ne true hjk] at hunk; exact hunk
      · rw [Array.setIfInBounds_comm _ _ hji]
        exact h3.2

theorem headAny_lex {n g : Nat} {R : Act → Prop} (hsel : Region.noSelect ops = true) (hs : Region.sinkB md ops n = true) (hc : Region.chainB md ops n = true) (hn : n < ops.size) (l : List Oper) :
    ∀ (k : Nat) (listed : Array Bool) (a : Act), (∀ j, j < l.length → l[j]? = ops[k + j]?) → k + l.length = n → HeadInv md ops n listed →
    Region.lexHead md ops g l.length k listed = true → wpQuiet P ops C R l a →
    headAny P md ops C n (fun listed' a' => Region.seqB md ops g n listed' = true ∧ R a') l.length listed a := by
  induction l with
  | nil =>
    intro k listed a _ hk _ hB h
    have hkn : k = n := by simpa using hk
    rw [hkn] at hB
    exact ⟨by simpa [Region.lexHead] using hB, h⟩
  | cons o l ih =>
    intro k listed a hl hk inv hB h
    have h0 : ops[k]? = some o := by simpa using (hl 0 (by simp)).symm
    simp only [List.length_cons, Region.lexHead, Bool.and_eq_true] at hB
    have hkn : k < n := by simp only [List.length_cons] at hk; omega
    have hr : k ∈ Region.ready md ops listed := by simpa using hB.1.1
    have hq : qOp P ops C k (wpQuiet P ops C R l) a := by unfold qOp; simp only [h0]; exact h
    obtain ⟨v, hy, hK⟩ := yieldsIn_of_qOp h0 hq
    refine headAny_first h0 hsel hs hc hn hkn (fun _ _ hL => seqB_ready hL.1) l.length listed a inv (Region.free_spec h0 hB.1.2) hr hy
      (ih (k + 1) _ _ (fun j hj => ?_) (by simp only [List.length_cons] at hk; omega) (inv.set hr hkn) hB.2 hK)
    have := hl (j + 1) (by simp; omega)
    simpa [Nat.add_assoc, Nat.add_comm 1 j] using this

/-- The region: a head whose operations are quiet in the class C, then a tail in one order. -/
theorem wp_region_steady {id : Nat} {Q : Exit → Act → World → Prop} {a : Act} {w : World} {l : List Oper} (C : World → Prop) (n : Nat) (hm : P.follows .mixedOrders = true) (hB : Region.lexTailB .any l.toArray n = true)
    (hC : C w.drew) (h : wpQuiet P l.toArray C (fun a' => ∀ w', C w' → wpList P l.toArray Q (l.drop n) a' w') (l.take n) a) : (Code.region id l.toArray true).wp P Q a w := by
  simp only [Region.lexTailB, Bool.and_eq_true, decide_eq_true_eq] at hB
  obtain ⟨⟨⟨⟨hsel, hn⟩, hs⟩, hc⟩, hlex⟩ := hB
  have hn' : n < l.length := by simpa using hn
  have htl : (l.take n).length = n := by simp; omega
  have hdl : (l.drop n).length = l.toArray.size - n := by simp
  have inv0 : HeadInv .any l.toArray n (Array.replicate l.toArray.size false) :=
    ⟨by simp, fun j oj _ hl => (by rw [getD_replicate_false] at hl; cases hl), fun t _ ht => getD_in (by simpa using ht) (getD_replicate_false _ _)⟩
  have H := headAny_lex (md := .any) (g := l.toArray.size - n) hsel hs hc hn (l.take n) 0 _ a (fun j hj => by
    have hj' : j < n := by rw [htl] at hj; exact hj
    simp [hj']) (by simpa using htl) inv0 (by rw [htl]; exact hlex) h
  refine wp_region_any hm ?_
  have := wpAny_of_headAny (Q := Q) (g := l.toArray.size - n) (fun listed a' w' hw' hL => by
    have h1 := wpAny_of_seq (md := .any) (Q' := Q) (l.drop n) n listed a' w' (fun j => by simp [List.getElem?_drop]) (by rw [hdl]; exact hL.1) (hL.2 w' hw')
    rwa [hdl] at h1) _ _ _ _ hC H
  rw [htl, show n + (l.toArray.size - n) = l.toArray.size by omega] at this
  exact this

/-- The region: all operations quiet in the class C. -/
theorem wp_region_quiets {id : Nat} {Q : Exit → Act → World → Prop} {a : Act} {w : World} {l : List Oper} (C : World → Prop) (hm : P.follows .mixedOrders = true) (hB : Region.lexB .any l.toArray = true)
    (hC : C w.drew) (h : wpQuiet P l.toArray C (fun a' => ∀ w', C w' → Q .normal a' w') l a) : (Code.region id l.toArray true).wp P Q a w :=
  wp_region_quiet hm hB hC (by simpa using h)

theorem quiet_op {Q : Act → Prop} {a : Act} {o : Oper} {rest : List Oper} (hw : Region.wanted o (yielded ops a.tmps) = true)
    (h : ∃ v, (∀ w, C w → o.quietAt P a C w v) ∧ wpQuiet P ops C Q rest (a.put o.dst v)) : wpQuiet P ops C Q (o :: rest) a := by
  unfold wpQuiet
  rw [if_pos hw]
  exact h
/-- An operation without a guard. -/
theorem quiet_plain {Q : Act → Prop} {a : Act} {o : Oper} {rest : List Oper} (hg : o.guard = none)
    (h : ∃ v, (∀ w, C w → o.quietAt P a C w v) ∧ wpQuiet P ops C Q rest (a.put o.dst v)) : wpQuiet P ops C Q (o :: rest) a :=
  quiet_op (by simp [Region.wanted, hg]) h
theorem quiet_skip {Q : Act → Prop} {a : Act} {o : Oper} {rest : List Oper} (hw : Region.wanted o (yielded ops a.tmps) = false)
    (hr : wpQuiet P ops C Q rest (a.put o.dst undef)) : wpQuiet P ops C Q (o :: rest) a := by
  unfold wpQuiet
  rw [if_neg (by simp [hw])]
  exact hr
/-- What is to be shown of an operation with a guard: yes where the guard's temporary holds the wanted Bool, else no. -/
def QG (x : Value) (b : Bool) (yes no : Prop) : Prop :=
  match x, b with
  | .bool true, true => yes
  | .bool false, false => yes
  | _, _ => no
theorem QG_tt {yes no : Prop} (h : yes) : QG (.bool true) true yes no := h
theorem QG_ff {yes no : Prop} (h : yes) : QG (.bool false) false yes no := h
theorem QG_tf {yes no : Prop} (h : no) : QG (.bool true) false yes no := h
theorem QG_ft {yes no : Prop} (h : no) : QG (.bool false) true yes no := h
theorem QG_u {yes no : Prop} {b : Bool} (h : no) : QG undef b yes no := h
/-- The Bool of a value. -/
def boolOf : Value → Option Bool
  | .bool c => some c
  | _ => none
theorem QG_yes {x : Value} {b : Bool} {yes no : Prop} (hx : boolOf x = some b) (h : QG x b yes no) : yes := by
  cases x <;> simp [boolOf] at hx
  rename_i c
  cases c <;> cases b <;> first | exact h | cases hx
theorem QG_no {x : Value} {b : Bool} {yes no : Prop} (hx : boolOf x ≠ some b) (h : QG x b yes no) : no := by
  cases x <;> first | (cases b <;> exact h) | skip
  rename_i c
  cases b <;> cases c <;> first | exact h | exact absurd rfl hx
theorem yielded_at {j d : Nat} {oj : Oper} {tmps : Array Value} {x : Value} (hj : ops[j]? = some oj) (hd : oj.dst = some d) (hv : tmps[d]? = some x) : yielded ops tmps j = boolOf x := by
  unfold yielded
  simp only [hj, Option.bind_some, hd, hv]
  cases x <;> rfl
theorem quiet_at {Q : Act → Prop} {a : Act} {o oj : Oper} {rest : List Oper} {j d : Nat} {b : Bool} {x : Value} (hg : o.guard = some (j, b)) (hj : ops[j]? = some oj) (hd : oj.dst = some d) (hv : a.tmps[d]? = some x)
    (h : QG x b (∃ v, (∀ w, C w → o.quietAt P a C w v) ∧ wpQuiet P ops C Q rest (a.put o.dst v)) (wpQuiet P ops C Q rest (a.put o.dst undef))) : wpQuiet P ops C Q (o :: rest) a := by
  have hw : Region.wanted o (yielded ops a.tmps) = (boolOf x == some b) := by
    unfold Region.wanted
    simp only [hg, yielded_at hj hd hv]
  by_cases hx : boolOf x = some b
  · exact quiet_op (by rw [hw]; simpa using hx) (QG_yes hx h)
  · exact quiet_skip (by rw [hw]; simpa using hx) (QG_no hx h)
end
/-- A class of worlds behind the world W: below W's size all is as in W, and the cells of F hold their values. -/
structure Cls (C : World → Prop) (W : World) (F : List (Addr × Value)) : Prop where
  cells : ∀ w, C w → ∀ x ∈ F, w.cell? x.1 = some x.2
  step : ∀ w w', C w → Below w.heap.size w w' → C w'
  below : ∀ w, C w → Below W.heap.size W w

theorem Cls.call {C : World → Prop} {W : World} {F : List (Addr × Value)} (hC : Cls C W F) {w : World} (h : C w) {P : Program} {f : FuncId} {args : Array Value} {v : Value} (hc : Calls P f args w (Gives v w)) :
    Calls P f args w (fun e w'' => e = .returned v ∧ C w'') := hc.mono fun _ _ hg => ⟨hg.1, hC.step _ _ h hg.2⟩
/-- The call leaves the world alone. -/
theorem Cls.same {C : World → Prop} {w : World} (h : C w) {P : Program} {f : FuncId} {args : Array Value} {v : Value} (hc : Calls P f args w (fun e w' => e = .returned v ∧ w = w')) :
    Calls P f args w (fun e w'' => e = .returned v ∧ C w'') := hc.mono fun _ _ hg => ⟨hg.1, hg.2 ▸ h⟩

/-- There is such a class. -/
theorem Cls.mk' {W : World} {F : List (Addr × Value)} (h : ∀ x ∈ F, W.cell? x.1 = some x.2) : Cls (fun w => Below W.heap.size W w) W F where
  cells := fun _ hw x hx => (hw.cell (World.block_lt_of_cell? W x.1 (h x hx))).trans (h x hx)
  step := fun _ _ hw hb => hw.trans (hb.mono hw.size)
  below := fun _ hw => hw

/-- A region that draws its order, all of whose operations yield one value in every world of such a class. -/
theorem wp_region_cls {P : Program} {id : Nat} {Q : Exit → Act → World → Prop} {a : Act} {w : World} {l : List Oper} (F : List (Addr × Value)) (hm : P.follows .mixedOrders = true) (hB : Region.lexB .any l.toArray = true)
    (h0 : ∀ x ∈ F, w.cell? x.1 = some x.2)
    (h : ∀ C : World → Prop, Cls C w F → wpQuiet P l.toArray C (fun a' => ∀ w', C w' → Q .normal a' w') l a) : (Code.region id l.toArray true).wp P Q a w :=
  wp_region_quiet hm hB ((Below.refl _ _).drew) (by simpa using h _ (Cls.mk' h0))
/-- The same, with a tail in one order behind the first n operations. -/
theorem wp_region_cls_tail {P : Program} {id : Nat} {Q : Exit → Act → World → Prop} {a : Act} {w : World} {l : List Oper} (F : List (Addr × Value)) (n : Nat) (hm : P.follows .mixedOrders = true) (hB : Region.lexTailB .any l.toArray n = true)
    (h0 : ∀ x ∈ F, w.cell? x.1 = some x.2)
    (h : ∀ C : World → Prop, Cls C w F → wpQuiet P l.toArray C (fun a' => ∀ w', C w' → wpList P l.toArray Q (l.drop n) a' w') (l.take n) a) : (Code.region id l.toArray true).wp P Q a w :=
  wp_region_steady _ n hm hB ((Below.refl _ _).drew) (h _ (Cls.mk' h0))

end Go.Proofs.Ytgknameejoalnaa
