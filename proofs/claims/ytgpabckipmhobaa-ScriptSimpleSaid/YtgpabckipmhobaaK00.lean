/- Texts Base, Reg, Blk, Len, Own, App, Apn. -/
import Derived.Test.YtgpabckipmhobaaRows
import Derived.WalkKit
import Derived.WalkSpells
import Derived.WalkLawsBesides
import Derived.Deep.QuietTactic
import Derived.Deep.RegionHeld3
import Derived.BigQuiet
import Derived.StillTailTactics
import Derived.Lib.Hide
import Derived.WalkSmall
import Derived.Deep.DeepFit
import Derived.Outline
import Derived.Handy
import Derived.Laws.EntriesVeiled
import Derived.Deep.Quiet
import Derived.StillTail
import Derived.Laws.Rows
import Derived.Deep.DeepCutAuto
import Derived.Deep.MidRow
import Derived.Laws.Append
import Derived.Laws.OwnMore
import Derived.ArgAppend
namespace Go.Proofs.Ytgpabckipmhobaa
open Go.RowKit

/-- The call returns v, and nothing that was there before it has changed. -/
def Gives (v : Value) (w : World) (e : Ending) (w' : World) : Prop := e = .returned v ∧ Below w.heap.size w w'

theorem Gives.mk {v : Value} {w : World} {e : Ending} {w' : World} (h : e = .returned v) (hb : Below w.heap.size w w') : Gives v w e w' := ⟨h, hb⟩

theorem ret_int {k : IntKind} {a b : Int} (h : a = b) : Ending.returned (.int k a) = .returned (.int k b) := by rw [h]
theorem ret_bool {a b : Bool} (h : a = b) : Ending.returned (.bool a) = .returned (.bool b) := by rw [h]

/-- A block that is older than a world is older than that world with some blocks more. -/
theorem lt_more {a b : Nat} (h : a < b) : a < b ∧ a < b + 1 ∧ a < b + 1 + 1 ∧ a < b + 1 + 1 + 1 ∧ a < b + 1 + 1 + 1 + 1 ∧ a < b + 1 + 1 + 1 + 1 + 1 ∧ a < b + 1 + 1 + 1 + 1 + 1 + 1 := by omega

/-- One call behind another. -/
theorem bthen {w a b : World} (h : Below w.heap.size w a) (k : Below a.heap.size a b) : Below w.heap.size w b := h.trans (k.mono h.size)
/-- A new block behind a call. -/
theorem bnew {w a : World} (h : Below w.heap.size w a) (o : Obj) : Below w.heap.size w (a.alloc o) := h.alloc h.size o
theorem bself (w : World) : Below w.heap.size w w := Below.refl _ _

end Go.Proofs.Ytgpabckipmhobaa
namespace Go.Proofs.Ytgpabckipmhobaa
open Go.RowKit
section
variable {P : Program} {ops : Array Oper} {md : Region.Mode} {C : World → Prop}

/-- Whatever head operation is picked, till the head is done. -/
def headAny (P : Program) (md : Region.Mode) (ops : Array Oper) (C : World → Prop) (n : Nat) (L : Array Bool → Act → Prop) : Nat → Array Bool → Act → Prop
  | 0, listed, a => L listed a
  | f + 1, listed, a => Region.ready md ops listed ≠ [] ∧ ∀ i ∈ Region.ready md ops listed, i < n ∧ qOp P ops C i (headAny P md ops C n L f (listed.setIfInBounds i true)) a

theorem wpAny_of_headAny {n g : Nat} {L : Array Bool → Act → Prop} {Q : Exit → Act → World → Prop} (hL : ∀ listed a w, C w → L listed a → wpAny P md ops Q g listed a w) (f : Nat) :
    ∀ (listed : Array Bool) (a : Act) (w : World), C w → headAny P md ops C n L f listed a → wpAny P md ops Q (f + g) listed a w := by
  induction f with
  | zero => intro listed a w hC h; rw [Nat.zero_add]; exact hL _ _ _ hC h
  | succ f ih =>
    intro listed a w hC h
    rw [Nat.add_right_comm f 1 g]
    exact ⟨fun h0 => absurd h0 h.1, fun i hi => wpOp_of_qOp hC (fun a' w' hw' h' => ih _ a' w' hw' h') (h.2 i hi).2⟩

theorem head_lt {n i : Nat} {listed : Array Bool} (hs : Region.sinkB md ops n = true) (hc : Region.chainB md ops n = true) (hn : n < ops.size) (inv : HeadInv md ops n listed)
    (hin : i < n) (hun : listed.getD i true = false) {j : Nat} (hj : j ∈ Region.ready md ops listed) : j < n := by
  by_cases h : j < n
  · exact h
  · exact absurd hj (tail_waits hs hc hn inv _ i rfl hin hun j (by omega))

/-- A head operation that is ready may be taken first. -/
theorem headAny_first {n i : Nat} {oi : Oper} {v : Value} {L : Array Bool → Act → Prop} (hi : ops[i]? = some oi) (hsel : Region.noSelect ops = true)
    (hs : Region.sinkB md ops n = true) (hc : Region.chainB md ops n = true) (hn : n < ops.size) (hin : i < n)
    (hdone : ∀ listed a, L listed a → ∀ j ∈ Region.ready md ops listed, n ≤ j) (f : Nat) :
    ∀ (listed : Array Bool) (a : Act), HeadInv md ops n listed →
      (∀ j oj, ops[j]? = some oj → j ≠ i → listed.getD j true = false → (∀ e ∈ oj.after, Region.binds md e = true → e.on ≠ i) → oi.apart ops oj = true) →
      i ∈ Region.ready md ops listed → YieldsIn P ops C oi v a →
      headAny P md ops C n L f (listed.setIfInBounds i true) (a.put oi.dst v) → headAny P md ops C n L (f + 1) listed a := by
  have hsel' := Region.noSelect_spec hsel
  induction f with
  | zero =>
    intro listed a inv _ hr hy H
    refine ⟨List.ne_nil_of_mem hr, fun j hj => ⟨head_lt hs hc hn inv hin (mem_ready.1 hr).1 hj, ?_⟩⟩
    by_cases hji : j = i
    · subst hji; exact hy.qOp hi H
    · have h1 := hdone _ _ H j (ready_mono hj hji)
      have h2 := head_lt hs hc hn inv hin (mem_ready.1 hr).1 hj
      omega
  | succ f ih =>
    intro listed a inv hfree hr hy H
    have hun := (mem_ready.1 hr).1
    refine ⟨List.ne_nil_of_mem hr, fun j hj => ⟨head_lt hs hc hn inv hin hun hj, ?_⟩⟩
    by_cases hji : j = i
    · subst hji; exact hy.qOp hi H
    · obtain ⟨hjun, oj, hoj, hall⟩ := mem_ready.1 hj
      have hap : oi.apart ops oj = true := hfree j oj hoj hji hjun fun e he hb heq => by
        have h1 := hall e he hb
        rw [heq, getD_both hun] at h1
        cases h1
      refine qOp_mono (fun a' h3 => ih (listed.setIfInBounds j true) a' (inv.set hj (head_lt hs hc hn inv hin hun hj)) ?_ (ready_mono hr (Ne.symm hji)) h3.1 ?_)
        (qOp_put hoj hap (fun cs b => hsel' i oi cs b hi) (fun cs b => hsel' j oj cs b hoj) hy ((H.2 j (ready_mono hj hji)).2))
      · intro k ok hk hki hunk hno
        refine hfree k ok hk hki ?_ hno
        by_cases hjk : j = k
        · subst hjk; exact hjun
        · rw [getD_set_ne true hjk] at hunk; exact hunk
      · rw [Array.setIfInBounds_comm _ _ hji]
        exact h3.2

theorem headAny_lex {n g : Nat} {R : Act → Prop} (hsel : Region.noSelect ops = true) (hs : Region.sinkB md ops n = true) (hc : Region.chainB md ops n = true) (hn : n < ops.size) (l : List Oper) :
    ∀ (k : Nat) (listed : Array Bool) (a : Act), (∀ j, j < l.length → l[j]? = ops[k + j]?) → k + l.length = n → HeadInv md ops n listed →
    Region.lexHead md ops g l.length k listed = true → wpQuiet P ops C R l a →
    headAny P md ops C n (fun listed' a' => Region.seqB md ops g n listed' = true ∧ R a') l.length listed a := by
  induction l with
  | nil =>
    intro k listed a _ hk _ hB h
    have hkn : k = n := by simpa using hk
    rw [hkn] at hB
    exact ⟨by simpa [Region.lexHead] using hB, h⟩
  | cons o l ih =>
    intro k listed a hl hk inv hB h
    have h0 : ops[k]? = some o := by simpa using (hl 0 (by simp)).symm
    simp only [List.length_cons, Region.lexHead, Bool.and_eq_true] at hB
    have hkn : k < n := by simp only [List.length_cons] at hk; omega
    have hr : k ∈ Region.ready md ops listed := by simpa using hB.1.1
    have hq : qOp P ops C k (wpQuiet P ops C R l) a := by unfold qOp; simp only [h0]; exact h
    obtain ⟨v, hy, hK⟩ := yieldsIn_of_qOp h0 hq
    refine headAny_first h0 hsel hs hc hn hkn (fun _ _ hL => seqB_ready hL.1) l.length listed a inv (Region.free_spec h0 hB.1.2) hr hy
      (ih (k + 1) _ _ (fun j hj => ?_) (by simp only [List.length_cons] at hk; omega) (inv.set hr hkn) hB.2 hK)
    have := hl (j + 1) (by simp; omega)
    simpa [Nat.add_assoc, Nat.add_comm 1 j] using this

/-- The region: a head whose operations are quiet in the class C, then a tail in one order. -/
theorem wp_region_steady {id : Nat} {Q : Exit → Act → World → Prop} {a : Act} {w : World} {l : List Oper} (C : World → Prop) (n : Nat) (hm : P.follows .mixedOrders = true) (hB : Region.lexTailB .any l.toArray n = true)
    (hC : C w.drew) (h : wpQuiet P l.toArray C (fun a' => ∀ w', C w' → wpList P l.toArray Q (l.drop n) a' w') (l.take n) a) : (Code.region id l.toArray true).wp P Q a w := by
  simp only [Region.lexTailB, Bool.and_eq_true, decide_eq_true_eq] at hB
  obtain ⟨⟨⟨⟨hsel, hn⟩, hs⟩, hc⟩, hlex⟩ := hB
  have hn' : n < l.length := by simpa using hn
  have htl : (l.take n).length = n := by simp; omega
  have hdl : (l.drop n).length = l.toArray.size - n := by simp
  have inv0 : HeadInv .any l.toArray n (Array.replicate l.toArray.size false) :=
    ⟨by simp, fun j oj _ hl => (by rw [getD_replicate_false] at hl; cases hl), fun t _ ht => getD_in (by simpa using ht) (getD_replicate_false _ _)⟩
  have H := headAny_lex (md := .any) (g := l.toArray.size - n) hsel hs hc hn (l.take n) 0 _ a (fun j hj => by
    have hj' : j < n := by rw [htl] at hj; exact hj
    simp [hj']) (by simpa using htl) inv0 (by rw [htl]; exact hlex) h
  refine wp_region_any hm ?_
  have := wpAny_of_headAny (Q := Q) (g := l.toArray.size - n) (fun listed a' w' hw' hL => by
    have h1 := wpAny_of_seq (md := .any) (Q' := Q) (l.drop n) n listed a' w' (fun j => by simp [List.getElem?_drop]) (by rw [hdl]; exact hL.1) (hL.2 w' hw')
    rwa [hdl] at h1) _ _ _ _ hC H
  rw [htl, show n + (l.toArray.size - n) = l.toArray.size by omega] at this
  exact this

/-- The region: all operations quiet in the class C. -/
theorem wp_region_quiets {id : Nat} {Q : Exit → Act → World → Prop} {a : Act} {w : World} {l : List Oper} (C : World → Prop) (hm : P.follows .mixedOrders = true) (hB : Region.lexB .any l.toArray = true)
    (hC : C w.drew) (h : wpQuiet P l.toArray C (fun a' => ∀ w', C w' → Q .normal a' w') l a) : (Code.region id l.toArray true).wp P Q a w :=
  wp_region_quiet hm hB hC (by simpa using h)

theorem quiet_op {Q : Act → Prop} {a : Act} {o : Oper} {rest : List Oper} (hw : Region.wanted o (yielded ops a.tmps) = true)
    (h : ∃ v, (∀ w, C w → o.quietAt P a C w v) ∧ wpQuiet P ops C Q rest (a.put o.dst v)) : wpQuiet P ops C Q (o :: rest) a := by
  unfold wpQuiet
  rw [if_pos hw]
  exact h
/-- An operation without a guard. -/
theorem quiet_plain {Q : Act → Prop} {a : Act} {o : Oper} {rest : List Oper} (hg : o.guard = none)
    (h : ∃ v, (∀ w, C w → o.quietAt P a C w v) ∧ wpQuiet P ops C Q rest (a.put o.dst v)) : wpQuiet P ops C Q (o :: rest) a :=
  quiet_op (by simp [Region.wanted, hg]) h
theorem quiet_skip {Q : Act → Prop} {a : Act} {o : Oper} {rest : List Oper} (hw : Region.wanted o (yielded ops a.tmps) = false)
    (hr : wpQuiet P ops C Q rest (a.put o.dst undef)) : wpQuiet P ops C Q (o :: rest) a := by
  unfold wpQuiet
  rw [if_neg (by simp [hw])]
  exact hr
/-- What is to be shown of an operation with a guard: yes where the guard's temporary holds the wanted Bool, else no. -/
def QG (x : Value) (b : Bool) (yes no : Prop) : Prop :=
  match x, b with
  | .bool true, true => yes
  | .bool false, false => yes
  | _, _ => no
theorem QG_tt {yes no : Prop} (h : yes) : QG (.bool true) true yes no := h
theorem QG_ff {yes no : Prop} (h : yes) : QG (.bool false) false yes no := h
theorem QG_tf {yes no : Prop} (h : no) : QG (.bool true) false yes no := h
theorem QG_ft {yes no : Prop} (h : no) : QG (.bool false) true yes no := h
theorem QG_u {yes no : Prop} {b : Bool} (h : no) : QG undef b yes no := h
/-- The Bool of a value. -/
def boolOf : Value → Option Bool
  | .bool c => some c
  | _ => none
theorem QG_yes {x : Value} {b : Bool} {yes no : Prop} (hx : boolOf x = some b) (h : QG x b yes no) : yes := by
  cases x <;> simp [boolOf] at hx
  rename_i c
  cases c <;> cases b <;> first | exact h | cases hx
theorem QG_no {x : Value} {b : Bool} {yes no : Prop} (hx : boolOf x ≠ some b) (h : QG x b yes no) : no := by
  cases x <;> first | (cases b <;> exact h) | skip
  rename_i c
  cases b <;> cases c <;> first | exact h | exact absurd rfl hx
theorem yielded_at {j d : Nat} {oj : Oper} {tmps : Array Value} {x : Value} (hj : ops[j]? = some oj) (hd : oj.dst = some d) (hv : tmps[d]? = some x) : yielded ops tmps j = boolOf x := by
  unfold yielded
  simp only [hj, Option.bind_some, hd, hv]
  cases x <;> rfl
theorem quiet_at {Q : Act → Prop} {a : Act} {o oj : Oper} {rest : List Oper} {j d : Nat} {b : Bool} {x : Value} (hg : o.guard = some (j, b)) (hj : ops[j]? = some oj) (hd : oj.dst = some d) (hv : a.tmps[d]? = some x)
    (h : QG x b (∃ v, (∀ w, C w → o.quietAt P a C w v) ∧ wpQuiet P ops C Q rest (a.put o.dst v)) (wpQuiet P ops C Q rest (a.put o.dst undef))) : wpQuiet P ops C Q (o :: rest) a := by
  have hw : Region.wanted o (yielded ops a.tmps) = (boolOf x == some b) := by
    unfold Region.wanted
    simp only [hg, yielded_at hj hd hv]
  by_cases hx : boolOf x = some b
  · exact quiet_op (by rw [hw]; simpa using hx) (QG_yes hx h)
  · exact quiet_skip (by rw [hw]; simpa using hx) (QG_no hx h)
/-- The guard says yes; no. -/
inductive YesG : Value → Bool → Prop
  | t : YesG (.bool true) true
  | f : YesG (.bool false) false
inductive NoG : Value → Bool → Prop
  | tf : NoG (.bool true) false
  | ft : NoG (.bool false) true
  | u {b : Bool} : NoG undef b
theorem YesG.qg {x : Value} {b : Bool} {yes no : Prop} (h : YesG x b) (hy : yes) : QG x b yes no := by cases h <;> exact hy
theorem NoG.qg {x : Value} {b : Bool} {yes no : Prop} (h : NoG x b) (hn : no) : QG x b yes no := by cases h <;> exact hn
theorem quiet_yes {Q : Act → Prop} {a : Act} {o oj : Oper} {rest : List Oper} {j d : Nat} {b : Bool} {x : Value} (hg : o.guard = some (j, b)) (hj : ops[j]? = some oj) (hd : oj.dst = some d) (hv : a.tmps[d]? = some x) (hx : YesG x b)
    (h : ∃ v, (∀ w, C w → o.quietAt P a C w v) ∧ wpQuiet P ops C Q rest (a.put o.dst v)) : wpQuiet P ops C Q (o :: rest) a := quiet_at hg hj hd hv (hx.qg h)
theorem quiet_no {Q : Act → Prop} {a : Act} {o oj : Oper} {rest : List Oper} {j d : Nat} {b : Bool} {x : Value} (hg : o.guard = some (j, b)) (hj : ops[j]? = some oj) (hd : oj.dst = some d) (hv : a.tmps[d]? = some x) (hx : NoG x b)
    (h : wpQuiet P ops C Q rest (a.put o.dst undef)) : wpQuiet P ops C Q (o :: rest) a := quiet_at hg hj hd hv (hx.qg h)
end
/-- A class of worlds behind the world W: below W's size all is as in W, and the cells of F hold their values. -/
structure Cls (C : World → Prop) (W : World) (F : List (Addr × Value)) : Prop where
  cells : ∀ w, C w → ∀ x ∈ F, w.cell? x.1 = some x.2
  step : ∀ w w', C w → Below w.heap.size w w' → C w'
  below : ∀ w, C w → Below W.heap.size W w

theorem Cls.call {C : World → Prop} {W : World} {F : List (Addr × Value)} (hC : Cls C W F) {w : World} (h : C w) {P : Program} {f : FuncId} {args : Array Value} {v : Value} (hc : Calls P f args w (Gives v w)) :
    Calls P f args w (fun e w'' => e = .returned v ∧ C w'') := hc.mono fun _ _ hg => ⟨hg.1, hC.step _ _ h hg.2⟩
/-- The call leaves the world alone. -/
theorem Cls.same {C : World → Prop} {w : World} (h : C w) {P : Program} {f : FuncId} {args : Array Value} {v : Value} (hc : Calls P f args w (fun e w' => e = .returned v ∧ w = w')) :
    Calls P f args w (fun e w'' => e = .returned v ∧ C w'') := hc.mono fun _ _ hg => ⟨hg.1, hg.2 ▸ h⟩

/-- There is such a class. -/
theorem Cls.mk' {W : World} {F : List (Addr × Value)} (h : ∀ x ∈ F, W.cell? x.1 = some x.2) : Cls (fun w => Below W.heap.size W w) W F where
  cells := fun _ hw x hx => (hw.cell (World.block_lt_of_cell? W x.1 (h x hx))).trans (h x hx)
  step := fun _ _ hw hb => hw.trans (hb.mono hw.size)
  below := fun _ hw => hw

/-- The same, with a tail in one order behind the first n operations. -/
theorem wp_region_cls_tail {P : Program} {id : Nat} {Q : Exit → Act → World → Prop} {a : Act} {w : World} {l : List Oper} (F : List (Addr × Value)) (n : Nat) (hm : P.follows .mixedOrders = true) (hB : Region.lexTailB .any l.toArray n = true)
    (h0 : ∀ x ∈ F, w.cell? x.1 = some x.2)
    (h : ∀ C : World → Prop, Cls C w F → wpQuiet P l.toArray C (fun a' => ∀ w', C w' → wpList P l.toArray Q (l.drop n) a' w') (l.take n) a) : (Code.region id l.toArray true).wp P Q a w :=
  wp_region_steady _ n hm hB ((Below.refl _ _).drew) (h _ (Cls.mk' h0))

end Go.Proofs.Ytgpabckipmhobaa
namespace Go.Proofs.Ytgpabckipmhobaa
open Go.RowKit

/-- Block b is just these cells, and none is frozen. -/
def Has (w : World) (b : Nat) (cs : List Value) : Prop := ∃ t, w.heap[b]? = some (.cells cs.toArray t (0, 0))

theorem Has.lt {w : World} {b : Nat} {cs : List Value} (h : Has w b cs) : b < w.heap.size := by
  obtain ⟨t, h⟩ := h
  rcases Nat.lt_or_ge b w.heap.size with hlt | hge
  · exact hlt
  · rw [Array.getElem?_eq_none hge] at h; cases h
theorem Has.cell {w : World} {b : Nat} {cs : List Value} (h : Has w b cs) : ∀ i, w.cell? ⟨b, i, none⟩ = cs[i]? := by
  obtain ⟨t, h⟩ := h
  intro i
  simp [World.cell?, h]
theorem Has.frozen {w : World} {b : Nat} {cs : List Value} (h : Has w b cs) : ∀ i, w.frozen? ⟨b, i, none⟩ = false := by
  obtain ⟨t, h⟩ := h
  intro i
  simp [World.frozen?, h]
theorem Has.new (w : World) (cs : List Value) (t : TypeId) : Has (w.alloc (.cells cs.toArray t)) w.heap.size cs := ⟨t, heap_alloc_new w _⟩
theorem Has.drew {w : World} {b : Nat} {cs : List Value} (h : Has w b cs) : Has w.drew b cs := h
theorem Has.drewN {w : World} {b : Nat} {cs : List Value} (h : Has w b cs) (n : Nat) : Has (w.drewN n) b cs := h
theorem Has.alloc {w : World} {b : Nat} {cs : List Value} (h : Has w b cs) (o : Obj) : Has (w.alloc o) b cs := by
  obtain ⟨t, h'⟩ := id h
  exact ⟨t, (Below.heap_alloc w o b h.lt).trans h'⟩
theorem Has.set_ {w : World} {b : Nat} {cs : List Value} (h : Has w b cs) (i : Nat) (u : Value) : Has (w.setCell ⟨b, i, none⟩ u) b (cs.set i u) := by
  obtain ⟨t, h⟩ := h
  refine ⟨t, ?_⟩
  simp [World.setCell, Array.getElem?_modify, h]
theorem Has.far {w : World} {b : Nat} {cs : List Value} (h : Has w b cs) {p : Addr} (hp : b ≠ p.block) (u : Value) : Has (w.setCell p u) b cs := by
  obtain ⟨t, h⟩ := h
  exact ⟨t, (Below.heap_setCell w p u b hp).trans h⟩
theorem Has.below {w w' : World} {b : Nat} {cs : List Value} (h : Has w b cs) (hb : Below w.heap.size w w') : Has w' b cs := by
  obtain ⟨t, h'⟩ := id h
  exact ⟨t, (hb.block b h.lt).trans h'⟩
/-- Two blocks that hold different cells are two blocks. -/
theorem Has.ne {w : World} {b b' : Nat} {cs cs' : List Value} (h : Has w b cs) (h' : Has w b' cs') (hne : cs ≠ cs') : b ≠ b' := by
  rintro rfl
  obtain ⟨t, h⟩ := h
  obtain ⟨t', h'⟩ := h'
  rw [h] at h'
  injection h' with h'
  injection h' with h1
  exact hne (by simpa using h1)

end Go.Proofs.Ytgpabckipmhobaa
namespace Go.Proofs.Ytgpabckipmhobaa
open Go.RowKit

/-- a / b, rounded to the nearest integer, halves away from zero. -/
def rdiv (a b : Int) : Int := if 0 ≤ a then (2 * a + b) / (2 * b) else -((2 * (-a) + b) / (2 * b))
/-- Is it a length? -/
def lenOk (n : Int) : Bool := decide (-1073741824 ≤ n) && decide (n ≤ 1073741824)
/-- A percentage of a length. -/
def scl (n p : Int) : Int := if lenOk n = true ∧ 0 ≤ p ∧ p ≤ 10000 then rdiv (n * p) 100 else 0
theorem lenOk_iff {n : Int} : lenOk n = true ↔ -1073741824 ≤ n ∧ n ≤ 1073741824 := by simp [lenOk]
theorem scl_ok {n p : Int} (h : -1073741824 ≤ n ∧ n ≤ 1073741824) (h0 : 0 ≤ p) (h1 : p ≤ 10000) : scl n p = rdiv (n * p) 100 := by
  unfold scl; rw [if_pos ⟨lenOk_iff.2 h, h0, h1⟩]
set_option maxHeartbeats 400000 in
theorem length_Valid_calls (a : Int) (w : World) :
    Calls Try.prog 74 #[.int .i64 a] w fun e w' => e = .returned (.bool (lenOk a)) ∧ w = w' := by
  go_enter Try.func74, Try.ntmps74
  go_wp2
  all_goals (go_ret; refine ⟨ret_bool ?_, rfl⟩; unfold lenOk; simp; omega)

set_option maxHeartbeats 1000000 in
theorem quotient_100_p (a : Int) (w : World) (h0 : 0 ≤ a) (h1 : a ≤ 10737418240000) :
    Calls Try.prog 75 #[.int .i64 a, .int .i64 100] w fun e w' => e = .returned (.int .i64 (rdiv a 100)) ∧ ∃ n, w.drewN n = w' := by
  go_enter Try.func75, Try.ntmps75
  go_wp2
  go_quiet (fail)
  go_wp2
  all_goals (go_ret; refine ⟨ret_int ?_, _, rfl⟩; unfold rdiv; simp at *; try omega)

set_option maxHeartbeats 1000000 in
theorem quotient_100_n (a : Int) (w : World) (h0 : a < 0) (h1 : -10737418240000 ≤ a) :
    Calls Try.prog 75 #[.int .i64 a, .int .i64 100] w fun e w' => e = .returned (.int .i64 (rdiv a 100)) ∧ ∃ n, w.drewN n = w' := by
  have e1 : a.tdiv 100 = -((-a) / 100) := by rw [← Int.tdiv_eq_ediv_of_nonneg (by omega), Int.neg_tdiv]; omega
  have e2 : a.tmod 100 = -((-a) % 100) := by rw [← Int.tmod_eq_emod_of_nonneg (by omega), Int.neg_tmod]; omega
  have b1 : 0 ≤ (-a) / 100 ∧ (-a) / 100 ≤ 10737418240000 ∧ 0 ≤ (-a) % 100 ∧ (-a) % 100 < 100 := by omega
  go_enter Try.func75, Try.ntmps75
  go_wp2
  go_quiet (fail)
  go_wp2
  all_goals (go_ret; refine ⟨ret_int ?_, _, rfl⟩; unfold rdiv; simp at *; try omega)

/-- A call that leaves the world alone but for draws. -/
def Draws (v : Value) (w : World) (e : Ending) (w' : World) : Prop := e = .returned v ∧ ∃ n, w.drewN n = w'

theorem quotient_100_calls (a : Int) (w : World) (h0 : -10737418240000 ≤ a) (h1 : a ≤ 10737418240000) :
    Calls Try.prog 75 #[.int .i64 a, .int .i64 100] w (Draws (.int .i64 (rdiv a 100)) w) := by
  by_cases h : 0 ≤ a
  · exact quotient_100_p a w h h1
  · exact quotient_100_n a w (by omega) h0
theorem mul_bd {n p : Int} (h : -1073741824 ≤ n ∧ n ≤ 1073741824) (h0 : 0 ≤ p) (h1 : p ≤ 10000) : -10737418240000 ≤ n * p ∧ n * p ≤ 10737418240000 := by
  have a1 : n * p ≤ 1073741824 * p := Int.mul_le_mul_of_nonneg_right h.2 h0
  have a2 : -1073741824 * p ≤ n * p := Int.mul_le_mul_of_nonneg_right h.1 h0
  omega

set_option maxHeartbeats 1000000 in
theorem scale_in (n p : Int) (w : World) (h : -1073741824 ≤ n ∧ n ≤ 1073741824) (h0 : 0 ≤ p) (h1 : p ≤ 10000) :
    Calls Try.prog 64 #[.int .i64 n, .int .i64 p] w (Draws (.int .i64 (scl n p)) w) := by
  have hb := mul_bd h h0 h1
  have hv : lenOk n = true := lenOk_iff.2 h
  have hs := Lib.hid (scl_ok h h0 h1)
  have hm : wrap64 (n * p) = n * p := IntWalk.wrap64_in _ (by omega)
  go_enter Try.func64, Try.ntmps64
  go_wp2_with fail
  refine (length_Valid_calls _ _).mono ?_
  rintro e w' ⟨rfl, rfl⟩
  go_wp2_with fail
  refine (quotient_100_calls _ _ hb.1 hb.2).mono ?_
  rintro e w' ⟨rfl, m, rfl⟩
  go_wp2_with fail
  go_ret
  exact ⟨ret_int hs.out.symm, m, rfl⟩

set_option maxHeartbeats 1000000 in
theorem scale_out (n p : Int) (w : World) (h : ¬ (lenOk n = true ∧ 0 ≤ p ∧ p ≤ 10000)) :
    Calls Try.prog 64 #[.int .i64 n, .int .i64 p] w (Draws (.int .i64 (scl n p)) w) := by
  have hs := Lib.hid (show scl n p = 0 by unfold scl; rw [if_neg h])
  have hc : lenOk n = false ∨ (lenOk n = true ∧ p < 0) ∨ (lenOk n = true ∧ 0 ≤ p ∧ 10000 < p) := by
    cases hl : lenOk n
    · exact .inl rfl
    · rw [hl] at h; simp at h; by_cases h2 : 0 ≤ p
      · exact .inr (.inr ⟨rfl, h2, h h2⟩)
      · exact .inr (.inl ⟨rfl, by omega⟩)
  clear h
  rcases hc with h | ⟨h, h2⟩ | ⟨h, h2, h3⟩
  all_goals
    go_enter Try.func64, Try.ntmps64
    go_wp2_with fail
    refine (length_Valid_calls _ _).mono ?_
    rintro e w' ⟨rfl, rfl⟩
    go_wp2_with fail
    go_ret
    exact ⟨ret_int hs.out.symm, 0, rfl⟩

theorem length_Scale_calls (n p : Int) (w : World) : Calls Try.prog 64 #[.int .i64 n, .int .i64 p] w (Draws (.int .i64 (scl n p)) w) := by
  by_cases h : lenOk n = true ∧ 0 ≤ p ∧ p ≤ 10000
  · exact scale_in n p w (lenOk_iff.1 h.1) h.2.1 h.2.2
  · exact scale_out n p w h

theorem Draws.gives {v : Value} {w w' : World} {e : Ending} (h : Draws v w e w') : Gives v w e w' := by
  obtain ⟨he, n, rfl⟩ := h
  exact ⟨he, below_drewN (Below.refl _ _) n⟩

end Go.Proofs.Ytgpabckipmhobaa
namespace Go.Proofs.Ytgpabckipmhobaa
open Go.RowKit

/-- The world w behind W: what was there is as it was, but for the blocks of D; each block of the list L holds its cells; these are the call's own (new, or of D), and differ. -/
structure Own (D : List Nat) (W : World) (L : List (Nat × List Value)) (w : World) : Prop where
  os : w.os = W.os
  tape : w.tape = W.tape
  output : w.output = W.output
  size : W.heap.size ≤ w.heap.size
  block : ∀ k, k < W.heap.size → k ∉ D → w.heap[k]? = W.heap[k]?
  has : ∀ x ∈ L, Has w x.1 x.2
  ge : ∀ x ∈ L, x.1 ∈ D ∨ W.heap.size ≤ x.1
  apart : (L.map (·.1)).Nodup

/-- The n-th block of the list. -/
def At (n : Nat) (L : List (Nat × List Value)) (b : Nat) (cs : List Value) : Prop := L[n]? = some (b, cs)
section
variable {x0 x1 x2 x3 x4 x5 x6 x7 : Nat × List Value} {b : Nat} {cs : List Value} {L : List (Nat × List Value)}
theorem at0 : At 0 ((b, cs) :: L) b cs := rfl
theorem at1 : At 1 (x0 :: (b, cs) :: L) b cs := rfl
theorem at2 : At 2 (x0 :: x1 :: (b, cs) :: L) b cs := rfl
theorem at3 : At 3 (x0 :: x1 :: x2 :: (b, cs) :: L) b cs := rfl
end
/-- Block b is the n-th of the list and holds cs. -/
inductive AtL : Nat → List (Nat × List Value) → Nat → List Value → Prop
  | here {b : Nat} {cs : List Value} {L : List (Nat × List Value)} : AtL 0 ((b, cs) :: L) b cs
  | next {n : Nat} {x : Nat × List Value} {L : List (Nat × List Value)} {b : Nat} {cs : List Value} : AtL n L b cs → AtL (n + 1) (x :: L) b cs
theorem atl {n : Nat} {L : List (Nat × List Value)} {b : Nat} {cs : List Value} (h : AtL n L b cs) : At n L b cs := by
  induction h with
  | here => exact at0
  | next _ ih => exact ih

section
variable {D : List Nat} {W w w' : World} {L : List (Nat × List Value)} {n b : Nat} {cs : List Value}

theorem own_start (W : World) : Own [] W [] W := ⟨rfl, rfl, rfl, Nat.le_refl _, fun _ _ _ => rfl, by simp, by simp, List.nodup_nil⟩
theorem At.mem (h : At n L b cs) : (b, cs) ∈ L := List.mem_of_getElem? h
theorem Own.get (hS : Own D W L w) (h : At n L b cs) : Has w b cs := hS.has _ h.mem
theorem Own.geAt (hS : Own D W L w) (h : At n L b cs) : b ∈ D ∨ W.heap.size ≤ b := hS.ge _ h.mem
theorem Own.below (hS : Own [] W L w) : Below W.heap.size W w := ⟨hS.os, hS.tape, hS.output, hS.size, fun k hk => hS.block k hk (by simp)⟩
/-- A cell that was there before. -/
theorem Own.cell (hS : Own D W L w) {a : Addr} {v : Value} (hd : a.block ∉ D) (h : W.cell? a = some v) : w.cell? a = some v :=
  (World.cell?_of_block (w := W) (hS.block _ (World.block_lt_of_cell? W a h) hd)).trans h
theorem Own.hasOld (hS : Own D W L w) (hd : b ∉ D) (h : Has W b cs) : Has w b cs := by
  obtain ⟨t, h'⟩ := id h
  exact ⟨t, (hS.block b h.lt hd).trans h'⟩
theorem Own.step (hS : Own D W L w) (hb : Below w.heap.size w w') : Own D W L w' where
  os := hb.os.trans hS.os
  tape := hb.tape.trans hS.tape
  output := hb.output.trans hS.output
  size := Nat.le_trans hS.size hb.size
  block := fun k hk hd => (hb.block k (Nat.lt_of_lt_of_le hk hS.size)).trans (hS.block k hk hd)
  has := fun x hx => (hS.has x hx).below hb
  ge := hS.ge
  apart := hS.apart
theorem Own.drew (hS : Own D W L w) : Own D W L w.drew := hS.step (bself w).drew
theorem Own.drewN (hS : Own D W L w) (n : Nat) : Own D W L (w.drewN n) := hS.step (below_drewN (bself w) n)
theorem Own.alloc (hS : Own D W L w) (o : Obj) : Own D W L (w.alloc o) := hS.step (bnew (bself w) o)
theorem Own.add (hS : Own D W L w) (hb : Below w.heap.size w w') (hh : Has w' b cs) (hg : w.heap.size ≤ b) : Own D W ((b, cs) :: L) w' := by
  have h1 := hS.step hb
  refine ⟨h1.os, h1.tape, h1.output, h1.size, h1.block, fun x hx => ?_, fun x hx => ?_, ?_⟩
  · rcases List.mem_cons.1 hx with rfl | hx
    · exact hh
    · exact h1.has x hx
  · rcases List.mem_cons.1 hx with rfl | hx
    · exact .inr (Nat.le_trans hS.size hg)
    · exact h1.ge x hx
  · refine List.nodup_cons.2 ⟨fun h => ?_, hS.apart⟩
    obtain ⟨x, hx, he⟩ := List.mem_map.1 h
    have := (hS.has x hx).lt
    simp only at he
    omega
theorem Own.new (hS : Own D W L w) (cs : List Value) (t : TypeId) : Own D W ((w.heap.size, cs) :: L) (w.alloc (.cells cs.toArray t)) :=
  hS.add (bnew (bself w) _) (Has.new w cs t) (Nat.le_refl _)
theorem Own.forget (hS : Own D W L w) {L' : List (Nat × List Value)} (h : L'.Sublist L) : Own D W L' w :=
  ⟨hS.os, hS.tape, hS.output, hS.size, hS.block, fun x hx => hS.has x (h.subset hx), fun x hx => hS.ge x (h.subset hx), List.Nodup.sublist (h.map _) hS.apart⟩
/-- What is known now is what was there before. -/
theorem Own.rebase (hS : Own D W L w) : Own (L.map (·.1)) w L w :=
  ⟨rfl, rfl, rfl, Nat.le_refl _, fun _ _ _ => rfl, hS.has, fun _ hx => .inl (List.mem_map_of_mem hx), hS.apart⟩

/-- The list under a name. -/
theorem Own.named (hS : Own D W L w) : ∃ L0, Hid (L0 = L) ∧ Own D W L0 w := ⟨L, rfl, hS⟩

theorem map_set_same {L : List (Nat × List Value)} {n b : Nat} {cs cs' : List Value} (h : At n L b cs) : (L.set n (b, cs')).map (·.1) = L.map (·.1) := by
  unfold At at h
  rw [List.map_set]
  apply List.ext_getElem?
  intro i
  rw [List.getElem?_set]
  split
  · rename_i hi
    subst hi
    simp [h]
    exact (List.getElem?_eq_some_iff.1 h).1
  · rfl

/-- A block of the list has turned, and no other that was there. -/
theorem Own.turn (hS : Own D W L w) (hat : At n L b cs) {cs' : List Value} (ho : w'.os = w.os) (ht : w'.tape = w.tape) (hp : w'.output = w.output) (hz : w.heap.size ≤ w'.heap.size) (hk : ∀ k, k < w.heap.size → k ≠ b → w'.heap[k]? = w.heap[k]?) (hh : Has w' b cs') : Own D W (L.set n (b, cs')) w' := by
  refine ⟨ho.trans hS.os, ht.trans hS.tape, hp.trans hS.output, Nat.le_trans hS.size hz, fun k hlt hd => ?_, fun x hx => ?_, fun x hx => ?_, by rw [map_set_same hat]; exact hS.apart⟩
  · rw [hk k (Nat.lt_of_lt_of_le hlt hS.size) ?_]
    · exact hS.block k hlt hd
    · rintro rfl
      rcases hS.geAt hat with h | h
      · exact hd h
      · omega
  · obtain ⟨i, hi⟩ := List.mem_iff_getElem?.1 hx
    rw [List.getElem?_set] at hi
    split at hi
    · split at hi
      · injection hi with hi; subst hi; exact hh
      · cases hi
    · rename_i hne
      obtain ⟨t, h1⟩ := hS.has x (List.mem_of_getElem? hi)
      refine ⟨t, (hk _ (Has.lt ⟨t, h1⟩) (fun he => ?_)).trans h1⟩
      unfold At at hat
      have h1 : (L.map (·.1))[i]? = some b := by rw [List.getElem?_map, hi]; simp [he]
      have h2 : (L.map (·.1))[n]? = some b := by rw [List.getElem?_map, hat]; rfl
      have := (List.getElem?_inj (List.getElem?_eq_some_iff.1 h2).1 hS.apart).1 (h2.trans h1.symm)
      exact hne this
  · have hx' : x.1 ∈ (L.set n (b, cs')).map (·.1) := List.mem_map_of_mem hx
    rw [map_set_same hat] at hx'
    obtain ⟨y, hy, he⟩ := List.mem_map.1 hx'
    rw [← he]; exact hS.ge y hy
theorem Own.set_ (hS : Own D W L w) (hat : At n L b cs) (i : Nat) (u : Value) : Own D W (L.set n (b, cs.set i u)) (w.setCell ⟨b, i, none⟩ u) :=
  hS.turn hat rfl rfl rfl (by simp [World.setCell]) (fun k _ hk => Below.heap_setCell _ _ _ _ hk) ((hS.get hat).set_ i u)
theorem Has.row {w : World} {b : Nat} {cs cs' : List Value} (h : Has w b cs) : Has (w.setRow b cs'.toArray) b cs' := by
  obtain ⟨t, h⟩ := h
  exact ⟨t, by simp [World.setRow, Array.getElem?_modify, h]⟩
theorem heap_setRow (w : World) (b : Nat) (c : Array Value) (k : Nat) (h : k ≠ b) : (w.setRow b c).heap[k]? = w.heap[k]? := by
  simp only [World.setRow, Array.getElem?_modify]
  rw [if_neg (by omega)]
theorem Own.row (hS : Own D W L w) (hat : At n L b cs) (cs' : List Value) : Own D W (L.set n (b, cs')) (w.setRow b cs'.toArray) :=
  hS.turn hat rfl rfl rfl (by simp [World.setRow]) (fun k _ hk => heap_setRow _ _ _ _ hk) (hS.get hat).row
end

/-- A type of several cells; a type of one cell. -/
class RowTy (P : Program) (ty : TypeId) (n : outParam Nat) : Prop where
  agg : ∃ d, P.underlying ty = some d ∧ d.isRow = true
  size : (P.info? ty).map (·.size) = some n
class OneTy (P : Program) (ty : TypeId) : Prop where
  one : ∃ d, P.underlying ty = some d ∧ d.isRow = false
  size : (P.info? ty).map (·.size) = some 1
/-- What a new variable of a type holds. -/
class ZeroTy (P : Program) (ty : TypeId) (z : outParam (List Value)) : Prop where
  zero : ∃ v : Value, (P.info? ty).bind (·.zero) = some v ∧ v.cells = z.toArray

theorem run_loadAt_one {P : Program} {ty : TypeId} (T : OneTy P ty) (w : World) (a : Addr) {v : Value} (h : w.cell? a = some v) : (Instr.loadAt ty (.pointer (some a))).run P w = .ok v w := by
  obtain ⟨d, hu, hd⟩ := T.one
  have hagg : (isAgg ty).run P w = .ok false w := by
    unfold isAgg
    rw [Sem.run_bind, run_underlying hu w]
    cases d <;> simp_all
  simp only [Instr.loadAt, Instr.sureAddr, Sem.run_bind, Sem.run_pure, Result.andThen_ok]
  unfold loadVar
  rw [Sem.run_bind, hagg, Result.andThen_ok]
  simp [load, Sem.run, h]

section
variable {P : Program} {ops rest : List Oper} {ops' : Array Oper} {o : Oper} {a : Act} {Q : Exit → Act → World → Prop} {D : List Nat} {W w : World} {L : List (Nat × List Value)} {n b : Nat} {cs : List Value}

/-- An operation whose guard says yes. -/
theorem own_unguard {dst : Option Tmp} {op : Op} {ty : TypeId} {pos : String} {after : Array Edge} {g : Nat × Bool} (hw : Region.wanted ⟨dst, op, ty, pos, after, some g⟩ (yielded ops' a.tmps) = true) (h : wpList P ops' Q (⟨dst, op, ty, pos, after, none⟩ :: rest) a w) :
    wpList P ops' Q (⟨dst, op, ty, pos, after, some g⟩ :: rest) a w := by
  unfold wpList at h ⊢
  rw [if_pos (by simp [Region.wanted])] at h
  rw [if_pos hw]
  exact h
/-- A struct is read out of one of the call's own blocks. -/
theorem own_load (hgd : o.guard = none) (ty : TypeId) (x : Operand) (ho : o.op = .load ty x) (hx : a.eval x = .pointer (some ⟨b, 0, none⟩)) (hS : Own D W L w) (hm : At n L b cs) (T : RowTy P ty cs.length)
    (h : wpList P ops' Q rest (a.put o.dst (.agg cs.toArray)) w) : wpList P ops' Q (o :: rest) a w := by
  obtain ⟨t, hg⟩ := hS.get hm
  obtain ⟨d, hu, hd⟩ := T.agg
  exact wpList_load_row hgd ty x ho b hx t cs.toArray (0, 0) d hg hu (by cases d <;> first | rfl | cases hd) (by simpa using T.size) h
/-- One cell. -/
theorem wpList_load_one (hgd : o.guard = none) (ty : TypeId) (x : Operand) (ho : o.op = .load ty x) {p : Addr} (hx : a.eval x = .pointer (some p)) (T : OneTy P ty) {v : Value} (hv : w.cell? p = some v)
    (h : wpList P ops' Q rest (a.put o.dst v) w) : wpList P ops' Q (o :: rest) a w :=
  wpList_plain hgd fun _ hK => by
    unfold Oper.wp execOp
    simp only [ho, hx, Sem.run_bind, run_loadAt_one T w p hv, Result.andThen_ok]
    exact hK _ _ h
/-- A part of one of the call's own blocks is read. -/
theorem own_load_sub {i : Nat} (hgd : o.guard = none) (ty : TypeId) (x : Operand) (ho : o.op = .load ty x) (hx : a.eval x = .pointer (some ⟨b, i, none⟩)) (hS : Own D W L w) (hm : At n L b cs) {cs' : List Value} (hc : (cs.drop i).take cs'.length = cs') (T : RowTy P ty cs'.length)
    (h : wpList P ops' Q rest (a.put o.dst (.agg cs'.toArray)) w) : wpList P ops' Q (o :: rest) a w := by
  obtain ⟨d, hu, hd⟩ := T.agg
  refine wpList_load_mid hgd ty x ho b i hx cs' d (fun j v hj => ?_) hu hd T.size h
  rw [(hS.get hm).cell, ← hj, ← hc, List.getElem?_take, List.getElem?_drop]
  have hjl : j < cs'.length := (List.getElem?_eq_some_iff.1 hj).1
  rw [if_pos hjl]
theorem own_load1 {i : Nat} (hgd : o.guard = none) (ty : TypeId) (x : Operand) (ho : o.op = .load ty x) (hx : a.eval x = .pointer (some ⟨b, i, none⟩)) (hS : Own D W L w) (hm : At n L b cs) (T : OneTy P ty) {v : Value} (hv : cs[i]? = some v)
    (h : wpList P ops' Q rest (a.put o.dst v) w) : wpList P ops' Q (o :: rest) a w :=
  wpList_load_one hgd ty x ho hx T (((hS.get hm).cell i).trans hv) h
/-- A struct, or one cell, is read out of what was there before. -/
theorem own_load_old {i : Nat} (hgd : o.guard = none) (ty : TypeId) (x : Operand) (ho : o.op = .load ty x) (hx : a.eval x = .pointer (some ⟨b, i, none⟩)) (hS : Own D W L w) (hv : W.rangeAt b i cs) (hd : b ∉ D) (T : RowTy P ty cs.length)
    (h : wpList P ops' Q rest (a.put o.dst (.agg cs.toArray)) w) : wpList P ops' Q (o :: rest) a w := by
  obtain ⟨d, hu, hr⟩ := T.agg
  exact wpList_load_mid hgd ty x ho b i hx cs d (fun j v hj => hS.cell hd (hv j v hj)) hu hr T.size h
/-- A new variable that holds a value. -/
theorem own_box (hgd : o.guard = none) (ty : TypeId) (x : Operand) (ho : o.op = .box ty x) (hx : a.eval x = .agg cs.toArray) (hS : Own D W L w)
    (h : ∀ b w', Own D W ((b, cs) :: L) w' → wpList P ops' Q rest (a.put o.dst (.pointer (some ⟨b, 0, none⟩))) w') : wpList P ops' Q (o :: rest) a w := by
  refine wpList_plain hgd fun K hK => ?_
  unfold Oper.wp execOp
  simp only [ho, hx, Sem.run_bind, Instr.box, newVar, newRow, run_newObj_alloc, Sem.run_pure, Result.andThen_ok]
  exact hK _ _ (h _ _ (hS.new cs ty))
theorem own_box1 {v : Value} (hgd : o.guard = none) (ty : TypeId) (x : Operand) (ho : o.op = .box ty x) (hx : a.eval x = v) (h1 : v.oneCell' = true) (hS : Own D W L w)
    (h : ∀ b w', Own D W ((b, [v]) :: L) w' → wpList P ops' Q rest (a.put o.dst (.pointer (some ⟨b, 0, none⟩))) w') : wpList P ops' Q (o :: rest) a w := by
  refine wpList_plain hgd fun K hK => ?_
  unfold Oper.wp execOp
  have hc : v.cells = [v].toArray := by cases v <;> first | rfl | cases h1
  simp only [ho, hx, Sem.run_bind, Instr.box, newVar, newRow, run_newObj_alloc, Sem.run_pure, Result.andThen_ok, hc]
  exact hK _ _ (h _ _ (hS.new [v] ty))
/-- A new variable. -/
theorem own_alloc (hgd : o.guard = none) (ty : TypeId) (ho : o.op = .alloc ty) (hS : Own D W L w) {z : List Value} (Z : ZeroTy P ty z)
    (h : ∀ b w', Own D W ((b, z) :: L) w' → wpList P ops' Q rest (a.put o.dst (.pointer (some ⟨b, 0, none⟩))) w') : wpList P ops' Q (o :: rest) a w := by
  refine wpList_plain hgd fun K hK => ?_
  obtain ⟨v, hz, hc⟩ := Z
  cases hq : P.info? ty with
  | none => simp [hq] at hz
  | some i =>
    have hz' : i.zero = some v := by simpa [hq] using hz
    unfold Oper.wp execOp
    simp only [ho, Sem.run_bind, Instr.alloc, zeroValue, typeInfo, program, Sem.run, hq, hz', newVar, newRow, run_newObj_alloc, Sem.run_pure, Result.andThen_ok, hc]
    exact hK _ _ (h _ _ (hS.new z ty))
/-- A struct is stored into one of the call's own blocks. -/
theorem own_store (hgd : o.guard = none) (ty : TypeId) (x y : Operand) (ho : o.op = .store ty x y) {cs' : List Value} (hx : a.eval x = .pointer (some ⟨b, 0, none⟩)) (hy : a.eval y = .agg cs'.toArray) (hS : Own D W L w) (hm : At n L b cs) (T : RowTy P ty cs'.length)
    (hl : cs.length = cs'.length) (h1 : cs'.all (·.oneCell') = true)
    (h : ∀ w', Own D W (L.set n (b, cs')) w' → wpList P ops' Q rest (a.put o.dst undef) w') : wpList P ops' Q (o :: rest) a w := by
  obtain ⟨t, hg⟩ := hS.get hm
  exact wpList_store_row hgd ty x y ho b cs'.toArray hx hy t cs.toArray hg (by simpa using T.size) (by simpa using hl) (by simpa using h1) (h _ (hS.row hm cs'))
/-- One cell is stored. -/
theorem own_store1 {i : Nat} (hgd : o.guard = none) (ty : TypeId) (x y : Operand) (ho : o.op = .store ty x y) (hx : a.eval x = .pointer (some ⟨b, i, none⟩)) {v : Value} (hy : a.eval y = v) (h1 : v.oneCell' = true) (hS : Own D W L w) (hm : At n L b cs) (T : OneTy P ty)
    (hl : i < cs.length)
    (h : ∀ w', Own D W (L.set n (b, cs.set i v)) w' → wpList P ops' Q rest (a.put o.dst undef) w') : wpList P ops' Q (o :: rest) a w := by
  have hh := hS.get hm
  have hc : w.cell? ⟨b, i, none⟩ = some cs[i] := by rw [hh.cell i]; simp [hl]
  have hf := hh.frozen i
  have hvc : v.cells = #[v] := by cases v <;> first | rfl | cases h1
  refine wpList_plain hgd fun K hK => ?_
  cases hq : P.info? ty with
  | none => have := T.size; simp [hq] at this
  | some inf =>
    have hs : inf.size = 1 := by have := T.size; simpa [hq] using this
    unfold Oper.wp execOp
    simp only [ho, hx, hy, Sem.run_bind, Instr.storeAt, Instr.sureAddr, Sem.run_pure, Result.andThen_ok, storeVar, sizeOf, typeInfo, program, Sem.run, hq, hs, hvc, ne_eq, List.size_toArray, List.length_cons, List.length_nil, not_true_eq_false, if_false, storeCells]
    rw [show (⟨b, i, none⟩ : Addr).add 0 = ⟨b, i, none⟩ from rfl, run_store P w _ v _ h1, hc]
    simp [hf]
    exact hK _ _ (h _ (hS.set_ hm i v))
/-- A call by its contract. -/
theorem own_calls {f : FuncId} {args : Array Value} {v : Value} {R : Ending → World → Prop} (hS : Own D W L w) (hc : Calls P f args w (Gives v w)) (h : ∀ w', Own D W L w' → R (.returned v) w') : Calls P f args w R :=
  hc.mono fun _ _ hg => hg.1 ▸ h _ (hS.step hg.2)
theorem own_callsS {f : FuncId} {args : Array Value} {v : Value} {R : Ending → World → Prop} (_hS : Own D W L w) (hc : Calls P f args w fun e w' => e = .returned v ∧ w = w') (h : R (.returned v) w) : Calls P f args w R :=
  hc.mono fun _ _ hg => by obtain ⟨rfl, rfl⟩ := hg; exact h
/-- The end. -/
theorem own_gives {v : Value} (hS : Own [] W L w) : Gives v W (.returned v) w := ⟨rfl, hS.below⟩
end
/-- What a load yields in every world that Own tells. -/
def Reads (P : Program) (D : List Nat) (W : World) (L : List (Nat × List Value)) (ty : TypeId) (p : Addr) (v : Value) : Prop := ∀ w, Own D W L w → (Instr.loadAt ty (.pointer (some p))).run P w = .ok v w

/-- A block of the list turns. -/
inductive SetL : Nat → List (Nat × List Value) → Nat → List Value → List Value → List (Nat × List Value) → Prop
  | here {b : Nat} {cs cs' : List Value} {L : List (Nat × List Value)} : SetL 0 ((b, cs) :: L) b cs cs' ((b, cs') :: L)
  | next {n b : Nat} {cs cs' : List Value} {x : Nat × List Value} {L L' : List (Nat × List Value)} : SetL n L b cs cs' L' → SetL (n + 1) (x :: L) b cs cs' (x :: L')
theorem SetL.at {n b : Nat} {cs cs' : List Value} {L L' : List (Nat × List Value)} (h : SetL n L b cs cs' L') : At n L b cs ∧ L' = L.set n (b, cs') := by
  induction h with
  | here => exact ⟨rfl, rfl⟩
  | next _ ih => exact ⟨ih.1, by rw [ih.2]; rfl⟩
/-- A cell turns. -/
inductive SetC : List Value → Nat → Value → List Value → Prop
  | here {x v : Value} {l : List Value} : SetC (x :: l) 0 v (v :: l)
  | next {x v : Value} {l l' : List Value} {i : Nat} : SetC l i v l' → SetC (x :: l) (i + 1) v (x :: l')
theorem SetC.at {l l' : List Value} {i : Nat} {v : Value} (h : SetC l i v l') : i < l.length ∧ l' = l.set i v := by
  induction h with
  | here => exact ⟨by simp, rfl⟩
  | next _ ih => exact ⟨by simp [ih.1], by rw [ih.2]; rfl⟩

section
variable {P : Program} {ops rest : List Oper} {ops' : Array Oper} {o : Oper} {a : Act} {Q : Exit → Act → World → Prop} {D : List Nat} {W w : World} {L L' : List (Nat × List Value)} {n n' b : Nat} {cs cs' : List Value} {ty : TypeId}

theorem rd_cell {p : Addr} {v : Value} (T : OneTy P ty) (h : ∀ w, Own D W L w → w.cell? p = some v) : Reads P D W L ty p v := fun w hS => run_loadAt_one T w p (h w hS)
theorem rd_range {i : Nat} (T : RowTy P ty n') (hn : n' = cs.length) (h : ∀ w, Own D W L w → w.rangeAt b i cs) : Reads P D W L ty ⟨b, i, none⟩ (.agg cs.toArray) := fun w hS => by
  obtain ⟨d, hu, hd⟩ := T.agg
  exact run_loadAt_mid w b i ty cs d (h w hS) hu hd (hn ▸ T.size)
theorem Has.range {w : World} (h : Has w b cs) : w.rangeAt b 0 cs := fun j v hj => by rw [h.cell]; simpa using hj
theorem rd_1 [T : OneTy P ty] {i : Nat} {v : Value} (hm : AtL n L b cs) (hv : cs[i]? = some v) : Reads P D W L ty ⟨b, i, none⟩ v := rd_cell T fun _ hS => ((hS.get (atl hm)).cell i).trans hv
theorem rd_w [T : RowTy P ty n'] (hm : AtL n L b cs) (hn : n' = cs.length) : Reads P D W L ty ⟨b, 0, none⟩ (.agg cs.toArray) := rd_range T hn fun _ hS => (hS.get (atl hm)).range
theorem rd_o [T : RowTy P ty n'] {i : Nat} (hv : W.rangeAt b i cs) (hn : n' = cs.length) (hd : b ∉ D) : Reads P D W L ty ⟨b, i, none⟩ (.agg cs.toArray) := rd_range T hn fun _ hS j v hj => hS.cell hd (hv j v hj)
theorem rd_h [T : RowTy P ty n'] (hv : Has W b cs) (hn : n' = cs.length) (hd : b ∉ D) : Reads P D W L ty ⟨b, 0, none⟩ (.agg cs.toArray) := rd_range T hn fun _ hS => (hS.hasOld hd hv).range
theorem rd_1o [T : OneTy P ty] {p : Addr} {v : Value} (hv : W.cell? p = some v) (hd : p.block ∉ D) : Reads P D W L ty p v := rd_cell T fun _ hS => hS.cell hd hv
theorem rd_1h [T : OneTy P ty] {i : Nat} {v : Value} (hv : Has W b cs) (hi : cs[i]? = some v) (hd : b ∉ D) : Reads P D W L ty ⟨b, i, none⟩ v := rd_cell T fun _ hS => ((hS.hasOld hd hv).cell i).trans hi
theorem nmn {b : Nat} : b ∉ ([] : List Nat) := List.not_mem_nil
/-- What an operand holds. -/
inductive Ev : Act → Operand → Value → Prop
  | c {a : Act} {v : Value} : Ev a (.const v) v
  | t {a : Act} {i : Nat} {v : Value} : a.tmps.toList[i]? = some v → Ev a (.tmp i) v
theorem Ev.eval {x : Operand} {v : Value} (h : Ev a x v) : a.eval x = v := by
  cases h with
  | c => rfl
  | t h =>
    rw [Array.getElem?_toList] at h
    simp [Act.eval, Array.getD_eq_getD_getElem?, h]

/-- A load, whatever it reads. -/
theorem w_ld {p : Addr} {v : Value} (hgd : o.guard = none) (x : Operand) (ho : o.op = .load ty x) (hx : a.eval x = .pointer (some p)) (hr : Reads P D W L ty p v) (hS : Own D W L w) (h : wpList P ops' Q rest (a.put o.dst v) w) : wpList P ops' Q (o :: rest) a w :=
  wpList_plain hgd fun _ hK => by
    unfold Oper.wp execOp
    simp only [ho, hx, Sem.run_bind, hr w hS, Result.andThen_ok]
    exact hK _ _ h
/-- A new variable of a known type. -/
theorem w_al {z : List Value} (hgd : o.guard = none) (ho : o.op = .alloc ty) [Z : ZeroTy P ty z] (hS : Own D W L w) (h : ∀ b w', Own D W ((b, z) :: L) w' → wpList P ops' Q rest (a.put o.dst (.pointer (some ⟨b, 0, none⟩))) w') : wpList P ops' Q (o :: rest) a w := own_alloc hgd ty ho hS Z h
/-- A struct, or one cell, is stored into one of the call's own blocks. -/
theorem w_st (hgd : o.guard = none) (x y : Operand) (ho : o.op = .store ty x y) (hx : a.eval x = .pointer (some ⟨b, 0, none⟩)) (hy : a.eval y = .agg cs'.toArray) [T : RowTy P ty n'] (hm : SetL n L b cs cs' L') (hn : n' = cs'.length) (hl : cs.length = cs'.length) (h1 : cs'.all (·.oneCell') = true) (hS : Own D W L w) (h : ∀ w', Own D W L' w' → wpList P ops' Q rest (a.put o.dst undef) w') : wpList P ops' Q (o :: rest) a w :=
  own_store hgd ty x y ho hx hy hS hm.at.1 (hn ▸ T) hl h1 (hm.at.2 ▸ h)
theorem w_s1 {i : Nat} {v : Value} (hgd : o.guard = none) (x y : Operand) (ho : o.op = .store ty x y) (hx : a.eval x = .pointer (some ⟨b, i, none⟩)) [T : OneTy P ty] (hm : SetL n L b cs cs' L') (hy : Ev a y v) (h1 : v.oneCell' = true) (hc : SetC cs i v cs') (hS : Own D W L w) (h : ∀ w', Own D W L' w' → wpList P ops' Q rest (a.put o.dst undef) w') : wpList P ops' Q (o :: rest) a w :=
  own_store1 hgd ty x y ho hx hy.eval h1 hS hm.at.1 T hc.at.1 (hc.at.2 ▸ hm.at.2 ▸ h)
end
end Go.Proofs.Ytgpabckipmhobaa
namespace Go.Proofs.Ytgpabckipmhobaa
open Go.RowKit

/-- t is the type of slices of e; an element has size cells and bytes bytes. -/
structure ElTy (P : Program) (t e : TypeId) (size bytes : Nat) : Prop where
  und : P.underlying t = some (.slice e)
  inf : ∃ i z, P.info? e = some i ∧ i.zero = some z ∧ i.size = size ∧ i.bytes = bytes ∧ z.cells.size = size
theorem ElTy.mk' {P : Program} {t e : TypeId} {size bytes : Nat} (z : Value) (hu : P.underlying t = some (.slice e)) (h : (P.info? e).map (fun i => (i.zero, i.size, i.bytes)) = some (some z, size, bytes)) (hz : z.cells.size = size) : ElTy P t e size bytes := by
  refine ⟨hu, ?_⟩
  cases hq : P.info? e with
  | none => simp [hq] at h
  | some i =>
    simp [hq] at h
    exact ⟨i, z, rfl, h.1, h.2.1, h.2.2, hz⟩

section
variable {P : Program} {rest : List Oper} {ops' : Array Oper} {o : Oper} {a : Act} {Q : Exit → Act → World → Prop} {D : List Nat} {W w : World} {L : List (Nat × List Value)}

end
end Go.Proofs.Ytgpabckipmhobaa
namespace Go.Proofs.Ytgpabckipmhobaa
open Go.RowKit

theorem Own.perm {D : List Nat} {W w : World} {L L' : List (Nat × List Value)} (hS : Own D W L w) (h : L.Perm L') : Own D W L' w :=
  ⟨hS.os, hS.tape, hS.output, hS.size, hS.block, fun x hx => hS.has x (h.mem_iff.2 hx), fun x hx => hS.ge x (h.mem_iff.2 hx), (h.map (·.1)).nodup_iff.1 hS.apart⟩

/-- The slice v holds n elements, the cells xs; X: its block, if there is one (a slice without room needs none). -/
def Sl (size n : Nat) (v : Value) (xs : List Value) (X : List (Nat × List Value)) : Prop :=
  xs.length = n * size ∧ ((∃ y, (y = none ∨ ∃ b o, y = some ⟨b, o, none⟩) ∧ v = .slice y 0 0 ∧ n = 0 ∧ X = []) ∨ ∃ b c junk, v = .slice (some ⟨b, 0, none⟩) n c ∧ n ≤ c ∧ c ≤ maxLen ∧ (xs ++ junk).length = c * size ∧ X = [(b, xs ++ junk)])
theorem sl_nil (size : Nat) : Sl size 0 (.slice none 0 0) [] [] := ⟨by simp, .inl ⟨none, .inl rfl, rfl, rfl, rfl⟩⟩
theorem Sl.one {size n : Nat} {v : Value} {xs : List Value} {X : List (Nat × List Value)} (h : Sl size n v xs X) : v.oneCell' = true := by
  rcases h.2 with ⟨y, _, rfl, _, _⟩ | ⟨b, c, junk, rfl, _⟩ <;> rfl
theorem Sl.slice {size n : Nat} {v : Value} {xs : List Value} {X : List (Nat × List Value)} (h : Sl size n v xs X) : ∃ y c, v = .slice y n c := by
  rcases h.2 with ⟨y, _, rfl, rfl, _⟩ | ⟨b, c, junk, rfl, _⟩
  · exact ⟨y, 0, rfl⟩
  · exact ⟨_, _, rfl⟩

section
variable {w : World} {b : Nat}
def setL : List Value → Nat → List Value → List Value
  | cs, _, [] => cs
  | cs, o, v :: vs => setL (cs.set o v) (o + 1) vs
theorem Has.setCells : ∀ (vs : List Value) (o : Nat) {w : World} {cs : List Value}, Has w b cs → Has (w.setCells b o vs) b (setL cs o vs) := by
  intro vs
  induction vs with
  | nil => intro o w cs h; exact h
  | cons v vs ih => intro o w cs h; exact ih (o + 1) (h.set_ o v)
theorem setL_app : ∀ (vs xs junk : List Value), vs.length ≤ junk.length → setL (xs ++ junk) xs.length vs = xs ++ vs ++ junk.drop vs.length := by
  intro vs
  induction vs with
  | nil => intro xs junk _; simp [setL]
  | cons v vs ih =>
    intro xs junk h
    cases junk with
    | nil => simp at h
    | cons y junk =>
      have h1 : (xs ++ y :: junk).set xs.length v = (xs ++ [v]) ++ junk := by simp
      have h2 := ih (xs ++ [v]) junk (by simpa using h)
      simp only [setL, h1]
      rw [show xs.length + 1 = (xs ++ [v]).length by simp, h2]
      simp
theorem setCells_rest : ∀ (vs : List Value) (o : Nat) (w : World), (w.setCells b o vs).os = w.os ∧ (w.setCells b o vs).tape = w.tape ∧ (w.setCells b o vs).output = w.output ∧ (w.setCells b o vs).heap.size = w.heap.size ∧ ∀ k, k ≠ b → (w.setCells b o vs).heap[k]? = w.heap[k]? := by
  intro vs
  induction vs with
  | nil => intro o w; exact ⟨rfl, rfl, rfl, rfl, fun _ _ => rfl⟩
  | cons v vs ih =>
    intro o w
    obtain ⟨h1, h2, h3, h4, h5⟩ := ih (o + 1) (w.setCell ⟨b, o, none⟩ v)
    exact ⟨h1, h2, h3, h4.trans (by simp [World.setCell]), fun k hk => (h5 k hk).trans (Below.heap_setCell _ _ _ _ hk)⟩
end

theorem Own.setCells {D : List Nat} {W w : World} {L : List (Nat × List Value)} {k b : Nat} {cs : List Value} (hS : Own D W L w) (hat : At k L b cs) (o : Nat) (vs : List Value) : Own D W (L.set k (b, setL cs o vs)) (w.setCells b o vs) := by
  obtain ⟨h1, h2, h3, h4, h5⟩ := setCells_rest (b := b) vs o w
  exact hS.turn hat h1 h2 h3 (by omega) (fun k _ hk => h5 k hk) ((hS.get hat).setCells vs o)

section
variable {P : Program} {rest : List Oper} {ops' : Array Oper} {o : Oper} {a : Act} {Q : Exit → Act → World → Prop} {D : List Nat} {W w : World} {L : List (Nat × List Value)}

/-- A row that a law of the kit tells, among the blocks of the call. -/
theorem own_row {X : List (Nat × List Value)} {w' : World} {e : TypeId} {size n : Nat} {v' : Value} {xs : List Value} (hS : Own D W (L ++ X) w) (h : w'.ownsRow w.heap.size e size v' n xs) (hg : w.grownBy w' none) : ∃ X', Own D W (L ++ X') w' ∧ Sl size n v' xs X' := by
  obtain ⟨hl, h⟩ := h
  have hb : Below w.heap.size w w' := ⟨hg.os, hg.tape, hg.output, hg.size, fun k hk => hg.block k hk (by simp)⟩
  rcases h with ⟨rfl, rfl⟩ | ⟨g, cap, cur, rfl, hge, hh, hnc, hcm, hcs, htk⟩
  · exact ⟨[], (hS.forget (by simp)).step hb, hl, .inl ⟨none, .inl rfl, rfl, rfl, rfl⟩⟩
  · refine ⟨[(g, cur.toList)], ?_, hl, .inr ⟨g, cap, cur.toList.drop (n * size), rfl, hnc, hcm, ?_, ?_⟩⟩
    · have h1 : Own D W ((g, cur.toList) :: (L ++ X)) w' := hS.add hb ⟨e, by simpa using hh⟩ hge
      have h2 : Own D W ((g, cur.toList) :: L) w' := h1.forget (by simp)
      exact h2.perm (by simpa using (List.perm_append_comm (l₁ := [(g, cur.toList)]) (l₂ := L)))
    · rw [← htk, List.take_append_drop]; simpa using hcs
    · rw [← htk, List.take_append_drop]

theorem own_append (hgd : o.guard = none) (s x : Operand) (t : TypeId) (ho : o.op = .call { callee := .builtin .append, args := #[s, x], argTypes := #[t, t] })
    {size bytes n : Nat} {v : Value} {xs : List Value} {X : List (Nat × List Value)} {e : TypeId} (hX : Sl size n v xs X) (hs : a.eval s = v) {ad : Addr} {m c : Nat} {news : List Value} (hx : a.eval x = .slice (some ad) m c)
    (hS : Own D W (L ++ X) w) (hn : ∀ j u, news[j]? = some u → w.cell? (ad.add j) = some u) (hl : news.length = m * size) (h1 : ∀ u ∈ news, u.oneCell' = true) (T : ElTy P t e size bytes) (h0 : 0 < size)
    (b1 : n + m ≤ maxLen) (b2 : (n + m) * bytes ≤ 140737488355328)
    (h : ∀ v' X' w', Own D W (L ++ X') w' → Sl size (n + m) v' (xs ++ news) X' → wpList P ops' Q rest (a.put o.dst v') w') : wpList P ops' Q (o :: rest) a w := by
  obtain ⟨i, z, hi, hz, hsz, hby, hzz⟩ := T.inf
  refine wpList_plain hgd fun K hK => ?_
  obtain ⟨hxl, hX2⟩ := id hX
  rcases hX2 with ⟨y, hy, rfl, rfl, rfl⟩ | ⟨b, cp, junk, rfl, hnc, hcm, hjl, rfl⟩
  · obtain rfl : xs = [] := List.eq_nil_of_length_eq_zero (by simpa using hxl)
    rcases hy with rfl | ⟨b, f, rfl⟩
    · obtain ⟨v', w', hrun, r1, r2, _⟩ := run_append_own (P := P) w w.heap.size t o.type e i z size bytes T.und hi hz hsz hby hzz h0 (.slice none 0 0) 0 [] (World.ownsRow_nil w _ e size) ad m c news hl hn h1 b1 b2 (Nat.le_refl _)
      obtain ⟨X', h3, h4⟩ := own_row hS r1 (by simpa [Value.ownBlock] using r2)
      unfold Oper.wp
      simp [execOp, ho, resolve, invoke, builtin, hs, hx, hrun, Result.andThen]
      exact hK _ _ (h v' X' w' h3 h4)
    · by_cases hm : m = 0
      · subst hm
        obtain rfl : news = [] := List.eq_nil_of_length_eq_zero (by simpa using hl)
        have hrun := run_append_room_cells (P := P) w t o.type e i T.und hi b f 0 0 ad 0 c [] (by simp) (by simp) (by simp) (Nat.le_refl _) (fun j hj => by simp at hj) (fun j hj => by simp at hj)
        unfold Oper.wp
        simp [execOp, ho, resolve, invoke, builtin, hs, hx, hrun, Result.andThen]
        exact hK _ _ (h _ [] _ (by simpa [World.setCells] using hS) ⟨by simp, .inl ⟨_, .inr ⟨b, f, rfl⟩, rfl, rfl, rfl⟩⟩)
      · obtain ⟨v', w', hrun, r1, r2⟩ := run_append_arg_grows (P := P) w t o.type e i z size bytes T.und hi hz hsz hby hzz h0 ⟨b, f, none⟩ 0 0 [] (by simp) (fun j u hj => by simp at hj) ad m c news hl hn (by omega) b1 b2
        obtain ⟨X', h3, h4⟩ := own_row hS r1 r2
        unfold Oper.wp
        simp [execOp, ho, resolve, invoke, builtin, hs, hx, hrun, Result.andThen]
        exact hK _ _ (h v' X' w' h3 h4)
  · have hat : At L.length (L ++ [(b, xs ++ junk)]) b (xs ++ junk) := by unfold At; simp
    have hb := hS.get hat
    by_cases hr : n + m ≤ cp
    · have hroom : (n + m) * size ≤ cp * size := Nat.mul_le_mul_right _ hr
      rw [Nat.add_mul] at hroom
      have hjn : news.length ≤ junk.length := by rw [List.length_append] at hjl; omega
      subst hsz
      have hrun := run_append_room_cells (P := P) w t o.type e i T.und hi b 0 n cp ad m c news hl hn h1 hr (fun j hj => by
        rw [hb.cell, Nat.zero_add]
        rw [List.getElem?_eq_getElem (by rw [List.length_append]; omega)]; rfl) (fun j _ => hb.frozen _)
      have hS2 := hS.setCells hat (n * i.size) news
      rw [← hxl, setL_app news xs junk hjn, List.set_append_right _ _ (Nat.le_refl _), Nat.sub_self] at hS2
      simp only [List.set_cons_zero] at hS2
      unfold Oper.wp
      simp [execOp, ho, resolve, invoke, builtin, hs, hx, hrun, Result.andThen]
      refine hK _ _ (h _ [(b, xs ++ news ++ junk.drop news.length)] _ ?_ ⟨by rw [List.length_append, hxl, hl, Nat.add_mul], .inr ⟨b, cp, junk.drop news.length, rfl, hr, hcm, ?_, rfl⟩⟩)
      · rw [← hxl]; exact hS2
      · rw [← hjl]; simp; omega
    · obtain ⟨v', w', hrun, r1, r2⟩ := run_append_arg_grows (P := P) w t o.type e i z size bytes T.und hi hz hsz hby hzz h0 ⟨b, 0, none⟩ n cp xs hxl (fun j u hj => by
        rw [Addr.add_lit, hb.cell, Nat.zero_add, List.getElem?_append_left (List.getElem?_eq_some_iff.1 hj).1]; exact hj) ad m c news hl hn (by omega) b1 b2
      obtain ⟨X', h3, h4⟩ := own_row hS r1 r2
      unfold Oper.wp
      simp [execOp, ho, resolve, invoke, builtin, hs, hx, hrun, Result.andThen]
      exact hK _ _ (h v' X' w' h3 h4)

/-- .. what is appended being a new block of the call, forgotten then. -/
theorem own_append_new (hgd : o.guard = none) (s x : Operand) (t : TypeId) (ho : o.op = .call { callee := .builtin .append, args := #[s, x], argTypes := #[t, t] })
    {size bytes n : Nat} {v : Value} {xs : List Value} {X : List (Nat × List Value)} {e : TypeId} (hX : Sl size n v xs X) (hs : a.eval s = v) {b m c : Nat} {news : List Value} (hx : a.eval x = .slice (some ⟨b, 0, none⟩) m c)
    (hS : Own D W (((b, news) :: L) ++ X) w) (hl : news.length = m * size) (h1 : news.all (·.oneCell') = true) (T : ElTy P t e size bytes) (h0 : 0 < size)
    (b1 : n + m ≤ maxLen) (b2 : (n + m) * bytes ≤ 140737488355328)
    (h : ∀ v' X' w', Own D W (L ++ X') w' → Sl size (n + m) v' (xs ++ news) X' → wpList P ops' Q rest (a.put o.dst v') w') : wpList P ops' Q (o :: rest) a w := by
  have hb : Has w b news := hS.has (b, news) (by simp)
  refine own_append hgd s x t ho hX hs hx (hS.forget (List.sublist_cons_self _ _) : Own D W (L ++ X) w) (fun j u hj => ?_) hl (fun u hu => List.all_eq_true.1 h1 u hu) T h0 b1 b2 h
  rw [Addr.add_lit, hb.cell, Nat.zero_add]
  exact hj

/-- A literal of a slice without elements. -/
theorem own_buildEmpty (hgd : o.guard = none) (t e : TypeId) (ho : o.op = .buildSlice t 0 #[]) (hS : Own D W L w) (hu : P.underlying t = some (.slice e)) (hi : (P.info? e).isSome = true)
    (h : ∀ b w', Own D W ((b, []) :: L) w' → wpList P ops' Q rest (a.put o.dst (.slice (some ⟨b, 0, none⟩) 0 0)) w') : wpList P ops' Q (o :: rest) a w := by
  refine wpList_plain hgd fun K hK => ?_
  cases hq : P.info? e with
  | none => simp [hq] at hi
  | some i =>
    have hrun : (execOp a.eval o).run P w = .ok (.value (.slice (some ⟨w.heap.size, 0, none⟩) 0 0)) (w.alloc (.cells [].toArray e)) := by
      unfold execOp
      have hf : Instr.fill (fun i_1 => some (i_1 * i.size, i.size)) (Array.map (fun _ => (default : Value)) (Array.range 0)) [] = some #[] := by simp [Instr.fill]
      simp [ho, Instr.buildSlice, run_underlying hu, sizeOf, typeInfo, hq, newRow, hf]
    unfold Oper.wp
    rw [hrun]
    exact hK _ _ (h _ _ (hS.new [] e))

end
end Go.Proofs.Ytgpabckipmhobaa
