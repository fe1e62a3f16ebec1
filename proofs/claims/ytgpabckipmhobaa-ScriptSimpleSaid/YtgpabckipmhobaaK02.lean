/- Texts Flo, Any. -/
import Derived.Test.YtgpabckipmhobaaK00
import Derived.Test.YtgpabckipmhobaaK01
namespace Go.Proofs.Ytgpabckipmhobaa
open Go.RowKit
section
variable {P : Program} {ops : Array Oper} {md : Region.Mode} {C : World → Prop}

/-- The operation yields v in the world that it got, or calls a function that gives v. -/
def givesUpon (P : Program) (w : World) (v : Value) : Result Next → Prop
  | .ok (.value u) w' => w' = w ∧ u = v
  | .ok .skip w' => w' = w ∧ v = undef
  | .ok (.enter f args) w' => w' = w ∧ Calls P f args w (Gives v w)
  | _ => False
def givesAt (P : Program) (o : Oper) (a : Act) (w : World) (v : Value) : Prop := givesUpon P w v ((execOp a.eval o).run P w)
/-- .. in every world of the class; or it is not wanted. -/
def GivesIn (P : Program) (ops : Array Oper) (C : World → Prop) (o : Oper) (v : Value) (a : Act) : Prop :=
  (Region.wanted o (yielded ops a.tmps) = true ∧ ∀ w, C w → givesAt P o a w v) ∨ (Region.wanted o (yielded ops a.tmps) = false ∧ v = undef)

theorem GivesIn.of_same {o : Oper} {v : Value} {a a' : Act} (h : GivesIn P ops C o v a) (he : execOp a'.eval o = execOp a.eval o) (hw : Region.wanted o (yielded ops a'.tmps) = Region.wanted o (yielded ops a.tmps)) : GivesIn P ops C o v a' := by
  unfold GivesIn givesAt at *
  rw [he, hw]
  exact h
theorem GivesIn.put {oi oj : Oper} {u v : Value} {a : Act} (hsj : ∀ cs b, oj.op ≠ .select cs b) (hap : oi.apart ops oj = true) (h : GivesIn P ops C oj u a) : GivesIn P ops C oj u (a.put oi.dst v) :=
  h.of_same (execOp_put oj hsj a oi.dst v (Oper.apart_spec hap).1) (wanted_put oj a oi.dst v (Oper.apart_spec hap).1)
theorem GivesIn.unput {oi oj : Oper} {u v : Value} {a : Act} (hsj : ∀ cs b, oj.op ≠ .select cs b) (hap : oi.apart ops oj = true) (h : GivesIn P ops C oj u (a.put oi.dst v)) : GivesIn P ops C oj u a :=
  h.of_same (execOp_put oj hsj a oi.dst v (Oper.apart_spec hap).1).symm (wanted_put oj a oi.dst v (Oper.apart_spec hap).1).symm

/-- Operation i comes up: it yields, and K holds behind it. -/
def gOp (P : Program) (ops : Array Oper) (C : World → Prop) (i : Nat) (K : Act → Prop) (a : Act) : Prop :=
  ∃ o v, ops[i]? = some o ∧ GivesIn P ops C o v a ∧ K (a.put o.dst v)
theorem gOp.mono {i : Nat} {K K' : Act → Prop} {a : Act} (hk : ∀ a, K a → K' a) (h : gOp P ops C i K a) : gOp P ops C i K' a :=
  let ⟨o, v, ho, hg, h1⟩ := h
  ⟨o, v, ho, hg, hk _ h1⟩

theorem wpOp_of_gOp {i : Nat} {K : Act → Prop} {K' : Act → World → Prop} {Q : Exit → Act → World → Prop} {a : Act} {w : World} (hC : C w) (hk : ∀ a' w', Below w.heap.size w w' → K a' → K' a' w') (h : gOp P ops C i K a) : wpOp P ops Q i K' a w := by
  obtain ⟨o, v, ho, hg, h1⟩ := h
  unfold wpOp
  simp only [ho]
  rcases hg with ⟨hw, hg⟩ | ⟨hw, rfl⟩
  · simp only [hw, if_true]
    refine .inl ?_
    have h2 := hg w hC
    unfold givesAt at h2
    unfold Oper.wp
    generalize (execOp a.eval o).run P w = r at *
    cases r with
    | ok n w' =>
      cases n <;> simp only [givesUpon] at h2 <;> simp only [Oper.upon]
      case value u => obtain ⟨rfl, rfl⟩ := h2; exact hk _ _ (bself _) h1
      case skip => obtain ⟨rfl, rfl⟩ := h2; exact hk _ _ (bself _) h1
      case enter f args =>
        obtain ⟨rfl, hc⟩ := h2
        exact hc.mono fun e w'' ⟨he, hb⟩ => by subst he; exact hk _ _ hb h1
    | halt x w' => simp only [givesUpon] at h2
  · simp only [hw, Bool.false_eq_true, if_false]
    exact hk _ _ (bself _) h1

/-- The heads in whatever order. -/
def headG (P : Program) (md : Region.Mode) (ops : Array Oper) (C : World → Prop) (n : Nat) (L : Array Bool → Act → Prop) : Nat → Array Bool → Act → Prop
  | 0, listed, a => L listed a
  | f + 1, listed, a => Region.ready md ops listed ≠ [] ∧ ∀ i ∈ Region.ready md ops listed, i < n ∧ gOp P ops C i (headG P md ops C n L f (listed.setIfInBounds i true)) a

/-- Only heads may come up: each operation from n on waits for one that is not listed. -/
structure Heads (md : Region.Mode) (ops : Array Oper) (n m : Nat) (listed : Array Bool) : Prop where
  closed : ∀ j oj, ops[j]? = some oj → listed.getD j false = true → ∀ e ∈ oj.after, Region.binds md e = true → listed.getD e.on false = true
  tail : ∀ t, n ≤ t → t ≠ m → t < ops.size → listed.getD t false = false
  mid : listed.getD m true = true

/-- The Bool that says so: each head but the last is waited for by a later head, each of the others (but m) by one behind the heads' last one. -/
def headsB (md : Region.Mode) (ops : Array Oper) (n m : Nat) : Bool :=
  (List.range n).all (fun i => decide (i + 1 = n) || (List.range n).any fun j => decide (i < j) && Region.waitsFor md ops j i) &&
  (List.range ops.size).all (fun t => decide (t < n) || decide (t = m) || (List.range t).any fun j => decide (n ≤ j + 1) && decide (j ≠ m) && Region.waitsFor md ops t j)

theorem Heads.last {n m : Nat} {listed : Array Bool} (hB : headsB md ops n m = true) (h : Heads md ops n m listed) : ∀ (d i : Nat), n - i = d → i < n → listed.getD i false = false → listed.getD (n - 1) false = false := by
  simp only [headsB, Bool.and_eq_true] at hB
  intro d
  induction d using Nat.strongRecOn with
  | _ d ih =>
    intro i hd hi hun
    have h1 := List.all_eq_true.1 hB.1 i (List.mem_range.2 hi)
    simp only [Bool.or_eq_true, decide_eq_true_eq] at h1
    rcases h1 with h1 | h1
    · rw [show n - 1 = i by omega]; exact hun
    · obtain ⟨j, hj, hj2⟩ := List.any_eq_true.1 h1
      simp only [Bool.and_eq_true, decide_eq_true_eq] at hj2
      obtain ⟨oj, hoj, e, he, hb, hon⟩ := Region.waitsFor_spec hj2.2
      have hjn := List.mem_range.1 hj
      cases hl : listed.getD j false with
      | true =>
        have h2 := h.closed j oj hoj hl e he hb
        rw [hon, hun] at h2
        cases h2
      | false => exact ih (n - j) (by omega) j rfl hjn hl

theorem Heads.lt {n m : Nat} {listed : Array Bool} (hB : headsB md ops n m = true) (h : Heads md ops n m listed) {i : Nat} (hi : i < n) (hun : listed.getD i false = false) {t : Nat} (ht : t ∈ Region.ready md ops listed) : t < n := by
  obtain ⟨htu, ot, hot, hall⟩ := mem_ready.1 ht
  have hl := h.last hB (n - i) i rfl hi hun
  have htm : t ≠ m := fun e => by subst e; rw [h.mid] at htu; cases htu
  simp only [headsB, Bool.and_eq_true] at hB
  have h1 := List.all_eq_true.1 hB.2 t (List.mem_range.2 (Array.getElem?_eq_some_iff.1 hot).1)
  simp only [Bool.or_eq_true, decide_eq_true_eq] at h1
  rcases h1 with (h1 | h1) | h1
  · exact h1
  · exact absurd h1 htm
  · obtain ⟨j, hj, hj2⟩ := List.any_eq_true.1 h1
    simp only [Bool.and_eq_true, decide_eq_true_eq] at hj2
    obtain ⟨oj, hoj, e, he, hb, hon⟩ := Region.waitsFor_spec hj2.2
    have : oj = ot := Option.some.inj (hoj.symm.trans hot)
    subst this
    have h2 := hall e he hb
    rw [hon] at h2
    by_cases hjn : j = n - 1
    · rw [hjn, hl] at h2; cases h2
    · have hjs : j < ops.size := by have := List.mem_range.1 hj; have := (Array.getElem?_eq_some_iff.1 hot).1; omega
      rw [h.tail j (by omega) hj2.1.2 hjs] at h2; cases h2

theorem Heads.set {n m i : Nat} {listed : Array Bool} (h : Heads md ops n m listed) (hi : i ∈ Region.ready md ops listed) (hin : i < n) : Heads md ops n m (listed.setIfInBounds i true) := by
  obtain ⟨_, oi, hoi, hall⟩ := mem_ready.1 hi
  refine ⟨fun j oj hj hl e he hb => ?_, fun t ht htm ht' => by rw [getD_set_ne false (by omega)]; exact h.tail t ht htm ht', ?_⟩
  · by_cases hij : i = j
    · subst hij
      have : oj = oi := Option.some.inj (hj.symm.trans hoi)
      subst this
      exact getD_set_true (hall e he hb)
    · rw [getD_set_ne false hij] at hl
      exact getD_set_true (h.closed j oj hj hl e he hb)
  · by_cases him : i = m
    · subst him
      have h1 := (mem_ready.1 hi).1
      rw [h.mid] at h1; cases h1
    · rw [getD_set_ne true him]; exact h.mid

/-- A head that is ready may be taken first. -/
theorem headG_first {n m i : Nat} {oi : Oper} {v : Value} {L : Array Bool → Act → Prop} (hi : ops[i]? = some oi) (hsel : Region.noSelect ops = true) (hB : headsB md ops n m = true) (hin : i < n)
    (hdone : ∀ listed a, L listed a → ∀ j ∈ Region.ready md ops listed, n ≤ j) (f : Nat) :
    ∀ (listed : Array Bool) (a : Act), Heads md ops n m listed →
      (∀ j oj, ops[j]? = some oj → j ≠ i → listed.getD j true = false → (∀ e ∈ oj.after, Region.binds md e = true → e.on ≠ i) → oi.apart ops oj = true) →
      i ∈ Region.ready md ops listed → GivesIn P ops C oi v a →
      headG P md ops C n L f (listed.setIfInBounds i true) (a.put oi.dst v) → headG P md ops C n L (f + 1) listed a := by
  have hsel' := Region.noSelect_spec hsel
  induction f with
  | zero =>
    intro listed a inv _ hr hy H
    refine ⟨List.ne_nil_of_mem hr, fun j hj => ?_⟩
    have hjn := inv.lt hB hin (getD_both (mem_ready.1 hr).1) hj
    refine ⟨hjn, ?_⟩
    by_cases hji : j = i
    · subst hji; exact ⟨oi, v, hi, hy, H⟩
    · have h1 := hdone _ _ H j (ready_mono hj hji)
      omega
  | succ f ih =>
    intro listed a inv hfree hr hy H
    refine ⟨List.ne_nil_of_mem hr, fun j hj => ?_⟩
    have hun := (mem_ready.1 hr).1
    have hjn := inv.lt hB hin (getD_both hun) hj
    refine ⟨hjn, ?_⟩
    by_cases hji : j = i
    · subst hji; exact ⟨oi, v, hi, hy, H⟩
    · obtain ⟨hjun, oj, hoj, hall⟩ := mem_ready.1 hj
      have hap : oi.apart ops oj = true := hfree j oj hoj hji hjun fun e he hb heq => by
        have h1 := hall e he hb
        rw [heq, getD_both hun] at h1
        cases h1
      obtain ⟨_, o', u, ho', hg, h3⟩ := H.2 j (ready_mono hj hji)
      have : o' = oj := Option.some.inj (ho'.symm.trans hoj)
      subst this
      have hsp := Oper.apart_spec hap
      refine ⟨o', u, ho', hg.unput (fun cs b => hsel' j o' cs b hoj) hap, ih (listed.setIfInBounds j true) _ (inv.set hj hjn) ?_ (ready_mono hr (Ne.symm hji)) ?_ ?_⟩
      · intro k ok hk hki hunk hno
        refine hfree k ok hk hki ?_ hno
        by_cases hjk : j = k
        · subst hjk; exact hjun
        · rw [getD_set_ne true hjk] at hunk; exact hunk
      · exact hy.of_same (execOp_put oi (fun cs b => hsel' i oi cs b hi) a o'.dst u hsp.2.2) (wanted_put oi a o'.dst u hsp.2.2)
      · rw [Array.setIfInBounds_comm _ _ hji, ← Act.put_comm a v u hsp.2.1]
        exact h3

/-- The walk in the text's order. -/
def wpG (P : Program) (ops : Array Oper) (C : World → Prop) (R : Act → Prop) : List Oper → Act → Prop
  | [], a => R a
  | o :: rest, a => ∃ v, GivesIn P ops C o v a ∧ wpG P ops C R rest (a.put o.dst v)

/-- The Bools: the heads come up in the text's order; then what is left. -/
def headsLex (md : Region.Mode) (ops : Array Oper) (n : Nat) : Nat → Nat → Array Bool → Bool
  | 0, _, listed => (Region.ready md ops listed).all fun j => decide (n ≤ j)
  | f + 1, k, listed => (Region.ready md ops listed).contains k && Region.free md ops listed k && headsLex md ops n f (k + 1) (listed.setIfInBounds k true)

/-- What is listed behind the heads. -/
def listedFrom : Nat → Nat → Array Bool → Array Bool
  | 0, _, listed => listed
  | f + 1, k, listed => listedFrom f (k + 1) (listed.setIfInBounds k true)

theorem headG_lex {n m : Nat} {R : Act → Prop} (hsel : Region.noSelect ops = true) (hB : headsB md ops n m = true) (l : List Oper) :
    ∀ (k : Nat) (listed : Array Bool) (a : Act), (∀ j, j < l.length → l[j]? = ops[k + j]?) → k + l.length = n → Heads md ops n m listed →
    headsLex md ops n l.length k listed = true → wpG P ops C R l a →
    headG P md ops C n (fun listed' a' => (listed' = listedFrom l.length k listed ∧ ∀ j ∈ Region.ready md ops listed', n ≤ j) ∧ R a') l.length listed a := by
  induction l with
  | nil =>
    intro k listed a _ _ _ hx h
    simp only [List.length_nil, headsLex, List.all_eq_true, decide_eq_true_eq] at hx
    exact ⟨⟨rfl, hx⟩, h⟩
  | cons o l ih =>
    intro k listed a hl hk inv hx h
    have h0 : ops[k]? = some o := by simpa using (hl 0 (by simp)).symm
    simp only [List.length_cons, headsLex, Bool.and_eq_true] at hx
    have hkn : k < n := by simp only [List.length_cons] at hk; omega
    have hr : k ∈ Region.ready md ops listed := by simpa using hx.1.1
    obtain ⟨v, hg, h1⟩ := h
    refine headG_first h0 hsel hB hkn (fun _ _ hL => hL.1.2) l.length listed a inv (Region.free_spec h0 hx.1.2) hr hg
      (ih (k + 1) _ _ (fun j hj => ?_) (by simp only [List.length_cons] at hk; omega) (inv.set hr hkn) hx.2 h1)
    have := hl (j + 1) (by simp; omega)
    simpa [Nat.add_assoc, Nat.add_comm 1 j] using this

/-- Behind the alloc: the heads go on. -/
theorem wpAny_alloced {n g b : Nat} {om : Oper} {O : Obj} {x : Value} {L : Array Bool → Act → Prop} {Q : Exit → Act → World → Prop} (hsel : Region.noSelect ops = true) (hstep : ∀ w w', C w → Below w.heap.size w w' → C w')
    (hap : ∀ i oi, i < n → ops[i]? = some oi → om.apart ops oi = true)
    (hA : ∀ listed a w, L listed a → C w → w.heap[b]? = some O → wpAny P md ops Q g listed (a.put om.dst x) w) (f : Nat) :
    ∀ (listed : Array Bool) (a : Act) (w : World), headG P md ops C n L f listed a → C w → w.heap[b]? = some O → wpAny P md ops Q (f + g) listed (a.put om.dst x) w := by
  have hsel' := Region.noSelect_spec hsel
  induction f with
  | zero => intro listed a w h hC hb; rw [Nat.zero_add]; exact hA _ _ _ h hC hb
  | succ f ih =>
    intro listed a w h hC hb
    rw [Nat.add_right_comm f 1 g]
    refine ⟨fun h0 => absurd h0 h.1, fun i hi => ?_⟩
    obtain ⟨hin, o, v, ho, hg, h1⟩ := h.2 i hi
    have ha := hap i o hin ho
    refine wpOp_of_gOp (K := fun a' => a' = (a.put om.dst x).put o.dst v) hC (fun a' w' hb' he => ?_) ⟨o, v, ho, hg.put (fun cs b => hsel' i o cs b ho) ha, rfl⟩
    rw [he, Act.put_comm a x v (Oper.apart_spec ha).2.1]
    refine ih _ _ _ h1 (hstep _ _ hC hb') ?_
    have hlt : b < w.heap.size := by
      rcases Nat.lt_or_ge b w.heap.size with h' | h'
      · exact h'
      · simp [Array.getElem?_eq_none h'] at hb
    rw [hb'.block b hlt]; exact hb

/-- The heads, the alloc at any time among them. -/
theorem wpAny_floating {n m g : Nat} {om : Oper} {O : Obj} {L : Array Bool → Act → Prop} {Q : Exit → Act → World → Prop} {W : World} (hsel : Region.noSelect ops = true) (hstep : ∀ w w', C w → Below w.heap.size w w' → C w') (hsize : ∀ w, C w → W.heap.size ≤ w.heap.size)
    (hom : ops[m]? = some om) (hgd : om.guard = none) (haf : om.after.all (fun e => !Region.binds md e) = true) (hal : ∀ (a : Act) (w : World), (execOp a.eval om).run P w = .ok (.value (.pointer (some ⟨w.heap.size, 0, none⟩))) (w.alloc O))
    (hap : ∀ i oi, i < n → ops[i]? = some oi → om.apart ops oi = true)
    (hA : ∀ listed a w b, L listed a → C w → W.heap.size ≤ b → w.heap[b]? = some O → wpAny P md ops Q g listed (a.put om.dst (.pointer (some ⟨b, 0, none⟩))) w)
    (hB : ∀ listed a w, listed.getD m true = false → L (listed.setIfInBounds m true) a → C w → wpAny P md ops Q (g + 1) listed a w) (f : Nat) :
    ∀ (listed : Array Bool) (a : Act) (w : World), listed.getD m true = false → headG P md ops C n L f (listed.setIfInBounds m true) a → C w → wpAny P md ops Q (f + (g + 1)) listed a w := by
  induction f with
  | zero => intro listed a w hun h hC; rw [Nat.zero_add]; exact hB _ _ _ hun h hC
  | succ f ih =>
    intro listed a w hun h hC
    have hmr : m ∈ Region.ready md ops listed := mem_ready.2 ⟨hun, om, hom, fun e he hb => by
      have := Array.all_eq_true_iff_forall_mem.1 haf e he
      simp [hb] at this⟩
    rw [show f + 1 + (g + 1) = (f + (g + 1)) + 1 by omega]
    refine ⟨fun h0 => (by rw [h0] at hmr; cases hmr), fun i hi => ?_⟩
    by_cases him : i = m
    · subst him
      unfold wpOp
      simp only [hom]
      have hw : Region.wanted om (yielded ops a.tmps) = true := by simp [Region.wanted, hgd]
      simp only [hw, if_true]
      refine .inl ?_
      unfold Oper.wp
      rw [hal]
      show wpAny P md ops Q (f + (g + 1)) _ (a.put om.dst _) (w.alloc O)
      have h2 := wpAny_alloced (b := w.heap.size) (O := O) (x := .pointer (some ⟨w.heap.size, 0, none⟩)) hsel hstep hap (fun listed a w' h1 h2 h3 => hA listed a w' _ h1 h2 (hsize w hC) h3) (f + 1) _ a (w.alloc O) h (hstep _ _ hC (bnew (bself w) O)) (by show (w.heap.push O)[w.heap.size]? = _; simp)
      rw [show f + 1 + g = f + (g + 1) by omega] at h2
      exact h2
    · obtain ⟨hin, o, v, ho, hg, h1⟩ := h.2 i (ready_mono hi him)
      refine wpOp_of_gOp (K := fun a' => a' = a.put o.dst v) hC (fun a' w' hb' he => ?_) ⟨o, v, ho, hg, rfl⟩
      rw [he]
      refine ih _ _ _ (by rw [getD_set_ne true him]; exact hun) ?_ (hstep _ _ hC hb')
      rw [Array.setIfInBounds_comm _ _ him]
      exact h1

/-- Copies, in the text's order. -/
def wpP (P : Program) (ops : Array Oper) (R : Act → Prop) : List Oper → Act → Prop
  | [], a => R a
  | o :: rest, a => ∃ v, Yields P ops o v a ∧ wpP P ops R rest (a.put o.dst v)

def copiesLex (md : Region.Mode) (ops : Array Oper) : Nat → Nat → Array Bool → Bool
  | 0, _, _ => true
  | f + 1, k, listed => (Region.ready md ops listed).contains k && Region.free md ops listed k && copiesLex md ops f (k + 1) (listed.setIfInBounds k true)

theorem wpAny_copies {g : Nat} {Q : Exit → Act → World → Prop} (hsel : Region.noSelect ops = true) (hQ : ∀ c a (d : Tmp) v w, Q (.panic c) (Act.put a (some d) v) w → Q (.panic c) a w) (l : List Oper) :
    ∀ (k : Nat) (listed : Array Bool) (a : Act) (w : World), (∀ j, j < l.length → l[j]? = ops[k + j]?) → copiesLex md ops l.length k listed = true →
    wpP P ops (fun a' => wpAny P md ops Q g (listedFrom l.length k listed) a' w) l a → wpAny P md ops Q (l.length + g) listed a w := by
  induction l with
  | nil => intro k listed a w _ _ h; simpa [listedFrom, wpP] using h
  | cons o l ih =>
    intro k listed a w hl hx h
    have h0 : ops[k]? = some o := by simpa using (hl 0 (by simp)).symm
    simp only [List.length_cons, copiesLex, Bool.and_eq_true] at hx
    obtain ⟨v, hy, h1⟩ := h
    rw [List.length_cons, Nat.add_right_comm]
    refine wpAny_take h0 hsel hx.1.2 hx.1.1 (fun c a w => by cases hd : o.dst with | none => exact id | some d => exact hQ c a d v w) hy (ih (k + 1) _ _ _ (fun j hj => ?_) hx.2 h1)
    have := hl (j + 1) (by simp; omega)
    simpa [Nat.add_assoc, Nat.add_comm 1 j] using this

theorem wpP_put {om : Oper} {x : Value} {R : Act → Prop} (hsel : ∀ (o : Oper) cs b, o ∈ ops.toList → o.op ≠ .select cs b) (l : List Oper) (hl : ∀ o ∈ l, o ∈ ops.toList ∧ om.apart ops o = true) :
    ∀ a, wpP P ops R l a → wpP P ops (fun a' => ∃ a2, a' = a2.put om.dst x ∧ R a2) l (a.put om.dst x) := by
  induction l with
  | nil => intro a h; exact ⟨a, rfl, h⟩
  | cons o l ih =>
    intro a h
    obtain ⟨v, hy, h1⟩ := h
    have ha := (hl o (by simp)).2
    have hs := fun cs b => hsel o cs b (hl o (by simp)).1
    refine ⟨v, hy.of_same (execOp_put o hs a om.dst x (Oper.apart_spec ha).1) (wanted_put o a om.dst x (Oper.apart_spec ha).1), ?_⟩
    rw [Act.put_comm a x v (Oper.apart_spec ha).2.1]
    exact ih (fun o' ho' => hl o' (by simp [ho'])) _ h1
theorem wpP_mono {R R' : Act → Prop} (h : ∀ a, R a → R' a) (l : List Oper) : ∀ a, wpP P ops R l a → wpP P ops R' l a := by
  induction l with
  | nil => intro a; exact h a
  | cons o l ih => intro a ⟨v, hy, h1⟩; exact ⟨v, hy, ih _ h1⟩

/-- All that the theorem below asks of a region's edges: n operations first, m - n copies, one alloc at m, a tail in one order. -/
def floatB (md : Region.Mode) (ops : Array Oper) (n m : Nat) : Bool :=
  let l0 := (Array.replicate ops.size false).setIfInBounds m true
  let l1 := listedFrom n 0 l0
  let l2 := l1.setIfInBounds m false
  Region.noSelect ops && headsB md ops n m && headsLex md ops n n 0 l0 && decide (n ≤ m) && decide (m < ops.size) &&
  copiesLex md ops (m - n) n l1 && Region.seqB md ops (ops.size - (m + 1)) (m + 1) (listedFrom (m - n) n l1) &&
  copiesLex md ops (m - n) n l2 && Region.seqB md ops (ops.size - (m + 1) + 1) m (listedFrom (m - n) n l2) &&
  (match ops[m]? with
    | some om => om.guard.isNone && om.after.all (fun e => !Region.binds md e) && (List.range m).all fun i => match ops[i]? with | some oi => om.apart ops oi | none => true
    | none => false) &&
  ops.all fun o => o.after.all fun e => !Region.binds md e || decide (e.on < ops.size)

theorem unset {listed l1 : Array Bool} {m : Nat} (hun : listed.getD m true = false) (h : listed.setIfInBounds m true = l1) : listed = l1.setIfInBounds m false := by
  subst h
  have hm : m < listed.size := by
    rcases Nat.lt_or_ge m listed.size with h' | h'
    · exact h'
    · simp [Array.getElem?_eq_none h'] at hun
  apply Array.ext
  · simp
  · intro i h1 h2
    by_cases hi : i = m
    · subst hi
      simp at hun ⊢
      simpa [hm] using hun
    · have hi' : m ≠ i := fun e => hi e.symm
      rw [Array.getElem_setIfInBounds_ne (by simpa using h1) hi', Array.getElem_setIfInBounds_ne h1 hi']

/-- A region that draws its order, with one new variable. -/
theorem wp_region_float {id : Nat} {Q : Exit → Act → World → Prop} {a : Act} {w : World} {l : List Oper} {om : Oper} (F : List (Addr × Value)) (n m : Nat) (O : Obj) (hm : P.follows .mixedOrders = true) (hB : floatB .any l.toArray n m = true)
    (hom : l[m]? = some om) (hQ : ∀ c a (d : Tmp) v w, Q (.panic c) (Act.put a (some d) v) w → Q (.panic c) a w)
    (hal : ∀ (a : Act) (w : World), (execOp a.eval om).run P w = .ok (.value (.pointer (some ⟨w.heap.size, 0, none⟩))) (w.alloc O))
    (h0 : ∀ x ∈ F, w.cell? x.1 = some x.2)
    (h : ∀ C : World → Prop, Cls C w F → wpG P l.toArray C (fun a1 => wpP P l.toArray (fun a2 => ∀ b w', C w' → w.heap.size ≤ b → w'.heap[b]? = some O → wpList P l.toArray Q (l.drop (m + 1)) (a2.put om.dst (.pointer (some ⟨b, 0, none⟩))) w') ((l.take m).drop n) a1) (l.take n) a) :
    (Code.region id l.toArray true).wp P Q a w := by
  have hH := h _ (Cls.mk' h0)
  have hom' : l.toArray[m]? = some om := by simpa using hom
  simp only [floatB, Bool.and_eq_true, decide_eq_true_eq, hom'] at hB
  obtain ⟨⟨⟨⟨⟨⟨⟨⟨⟨⟨hsel, hhB⟩, hlex⟩, hnm⟩, hms⟩, hc1⟩, hs1⟩, hc2⟩, hs2⟩, ⟨hgd, haf⟩, hap⟩, _⟩ := hB
  have hms' : m < l.length := by simpa using hms
  have hap' : ∀ i oi, i < m → l.toArray[i]? = some oi → om.apart l.toArray oi = true := fun i oi hi ho => by
    have := List.all_eq_true.1 hap i (List.mem_range.2 hi)
    simpa only [ho] using this
  have htl : (l.take n).length = n := by simp; omega
  have hpl : ((l.take m).drop n).length = m - n := by simp; omega
  have hdl : (l.drop (m + 1)).length = l.toArray.size - (m + 1) := by simp
  have hsel' : ∀ (o : Oper) cs b, o ∈ l.toArray.toList → o.op ≠ .select cs b := fun o cs b ho => by
    obtain ⟨j, hj⟩ := List.getElem?_of_mem ho
    exact Region.noSelect_spec hsel j o cs b (by simpa using hj)
  have inv0 : Heads .any l.toArray n m ((Array.replicate l.toArray.size false).setIfInBounds m true) := by
    refine ⟨fun j oj hj hl e he hb => ?_, fun t _ htm ht => ?_, ?_⟩
    · by_cases hjm : m = j
      · subst hjm
        have : oj = om := Option.some.inj (hj.symm.trans hom')
        subst this
        have := Array.all_eq_true_iff_forall_mem.1 haf e he
        simp [hb] at this
      · rw [getD_set_ne false hjm, getD_replicate_false] at hl; cases hl
    · rw [getD_set_ne false (Ne.symm htm), getD_replicate_false]
    · simp [hms']
  have HG := headG_lex (md := .any) (C := fun w' => Below w.heap.size w w') hsel hhB (l.take n) 0 _ a (fun j hj => by
    have hj' : j < n := by rw [htl] at hj; exact hj
    simp [hj']) (by simpa using htl) inv0 (by rw [htl]; exact hlex) hH
  rw [htl] at HG
  refine wp_region_any hm ?_
  have hpures : ∀ j, j < ((l.take m).drop n).length → ((l.take m).drop n)[j]? = l.toArray[n + j]? := fun j hj => by
    rw [hpl] at hj
    simp [List.getElem?_drop, show n + j < m by omega]
  have := wpAny_floating (md := .any) (g := m - n + (l.toArray.size - (m + 1))) (O := O) (W := w) (Q := Q) (n := n) (L := fun listed' a' => (listed' = listedFrom n 0 ((Array.replicate l.toArray.size false).setIfInBounds m true) ∧ ∀ j ∈ Region.ready .any l.toArray listed', n ≤ j) ∧ wpP P l.toArray (fun a2 => ∀ b w', Below w.heap.size w w' → w.heap.size ≤ b → w'.heap[b]? = some O → wpList P l.toArray Q (l.drop (m + 1)) (a2.put om.dst (.pointer (some ⟨b, 0, none⟩))) w') ((l.take m).drop n) a') hsel (fun _ _ h1 h2 => bthen h1 h2) (fun _ h1 => h1.size) hom' (by simpa using hgd) haf hal (fun i oi hi ho => hap' i oi (by omega) ho)
    (fun listed a' w' b hL hC hb hO => by
      obtain ⟨⟨hl1, _⟩, hR⟩ := hL
      have hin : ∀ o ∈ (l.take m).drop n, o ∈ l.toArray.toList ∧ om.apart l.toArray o = true := fun o ho => by
        obtain ⟨j, hj⟩ := List.getElem?_of_mem ho
        have hjl := (List.getElem?_eq_some_iff.1 hj).1
        have h5 := hpures j hjl
        rw [hj] at h5
        exact ⟨by simpa using List.mem_of_mem_take (List.mem_of_mem_drop ho), hap' (n + j) o (by rw [hpl] at hjl; omega) h5.symm⟩
      have h1 := wpP_put (om := om) (x := .pointer (some ⟨b, 0, none⟩)) hsel' _ hin _ hR
      have h4 : ∀ a3 : Act, (∃ a2 : Act, a3 = a2.put om.dst (.pointer (some ⟨b, 0, none⟩)) ∧ ∀ b w', Below w.heap.size w w' → w.heap.size ≤ b → w'.heap[b]? = some O → wpList P l.toArray Q (l.drop (m + 1)) (a2.put om.dst (.pointer (some ⟨b, 0, none⟩))) w') →
          wpAny P .any l.toArray Q (l.toArray.size - (m + 1)) (listedFrom ((l.take m).drop n).length n listed) a3 w' := fun a3 ⟨a2, he, hr⟩ => by
        rw [he]
        have h3 := wpAny_of_seq (md := .any) (ops := l.toArray) (Q' := Q) (l.drop (m + 1)) (m + 1) (listedFrom ((l.take m).drop n).length n listed) (a2.put om.dst (.pointer (some ⟨b, 0, none⟩))) w' (fun j => by simp [List.getElem?_drop]) (by rw [hdl, hpl, hl1]; exact hs1) (hr b w' hC hb hO)
        rw [hdl] at h3; exact h3
      have h2 := wpAny_copies (md := .any) (g := l.toArray.size - (m + 1)) (Q := Q) (listed := listed) (w := w') hsel hQ ((l.take m).drop n) n (a := a'.put om.dst (.pointer (some ⟨b, 0, none⟩))) hpures (by rw [hpl, hl1]; exact hc1) (wpP_mono h4 _ _ h1)
      rw [hpl] at h2; exact h2)
    (fun listed a' w' hun hL hC => by
      obtain ⟨⟨hl1, _⟩, hR⟩ := hL
      have hl2 := unset hun hl1
      have h4 : ∀ a2 : Act, (∀ b w', Below w.heap.size w w' → w.heap.size ≤ b → w'.heap[b]? = some O → wpList P l.toArray Q (l.drop (m + 1)) (a2.put om.dst (.pointer (some ⟨b, 0, none⟩))) w') →
          wpAny P .any l.toArray Q (l.toArray.size - (m + 1) + 1) (listedFrom ((l.take m).drop n).length n listed) a2 w' := fun a2 hr => by
        have hlm : (om :: l.drop (m + 1)).length = l.toArray.size - (m + 1) + 1 := by simp
        have hw : wpList P l.toArray Q (om :: l.drop (m + 1)) a2 w' := by
          unfold wpList
          rw [if_pos (by simp [Region.wanted, show om.guard = none by simpa using hgd])]
          refine .inl ?_
          unfold Oper.wp
          rw [hal]
          exact hr w'.heap.size (w'.alloc O) (bnew hC O) hC.size (by show (w'.heap.push O)[w'.heap.size]? = _; simp)
        have hj : ∀ j, (om :: l.drop (m + 1))[j]? = l.toArray[m + j]? := fun j => by
          cases j with
          | zero => simpa using hom.symm
          | succ j => simp [List.getElem?_drop, Nat.add_assoc, Nat.add_comm 1 j]
        have h3 := wpAny_of_seq (md := .any) (ops := l.toArray) (Q' := Q) (om :: l.drop (m + 1)) m (listedFrom ((l.take m).drop n).length n listed) a2 w' hj (by rw [hlm, hpl, hl2]; exact hs2) hw
        rw [hlm] at h3; exact h3
      have h2 := wpAny_copies (md := .any) (g := l.toArray.size - (m + 1) + 1) (Q := Q) (listed := listed) (w := w') hsel hQ ((l.take m).drop n) n (a := a') hpures (by rw [hpl, hl2]; exact hc2) (wpP_mono h4 _ _ hR)
      rw [hpl, show m - n + (l.toArray.size - (m + 1) + 1) = m - n + (l.toArray.size - (m + 1)) + 1 by omega] at h2; exact h2)
    n (Array.replicate l.toArray.size false) a _ (by simp [hms']) HG ((Below.refl _ _).drew)
  rw [show n + (m - n + (l.toArray.size - (m + 1)) + 1) = l.toArray.size by simp; omega] at this
  exact this

attribute [go_sem] givesAt givesUpon

theorem g_plain {R : Act → Prop} {a : Act} {o : Oper} {rest : List Oper} (hg : o.guard = none) (h : ∃ v, (∀ w, C w → givesAt P o a w v) ∧ wpG P ops C R rest (a.put o.dst v)) : wpG P ops C R (o :: rest) a :=
  let ⟨v, h1, h2⟩ := h
  ⟨v, .inl ⟨by simp [Region.wanted, hg], h1⟩, h2⟩
theorem g_at {R : Act → Prop} {a : Act} {o oj : Oper} {rest : List Oper} {j d : Nat} {b : Bool} {x : Value} (hg : o.guard = some (j, b)) (hj : ops[j]? = some oj) (hd : oj.dst = some d) (hv : a.tmps[d]? = some x)
    (h : QG x b (∃ v, (∀ w, C w → givesAt P o a w v) ∧ wpG P ops C R rest (a.put o.dst v)) (wpG P ops C R rest (a.put o.dst undef))) : wpG P ops C R (o :: rest) a := by
  have hw : Region.wanted o (yielded ops a.tmps) = (boolOf x == some b) := by
    unfold Region.wanted
    simp only [hg, yielded_at hj hd hv]
  by_cases hx : boolOf x = some b
  · obtain ⟨v, h1, h2⟩ := QG_yes hx h
    exact ⟨v, .inl ⟨by rw [hw]; simpa using hx, h1⟩, h2⟩
  · exact ⟨undef, .inr ⟨by rw [hw]; simpa using hx, rfl⟩, QG_no hx h⟩
theorem g_yes {R : Act → Prop} {a : Act} {o oj : Oper} {rest : List Oper} {j d : Nat} {b : Bool} {x : Value} (hg : o.guard = some (j, b)) (hj : ops[j]? = some oj) (hd : oj.dst = some d) (hv : a.tmps[d]? = some x) (hx : YesG x b)
    (h : ∃ v, (∀ w, C w → givesAt P o a w v) ∧ wpG P ops C R rest (a.put o.dst v)) : wpG P ops C R (o :: rest) a := g_at hg hj hd hv (hx.qg h)
theorem g_no {R : Act → Prop} {a : Act} {o oj : Oper} {rest : List Oper} {j d : Nat} {b : Bool} {x : Value} (hg : o.guard = some (j, b)) (hj : ops[j]? = some oj) (hd : oj.dst = some d) (hv : a.tmps[d]? = some x) (hx : NoG x b)
    (h : wpG P ops C R rest (a.put o.dst undef)) : wpG P ops C R (o :: rest) a := g_at hg hj hd hv (hx.qg h)
theorem p_plain {R : Act → Prop} {a : Act} {o : Oper} {rest : List Oper} (hg : o.guard = none) (h : ∃ v, (∀ w, (execOp a.eval o).run P w = .ok (.value v) w) ∧ wpP P ops R rest (a.put o.dst v)) : wpP P ops R (o :: rest) a :=
  let ⟨v, h1, h2⟩ := h
  ⟨v, .inl ⟨by simp [Region.wanted, hg], h1⟩, h2⟩
theorem g_nil {R : Act → Prop} {a : Act} (h : R a) : wpG P ops C R [] a := h
theorem p_nil {R : Act → Prop} {a : Act} (h : R a) : wpP P ops R [] a := h
end
end Go.Proofs.Ytgpabckipmhobaa
namespace Go.Proofs.Ytgpabckipmhobaa
open Go.RowKit
section
variable {P : Program} {ops : Array Oper} {Q : Exit → Act → World → Prop} {rel : Nat → World → World → Prop}

/-- No way out but the normal one. -/
def Qno : Exit → Act → World → Prop := fun _ _ _ => False
/-- Whatever comes next; what operation i does to the world, rel i tells; what follows holds in all later worlds. -/
def wpK (P : Program) (ops : Array Oper) (Q : Exit → Act → World → Prop) (rel : Nat → World → World → Prop) : Nat → Array Bool → Act → World → Prop
  | 0, listed, a, w => Region.ready .any ops listed = [] ∧ Q .normal a w
  | f + 1, listed, a, w => Region.ready .any ops listed ≠ [] ∧ ∀ i ∈ Region.ready .any ops listed,
      wpOp P ops Qno i (fun a' w' => rel i w w' ∧ ∀ w'', Below w'.heap.size w' w'' → wpK P ops Q rel f (listed.setIfInBounds i true) a' w'') a w

theorem Oper.wp_of_no {o : Oper} {a : Act} {w : World} {K : Act → World → Prop} (h : o.wp P a w K Qno) : o.wp P a w K Q := by
  unfold Oper.wp Oper.upon at *
  generalize (execOp a.eval o).run P w = r at *
  cases r with
  | ok n w' =>
    cases n <;> first
      | exact h
      | exact Calls.mono h (fun e w'' he => by
          cases e with
          | returned v => exact he
          | panicked c => exact he.elim
          | outgrown => obtain ⟨_, _, h⟩ := he; exact h.elim)
  | halt x w' => cases x <;> first | exact h | exact h.elim
theorem wpOp_of_no {i : Nat} {a : Act} {w : World} {K : Act → World → Prop} (h : wpOp P ops Qno i K a w) : wpOp P ops Q i K a w := by
  unfold wpOp at *
  split
  · rename_i ho; simpa only [ho] using h
  · rename_i o ho
    simp only [ho] at h
    split
    · rename_i hw
      simp only [hw, if_true] at h
      rcases h with h | ⟨_, _, _, h⟩
      · exact .inl (Oper.wp_of_no h)
      · exact h.elim
    · rename_i hw; simp only [hw] at h; exact h
theorem wpAny_of_wpK : ∀ (f : Nat) (listed : Array Bool) (a : Act) (w : World), wpK P ops Q rel f listed a w → wpAny P .any ops Q f listed a w := by
  intro f
  induction f with
  | zero => intro listed a w h; exact h
  | succ f ih =>
    intro listed a w h
    exact ⟨fun h0 => absurd h0 h.1, fun i hi => wpOp_mono (fun a' w' h' => ih _ _ _ (h'.2 w' (bself w'))) (wpOp_of_no (h.2 i hi))⟩

/-- Operation j in a frame in which operation i has yielded, and in the frame in which it has not. -/
theorem wpOp_unput {C : World → Prop} {j : Nat} {oi oj : Oper} {v : Value} (hj : ops[j]? = some oj) (hap : oi.apart ops oj = true) (hsi : ∀ cs b, oi.op ≠ .select cs b) (hsj : ∀ cs b, oj.op ≠ .select cs b)
    {K : Act → World → Prop} {a : Act} {w : World} (hy : GivesIn P ops C oi v a) (h : wpOp P ops Qno j K (a.put oi.dst v) w) :
    wpOp P ops Qno j (fun a' w' => GivesIn P ops C oi v a' ∧ K (a'.put oi.dst v) w') a w := by
  obtain ⟨h1, h2, h3⟩ := Oper.apart_spec hap
  have keep : ∀ (a : Act), GivesIn P ops C oi v a → ∀ u, GivesIn P ops C oi v (a.put oj.dst u) := fun a hy u =>
    hy.of_same (execOp_put oi hsi a oj.dst u h3) (wanted_put oi a oj.dst u h3)
  have comm : ∀ (a : Act) (u : Value), (a.put oi.dst v).put oj.dst u = (a.put oj.dst u).put oi.dst v := fun a u => Act.put_comm a v u h2
  unfold wpOp at *
  simp only [hj] at *
  rw [wanted_put oj a oi.dst v h1] at h
  by_cases hw : Region.wanted oj (yielded ops a.tmps) = true
  · simp only [hw, if_true] at h ⊢
    rcases h with h | ⟨_, _, _, h⟩
    case inr => exact h.elim
    refine .inl ?_
    unfold Oper.wp at *
    rw [execOp_put oj hsj a oi.dst v h1] at h
    generalize (execOp a.eval oj).run P w = r at *
    cases r with
    | halt x w' => cases x <;> exact h
    | ok n w' =>
      cases n <;> simp only [Oper.upon] at h ⊢
      case value u => exact ⟨keep a hy u, by rw [← comm]; exact h⟩
      case skip => exact ⟨keep a hy _, by rw [← comm]; exact h⟩
      case defer d =>
        refine ⟨keep { a with defers := d :: a.defers } (GivesIn.of_same (a := a) hy rfl rfl) undef, ?_⟩
        rw [← comm, ← Act.put_defers]
        exact h
      case enter f args =>
        refine Calls.mono h fun e w'' he => ?_
        cases e with
        | returned u => exact ⟨keep a hy u, by rw [← comm]; exact he⟩
        | panicked c => exact he
        | outgrown => exact he
      case row r args =>
        refine Rows.mono h fun u w'' he => ?_
        exact ⟨keep a hy u, by rw [← comm]; exact he⟩
  · simp only [hw] at h ⊢
    exact ⟨keep a hy _, by rw [← comm]; exact h⟩

/-- Operation j waits for operation i, straight or through others, in at most so many steps. -/
def DepN (ops : Array Oper) (i : Nat) : Nat → Nat → Prop
  | 0, _ => False
  | f + 1, j => ∃ (oj : Oper) (e : Edge), ops[j]? = some oj ∧ e ∈ oj.after ∧ Region.binds .any e = true ∧ (e.on = i ∨ DepN ops i f e.on)
def Dep (ops : Array Oper) (i j : Nat) : Prop := ∃ f, DepN ops i f j
theorem Dep.straight {ops : Array Oper} {i j : Nat} {oj : Oper} {e : Edge} (hj : ops[j]? = some oj) (he : e ∈ oj.after) (hb : Region.binds .any e = true) (h : e.on = i) : Dep ops i j := ⟨1, oj, e, hj, he, hb, .inl h⟩
theorem Dep.through {ops : Array Oper} {i j : Nat} {oj : Oper} {e : Edge} (hj : ops[j]? = some oj) (he : e ∈ oj.after) (hb : Region.binds .any e = true) (h : Dep ops i e.on) : Dep ops i j :=
  let ⟨f, hf⟩ := h
  ⟨f + 1, oj, e, hj, he, hb, .inr hf⟩
/-- What is listed is so with all that it waits for. -/
def Closed (ops : Array Oper) (listed : Array Bool) : Prop := ∀ j oj, ops[j]? = some oj → listed.getD j false = true → ∀ e ∈ oj.after, Region.binds .any e = true → listed.getD e.on false = true
theorem DepN.listed {i : Nat} {listed : Array Bool} (hc : Closed ops listed) : ∀ (f j : Nat), DepN ops i f j → listed.getD j false = true → listed.getD i false = true := by
  intro f
  induction f with
  | zero => intro j h; exact h.elim
  | succ f ih =>
    rintro j ⟨oj, e, hj, he, hb, h⟩ hl
    have h1 := hc _ _ hj hl _ he hb
    rcases h with h | h
    · rw [← h]; exact h1
    · exact ih _ h h1
theorem Dep.ready {i j : Nat} {listed : Array Bool} (hc : Closed ops listed) (h : Dep ops i j) (hr : j ∈ Region.ready .any ops listed) : listed.getD i false = true := by
  obtain ⟨_, o, ho, hall⟩ := mem_ready.1 hr
  obtain ⟨f, hf⟩ := h
  cases f with
  | zero => exact hf.elim
  | succ f =>
    obtain ⟨oj, e, hj, he, hb, h⟩ := hf
    have := Option.some.inj (hj.symm.trans ho)
    subst this
    rcases h with h | h
    · rw [← h]; exact hall _ he hb
    · exact h.listed hc _ _ (hall _ he hb)
theorem Closed.set {i : Nat} {listed : Array Bool} (hc : Closed ops listed) (hi : i ∈ Region.ready .any ops listed) : Closed ops (listed.setIfInBounds i true) := by
  obtain ⟨_, oi, hoi, hall⟩ := mem_ready.1 hi
  intro j oj hj hl e he hb
  by_cases hij : i = j
  · subst hij
    have := Option.some.inj (hj.symm.trans hoi)
    subst this
    exact getD_set_true (hall e he hb)
  · rw [getD_set_ne false hij] at hl
    exact getD_set_true (hc j oj hj hl e he hb)

/-- An operation that is ready and gives one value in every world of a class may be taken first. -/
theorem wpK_first {C0 : World → Prop} (h0 : ∀ w w', C0 w → Below w.heap.size w w' → C0 w') {i : Nat} (hri : ∀ w w', Below w.heap.size w w' → rel i w w') {oi : Oper} {v : Value} (hi : ops[i]? = some oi) (hsel : Region.noSelect ops = true) (f : Nat) :
    ∀ (listed : Array Bool) (a : Act) (C : World → Prop), (∀ w, C w → C0 w) → (∀ w w', C w → Below w.heap.size w w' → C w') → Closed ops listed →
      (∀ j oj, ops[j]? = some oj → j ≠ i → listed.getD j true = false → ¬ Dep ops i j → oi.apart ops oj = true ∧ ∀ w w', C0 w → rel j w w' → C0 w') →
      i ∈ Region.ready .any ops listed → GivesIn P ops C0 oi v a →
      (∀ w, C w → wpK P ops Q rel f (listed.setIfInBounds i true) (a.put oi.dst v) w) → ∀ w, C w → wpK P ops Q rel (f + 1) listed a w := by
  have hsel' := Region.noSelect_spec hsel
  induction f with
  | zero =>
    intro listed a C hCC hCB hcl hfree hr hy H w hw
    refine ⟨List.ne_nil_of_mem hr, fun j hj => ?_⟩
    by_cases hji : j = i
    · subst hji
      unfold wpOp
      simp only [hi]
      rcases hy with ⟨hwt, hg⟩ | ⟨hwt, rfl⟩
      · simp only [hwt, if_true]
        refine .inl ?_
        have h2 := hg w (hCC w hw)
        unfold givesAt at h2
        unfold Oper.wp
        generalize (execOp a.eval oi).run P w = r at *
        cases r with
        | ok n w' =>
          cases n <;> simp only [givesUpon] at h2 <;> simp only [Oper.upon]
          case value u => obtain ⟨rfl, rfl⟩ := h2; exact ⟨hri _ _ (bself _), fun w'' h' => H _ (hCB _ _ hw h')⟩
          case skip => obtain ⟨rfl, rfl⟩ := h2; exact ⟨hri _ _ (bself _), fun w'' h' => H _ (hCB _ _ hw h')⟩
          case enter f args =>
            obtain ⟨rfl, hc⟩ := h2
            exact hc.mono fun e w'' ⟨he, hb⟩ => by subst he; exact ⟨hri _ _ hb, fun w3 h' => H _ (hCB _ _ (hCB _ _ hw hb) h')⟩
        | halt x w' => simp only [givesUpon] at h2
      · simp only [hwt, Bool.false_eq_true, if_false]
        exact ⟨hri _ _ (bself _), fun w'' h' => H _ (hCB _ _ hw h')⟩
    · have h1 := (H w hw).1
      have h2 := ready_mono hj hji
      rw [h1] at h2
      cases h2
  | succ f ih =>
    intro listed a C hCC hCB hcl hfree hr hy H w hw
    refine ⟨List.ne_nil_of_mem hr, fun j hj => ?_⟩
    by_cases hji : j = i
    · subst hji
      unfold wpOp
      simp only [hi]
      rcases hy with ⟨hwt, hg⟩ | ⟨hwt, rfl⟩
      · simp only [hwt, if_true]
        refine .inl ?_
        have h2 := hg w (hCC w hw)
        unfold givesAt at h2
        unfold Oper.wp
        generalize (execOp a.eval oi).run P w = r at *
        cases r with
        | ok n w' =>
          cases n <;> simp only [givesUpon] at h2 <;> simp only [Oper.upon]
          case value u => obtain ⟨rfl, rfl⟩ := h2; exact ⟨hri _ _ (bself _), fun w'' h' => H _ (hCB _ _ hw h')⟩
          case skip => obtain ⟨rfl, rfl⟩ := h2; exact ⟨hri _ _ (bself _), fun w'' h' => H _ (hCB _ _ hw h')⟩
          case enter f args =>
            obtain ⟨rfl, hc⟩ := h2
            exact hc.mono fun e w'' ⟨he, hb⟩ => by subst he; exact ⟨hri _ _ hb, fun w3 h' => H _ (hCB _ _ (hCB _ _ hw hb) h')⟩
        | halt x w' => simp only [givesUpon] at h2
      · simp only [hwt, Bool.false_eq_true, if_false]
        exact ⟨hri _ _ (bself _), fun w'' h' => H _ (hCB _ _ hw h')⟩
    · obtain ⟨hjun, oj, hoj, hall⟩ := mem_ready.1 hj
      have hun := (mem_ready.1 hr).1
      have hnd : ¬ Dep ops i j := fun hd => by
        have h1 := hd.ready hcl hj
        rw [getD_both hun] at h1
        cases h1
      obtain ⟨hap, hsp⟩ := hfree j oj hoj hji hjun hnd
      have hH := (H w hw).2 j (ready_mono hj hji)
      refine wpOp_mono (fun a' w' h3 => ?_) (wpOp_unput hoj hap (fun cs b => hsel' i oi cs b hi) (fun cs b => hsel' j oj cs b hoj) hy hH)
      refine ⟨h3.2.1, fun w'' hb'' => ?_⟩
      refine ih (listed.setIfInBounds j true) a' (fun x => Below w'.heap.size w' x) (fun x hx => ?_) (fun x y hx hxy => bthen hx hxy) (hcl.set hj) ?_ (ready_mono hr (Ne.symm hji)) h3.1 ?_ w'' hb''
      · exact h0 _ _ (hsp _ _ (hCC _ hw) h3.2.1) hx
      · intro k ok hk hki hunk hno
        refine hfree k ok hk hki ?_ hno
        by_cases hjk : j = k
        · subst hjk; exact hjun
        · rw [getD_set_ne true hjk] at hunk; exact hunk
      · intro x hx
        rw [Array.setIfInBounds_comm _ _ hji]
        exact h3.2.2 x hx

/-- What is done, the last first. -/
def mk (m : Nat) : List Nat → Array Bool
  | [] => Array.replicate m false
  | i :: done => (mk m done).setIfInBounds i true
/-- What waits for operation i. -/
def waitSet (ops : Array Oper) (i : Nat) : Nat → List Nat
  | 0 => []
  | j + 1 => let s := waitSet ops i j; if (match ops[j]? with | some oj => oj.after.any fun e => Region.binds .any e && (e.on == i || s.contains e.on) | none => false) then j :: s else s
theorem waitSet_dep {i : Nat} : ∀ (n j : Nat), j ∈ waitSet ops i n → Dep ops i j := by
  intro n
  induction n with
  | zero => intro j h; cases h
  | succ n ih =>
    intro j h
    simp only [waitSet] at h
    by_cases hc : (match ops[n]? with | some oj => oj.after.any fun e => Region.binds .any e && (e.on == i || (waitSet ops i n).contains e.on) | none => false) = true
    · rw [if_pos hc] at h
      rcases List.mem_cons.1 h with rfl | h
      · split at hc
        · rename_i oj hoj
          obtain ⟨e, he, h1⟩ := Array.any_eq_true'.1 hc
          simp only [Bool.and_eq_true, Bool.or_eq_true, beq_iff_eq, List.contains_iff_mem] at h1
          rcases h1.2 with h2 | h2
          · exact .straight hoj he h1.1 h2
          · exact .through hoj he h1.1 (ih _ h2)
        · cases hc
      · exact ih j h
    · rw [if_neg hc] at h
      exact ih j h
/-- The operations of the list may be taken, one after the other. -/
def batchB (ops : Array Oper) (ok okj : Nat → Bool) : List Nat → List Nat → Bool
  | _, [] => true
  | done, i :: is => ok i && (Region.ready .any ops (mk ops.size done)).contains i &&
      (match ops[i]? with
        | none => false
        | some oi => (List.range ops.size).all fun j => j == i || done.contains j || (waitSet ops i ops.size).contains j || match ops[j]? with | some oj => oi.apart ops oj && okj j | none => true) &&
      batchB ops ok okj (i :: done) is
theorem mk_get {m : Nat} {done : List Nat} {j : Nat} (hj : j < m) : (mk m done).getD j true = done.contains j := by
  induction done with
  | nil => simp [mk, hj]
  | cons i done ih =>
    unfold mk
    by_cases h : i = j
    · subst h
      have hs : ∀ l : List Nat, (mk m l).size = m := fun l => by induction l <;> simp [mk, *]
      simp [hs, hj]
    · rw [getD_set_ne true h, ih]
      have : ¬ j = i := fun e => h e.symm
      simp [this]
theorem closed_nil (m : Nat) : Closed ops (mk m []) := fun j oj _ hl => by
  unfold mk at hl
  rw [getD_replicate_false] at hl
  cases hl

theorem batch_go {ok okj : Nat → Bool} {C0 C : World → Prop} (h0 : ∀ w w', C0 w → Below w.heap.size w w' → C0 w') (hCC : ∀ w, C w → C0 w) (hCB : ∀ w w', C w → Below w.heap.size w w' → C w')
    (hok : ∀ i, ok i = true → ∀ w w', Below w.heap.size w w' → rel i w w') (hokj : ∀ j, okj j = true → ∀ w w', C0 w → rel j w w' → C0 w') (hsel : Region.noSelect ops = true) {n : Nat} :
    ∀ (is : List Nat) (done : List Nat) (a : Act), Closed ops (mk ops.size done) → batchB ops ok okj done is = true →
    wpG P ops C0 (fun a' => ∀ w', C w' → wpK P ops Q rel n (mk ops.size (is.reverse ++ done)) a' w') (is.filterMap (fun i => ops[i]?)) a →
    ∀ w, C w → wpK P ops Q rel (n + is.length) (mk ops.size done) a w := by
  intro is
  induction is with
  | nil => intro done a _ _ h w hw; exact h w hw
  | cons i is ih =>
    intro done a hcl hB h w hw
    simp only [batchB, Bool.and_eq_true] at hB
    obtain ⟨⟨⟨hk, hr⟩, hm⟩, hB⟩ := hB
    have hr' : i ∈ Region.ready .any ops (mk ops.size done) := by simpa using hr
    cases hi : ops[i]? with
    | none => rw [hi] at hm; cases hm
    | some oi =>
      rw [hi] at hm
      simp only [List.filterMap_cons, hi] at h
      obtain ⟨v, hg, h⟩ := h
      have hx : (i :: is).reverse ++ done = is.reverse ++ (i :: done) := by simp
      rw [hx] at h
      refine wpK_first h0 (hok i hk) hi hsel (n + is.length) (mk ops.size done) a C hCC hCB hcl ?_ hr' hg (fun w hw => ih (i :: done) _ (hcl.set hr') hB h w hw) w hw
      intro j oj hj hji hun hnd
      have hjs : j < ops.size := (Array.getElem?_eq_some_iff.1 hj).1
      have h1 := List.all_eq_true.1 hm j (List.mem_range.2 hjs)
      rw [mk_get hjs] at hun
      rw [hj, hun] at h1
      have h2 : (waitSet ops i ops.size).contains j = false := by
        cases hw : (waitSet ops i ops.size).contains j with
        | false => rfl
        | true => exact absurd (waitSet_dep _ _ (by simpa using hw)) hnd
      rw [h2] at h1
      have h3 : oi.apart ops oj = true ∧ okj j = true := by simpa [hji] using h1
      exact ⟨h3.1, hokj j h3.2⟩

/-- Operation i comes now. -/
def PointK (P : Program) (ops : Array Oper) (Q : Exit → Act → World → Prop) (rel : Nat → World → World → Prop) (n : Nat) (done : List Nat) (i : Nat) (a : Act) (w : World) : Prop :=
  wpOp P ops Qno i (fun a' w' => rel i w w' ∧ ∀ w'', Below w'.heap.size w' w'' → wpK P ops Q rel n (mk ops.size (i :: done)) a' w'') a w
theorem point_go {n : Nat} {done : List Nat} {a : Act} {w : World} (i : Nat) {oi : Oper} (hi : ops[i]? = some oi)
    (h : wpList P ops (fun e a' w' => e = .normal ∧ rel i w w' ∧ ∀ w'', Below w'.heap.size w' w'' → wpK P ops Q rel n (mk ops.size (i :: done)) a' w'') [oi] a w) : PointK P ops Q rel n done i a w := by
  unfold PointK wpOp
  simp only [hi]
  unfold wpList at h
  by_cases hwt : Region.wanted oi (yielded ops a.tmps) = true
  · simp only [hwt, if_true] at h ⊢
    rcases h with h | ⟨_, _, _, h⟩
    · refine .inl ?_
      unfold Oper.wp Oper.upon at h ⊢
      generalize (execOp a.eval oi).run P w = r at h ⊢
      cases r with
      | ok x w' =>
        cases x with
        | enter f args =>
          refine Calls.mono h (fun e w'' he => ?_)
          cases e with
          | returned u => exact he.2
          | panicked c => exact absurd he.1 (by simp)
          | outgrown => obtain ⟨_, _, he, _⟩ := he; exact absurd he (by simp)
        | row r args => exact Rows.mono h (fun _ _ he => he.2)
        | value u => exact h.2
        | skip => exact h.2
        | defer d => exact h.2
        | _ => exact h
      | halt x w' => cases x <;> first | exact h | exact absurd h.1 (by simp)
    · exact absurd h.1 (by simp)
  · simp only [hwt] at h ⊢
    exact h.2
/-- One operation alone can come; two can come. -/
theorem wpK_one {n : Nat} {done : List Nat} {a : Act} {w : World} {i : Nat} (hr : Region.ready .any ops (mk ops.size done) = [i]) (h : PointK P ops Q rel n done i a w) : wpK P ops Q rel (n + 1) (mk ops.size done) a w := by
  refine ⟨by rw [hr]; simp, fun j hj => ?_⟩
  rw [hr] at hj
  obtain rfl : j = i := by simpa using hj
  exact h
end
section
variable {P : Program} {l : List Oper} {Q : Exit → Act → World → Prop} {D : List Nat} {W w : World} {L : List (Nat × List Value)} {a : Act}

/-- A list that tells what the call owns, and what a part of the call has made. -/
theorem Own.join {L1 : List (Nat × List Value)} {w' : World} (hS : Own D W L w) (h1 : Own [] w L1 w') : Own D W (L1 ++ L) w' := by
  have h2 := hS.step h1.below
  refine ⟨h2.os, h2.tape, h2.output, h2.size, h2.block, fun x hx => ?_, fun x hx => ?_, ?_⟩
  · rcases List.mem_append.1 hx with hx | hx
    · exact h1.has x hx
    · exact h2.has x hx
  · rcases List.mem_append.1 hx with hx | hx
    · rcases h1.ge x hx with h | h
      · cases h
      · exact .inr (Nat.le_trans hS.size h)
    · exact h2.ge x hx
  · rw [List.map_append, List.nodup_append]
    refine ⟨h1.apart, hS.apart, fun x hx y hy he => ?_⟩
    obtain ⟨p, hp, rfl⟩ := List.mem_map.1 hx
    obtain ⟨q, hq, rfl⟩ := List.mem_map.1 hy
    have hl := (hS.has q hq).lt
    rcases h1.ge p hp with h | h
    · cases h
    · omega

/-- What an operation of a region may do to the world: a hard one, anything; a middling one, whatever leaves the blocks up to B alone; any other makes memory at most. -/
def relOf (B : Nat) (mid hard : List Nat) (i : Nat) (w w' : World) : Prop := if hard.contains i then True else if mid.contains i then Below B w w' else Below w.heap.size w w'
theorem relOf_soft {B : Nat} {mid hard : List Nat} {i : Nat} (h : (!hard.contains i && !mid.contains i) = true) : relOf B mid hard i = fun w w' => Below w.heap.size w w' := by
  simp only [Bool.and_eq_true, Bool.not_eq_true'] at h
  unfold relOf
  rw [h.1, h.2]
  rfl
theorem relOf_hard {B : Nat} {mid hard : List Nat} {i : Nat} (h : hard.contains i = true) (w w' : World) : relOf B mid hard i w w' := by
  unfold relOf
  rw [if_pos h]
  trivial
/-- A region that draws its order: B, the middling and the hard operations are named. -/
theorem own_anyM {id : Nat} (hS : Own D W L w) (mid hard : List Nat) (n : Nat) (hm : P.follows .mixedOrders = true) (hB : (decide (l.length = n) && Region.noSelect l.toArray) = true)
    (h : Closed l.toArray (mk l.toArray.size []) → ∀ w', Own D W L w' → w.heap.size ≤ w'.heap.size → wpK P l.toArray Q (relOf w.heap.size mid hard) n (mk l.toArray.size []) a w') : (Code.region id l.toArray true).wp P Q a w := by
  simp only [Bool.and_eq_true, decide_eq_true_eq] at hB
  obtain ⟨rfl, hsel⟩ := hB
  refine wp_region_any hm ?_
  have := wpAny_of_wpK _ _ _ _ (h (closed_nil _) _ hS.drew (Nat.le_refl _))
  rw [← List.size_toArray] at this
  exact this
theorem own_any {id : Nat} (hS : Own D W L w) (hard : List Nat) (n : Nat) (hm : P.follows .mixedOrders = true) (hB : (decide (l.length = n) && Region.noSelect l.toArray) = true)
    (h : Closed l.toArray (mk l.toArray.size []) → ∀ w', Own D W L w' → wpK P l.toArray Q (relOf w.heap.size [] hard) n (mk l.toArray.size []) a w') : (Code.region id l.toArray true).wp P Q a w :=
  own_anyM hS [] hard n hm hB fun hc w' hw' _ => h hc w' hw'
theorem wpG_mono {C : World → Prop} {ops : Array Oper} : ∀ (l' : List Oper) (R R' : Act → Prop) (a : Act), (∀ a, R a → R' a) → wpG P ops C R l' a → wpG P ops C R' l' a := by
  intro l'
  induction l' with
  | nil => intro R R' a hR h; exact hR a h
  | cons o l' ih => intro R R' a hR ⟨v, h1, h2⟩; exact ⟨v, h1, ih R R' _ hR h2⟩
theorem batch_closed {ops : Array Oper} {ok okj : Nat → Bool} : ∀ (is done : List Nat), Closed ops (mk ops.size done) → batchB ops ok okj done is = true → Closed ops (mk ops.size (is.reverse ++ done)) := by
  intro is
  induction is with
  | nil => intro done h _; exact h
  | cons i is ih =>
    intro done h hb
    simp only [batchB, Bool.and_eq_true] at hb
    have := ih (i :: done) (h.set (by simpa using hb.1.1.2)) hb.2
    simpa using this
section
variable {B : Nat} {mid hard : List Nat} {m : Nat} {done : List Nat}
/-- Quiet operations. -/
theorem own_batch (hS : Own D W L w) (is : List Nat) (n : Nat) (hmn : n + is.length = m) (hcl : Closed l.toArray (mk l.toArray.size done)) (hB : (Region.noSelect l.toArray && batchB l.toArray (fun i => !hard.contains i && !mid.contains i) (fun i => !hard.contains i && !mid.contains i) done is) = true)
    (h : wpG P l.toArray (fun w' => Own D W L w') (fun a' => Closed l.toArray (mk l.toArray.size (is.reverse ++ done)) → ∀ w', Own D W L w' → wpK P l.toArray Q (relOf B mid hard) n (mk l.toArray.size (is.reverse ++ done)) a' w') (is.filterMap (fun i => l.toArray[i]?)) a) :
    wpK P l.toArray Q (relOf B mid hard) m (mk l.toArray.size done) a w := by
  subst hmn
  simp only [Bool.and_eq_true] at hB
  exact batch_go (C0 := fun w' => Own D W L w') (C := fun w' => Own D W L w') (fun _ _ h hb => h.step hb) (fun _ h => h) (fun _ _ h hb => h.step hb) (fun i hi w w' hb => by rw [relOf_soft hi]; exact hb) (fun i hi w w' hC hb => by rw [relOf_soft hi] at hb; exact hC.step hb) hB.1 is done a hcl hB.2
    (wpG_mono _ _ _ _ (fun a' h' w' hw' => h' (batch_closed is done hcl hB.2) w' hw') h) w hS
/-- Operations that do not look at the memory. -/
theorem own_pure (hS : Own D W L w) (is : List Nat) (n : Nat) (hmn : n + is.length = m) (hcl : Closed l.toArray (mk l.toArray.size done)) (hB : (Region.noSelect l.toArray && batchB l.toArray (fun i => !hard.contains i && !mid.contains i) (fun _ => true) done is) = true)
    (h : wpG P l.toArray (fun _ => True) (fun a' => Closed l.toArray (mk l.toArray.size (is.reverse ++ done)) → ∀ w', Own D W L w' → wpK P l.toArray Q (relOf B mid hard) n (mk l.toArray.size (is.reverse ++ done)) a' w') (is.filterMap (fun i => l.toArray[i]?)) a) :
    wpK P l.toArray Q (relOf B mid hard) m (mk l.toArray.size done) a w := by
  subst hmn
  simp only [Bool.and_eq_true] at hB
  exact batch_go (C0 := fun _ => True) (C := fun w' => Own D W L w') (fun _ _ _ _ => trivial) (fun _ _ => trivial) (fun _ _ h hb => h.step hb) (fun i hi w w' hb => by rw [relOf_soft hi]; exact hb) (fun _ _ _ _ _ _ => trivial) hB.1 is done a hcl hB.2
    (wpG_mono _ _ _ _ (fun a' h' w' hw' => h' (batch_closed is done hcl hB.2) w' hw') h) w hS

theorem wpList_mono {ops : Array Oper} {Q Q' : Exit → Act → World → Prop} (hQ : ∀ e a w, Q e a w → Q' e a w) : ∀ (l : List Oper) (a : Act) (w : World), wpList P ops Q l a w → wpList P ops Q' l a w := by
  intro l
  induction l with
  | nil => intro a w h; exact hQ _ _ _ h
  | cons o l ih =>
    intro a w h
    unfold wpList at h ⊢
    by_cases hw : Region.wanted o (yielded ops a.tmps) = true
    · simp only [hw, if_true] at h ⊢
      rcases h with h | ⟨h1, a0, w0, h2⟩
      · refine .inl ?_
        unfold Oper.wp Oper.upon at *
        generalize (execOp a.eval o).run P w = r at *
        cases r with
        | halt x w' => cases x <;> first | exact h | exact hQ _ _ _ h
        | ok x w' =>
          cases x with
          | enter f args =>
            refine Calls.mono h (fun e w'' he => ?_)
            cases e with
            | returned u => exact ih _ _ he
            | panicked c => exact hQ _ _ _ he
            | outgrown => obtain ⟨a0, w0, he⟩ := he; exact ⟨a0, w0, hQ _ _ _ he⟩
          | row r args => exact Rows.mono h (fun _ _ he => ih _ _ he)
          | value u => exact ih _ _ h
          | skip => exact ih _ _ h
          | defer d => exact ih _ _ h
          | _ => exact h
      · exact .inr ⟨h1, a0, w0, hQ _ _ _ h2⟩
    · simp only [hw] at h ⊢
      exact ih _ _ h
theorem Closed.next {i : Nat} (hcl : Closed l.toArray (mk l.toArray.size done)) (hr : (Region.ready .any l.toArray (mk l.toArray.size done)).contains i = true) : Closed l.toArray (mk l.toArray.size (i :: done)) := hcl.set (by simpa using hr)
/-- An operation that makes memory at most. -/
theorem soft_pt (hS : Own D W L w) (i : Nat) {oi : Oper} (hi : l.toArray[i]? = some oi) (hs : (!hard.contains i && !mid.contains i) = true)
    (h : Own [] w [] w → wpList P l.toArray (fun e a' w' => e = .normal ∧ ∃ L1, Own [] w L1 w' ∧ ∀ w'', Own D W (L1 ++ L) w'' → wpK P l.toArray Q (relOf B mid hard) m (mk l.toArray.size (i :: done)) a' w'') [oi] a w) :
    PointK P l.toArray Q (relOf B mid hard) m done i a w :=
  point_go i hi (wpList_mono (fun e a' w' ⟨he, L1, h1, h2⟩ => ⟨he, by rw [relOf_soft hs]; exact h1.below, fun w'' hb => h2 w'' ((hS.join h1).step hb)⟩) _ _ _ (h (own_start w)))
/-- An operation that may do anything to what the call owns. -/
theorem hard_pt (i : Nat) {oi : Oper} (hi : l.toArray[i]? = some oi) (hs : hard.contains i = true)
    (h : wpList P l.toArray (fun e a' w' => e = .normal ∧ ∃ L1, Own D W L1 w' ∧ ∀ w'', Own D W L1 w'' → wpK P l.toArray Q (relOf B mid hard) m (mk l.toArray.size (i :: done)) a' w'') [oi] a w) :
    PointK P l.toArray Q (relOf B mid hard) m done i a w :=
  point_go i hi (wpList_mono (fun _ _ _ ⟨he, _, h1, h2⟩ => ⟨he, relOf_hard hs _ _, fun w'' hb => h2 w'' (h1.step hb)⟩) _ _ _ h)
theorem own_soft (hS : Own D W L w) (i : Nat) {oi : Oper} (hcl : Closed l.toArray (mk l.toArray.size done)) (hi : l.toArray[i]? = some oi) (hr : (decide (Region.ready .any l.toArray (mk l.toArray.size done) = [i]) && (!hard.contains i && !mid.contains i)) = true)
    (h : Own [] w [] w → wpList P l.toArray (fun e a' w' => e = .normal ∧ ∃ L1, Own [] w L1 w' ∧ (Closed l.toArray (mk l.toArray.size (i :: done)) → ∀ w'', Own D W (L1 ++ L) w'' → wpK P l.toArray Q (relOf B mid hard) m (mk l.toArray.size (i :: done)) a' w'')) [oi] a w) :
    wpK P l.toArray Q (relOf B mid hard) (m + 1) (mk l.toArray.size done) a w := by
  rw [Bool.and_eq_true, decide_eq_true_eq] at hr
  exact wpK_one hr.1 (soft_pt hS i hi hr.2 fun hO => wpList_mono (fun e a' w' ⟨he, L1, h1, h2⟩ => ⟨he, L1, h1, h2 (hcl.next (by rw [hr.1]; simp))⟩) _ _ _ (h hO))
/-- One operation that alone can come. -/
theorem own_hard (i : Nat) {oi : Oper} (hcl : Closed l.toArray (mk l.toArray.size done)) (hi : l.toArray[i]? = some oi) (hr : Region.ready .any l.toArray (mk l.toArray.size done) = [i]) (hs : hard.contains i = true)
    (h : wpList P l.toArray (fun e a' w' => e = .normal ∧ ∃ L1, Own D W L1 w' ∧ (Closed l.toArray (mk l.toArray.size (i :: done)) → ∀ w'', Own D W L1 w'' → wpK P l.toArray Q (relOf B mid hard) m (mk l.toArray.size (i :: done)) a' w'')) [oi] a w) :
    wpK P l.toArray Q (relOf B mid hard) (m + 1) (mk l.toArray.size done) a w :=
  wpK_one hr (hard_pt i hi hs (wpList_mono (fun e a' w' ⟨he, L1, h1, h2⟩ => ⟨he, L1, h1, h2 (hcl.next (by rw [hr]; simp))⟩) _ _ _ h))
theorem own_done (hr : Region.ready .any l.toArray (mk l.toArray.size done) = []) (h : Q .normal a w) : wpK P l.toArray Q (relOf B mid hard) 0 (mk l.toArray.size done) a w := ⟨hr, h⟩
end
end
end Go.Proofs.Ytgpabckipmhobaa
