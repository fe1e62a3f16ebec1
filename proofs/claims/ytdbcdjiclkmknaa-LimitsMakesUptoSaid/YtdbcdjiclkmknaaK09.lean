/- Texts Any, Clo, Mak, Dpl, Din. -/
import Derived.Test.YtdbcdjiclkmknaaK03
import Derived.Test.YtdbcdjiclkmknaaK01
import Derived.Test.YtdbcdjiclkmknaaK08
import Derived.WalkSpells
import Derived.Laws.MakeOwn
namespace Go.Proofs.Ytdbcdjiclkmknaa
open Go.RowKit
section
variable {P : Program} {ops : Array Oper} {Q : Exit → Act → World → Prop} {rel : Nat → World → World → Prop}

/-- No way out but the normal one. -/
def Qno : Exit → Act → World → Prop := fun _ _ _ => False
/-- Whatever comes next; what operation i does to the world, rel i tells; what follows holds in all later worlds. -/
def wpK (P : Program) (ops : Array Oper) (Q : Exit → Act → World → Prop) (rel : Nat → World → World → Prop) : Nat → Array Bool → Act → World → Prop
  | 0, listed, a, w => Region.ready .any ops listed = [] ∧ Q .normal a w
  | f + 1, listed, a, w => Region.ready .any ops listed ≠ [] ∧ ∀ i ∈ Region.ready .any ops listed,
      wpOp P ops Qno i (fun a' w' => rel i w w' ∧ ∀ w'', Below w'.heap.size w' w'' → wpK P ops Q rel f (listed.setIfInBounds i true) a' w'') a w

theorem Oper.wp_of_no {o : Oper} {a : Act} {w : World} {K : Act → World → Prop} (h : o.wp P a w K Qno) : o.wp P a w K Q := by
  unfold Oper.wp Oper.upon at *
  generalize (execOp a.eval o).run P w = r at *
  cases r with
  | ok n w' =>
    cases n <;> first
      | exact h
      | exact Calls.mono h (fun e w'' he => by
          cases e with
          | returned v => exact he
          | panicked c => exact he.elim
          | outgrown => obtain ⟨_, _, h⟩ := he; exact h.elim)
  | halt x w' => cases x <;> first|exact h|exact h.elim
theorem wpOp_of_no {i : Nat} {a : Act} {w : World} {K : Act → World → Prop} (h : wpOp P ops Qno i K a w) : wpOp P ops Q i K a w := by
  unfold wpOp at *
  split
  · rename_i ho; simpa only [ho] using h
  · rename_i o ho
    simp only [ho] at h
    split
    · rename_i hw
      simp only [hw, if_true] at h
      rcases h with h | ⟨_, _, _, h⟩
      · exact .inl (Oper.wp_of_no h)
      · exact h.elim
    · rename_i hw; simp only [hw] at h; exact h
theorem wpAny_of_wpK : ∀ (f : Nat) (listed : Array Bool) (a : Act) (w : World), wpK P ops Q rel f listed a w → wpAny P .any ops Q f listed a w := by
  intro f
  induction f with
  | zero => intro listed a w h; exact h
  | succ f ih =>
    intro listed a w h
    exact ⟨fun h0 => absurd h0 h.1, fun i hi => wpOp_mono (fun a' w' h' => ih _ _ _ (h'.2 w' (bself w'))) (wpOp_of_no (h.2 i hi))⟩

/-- Operation j in a frame in which operation i has yielded, and in the frame in which it has not. -/
theorem wpOp_unput {C : World → Prop} {j : Nat} {oi oj : Oper} {v : Value} (hj : ops[j]? = some oj) (hap : oi.apart ops oj = true) (hsi : ∀ cs b, oi.op ≠ .select cs b) (hsj : ∀ cs b, oj.op ≠ .select cs b)
    {K : Act → World → Prop} {a : Act} {w : World} (hy : GivesIn P ops C oi v a) (h : wpOp P ops Qno j K (a.put oi.dst v) w) :
    wpOp P ops Qno j (fun a' w' => GivesIn P ops C oi v a' ∧ K (a'.put oi.dst v) w') a w := by
  obtain ⟨h1, h2, h3⟩ := Oper.apart_spec hap
  have keep : ∀ (a : Act), GivesIn P ops C oi v a → ∀ u, GivesIn P ops C oi v (a.put oj.dst u) := fun a hy u =>
    hy.of_same (execOp_put oi hsi a oj.dst u h3) (wanted_put oi a oj.dst u h3)
  have comm : ∀ (a : Act) (u : Value), (a.put oi.dst v).put oj.dst u = (a.put oj.dst u).put oi.dst v := fun a u => Act.put_comm a v u h2
  unfold wpOp at *
  simp only [hj] at *
  rw [wanted_put oj a oi.dst v h1] at h
  by_cases hw : Region.wanted oj (yielded ops a.tmps) = true
  · simp only [hw, if_true] at h ⊢
    rcases h with h | ⟨_, _, _, h⟩
    case inr => exact h.elim
    refine .inl ?_
    unfold Oper.wp at *
    rw [execOp_put oj hsj a oi.dst v h1] at h
    generalize (execOp a.eval oj).run P w = r at *
    cases r with
    | halt x w' => cases x <;> exact h
    | ok n w' =>
      cases n <;> simp only [Oper.upon] at h ⊢
      case value u => exact ⟨keep a hy u, by rw [← comm]; exact h⟩
      case skip => exact ⟨keep a hy _, by rw [← comm]; exact h⟩
      case defer d =>
        refine ⟨keep { a with defers := d :: a.defers } (GivesIn.of_same (a := a) hy rfl rfl) undef, ?_⟩
        rw [← comm, ← Act.put_defers]
        exact h
      case enter f args =>
        refine Calls.mono h fun e w'' he => ?_
        cases e with
        | returned u => exact ⟨keep a hy u, by rw [← comm]; exact he⟩
        | panicked c => exact he
        | outgrown => exact he
      case row r args =>
        refine Rows.mono h fun u w'' he => ?_
        exact ⟨keep a hy u, by rw [← comm]; exact he⟩
  · simp only [hw] at h ⊢
    exact ⟨keep a hy _, by rw [← comm]; exact h⟩

/-- Operation j waits for operation i, straight or through others, in at most so many steps. -/
def DepN (ops : Array Oper) (i : Nat) : Nat → Nat → Prop
  | 0, _ => False
  | f + 1, j => ∃ (oj : Oper) (e : Edge), ops[j]? = some oj ∧ e ∈ oj.after ∧ Region.binds .any e = true ∧ (e.on = i ∨ DepN ops i f e.on)
def Dep (ops : Array Oper) (i j : Nat) : Prop := ∃ f, DepN ops i f j
theorem Dep.straight {ops : Array Oper} {i j : Nat} {oj : Oper} {e : Edge} (hj : ops[j]? = some oj) (he : e ∈ oj.after) (hb : Region.binds .any e = true) (h : e.on = i) : Dep ops i j := ⟨1, oj, e, hj, he, hb, .inl h⟩
theorem Dep.through {ops : Array Oper} {i j : Nat} {oj : Oper} {e : Edge} (hj : ops[j]? = some oj) (he : e ∈ oj.after) (hb : Region.binds .any e = true) (h : Dep ops i e.on) : Dep ops i j :=
  let ⟨f, hf⟩ := h
  ⟨f + 1, oj, e, hj, he, hb, .inr hf⟩
/-- What is listed is so with all that it waits for. -/
def Closed (ops : Array Oper) (listed : Array Bool) : Prop := ∀ j oj, ops[j]? = some oj → listed.getD j false = true → ∀ e ∈ oj.after, Region.binds .any e = true → listed.getD e.on false = true
theorem DepN.listed {i : Nat} {listed : Array Bool} (hc : Closed ops listed) : ∀ (f j : Nat), DepN ops i f j → listed.getD j false = true → listed.getD i false = true := by
  intro f
  induction f with
  | zero => intro j h; exact h.elim
  | succ f ih =>
    rintro j ⟨oj, e, hj, he, hb, h⟩ hl
    have h1 := hc _ _ hj hl _ he hb
    rcases h with h | h
    · rw [← h]; exact h1
    · exact ih _ h h1
theorem Dep.ready {i j : Nat} {listed : Array Bool} (hc : Closed ops listed) (h : Dep ops i j) (hr : j ∈ Region.ready .any ops listed) : listed.getD i false = true := by
  obtain ⟨_, o, ho, hall⟩ := mem_ready.1 hr
  obtain ⟨f, hf⟩ := h
  cases f with
  | zero => exact hf.elim
  | succ f =>
    obtain ⟨oj, e, hj, he, hb, h⟩ := hf
    have := Option.some.inj (hj.symm.trans ho)
    subst this
    rcases h with h | h
    · rw [← h]; exact hall _ he hb
    · exact h.listed hc _ _ (hall _ he hb)
theorem Closed.set {i : Nat} {listed : Array Bool} (hc : Closed ops listed) (hi : i ∈ Region.ready .any ops listed) : Closed ops (listed.setIfInBounds i true) := by
  obtain ⟨_, oi, hoi, hall⟩ := mem_ready.1 hi
  intro j oj hj hl e he hb
  by_cases hij : i = j
  · subst hij
    have := Option.some.inj (hj.symm.trans hoi)
    subst this
    exact getD_set_true (hall e he hb)
  · rw [getD_set_ne false hij] at hl
    exact getD_set_true (hc j oj hj hl e he hb)

/-- An operation that is ready and gives one value in every world of a class may be taken first. -/
theorem wpK_first {C0 : World → Prop} (h0 : ∀ w w', C0 w → Below w.heap.size w w' → C0 w') {i : Nat} (hri : ∀ w w', Below w.heap.size w w' → rel i w w') {oi : Oper} {v : Value} (hi : ops[i]? = some oi) (hsel : Region.noSelect ops = true) (f : Nat) :
    ∀ (listed : Array Bool) (a : Act) (C : World → Prop), (∀ w, C w → C0 w) → (∀ w w', C w → Below w.heap.size w w' → C w') → Closed ops listed →
      (∀ j oj, ops[j]? = some oj → j ≠ i → listed.getD j true = false → ¬ Dep ops i j → oi.apart ops oj = true ∧ ∀ w w', C0 w → rel j w w' → C0 w') →
      i ∈ Region.ready .any ops listed → GivesIn P ops C0 oi v a →
      (∀ w, C w → wpK P ops Q rel f (listed.setIfInBounds i true) (a.put oi.dst v) w) → ∀ w, C w → wpK P ops Q rel (f + 1) listed a w := by
  have hsel' := Region.noSelect_spec hsel
  induction f with
  | zero =>
    intro listed a C hCC hCB hcl hfree hr hy H w hw
    refine ⟨List.ne_nil_of_mem hr, fun j hj => ?_⟩
    by_cases hji : j = i
    · subst hji
      unfold wpOp
      simp only [hi]
      rcases hy with ⟨hwt, hg⟩ | ⟨hwt, rfl⟩
      · simp only [hwt, if_true]
        refine .inl ?_
        have h2 := hg w (hCC w hw)
        unfold givesAt at h2
        unfold Oper.wp
        generalize (execOp a.eval oi).run P w = r at *
        cases r with
        | ok n w' =>
          cases n <;> simp only [givesUpon] at h2 <;> simp only [Oper.upon]
          case value u => obtain ⟨rfl, rfl⟩ := h2; exact ⟨hri _ _ (bself _), fun w'' h' => H _ (hCB _ _ hw h')⟩
          case skip => obtain ⟨rfl, rfl⟩ := h2; exact ⟨hri _ _ (bself _), fun w'' h' => H _ (hCB _ _ hw h')⟩
          case enter f args =>
            obtain ⟨rfl, hc⟩ := h2
            exact hc.mono fun e w'' ⟨he, hb⟩ => by subst he; exact ⟨hri _ _ hb, fun w3 h' => H _ (hCB _ _ (hCB _ _ hw hb) h')⟩
        | halt x w' => simp only [givesUpon] at h2
      · simp only [hwt, Bool.false_eq_true, if_false]
        exact ⟨hri _ _ (bself _), fun w'' h' => H _ (hCB _ _ hw h')⟩
    · have h1 := (H w hw).1
      have h2 := ready_mono hj hji
      rw [h1] at h2
      cases h2
  | succ f ih =>
    intro listed a C hCC hCB hcl hfree hr hy H w hw
    refine ⟨List.ne_nil_of_mem hr, fun j hj => ?_⟩
    by_cases hji : j = i
    · subst hji
      unfold wpOp
      simp only [hi]
      rcases hy with ⟨hwt, hg⟩ | ⟨hwt, rfl⟩
      · simp only [hwt, if_true]
        refine .inl ?_
        have h2 := hg w (hCC w hw)
        unfold givesAt at h2
        unfold Oper.wp
        generalize (execOp a.eval oi).run P w = r at *
        cases r with
        | ok n w' =>
          cases n <;> simp only [givesUpon] at h2 <;> simp only [Oper.upon]
          case value u => obtain ⟨rfl, rfl⟩ := h2; exact ⟨hri _ _ (bself _), fun w'' h' => H _ (hCB _ _ hw h')⟩
          case skip => obtain ⟨rfl, rfl⟩ := h2; exact ⟨hri _ _ (bself _), fun w'' h' => H _ (hCB _ _ hw h')⟩
          case enter f args =>
            obtain ⟨rfl, hc⟩ := h2
            exact hc.mono fun e w'' ⟨he, hb⟩ => by subst he; exact ⟨hri _ _ hb, fun w3 h' => H _ (hCB _ _ (hCB _ _ hw hb) h')⟩
        | halt x w' => simp only [givesUpon] at h2
      · simp only [hwt, Bool.false_eq_true, if_false]
        exact ⟨hri _ _ (bself _), fun w'' h' => H _ (hCB _ _ hw h')⟩
    · obtain ⟨hjun, oj, hoj, hall⟩ := mem_ready.1 hj
      have hun := (mem_ready.1 hr).1
      have hnd : ¬ Dep ops i j := fun hd => by
        have h1 := hd.ready hcl hj
        rw [getD_both hun] at h1
        cases h1
      obtain ⟨hap, hsp⟩ := hfree j oj hoj hji hjun hnd
      have hH := (H w hw).2 j (ready_mono hj hji)
      refine wpOp_mono (fun a' w' h3 => ?_) (wpOp_unput hoj hap (fun cs b => hsel' i oi cs b hi) (fun cs b => hsel' j oj cs b hoj) hy hH)
      refine ⟨h3.2.1, fun w'' hb'' => ?_⟩
      refine ih (listed.setIfInBounds j true) a' (fun x => Below w'.heap.size w' x) (fun x hx => ?_) (fun x y hx hxy => bthen hx hxy) (hcl.set hj) ?_ (ready_mono hr (Ne.symm hji)) h3.1 ?_ w'' hb''
      · exact h0 _ _ (hsp _ _ (hCC _ hw) h3.2.1) hx
      · intro k ok hk hki hunk hno
        refine hfree k ok hk hki ?_ hno
        by_cases hjk : j = k
        · subst hjk; exact hjun
        · rw [getD_set_ne true hjk] at hunk; exact hunk
      · intro x hx
        rw [Array.setIfInBounds_comm _ _ hji]
        exact h3.2.2 x hx

/-- What is done, the last first. -/
def mk (m : Nat) : List Nat → Array Bool
  | [] => Array.replicate m false
  | i :: done => (mk m done).setIfInBounds i true
/-- What waits for operation i. -/
def waitSet (ops : Array Oper) (i : Nat) : Nat → List Nat
  | 0 => []
  | j + 1 => let s := waitSet ops i j; if (match ops[j]? with | some oj => oj.after.any fun e => Region.binds .any e && (e.on == i || s.contains e.on) | none => false) then j :: s else s
theorem waitSet_dep {i : Nat} : ∀ (n j : Nat), j ∈ waitSet ops i n → Dep ops i j := by
  intro n
  induction n with
  | zero => intro j h; cases h
  | succ n ih =>
    intro j h
    simp only [waitSet] at h
    by_cases hc : (match ops[n]? with | some oj => oj.after.any fun e => Region.binds .any e && (e.on == i || (waitSet ops i n).contains e.on) | none => false) = true
    · rw [if_pos hc] at h
      rcases List.mem_cons.1 h with rfl | h
      · split at hc
        · rename_i oj hoj
          obtain ⟨e, he, h1⟩ := Array.any_eq_true'.1 hc
          simp only [Bool.and_eq_true, Bool.or_eq_true, beq_iff_eq, List.contains_iff_mem] at h1
          rcases h1.2 with h2 | h2
          · exact .straight hoj he h1.1 h2
          · exact .through hoj he h1.1 (ih _ h2)
        · cases hc
      · exact ih j h
    · rw [if_neg hc] at h
      exact ih j h
/-- The operations of the list may be taken, one after the other. -/
def batchB (ops : Array Oper) (ok okj : Nat → Bool) : List Nat → List Nat → Bool
  | _, [] => true
  | done, i :: is => ok i && (Region.ready .any ops (mk ops.size done)).contains i &&
      (match ops[i]? with
        | none => false
        | some oi => (List.range ops.size).all fun j => j == i || done.contains j || (waitSet ops i ops.size).contains j || match ops[j]? with | some oj => oi.apart ops oj && okj j | none => true) &&
      batchB ops ok okj (i :: done) is
theorem mk_get {m : Nat} {done : List Nat} {j : Nat} (hj : j < m) : (mk m done).getD j true = done.contains j := by
  induction done with
  | nil => simp [mk, hj]
  | cons i done ih =>
    unfold mk
    by_cases h : i = j
    · subst h
      have hs : ∀ l : List Nat, (mk m l).size = m := fun l => by induction l <;> simp [mk, *]
      simp [hs, hj]
    · rw [getD_set_ne true h, ih]
      have : ¬ j = i := fun e => h e.symm
      simp [this]
theorem closed_nil (m : Nat) : Closed ops (mk m []) := fun j oj _ hl => by
  unfold mk at hl
  rw [getD_replicate_false] at hl
  cases hl

theorem batch_go {ok okj : Nat → Bool} {C0 C : World → Prop} (h0 : ∀ w w', C0 w → Below w.heap.size w w' → C0 w') (hCC : ∀ w, C w → C0 w) (hCB : ∀ w w', C w → Below w.heap.size w w' → C w')
    (hok : ∀ i, ok i = true → ∀ w w', Below w.heap.size w w' → rel i w w') (hokj : ∀ j, okj j = true → ∀ w w', C0 w → rel j w w' → C0 w') (hsel : Region.noSelect ops = true) {n : Nat} :
    ∀ (is : List Nat) (done : List Nat) (a : Act), Closed ops (mk ops.size done) → batchB ops ok okj done is = true →
    wpG P ops C0 (fun a' => ∀ w', C w' → wpK P ops Q rel n (mk ops.size (is.reverse ++ done)) a' w') (is.filterMap (fun i => ops[i]?)) a →
    ∀ w, C w → wpK P ops Q rel (n + is.length) (mk ops.size done) a w := by
  intro is
  induction is with
  | nil => intro done a _ _ h w hw; exact h w hw
  | cons i is ih =>
    intro done a hcl hB h w hw
    simp only [batchB, Bool.and_eq_true] at hB
    obtain ⟨⟨⟨hk, hr⟩, hm⟩, hB⟩ := hB
    have hr' : i ∈ Region.ready .any ops (mk ops.size done) := by simpa using hr
    cases hi : ops[i]? with
    | none => rw [hi] at hm; cases hm
    | some oi =>
      rw [hi] at hm
      simp only [List.filterMap_cons, hi] at h
      obtain ⟨v, hg, h⟩ := h
      have hx : (i :: is).reverse ++ done = is.reverse ++ (i :: done) := by simp
      rw [hx] at h
      refine wpK_first h0 (hok i hk) hi hsel (n + is.length) (mk ops.size done) a C hCC hCB hcl ?_ hr' hg (fun w hw => ih (i :: done) _ (hcl.set hr') hB h w hw) w hw
      intro j oj hj hji hun hnd
      have hjs : j < ops.size := (Array.getElem?_eq_some_iff.1 hj).1
      have h1 := List.all_eq_true.1 hm j (List.mem_range.2 hjs)
      rw [mk_get hjs] at hun
      rw [hj, hun] at h1
      have h2 : (waitSet ops i ops.size).contains j = false := by
        cases hw : (waitSet ops i ops.size).contains j with
        | false => rfl
        | true => exact absurd (waitSet_dep _ _ (by simpa using hw)) hnd
      rw [h2] at h1
      have h3 : oi.apart ops oj = true ∧ okj j = true := by simpa [hji] using h1
      exact ⟨h3.1, hokj j h3.2⟩

/-- Operation i comes now. -/
def PointK (P : Program) (ops : Array Oper) (Q : Exit → Act → World → Prop) (rel : Nat → World → World → Prop) (n : Nat) (done : List Nat) (i : Nat) (a : Act) (w : World) : Prop :=
  wpOp P ops Qno i (fun a' w' => rel i w w' ∧ ∀ w'', Below w'.heap.size w' w'' → wpK P ops Q rel n (mk ops.size (i :: done)) a' w'') a w
theorem point_go {n : Nat} {done : List Nat} {a : Act} {w : World} (i : Nat) {oi : Oper} (hi : ops[i]? = some oi)
    (h : wpList P ops (fun e a' w' => e = .normal ∧ rel i w w' ∧ ∀ w'', Below w'.heap.size w' w'' → wpK P ops Q rel n (mk ops.size (i :: done)) a' w'') [oi] a w) : PointK P ops Q rel n done i a w := by
  unfold PointK wpOp
  simp only [hi]
  unfold wpList at h
  by_cases hwt : Region.wanted oi (yielded ops a.tmps) = true
  · simp only [hwt, if_true] at h ⊢
    rcases h with h | ⟨_, _, _, h⟩
    · refine .inl ?_
      unfold Oper.wp Oper.upon at h ⊢
      generalize (execOp a.eval oi).run P w = r at h ⊢
      cases r with
      | ok x w' =>
        cases x with
        | enter f args =>
          refine Calls.mono h (fun e w'' he => ?_)
          cases e with
          | returned u => exact he.2
          | panicked c => exact absurd he.1 (by simp)
          | outgrown => obtain ⟨_, _, he, _⟩ := he; exact absurd he (by simp)
        | row r args => exact Rows.mono h (fun _ _ he => he.2)
        | value u => exact h.2
        | skip => exact h.2
        | defer d => exact h.2
        | _ => exact h
      | halt x w' => cases x <;> first|exact h|exact absurd h.1 (by simp)
    · exact absurd h.1 (by simp)
  · simp only [hwt] at h ⊢
    exact h.2
/-- One operation alone can come; two can come. -/
theorem wpK_one {n : Nat} {done : List Nat} {a : Act} {w : World} {i : Nat} (hr : Region.ready .any ops (mk ops.size done) = [i]) (h : PointK P ops Q rel n done i a w) : wpK P ops Q rel (n + 1) (mk ops.size done) a w := by
  refine ⟨by rw [hr]; simp, fun j hj => ?_⟩
  rw [hr] at hj
  obtain rfl : j = i := by simpa using hj
  exact h
end
section
variable {P : Program} {l : List Oper} {Q : Exit → Act → World → Prop} {D : List Nat} {W w : World} {L : List (Nat × List Value)} {a : Act}

/-- A list that tells what the call owns, and what a part of the call has made. -/
theorem Own.join {L1 : List (Nat × List Value)} {w' : World} (hS : Own D W L w) (h1 : Own [] w L1 w') : Own D W (L1 ++ L) w' := by
  have h2 := hS.step h1.below
  refine ⟨h2.os, h2.tape, h2.output, h2.size, h2.block, fun x hx => ?_, fun x hx => ?_, ?_⟩
  · rcases List.mem_append.1 hx with hx | hx
    · exact h1.has x hx
    · exact h2.has x hx
  · rcases List.mem_append.1 hx with hx | hx
    · rcases h1.ge x hx with h | h
      · cases h
      · exact .inr (Nat.le_trans hS.size h)
    · exact h2.ge x hx
  · rw [List.map_append, List.nodup_append]
    refine ⟨h1.apart, hS.apart, fun x hx y hy he => ?_⟩
    obtain ⟨p, hp, rfl⟩ := List.mem_map.1 hx
    obtain ⟨q, hq, rfl⟩ := List.mem_map.1 hy
    have hl := (hS.has q hq).lt
    rcases h1.ge p hp with h | h
    · cases h
    · omega

/-- What an operation of a region may do to the world: a hard one, anything; a middling one, whatever leaves the blocks up to B alone; any other makes memory at most. -/
def relOf (B : Nat) (mid hard : List Nat) (i : Nat) (w w' : World) : Prop := if hard.contains i then True else if mid.contains i then Below B w w' else Below w.heap.size w w'
theorem relOf_soft {B : Nat} {mid hard : List Nat} {i : Nat} (h : (!hard.contains i && !mid.contains i) = true) : relOf B mid hard i = fun w w' => Below w.heap.size w w' := by
  simp only [Bool.and_eq_true, Bool.not_eq_true'] at h
  unfold relOf
  rw [h.1, h.2]
  rfl
theorem relOf_hard {B : Nat} {mid hard : List Nat} {i : Nat} (h : hard.contains i = true) (w w' : World) : relOf B mid hard i w w' := by
  unfold relOf
  rw [if_pos h]
  trivial
theorem Own.stepB {B : Nat} {w w' : World} (hS : Own D W L w) (hW : W.heap.size ≤ B) (hL : ∀ x ∈ L, x.1 < B) (hb : Below B w w') : Own D W L w' where
  os := hb.os.trans hS.os
  tape := hb.tape.trans hS.tape
  output := hb.output.trans hS.output
  size := Nat.le_trans hS.size hb.size
  block := fun k hk hd => (hb.block k (Nat.lt_of_lt_of_le hk hW)).trans (hS.block k hk hd)
  has := fun x hx => (hS.has x hx).belowB hb (hL x hx)
  ge := hS.ge
  apart := hS.apart

/-- A region that draws its order: B, the middling and the hard operations are named. -/
theorem own_anyM {id : Nat} (hS : Own D W L w) (mid hard : List Nat) (n : Nat) (hm : P.follows .mixedOrders = true) (hB : (decide (l.length = n) && Region.noSelect l.toArray) = true)
    (h : Closed l.toArray (mk l.toArray.size []) → ∀ w', Own D W L w' → w.heap.size ≤ w'.heap.size → wpK P l.toArray Q (relOf w.heap.size mid hard) n (mk l.toArray.size []) a w') : (Code.region id l.toArray true).wp P Q a w := by
  simp only [Bool.and_eq_true, decide_eq_true_eq] at hB
  obtain ⟨rfl, hsel⟩ := hB
  refine wp_region_any hm ?_
  have := wpAny_of_wpK _ _ _ _ (h (closed_nil _) _ hS.drew (Nat.le_refl _))
  rw [← List.size_toArray] at this
  exact this
theorem own_any {id : Nat} (hS : Own D W L w) (hard : List Nat) (n : Nat) (hm : P.follows .mixedOrders = true) (hB : (decide (l.length = n) && Region.noSelect l.toArray) = true)
    (h : Closed l.toArray (mk l.toArray.size []) → ∀ w', Own D W L w' → wpK P l.toArray Q (relOf w.heap.size [] hard) n (mk l.toArray.size []) a w') : (Code.region id l.toArray true).wp P Q a w :=
  own_anyM hS [] hard n hm hB fun hc w' hw' _ => h hc w' hw'
theorem wpG_mono {C : World → Prop} {ops : Array Oper} : ∀ (l' : List Oper) (R R' : Act → Prop) (a : Act), (∀ a, R a → R' a) → wpG P ops C R l' a → wpG P ops C R' l' a := by
  intro l'
  induction l' with
  | nil => intro R R' a hR h; exact hR a h
  | cons o l' ih => intro R R' a hR ⟨v, h1, h2⟩; exact ⟨v, h1, ih R R' _ hR h2⟩
theorem batch_closed {ops : Array Oper} {ok okj : Nat → Bool} : ∀ (is done : List Nat), Closed ops (mk ops.size done) → batchB ops ok okj done is = true → Closed ops (mk ops.size (is.reverse ++ done)) := by
  intro is
  induction is with
  | nil => intro done h _; exact h
  | cons i is ih =>
    intro done h hb
    simp only [batchB, Bool.and_eq_true] at hb
    have := ih (i :: done) (h.set (by simpa using hb.1.1.2)) hb.2
    simpa using this
section
variable {B : Nat} {mid hard : List Nat} {m : Nat} {done : List Nat}
/-- Quiet operations. -/
theorem own_batch (hS : Own D W L w) (is : List Nat) (n : Nat) (hmn : n + is.length = m) (hcl : Closed l.toArray (mk l.toArray.size done)) (hB : (Region.noSelect l.toArray && batchB l.toArray (fun i => !hard.contains i && !mid.contains i) (fun i => !hard.contains i && !mid.contains i) done is) = true)
    (h : wpG P l.toArray (fun w' => Own D W L w') (fun a' => Closed l.toArray (mk l.toArray.size (is.reverse ++ done)) → ∀ w', Own D W L w' → wpK P l.toArray Q (relOf B mid hard) n (mk l.toArray.size (is.reverse ++ done)) a' w') (is.filterMap (fun i => l.toArray[i]?)) a) :
    wpK P l.toArray Q (relOf B mid hard) m (mk l.toArray.size done) a w := by
  subst hmn
  simp only [Bool.and_eq_true] at hB
  exact batch_go (C0 := fun w' => Own D W L w') (C := fun w' => Own D W L w') (fun _ _ h hb => h.step hb) (fun _ h => h) (fun _ _ h hb => h.step hb) (fun i hi w w' hb => by rw [relOf_soft hi]; exact hb) (fun i hi w w' hC hb => by rw [relOf_soft hi] at hb; exact hC.step hb) hB.1 is done a hcl hB.2
    (wpG_mono _ _ _ _ (fun a' h' w' hw' => h' (batch_closed is done hcl hB.2) w' hw') h) w hS
/-- Quiet operations that look at old blocks alone (those below B). -/
theorem own_batchM (hS : Own D W L w) (hW : W.heap.size ≤ B) (hL : ∀ x ∈ L, x.1 < B) (is : List Nat) (n : Nat) (hmn : n + is.length = m) (hcl : Closed l.toArray (mk l.toArray.size done)) (hB : (Region.noSelect l.toArray && batchB l.toArray (fun i => !hard.contains i && !mid.contains i) (fun i => !hard.contains i) done is) = true)
    (h : wpG P l.toArray (fun w' => Own D W L w') (fun a' => Closed l.toArray (mk l.toArray.size (is.reverse ++ done)) → ∀ w', Own D W L w' → wpK P l.toArray Q (relOf B mid hard) n (mk l.toArray.size (is.reverse ++ done)) a' w') (is.filterMap (fun i => l.toArray[i]?)) a) :
    wpK P l.toArray Q (relOf B mid hard) m (mk l.toArray.size done) a w := by
  subst hmn
  simp only [Bool.and_eq_true] at hB
  refine batch_go (C0 := fun w' => Own D W L w') (C := fun w' => Own D W L w') (fun _ _ h hb => h.step hb) (fun _ h => h) (fun _ _ h hb => h.step hb) (fun i hi w w' hb => by rw [relOf_soft hi]; exact hb) (fun i hi w w' hC hb => ?_) hB.1 is done a hcl hB.2
    (wpG_mono _ _ _ _ (fun a' h' w' hw' => h' (batch_closed is done hcl hB.2) w' hw') h) w hS
  unfold relOf at hb
  rw [if_neg (by simpa using hi)] at hb
  split at hb
  · exact hC.stepB hW hL hb
  · exact hC.step hb
/-- Operations that do not look at the memory. -/
theorem own_pure (hS : Own D W L w) (is : List Nat) (n : Nat) (hmn : n + is.length = m) (hcl : Closed l.toArray (mk l.toArray.size done)) (hB : (Region.noSelect l.toArray && batchB l.toArray (fun i => !hard.contains i && !mid.contains i) (fun _ => true) done is) = true)
    (h : wpG P l.toArray (fun _ => True) (fun a' => Closed l.toArray (mk l.toArray.size (is.reverse ++ done)) → ∀ w', Own D W L w' → wpK P l.toArray Q (relOf B mid hard) n (mk l.toArray.size (is.reverse ++ done)) a' w') (is.filterMap (fun i => l.toArray[i]?)) a) :
    wpK P l.toArray Q (relOf B mid hard) m (mk l.toArray.size done) a w := by
  subst hmn
  simp only [Bool.and_eq_true] at hB
  exact batch_go (C0 := fun _ => True) (C := fun w' => Own D W L w') (fun _ _ _ _ => trivial) (fun _ _ => trivial) (fun _ _ h hb => h.step hb) (fun i hi w w' hb => by rw [relOf_soft hi]; exact hb) (fun _ _ _ _ _ _ => trivial) hB.1 is done a hcl hB.2
    (wpG_mono _ _ _ _ (fun a' h' w' hw' => h' (batch_closed is done hcl hB.2) w' hw') h) w hS

theorem wpList_mono {ops : Array Oper} {Q Q' : Exit → Act → World → Prop} (hQ : ∀ e a w, Q e a w → Q' e a w) : ∀ (l : List Oper) (a : Act) (w : World), wpList P ops Q l a w → wpList P ops Q' l a w := by
  intro l
  induction l with
  | nil => intro a w h; exact hQ _ _ _ h
  | cons o l ih =>
    intro a w h
    unfold wpList at h ⊢
    by_cases hw : Region.wanted o (yielded ops a.tmps) = true
    · simp only [hw, if_true] at h ⊢
      rcases h with h | ⟨h1, a0, w0, h2⟩
      · refine .inl ?_
        unfold Oper.wp Oper.upon at *
        generalize (execOp a.eval o).run P w = r at *
        cases r with
        | halt x w' => cases x <;> first|exact h|exact hQ _ _ _ h
        | ok x w' =>
          cases x with
          | enter f args =>
            refine Calls.mono h (fun e w'' he => ?_)
            cases e with
            | returned u => exact ih _ _ he
            | panicked c => exact hQ _ _ _ he
            | outgrown => obtain ⟨a0, w0, he⟩ := he; exact ⟨a0, w0, hQ _ _ _ he⟩
          | row r args => exact Rows.mono h (fun _ _ he => ih _ _ he)
          | value u => exact ih _ _ h
          | skip => exact ih _ _ h
          | defer d => exact ih _ _ h
          | _ => exact h
      · exact .inr ⟨h1, a0, w0, hQ _ _ _ h2⟩
    · simp only [hw] at h ⊢
      exact ih _ _ h
theorem Closed.next {i : Nat} (hcl : Closed l.toArray (mk l.toArray.size done)) (hr : (Region.ready .any l.toArray (mk l.toArray.size done)).contains i = true) : Closed l.toArray (mk l.toArray.size (i :: done)) := hcl.set (by simpa using hr)
/-- An operation that makes memory at most. -/
theorem soft_pt (hS : Own D W L w) (i : Nat) {oi : Oper} (hi : l.toArray[i]? = some oi) (hs : (!hard.contains i && !mid.contains i) = true)
    (h : Own [] w [] w → wpList P l.toArray (fun e a' w' => e = .normal ∧ ∃ L1, Own [] w L1 w' ∧ ∀ w'', Own D W (L1 ++ L) w'' → wpK P l.toArray Q (relOf B mid hard) m (mk l.toArray.size (i :: done)) a' w'') [oi] a w) :
    PointK P l.toArray Q (relOf B mid hard) m done i a w :=
  point_go i hi (wpList_mono (fun e a' w' ⟨he, L1, h1, h2⟩ => ⟨he, by rw [relOf_soft hs]; exact h1.below, fun w'' hb => h2 w'' ((hS.join h1).step hb)⟩) _ _ _ (h (own_start w)))
/-- An operation that may do anything to what the call owns. -/
theorem hard_pt (i : Nat) {oi : Oper} (hi : l.toArray[i]? = some oi) (hs : hard.contains i = true)
    (h : wpList P l.toArray (fun e a' w' => e = .normal ∧ ∃ L1, Own D W L1 w' ∧ ∀ w'', Own D W L1 w'' → wpK P l.toArray Q (relOf B mid hard) m (mk l.toArray.size (i :: done)) a' w'') [oi] a w) :
    PointK P l.toArray Q (relOf B mid hard) m done i a w :=
  point_go i hi (wpList_mono (fun _ _ _ ⟨he, _, h1, h2⟩ => ⟨he, relOf_hard hs _ _, fun w'' hb => h2 w'' (h1.step hb)⟩) _ _ _ h)
/-- An operation that writes to the blocks K alone, which have been made since the region began. -/
theorem mid_pt {K : List (Nat × List Value)} (hS : Own D W (K ++ L) w) (hK : ∀ x ∈ K, B ≤ x.1) (hBw : B ≤ w.heap.size) (i : Nat) {oi : Oper} (hi : l.toArray[i]? = some oi) (hs : (!hard.contains i && mid.contains i) = true)
    (h : Own (K.map (·.1)) w K w → wpList P l.toArray (fun e a' w' => e = .normal ∧ ∃ L1, Own (K.map (·.1)) w L1 w' ∧ ∀ w'', Own D W (L1 ++ L) w'' → wpK P l.toArray Q (relOf B mid hard) m (mk l.toArray.size (i :: done)) a' w'') [oi] a w) :
    PointK P l.toArray Q (relOf B mid hard) m done i a w := by
  have hSK : Own D W K w := hS.forget (List.sublist_append_left _ _)
  have hSL : Own D W L w := hS.forget (List.sublist_append_right _ _)
  have hdis : ∀ x ∈ L, x.1 ∉ K.map (·.1) := by
    have h0 := hS.apart
    rw [List.map_append, List.nodup_append] at h0
    intro x hx hk
    exact h0.2.2 _ hk _ (List.mem_map_of_mem hx) rfl
  refine point_go i hi (wpList_mono (fun e a' w' ⟨he, L1, h1, h2⟩ => ⟨he, ?_, fun w'' hb => h2 w'' (Own.step ?_ hb)⟩) _ _ _ (h hSK.rebase))
  · simp only [Bool.and_eq_true, Bool.not_eq_true'] at hs
    unfold relOf
    rw [hs.1, hs.2]
    refine ⟨h1.os, h1.tape, h1.output, h1.size, fun k hk => h1.block k (Nat.lt_of_lt_of_le hk hBw) (fun hm => ?_)⟩
    obtain ⟨x, hx, rfl⟩ := List.mem_map.1 hm
    have := hK x hx
    omega
  · have hL' : ∀ x ∈ L, Has w' x.1 x.2 := fun x hx => h1.hasOld (hdis x hx) (hSL.has x hx)
    refine ⟨h1.os.trans hS.os, h1.tape.trans hS.tape, h1.output.trans hS.output, Nat.le_trans hS.size h1.size, fun k hk hd => ?_, fun x hx => ?_, fun x hx => ?_, ?_⟩
    · rw [h1.block k (Nat.lt_of_lt_of_le hk hS.size) (fun hm => ?_)]
      · exact hS.block k hk hd
      · obtain ⟨x, hx, rfl⟩ := List.mem_map.1 hm
        rcases hSK.ge x hx with h | h
        · exact hd h
        · omega
    · rcases List.mem_append.1 hx with hx | hx
      · exact h1.has x hx
      · exact hL' x hx
    · rcases List.mem_append.1 hx with hx | hx
      · rcases h1.ge x hx with h | h
        · obtain ⟨y, hy, he⟩ := List.mem_map.1 h
          rw [← he]; exact hSK.ge y hy
        · exact .inr (Nat.le_trans hS.size h)
      · exact hSL.ge x hx
    · rw [List.map_append, List.nodup_append]
      refine ⟨h1.apart, hSL.apart, fun x hx y hy he => ?_⟩
      obtain ⟨p, hp, rfl⟩ := List.mem_map.1 hx
      obtain ⟨q, hq, rfl⟩ := List.mem_map.1 hy
      rcases h1.ge p hp with h | h
      · rw [he] at h; exact hdis q hq h
      · have := (hSL.has q hq).lt; omega
theorem own_soft (hS : Own D W L w) (i : Nat) {oi : Oper} (hcl : Closed l.toArray (mk l.toArray.size done)) (hi : l.toArray[i]? = some oi) (hr : (decide (Region.ready .any l.toArray (mk l.toArray.size done) = [i]) && (!hard.contains i && !mid.contains i)) = true)
    (h : Own [] w [] w → wpList P l.toArray (fun e a' w' => e = .normal ∧ ∃ L1, Own [] w L1 w' ∧ (Closed l.toArray (mk l.toArray.size (i :: done)) → ∀ w'', Own D W (L1 ++ L) w'' → wpK P l.toArray Q (relOf B mid hard) m (mk l.toArray.size (i :: done)) a' w'')) [oi] a w) :
    wpK P l.toArray Q (relOf B mid hard) (m + 1) (mk l.toArray.size done) a w := by
  rw [Bool.and_eq_true, decide_eq_true_eq] at hr
  exact wpK_one hr.1 (soft_pt hS i hi hr.2 fun hO => wpList_mono (fun e a' w' ⟨he, L1, h1, h2⟩ => ⟨he, L1, h1, h2 (hcl.next (by rw [hr.1]; simp))⟩) _ _ _ (h hO))
/-- One operation that alone can come. -/
theorem own_hard (i : Nat) {oi : Oper} (hcl : Closed l.toArray (mk l.toArray.size done)) (hi : l.toArray[i]? = some oi) (hr : Region.ready .any l.toArray (mk l.toArray.size done) = [i]) (hs : hard.contains i = true)
    (h : wpList P l.toArray (fun e a' w' => e = .normal ∧ ∃ L1, Own D W L1 w' ∧ (Closed l.toArray (mk l.toArray.size (i :: done)) → ∀ w'', Own D W L1 w'' → wpK P l.toArray Q (relOf B mid hard) m (mk l.toArray.size (i :: done)) a' w'')) [oi] a w) :
    wpK P l.toArray Q (relOf B mid hard) (m + 1) (mk l.toArray.size done) a w :=
  wpK_one hr (hard_pt i hi hs (wpList_mono (fun e a' w' ⟨he, L1, h1, h2⟩ => ⟨he, L1, h1, h2 (hcl.next (by rw [hr]; simp))⟩) _ _ _ h))
theorem own_done (hr : Region.ready .any l.toArray (mk l.toArray.size done) = []) (h : Q .normal a w) : wpK P l.toArray Q (relOf B mid hard) 0 (mk l.toArray.size done) a w := ⟨hr, h⟩
end
end
end Go.Proofs.Ytdbcdjiclkmknaa
namespace Go.Proofs.Ytdbcdjiclkmknaa
open Go.RowKit

attribute [local irreducible] wpQuiet wpList Code.wp Calls

instance ot_ints : OneTy Try.prog 31 := ⟨⟨_, Try.underlying31, rfl⟩, by kernel_rfl⟩
theorem el_int : ElTy Try.prog 31 3 1 8 := ElTy.mk' (.int .i64 0) Try.underlying31 (by kernel_rfl) rfl

/-- The call gives a slice of these numbers, in new memory. -/
def GivesInts (src : List Int) (w : World) (e : Ending) (w' : World) : Prop :=
  ∃ v X, e = .returned v ∧ Sl 1 src.length v (src.flatMap intCells) X ∧ Own [] w X w'
theorem own_ints {P : Program} {D : List Nat} {W w : World} {L : List (Nat × List Value)} {f : FuncId} {args : Array Value} {src : List Int} {R : Ending → World → Prop} (hS : Own D W L w) (hc : Calls P f args w (GivesInts src w))
    (h : ∀ y c X w', Sl 1 src.length (.slice y src.length c) (src.flatMap intCells) X → RowAt w' y 1 intCells src → Own D W (X ++ L) w' → R (.returned (.slice y src.length c)) w') : Calls P f args w R :=
  hc.mono fun _ _ ⟨v, X, he, hX, hO⟩ => by
    obtain ⟨y, c, rfl, hr, _, _⟩ := Sl.rowAt hO (fun x hx => hx) hX (fun _ => rfl) (by decide)
    rw [he]
    exact h y c X _ hX hr (hS.join hO)

set_option maxHeartbeats 4000000 in
set_option maxRecDepth 100000 in
theorem clone_nil (c : Nat) (w : World) : Calls Try.prog 46 #[.slice none 0 c] w (GivesInts [] w) := by
  have hnil := fun (w : World) (a : Option Addr) (n c : Nat) => Lib.run_eql_slice_nil (P := Try.prog) w 31 3 a n c 0 0 Try.underlying31
  go_enter Try.func46, Try.ntmps46
  have hS := own_start w
  go_wp2_with (first|(refine own_unguard (by rfl) ?_)|(refine w_ld rfl _ rfl (by rfl) (by first|exact rd_1 (by repeat constructor) (by first|rfl|assumption)|exact rd_w (by repeat constructor) (by rfl)|((first|refine rd_o ‹_› (by rfl) ?_|refine rd_h ‹_› (by rfl) ?_|refine rd_1o ‹_› ?_|refine rd_1h ‹_› (by first|rfl|assumption) ?_);first|exact nmn|assumption|simp)) hS ?_)|(refine own_box rfl _ _ rfl (by rfl) hS ?_;clear hS;(try clear ww);intro bb ww hS)|(refine w_s1 rfl _ _ rfl (by rfl) (by repeat constructor) (by first|exact .c|exact .t rfl) (by rfl) (by repeat constructor) hS ?_;clear hS;(try clear ww);intro ww hS))
  go_ret
  exact ⟨_, [], rfl, sl_nil 1, hS⟩

theorem clone_cells {W w : World} {L : List (Nat × List Value)} {a : Addr} {src : List Int} (hS : Own [] W L w) (hr : RowAt W (some a) 1 intCells src) : ∀ j u, (src.flatMap intCells)[j]? = some u → w.cell? (a.add j) = some u := by
  intro j u hj
  by_cases h : src = []
  · subst h; simp at hj
  · obtain ⟨b, o, hx, hr2⟩ := (hr.own hS).flat (fun _ _ => rfl) h
    obtain rfl : a = ⟨b, o, none⟩ := by simpa using hx
    rw [Addr.add_lit]
    exact hr2 j u hj
theorem clone_one (src : List Int) : ∀ u ∈ src.flatMap intCells, u.oneCell' = true := by
  intro u hu
  obtain ⟨n, _, h⟩ := List.mem_flatMap.1 hu
  simp [intCells] at h
  subst h; rfl

set_option maxHeartbeats 4000000 in
set_option maxRecDepth 100000 in
theorem clone_some (a : Addr) (src : List Int) (c : Nat) (w : World) (hr : RowAt w (some a) 1 intCells src) (hl : src.length ≤ 17592186044416) : Calls Try.prog 46 #[.slice (some a) src.length c] w (GivesInts src w) := by
  have HR := Lib.hid hr
  clear hr
  have hnil := fun (w : World) (a : Option Addr) (n c : Nat) => Lib.run_eql_slice_nil (P := Try.prog) w 31 3 a n c 0 0 Try.underlying31
  go_enter Try.func46, Try.ntmps46
  have hS := own_start w
  go_wp2_with (first|(refine own_unguard (by rfl) ?_)|(refine own_buildEmpty rfl 31 3 rfl hS Try.underlying31 (by kernel_rfl) ?_;clear hS;(try clear ww);intro bb ww hS)|(refine own_append rfl _ _ _ rfl (size := 1) (n := 0) (xs := []) (X := []) ⟨rfl, .inl ⟨_, .inr ⟨bb, 0, rfl⟩, rfl, rfl, rfl⟩⟩ rfl (news := src.flatMap intCells) rfl (show Own [] w ([(bb, [])] ++ []) ww from hS) (clone_cells hS HR.out) (flat_len (f := intCells) (size := 1) (fun _ => rfl) src) (clone_one src) el_int (by decide) (by simp only [maxLen];omega) (by omega) ?_;clear hS;intro v1 X1 ww hS hX)|(refine w_ld rfl _ rfl (by rfl) (by first|exact rd_1 (by repeat constructor) (by first|rfl|assumption)|exact rd_w (by repeat constructor) (by rfl)|((first|refine rd_o ‹_› (by rfl) ?_|refine rd_h ‹_› (by rfl) ?_|refine rd_1o ‹_› ?_|refine rd_1h ‹_› (by first|rfl|assumption) ?_);first|exact nmn|assumption|simp)) hS ?_)|(refine own_box rfl _ _ rfl (by rfl) hS ?_;clear hS;(try clear ww);intro bb ww hS)|(refine w_s1 rfl _ _ rfl (by rfl) (by repeat constructor) (by first|exact .c|exact .t rfl) (by rfl) (by repeat constructor) hS ?_;clear hS;(try clear ww);intro ww hS))
  go_ret
  exact ⟨_, _, rfl, by simpa using hX, hS.forget (by simp)⟩

theorem clone_calls (x : Option Addr) (src : List Int) (c : Nat) (w : World) (hr : RowAt w x 1 intCells src) (hl : src.length ≤ 17592186044416) : Calls Try.prog 46 #[.slice x src.length c] w (GivesInts src w) := by
  cases x with
  | some a => exact clone_some a src c w hr hl
  | none =>
    rcases hr with rfl | ⟨_, _, h, _⟩
    · exact clone_nil c w
    · cases h

end Go.Proofs.Ytdbcdjiclkmknaa
namespace Go.Proofs.Ytdbcdjiclkmknaa
open Go.RowKit

section
variable {P : Program} {rest : List Oper} {ops' : Array Oper} {o : Oper} {a : Act} {Q : Exit → Act → World → Prop} {D : List Nat} {W w : World} {L : List (Nat × List Value)}

/-- A new slice of n elements. -/
theorem own_make (hgd : o.guard = none) (l c : Operand) (t : TypeId) (ho : o.op = .makeSlice t l c) {e : TypeId} {size bytes n : Nat} (T : ElTy P t e size bytes) (hl : a.eval l = .int .i64 (n : Int)) (hc : a.eval c = .int .i64 (n : Int)) (hS : Own D W L w)
    (hb : n * bytes ≤ 140737488355328) (hn : n ≤ 140737488355328)
    (h : ∀ b cs w', Own D W ((b, cs) :: L) w' → cs.length = n * size → wpList P ops' Q rest (a.put o.dst (.slice (some ⟨b, 0, none⟩) n n)) w') : wpList P ops' Q (o :: rest) a w := by
  obtain ⟨i, z, hi, hz, hsz, hby, hzz⟩ := T.inf
  subst hsz hby
  have hmul : (i.bytes : Int) * (n : Int) ≤ 281474976710656 := by
    have h1 : i.bytes * n ≤ 281474976710656 := by rw [Nat.mul_comm]; omega
    rw [← Int.natCast_mul]
    omega
  have hrun := run_make (P := P) (w := w) t e i z T.und hi hz .i64 .i64 (n : Int) (n : Int) (by omega) (Int.le_refl _) hmul (by omega)
  simp only [Int.toNat_natCast] at hrun
  refine wpList_plain hgd fun K hK => ?_
  unfold Oper.wp execOp
  simp only [ho, hl, hc, Sem.run_bind, hrun, Sem.run_pure, Result.andThen_ok]
  exact hK _ _ (h w.heap.size (madeCells z.cells (n * i.size)).toList _ (by simpa using hS.new (madeCells z.cells (n * i.size)).toList e) (by simp [size_madeCells]))

/-- All elements go over. -/
theorem own_copy (hgd : o.guard = none) (d s : Operand) (dT sT : TypeId) (ho : o.op = .call { callee := .builtin .copy, args := #[d, s], argTypes := #[dT, sT] }) {e : TypeId} {size bytes n c1 c2 k b : Nat} (T : ElTy P dT e size bytes)
    {ad : Addr} {cur news : List Value} (hd : a.eval d = .slice (some ⟨b, 0, none⟩) n c1) (hs : a.eval s = .slice (some ad) n c2) (hS : Own D W L w) (hm : At k L b cur) (hn : news.length = n * size)
    (hsrc : ∀ j v, news[j]? = some v → w.cell? (ad.add j) = some v) (hfit : news.length ≤ cur.length) (h1 : ∀ v ∈ news, v.oneCell' = true)
    (h : ∀ w', Own D W (L.set k (b, setL cur 0 news)) w' → wpList P ops' Q rest (a.put o.dst (.int .i64 (n : Int))) w') : wpList P ops' Q (o :: rest) a w := by
  obtain ⟨i, z, hi, hz, hsz, hby, hzz⟩ := T.inf
  subst hsz
  have hb := hS.get hm
  have hl := run_loadCells_list (P := P) w ad news hsrc
  have hst := run_storeCells_cells (P := P) b 0 news 0 w (fun j hj => by
    rw [hb.cell, List.getElem?_eq_getElem (by omega)]; rfl) (fun j _ => hb.frozen _) h1
  rw [hn] at hl
  have hrun : (Builtin.copy_ #[dT, sT] o.type #[.slice (some ⟨b, 0, none⟩) n c1, .slice (some ad) n c2]).run P w = .ok (goInt n) (w.setCells b 0 news) := by
    simp [Builtin.copy_, run_underlying T.und, Builtin.lenOf, Builtin.firstCells, sizeOf, typeInfo, hi, hl, hst]
  refine wpList_plain hgd fun K hK => ?_
  unfold Oper.wp
  simp [execOp, ho, resolve, invoke, builtin, hd, hs, hrun, Result.andThen]
  exact hK _ _ (h _ (hS.setCells hm 0 news))
theorem own_copy0 (hgd : o.guard = none) (d s : Operand) (dT sT : TypeId) (ho : o.op = .call { callee := .builtin .copy, args := #[d, s], argTypes := #[dT, sT] }) {e : TypeId} {size bytes c1 c2 : Nat} (T : ElTy P dT e size bytes)
    {x y : Option Addr} (hd : a.eval d = .slice x 0 c1) (hs : a.eval s = .slice y 0 c2)
    (h : wpList P ops' Q rest (a.put o.dst (.int .i64 0)) w) : wpList P ops' Q (o :: rest) a w := by
  obtain ⟨i, z, hi, hz, hsz, hby, hzz⟩ := T.inf
  have hrun : (Builtin.copy_ #[dT, sT] o.type #[.slice x 0 c1, .slice y 0 c2]).run P w = .ok (goInt 0) w := by
    cases x <;> cases y <;> simp [Builtin.copy_, run_underlying T.und, Builtin.lenOf, Builtin.firstCells, sizeOf, typeInfo, hi, loadCells, loadCellsFrom, storeCells]
  refine wpList_plain hgd fun K hK => ?_
  unfold Oper.wp
  simp [execOp, ho, resolve, invoke, builtin, hd, hs, hrun, Result.andThen]
  exact hK _ _ h
end
end Go.Proofs.Ytdbcdjiclkmknaa
namespace Go.Proofs.Ytdbcdjiclkmknaa
open Go.RowKit

/-- Lists of kids lie where P says or at the head of a block of K; sources in old memory or in a block of S. -/
def koK (P : Nat → Prop) (K : List Nat) (k o : Nat) : Prop := P k ∨ (k ∈ K ∧ o = 0)
def soK (P : Nat → Prop) (S : List Nat) (k : Nat) : Prop := P k ∨ k ∈ S

theorem rangeAt_eq {w : World} {b o : Nat} {cs cs' : List Value} (h : w.rangeAt b o cs) (h' : w.rangeAt b o cs') (hl : cs.length = cs'.length) : cs = cs' := by
  apply List.ext_getElem hl
  intro i h1 h2
  have e1 := h i _ (List.getElem?_eq_getElem h1)
  have e2 := h' i _ (List.getElem?_eq_getElem h2)
  rw [e1] at e2
  exact Option.some.inj e2
theorem rowInts_eq {w : World} {x : Option Addr} {l l' : List Int} (h : RowAt w x 1 intCells l) (h' : RowAt w x 1 intCells l') (hl : l.length = l'.length) : l = l' := by
  apply List.ext_getElem hl
  intro i h1 h2
  obtain ⟨b, o, hx, e1⟩ := h.get (List.getElem?_eq_getElem h1)
  obtain ⟨b', o', hx', e2⟩ := h'.get (List.getElem?_eq_getElem h2)
  rw [hx] at hx'
  have hbo : b = b' ∧ o = o' := by simpa using hx'
  obtain ⟨rfl, rfl⟩ := hbo
  have := rangeAt_eq e1 e2 rfl
  simpa [intCells] using this

theorem rep_turn {P : Nat → Prop} {K K' S S' : List Nat} {w w' : World} {k0 o0 : Nat} {c0 c1 : List Value} (hK : ∀ k ∈ K, k ∈ K') (hS : ∀ k ∈ S, k ∈ S') (hk0 : ¬ P k0) (hk0S : k0 ∉ S) (ho : o0 % 11 = 0)
    (h1 : ∀ (k i : Nat) (v : Value), (P k ∨ k ∈ K ∨ k ∈ S) → ¬ (k = k0 ∧ o0 ≤ i ∧ i < o0 + 11) → w.cell? ⟨k, i, none⟩ = some v → w'.cell? ⟨k, i, none⟩ = some v)
    (h2 : w.rangeAt k0 o0 c0) (h2' : w'.rangeAt k0 o0 c1) {a : Hd} {kx kx' sx sx' : Option Addr} {kc kc' sc sc' len : Nat}
    (e0 : c0 = a.cells (.slice kx len kc) (.slice sx a.src.length sc)) (e1 : c1 = a.cells (.slice kx' len kc') (.slice sx' a.src.length sc')) (hsrc : RowAt w sx 1 intCells a.src)
    (h3 : ∀ i, i < len → ∀ k o, kx = some ⟨k, o, none⟩ → ∀ css : List Value, css.length = 11 → w.rangeAt k (o + i * 11) css → ∃ k', kx' = some ⟨k', 0, none⟩ ∧ k' ∈ K' ∧ w'.rangeAt k' (0 + i * 11) css)
    (h4 : RowAt w' sx' 1 intCells a.src) (h5 : a.src ≠ [] → ∀ k o, sx' = some ⟨k, o, none⟩ → soK P S' k) :
    ∀ (n : Nat) (b : Bx n) (cs : List Value), RepG (koK P K) (soK P S) w n b cs → RepG (koK P K') (soK P S') w' n b cs ∧ (cs = c0 → RepG (koK P K') (soK P S') w' n b c1) := by
  intro n
  induction n with
  | zero => intro b cs h; exact h.elim
  | succ n ih =>
    rintro b cs ⟨kx2, kc2, sx2, sc2, hcs, hok, hlen, hrow, hso, hkids⟩
    have hrow' : RowAt w' sx2 1 intCells b.1.src := by
      rcases hrow with h | ⟨k, o, hx, hr⟩
      · exact .inl h
      · by_cases hne : b.1.src = []
        · exact .inl hne
        · have hk := hso hne k o hx
          refine .inr ⟨k, o, hx, fun i z hi j v hj => h1 k _ v ?_ ?_ (hr i z hi j v hj)⟩
          · rcases hk with h | h
            · exact .inl h
            · exact .inr (.inr h)
          · rintro ⟨rfl, _⟩
            rcases hk with h | h
            · exact hk0 h
            · exact hk0S h
    refine ⟨⟨kx2, kc2, sx2, sc2, hcs, hok, hlen, hrow', fun hne k o hx => ?_, fun i kid hi => ?_⟩, fun he => ?_⟩
    · rcases hso hne k o hx with h | h
      · exact .inl h
      · exact .inr (hS _ h)
    · obtain ⟨k, o, css, ek, hko, hr, hrep⟩ := hkids i kid hi
      have hko' : koK P K' k o := by
        rcases hko with h | ⟨h, h'⟩
        · exact .inl h
        · exact .inr ⟨hK _ h, h'⟩
      have hcl := hrep.len
      by_cases hP : k = k0 ∧ o + i * 11 = o0
      · obtain ⟨rfl, rfl⟩ := hP
        have hc : css = c0 := rangeAt_eq hr h2 (by rw [hcl, e0]; rfl)
        exact ⟨k, o, c1, ek, hko', h2', (ih kid css hrep).2 hc⟩
      · refine ⟨k, o, css, ek, hko', fun j v hj => h1 k _ v ?_ ?_ (hr j v hj), (ih kid css hrep).1⟩
        · rcases hko with h | ⟨h, _⟩
          · exact .inl h
          · exact .inr (.inl h)
        · rintro ⟨rfl, h6, h7⟩
          have hj11 : j < 11 := by rw [← hcl]; exact (List.getElem?_eq_some_iff.1 hj).1
          rcases hko with h | ⟨_, h⟩
          · exact absurd h hk0
          · exact hP ⟨rfl, by omega⟩
    · obtain ⟨⟨kind, name, size, bw, bh, bd, bx, by_, of, src⟩, kids⟩ := b
      obtain ⟨kind', name', size', bw', bh', bd', bx', by', of', src'⟩ := a
      have hq := hcs.symm.trans (he.trans e0)
      simp only [Hd.cells, List.cons.injEq, Value.int.injEq, Value.string.injEq, Value.slice.injEq, true_and, and_true] at hq
      obtain ⟨rfl, rfl, rfl, rfl, rfl, rfl, rfl, rfl, ⟨rfl, hl, rfl⟩, rfl, ⟨rfl, hsl, rfl⟩⟩ := hq
      have hsq : src = src' := rowInts_eq hrow hsrc hsl
      subst hsq
      refine ⟨kx', kc', sx', sc', ?_, hok, hlen, h4, h5, fun i kid hi => ?_⟩
      · rw [e1]; simp only [hl]
      · obtain ⟨k, o, css, ek, hko, hr, hrep⟩ := hkids i kid hi
        have hil : i < len := by rw [← hl]; exact (List.getElem?_eq_some_iff.1 hi).1
        obtain ⟨k', ek', hk', hr'⟩ := h3 i hil k o ek css hrep.len hr
        exact ⟨k', 0, css, ek', .inr ⟨hk', rfl⟩, hr', (ih kid css hrep).1⟩

/-- What was there when the call began lies in old memory. -/
theorem rep_old {W : World} : ∀ (n : Nat) (b : Bx n) (cs : List Value), Rep W n b cs → RepG (fun k _ => k < W.heap.size) (fun k => k < W.heap.size) W n b cs := by
  intro n
  induction n with
  | zero => intro b cs h; exact h
  | succ n ih =>
    rintro b cs ⟨kx, kc, sx, sc, hcs, hok, hlen, hrow, _, hkids⟩
    refine ⟨kx, kc, sx, sc, hcs, hok, hlen, hrow, fun hne k o hx => ?_, fun i kid hi => ?_⟩
    · obtain ⟨z, hz⟩ : ∃ z, b.1.src[0]? = some z := by
        cases hb : b.1.src with
        | nil => exact absurd hb hne
        | cons z l => exact ⟨z, rfl⟩
      obtain ⟨b', o', hx', hr⟩ := hrow.get hz
      rw [hx] at hx'
      have hbo : k = b' ∧ o = o' := by simpa using hx'
      obtain ⟨rfl, rfl⟩ := hbo
      exact World.block_lt_of_cell? W _ (hr 0 _ rfl)
    · obtain ⟨k, o, css, ek, _, hr, hrep⟩ := hkids i kid hi
      obtain ⟨v, hv⟩ : ∃ v, css[0]? = some v := ⟨css[0]'(by rw [hrep.len]; omega), List.getElem?_eq_getElem _⟩
      exact ⟨k, o, css, ek, World.block_lt_of_cell? W _ (hr 0 v hv), hr, ih kid css hrep⟩
end Go.Proofs.Ytdbcdjiclkmknaa
namespace Go.Proofs.Ytdbcdjiclkmknaa
open Go.RowKit

/-- No list is too long. -/
def Small : (n : Nat) → Bx n → Prop
  | 0, _ => True
  | n + 1, b => b.1.src.length ≤ 17592186044416 ∧ b.2.length ≤ 1000000 ∧ ∀ k ∈ b.2, Small n k
def ptr (p : Nat × Nat) : List Value := [.pointer (some ⟨p.1, p.2, none⟩)]
/-- An entry of the stack: a place among the blocks K that holds a box as it was; what it weighs. -/
def Pend (W : World) (KL : List (Nat × List Value)) (p : (Nat × Nat) × Nat) : Prop :=
  ∃ cs m b, (p.1.1, cs) ∈ KL ∧ p.1.2 % 11 = 0 ∧ p.1.2 + 11 ≤ cs.length ∧ Rep W m b ((cs.drop p.1.2).take 11) ∧ Small m b ∧ bCount m b = p.2
/-- Where the loop stands: the blocks K of boxes, the blocks S of sources, the stack. -/
structure DeepInv (P : Nat → Prop) (W : World) (N : Nat) (b : Bx N) (rb rv : Nat) (zs : List Value) (t : Nat) (v : Value) (w : World) (KL SL X : List (Nat × List Value)) (ps : List ((Nat × Nat) × Nat)) : Prop where
  own : Own [] W ((((rv, zs) :: KL) ++ SL) ++ X) w
  stack : Sl 1 ps.length v ((ps.map (·.1)).flatMap ptr) X
  nodup : (ps.map (·.1)).Nodup
  weight : (ps.map (·.2)).sum = t
  bound : t ≤ 1000000
  pend : ∀ p ∈ ps, Pend W KL p
  root : ∃ cs0, (rb, cs0) ∈ KL ∧ cs0.length = 11 ∧ RepG (koK P (KL.map (·.1))) (soK P (SL.map (·.1))) w N b cs0

/-- The least number of which something is so. -/
theorem least_ex {R : Nat → Prop} (h : ∃ k, R k) : ∃ k, R k ∧ ∀ j, R j → k ≤ j := by
  obtain ⟨k, hk⟩ := h
  induction k using Nat.strongRecOn with
  | _ k ih =>
    by_cases hj : ∃ j, j < k ∧ R j
    · obtain ⟨j, hlt, hr⟩ := hj
      exact ih j hlt hr
    · exact ⟨k, hk, fun j hr => by
        by_cases hlt : j < k
        · exact absurd ⟨j, hlt, hr⟩ hj
        · omega⟩
open Classical in
noncomputable def least (R : Nat → Prop) : Nat := if h : ∃ k, R k then (least_ex h).choose else 0
theorem least_spec {R : Nat → Prop} (h : ∃ k, R k) : R (least R) := by
  unfold least
  rw [dif_pos h]
  exact (least_ex h).choose_spec.1
theorem least_le {R : Nat → Prop} {j : Nat} (h : R j) : least R ≤ j := by
  unfold least
  rw [dif_pos ⟨j, h⟩]
  exact (least_ex ⟨j, h⟩).choose_spec.2 j h

theorem deep_start {P : Nat → Prop} {W w : World} {N : Nat} {b : Bx N} {rb rv bb : Nat} {zs cs : List Value} (hr0 : RepG (fun k _ => P k) P W N b cs) (hs : Small N b) (hc : bCount N b ≤ 1000000) (hS : Own [] W [(bb, [.pointer (some ⟨rb, 0, none⟩)]), (rv, zs), (rb, cs)] w) :
    DeepInv P W N b rb rv zs (bCount N b) (.slice (some ⟨bb, 0, none⟩) 1 1) w [(rb, cs)] [] [(bb, [.pointer (some ⟨rb, 0, none⟩)])] [((rb, 0), bCount N b)] where
  own := by
    refine hS.perm ?_
    simpa using (List.perm_append_comm (l₁ := [(bb, [.pointer (some ⟨rb, 0, none⟩)])]) (l₂ := [(rv, zs), (rb, cs)]))
  stack := ⟨rfl, .inr ⟨bb, 1, [], rfl, Nat.le_refl _, by simp [maxLen], rfl, rfl⟩⟩
  nodup := by simp
  weight := by simp
  bound := hc
  pend := fun p hp => by
    have hr : Rep W N b cs := hr0.mono (fun _ _ _ => trivial) (fun _ _ => trivial)
    obtain rfl : p = ((rb, 0), bCount N b) := by simpa using hp
    have hl := hr.len
    refine ⟨cs, N, b, by simp, rfl, by simp; omega, ?_, hs, rfl⟩
    rw [List.drop_zero, List.take_of_length_le (by omega)]
    exact hr
  root := ⟨cs, by simp, hr0.len, RepG.step hS.below N b cs (hr0.mono (fun _ _ h => .inl h) (fun _ h => .inl h))⟩

/-- The top of the stack. -/
structure Top (W : World) (rv : Nat) (zs : List Value) (v : Value) (w : World) (KL SL : List (Nat × List Value)) (rest : List ((Nat × Nat) × Nat)) (k0 o0 wt : Nat) (xb c : Nat) (ys cs : List Value) (K1 K2 : List (Nat × List Value)) (m : Nat) (a : Hd) (kids : List (Bx m)) (kx : Option Addr) (kc : Nat) (sx : Option Addr) (sc : Nat) : Prop where
  v : v = .slice (some ⟨xb, 0, none⟩) (rest.length + 1) c
  room : rest.length + 1 ≤ c
  cmax : c ≤ maxLen
  top : ys[rest.length]? = some (.pointer (some ⟨k0, o0, none⟩))
  split : KL = K1 ++ (k0, cs) :: K2
  own : Own [] W ((k0, cs) :: (xb, ys) :: (((rv, zs) :: (K1 ++ K2)) ++ SL)) w
  len : o0 + 11 ≤ cs.length
  mod : o0 % 11 = 0
  cells : (cs.drop o0).take 11 = a.cells (.slice kx kids.length kc) (.slice sx a.src.length sc)
  rep : Rep W (m + 1) (a, kids) (a.cells (.slice kx kids.length kc) (.slice sx a.src.length sc))
  srcs : RowAt W sx 1 intCells a.src
  small : Small (m + 1) (a, kids)
  count : bCount (m + 1) (a, kids) = wt
  stack : Sl 1 rest.length (.slice (some ⟨xb, 0, none⟩) rest.length c) ((rest.map (·.1)).flatMap ptr) [(xb, ys)]

theorem deep_pop {P : Nat → Prop} {W w : World} {N : Nat} {b : Bx N} {rb rv : Nat} {zs : List Value} {t : Nat} {v : Value} {KL SL X : List (Nat × List Value)} {rest : List ((Nat × Nat) × Nat)} {k0 o0 wt : Nat} (h : DeepInv P W N b rb rv zs t v w KL SL X (rest ++ [((k0, o0), wt)])) :
    ∃ xb c ys cs K1 K2 m a kids kx kc sx sc, X = [(xb, ys)] ∧ Top W rv zs v w KL SL rest k0 o0 wt xb c ys cs K1 K2 m a kids kx kc sx sc := by
  obtain ⟨hxl, hst⟩ := h.stack
  rcases hst with ⟨_, _, _, h0, _⟩ | ⟨xb, c, junk, rfl, hnc, hcm, hjl, rfl⟩
  · simp at h0
  obtain ⟨cs, m, bp, hmem, hmod, hlen, hrep, hsm, hct⟩ := h.pend ((k0, o0), wt) (by simp)
  obtain ⟨K1, K2, hsplit⟩ := List.append_of_mem hmem
  cases m with
  | zero => exact hrep.elim
  | succ m =>
    obtain ⟨a, kids⟩ := bp
    have hrep0 := hrep
    obtain ⟨kx, kc, sx, sc, hcs, hok, hkl, hrow, hso, hkids⟩ := hrep
    simp only at hcs
    have hn : (rest ++ [((k0, o0), wt)]).length = rest.length + 1 := by simp
    rw [hn] at hnc
    have hpt : ((rest ++ [((k0, o0), wt)]).map (·.1)).flatMap ptr = (rest.map (·.1)).flatMap ptr ++ [.pointer (some ⟨k0, o0, none⟩)] := by simp [ptr]
    have hrl : ((rest.map (·.1)).flatMap ptr).length = rest.length := by
      rw [flat_len (f := ptr) (size := 1) (fun _ => rfl)]; simp
    refine ⟨xb, c, _, cs, K1, K2, m, a, kids, kx, kc, sx, sc, rfl, ?_⟩
    refine { v := by rw [hn], room := hnc, cmax := hcm, top := ?_, split := hsplit, own := ?_, len := hlen, mod := hmod, cells := hcs, rep := by rw [← hcs]; exact hrep0, srcs := hrow, small := hsm, count := hct, stack := ?_ }
    · rw [hpt, List.append_assoc, List.getElem?_append_right (by omega), hrl, Nat.sub_self]; rfl
    · refine h.own.perm ?_
      rw [hsplit]
      have e1 : ((rv, zs) :: (K1 ++ (k0, cs) :: K2)).Perm ((k0, cs) :: ((rv, zs) :: (K1 ++ K2))) := by
        have h1 : ((rv, zs) :: (K1 ++ (k0, cs) :: K2)).Perm ((rv, zs) :: ((k0, cs) :: (K1 ++ K2))) := List.Perm.cons _ List.perm_middle
        exact h1.trans (List.Perm.swap _ _ _)
      have e2 := (e1.append_right SL).append_right [(xb, ((rest ++ [((k0, o0), wt)]).map (·.1)).flatMap ptr ++ junk)]
      refine e2.trans ?_
      simp only [List.cons_append]
      refine List.Perm.cons _ ?_
      have := List.perm_append_comm (l₁ := ((rv, zs) :: (K1 ++ K2 ++ SL))) (l₂ := [(xb, ((rest ++ [((k0, o0), wt)]).map (·.1)).flatMap ptr ++ junk)])
      simpa using this
    · refine ⟨by rw [hrl]; omega, .inr ⟨xb, c, [.pointer (some ⟨k0, o0, none⟩)] ++ junk, rfl, by omega, hcm, ?_, ?_⟩⟩
      · rw [← hjl, hpt]; simp
      · rw [hpt]; simp

theorem deep_len {P : Nat → Prop} {W w : World} {N : Nat} {b : Bx N} {rb rv : Nat} {zs : List Value} {t : Nat} {v : Value} {KL SL X : List (Nat × List Value)} {ps : List ((Nat × Nat) × Nat)} (h : DeepInv P W N b rb rv zs t v w KL SL X ps) : ps.length ≤ 1000000 := by
  have key : ∀ l : List ((Nat × Nat) × Nat), (∀ p ∈ l, 1 ≤ p.2) → l.length ≤ (l.map (·.2)).sum := by
    intro l
    induction l with
    | nil => intro _; simp
    | cons p l ih =>
      intro hp
      have h1 := hp p (by simp)
      have h2 := ih fun q hq => hp q (by simp [hq])
      simp only [List.length_cons, List.map_cons, List.sum_cons]
      omega
  have h1 := key ps fun p hp => by
    obtain ⟨cs, m, b, _, _, _, hr, _, hc⟩ := h.pend p hp
    cases m with
    | zero => exact hr.elim
    | succ m => rw [← hc]; simp [bCount]
  rw [h.weight] at h1
  exact Nat.le_trans h1 h.bound
theorem top_cell {cs : List Value} {o0 j : Nat} {a : Hd} {k s v : Value} (h : (cs.drop o0).take 11 = a.cells k s) (hj : (a.cells k s)[j]? = some v) : cs[o0 + j]? = some v := by
  rw [← h, List.getElem?_take] at hj
  split at hj
  · rw [List.getElem?_drop] at hj; exact hj
  · cases hj
end Go.Proofs.Ytdbcdjiclkmknaa
