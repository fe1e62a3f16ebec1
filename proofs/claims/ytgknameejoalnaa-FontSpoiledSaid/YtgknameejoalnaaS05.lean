/- Texts Law, L05a, Any, Anb, Apn. -/
import Derived.Test.YtgknameejoalnaaS00
import Derived.ProofKit
import Derived.Lib.SmallJoins
import Derived.Test.YtgknameejoalnaaS02
import Derived.Deep.DeepCutAuto
import Derived.Test.YtgknameejoalnaaS01
import Derived.ArgAppend
import Derived.Deep.MidRow
namespace Go.Proofs.Ytgknameejoalnaa
open Go.RowKit Go.ChangeShapes Go.WideShapes Go.ChangeAt

theorem Try.own : ownKnob Try.prog.godebug = none := by kernel_rfl
theorem Try.laidOut : laidOutB Try.prog = true := by kernel_rfl

/-- All arguments read as before. -/
theorem below_trodAll {H : Type} {enc : TypeId × Value → H} {P : Program} (hl : laidOutB P = true) {W W' : World} (hb : Below W.heap.size W W') (ts : List TypeId) :
    ∀ (vs : List Value) (ds : List (DataW H)) (ps : List MemPlace), (∀ t ∈ ts, P.readableRec t = true ∧ t < P.types.size) → DataW.TrodAll enc P W 0 (fun _ => true) true ts vs ds ps →
    (∀ x ∈ ps, x.block < W.heap.size) → DataW.TrodAll enc P W' 0 (fun b => decide (b < W.heap.size)) true ts vs ds ps := by
  induction ts with
  | nil => intro vs ds ps _ h _; obtain ⟨rfl, rfl, rfl⟩ := trodAll_nil h; exact rfl
  | cons t ts ih =>
    intro vs ds ps hr h hlt
    obtain ⟨v, vs', d, ds', p, q, rfl, rfl, rfl, h1, h2⟩ := trodAll_cons h
    exact ⟨p, q, Below.trod hl (hr t (by simp)).1 (hr t (by simp)).2 h1 hb (fun x hx => hlt x (by simp [hx])),
      ih vs' ds' q (fun u hu => hr u (by simp [hu])) h2 (fun x hx => hlt x (by simp [hx])), rfl⟩

/-- What the row asks behind the call of a law. -/
theorem law_post {H : Type} {enc : TypeId × Value → H} {P : Program} (hl : laidOutB P = true) {f : Func} {s : ChangeSpec} {tb : TypeId} {W W' : World} {args : Array Value} {ds gs : List (DataW H)} {before : List MemPlace}
    (hvars : s.vars = []) (hres : f.resultTypes = #[tb]) (hbool : P.underlying tb = some .bool) (hread : ∀ t ∈ f.params.toList, P.readableRec t = true ∧ t < P.types.size)
    (hspec : s.fn H (ds ++ gs) = { results := [.lit (.bool true)], args := ds }) (hW : DataW.Whole enc P f.params.toList s.vars false W args.toList ds gs before) (hb : Below W.heap.size W W') :
    s.post enc P f false true false false W args (.bool true) W' := by
  obtain ⟨p, q, hA, hV, rfl, hfz, hnd⟩ := id hW
  refine ⟨ds, gs, p ++ q, [], p, [], hW, ?_, ?_, ?_, Below.frame hb _, fun h => by cases h⟩
  · rw [hspec, hres]
    exact trodAll_mk1 (shut_bool hbool true)
  · rw [hspec]
    exact below_trodAll hl hb _ _ _ _ hread hA (fun x hx => hW.lt x (by simp [hx]))
  · rw [hspec, hvars]
    exact rfl
end Go.Proofs.Ytgknameejoalnaa
namespace Go.Proofs.Ytgknameejoalnaa
open Go.RowKit

def xG : Gly := { name := ⟨#[120]⟩, w := 500, h := 431, d := -11, it := 0, at_ := 0 }
theorem awake_val : gePair (scaledG xG 70) (scaledErr xG 70) = .tuple #[.agg #[.string ⟨#[120]⟩, .int .i64 350, .int .i64 302, .int .i64 (-8), .int .i64 0, .int .i64 0], .int .i64 0] := by kernel_rfl

set_option maxHeartbeats 400000 in
theorem awake05_calls (w : World) : Calls Try.prog 10 #[] w (Gives (.bool true) w) := by
  go_enter Try.func10, Try.ntmps10
  go_wp2_with fail
  refine (font_Scaled_calls xG 70 _).mono ?_
  rw [awake_val]
  rintro e w1 ⟨rfl, hb⟩
  go_wp2_with fail
  go_ret
  exact ⟨rfl, bnew (bthen (bself w) hb) _⟩

end Go.Proofs.Ytgknameejoalnaa
namespace Go.Proofs.Ytgknameejoalnaa
open Go.RowKit
section
variable {P : Program} {ops : Array Oper} {Q : Exit → Act → World → Prop} {rel : Nat → World → World → Prop}

/-- No way out but the normal one. -/
def Qno : Exit → Act → World → Prop := fun _ _ _ => False
/-- Whatever comes next; what operation i does to the world, rel i tells; what follows holds in all later worlds. -/
def wpK (P : Program) (ops : Array Oper) (Q : Exit → Act → World → Prop) (rel : Nat → World → World → Prop) : Nat → Array Bool → Act → World → Prop
  | 0, listed, a, w => Region.ready .any ops listed = [] ∧ Q .normal a w
  | f + 1, listed, a, w => Region.ready .any ops listed ≠ [] ∧ ∀ i ∈ Region.ready .any ops listed,
      wpOp P ops Qno i (fun a' w' => rel i w w' ∧ ∀ w'', Below w'.heap.size w' w'' → wpK P ops Q rel f (listed.setIfInBounds i true) a' w'') a w

theorem Oper.wp_of_no {o : Oper} {a : Act} {w : World} {K : Act → World → Prop} (h : o.wp P a w K Qno) : o.wp P a w K Q := by
  unfold Oper.wp Oper.upon at *
  generalize (execOp a.eval o).run P w = r at *
  cases r with
  | ok n w' =>
    cases n <;> first
      | exact h
      | exact Calls.mono h (fun e w'' he => by
          cases e with
          | returned v => exact he
          | panicked c => exact he.elim
          | outgrown => obtain ⟨_, _, h⟩ := he; exact h.elim)
  | halt x w' => cases x <;> first | exact h | exact h.elim
theorem wpOp_of_no {i : Nat} {a : Act} {w : World} {K : Act → World → Prop} (h : wpOp P ops Qno i K a w) : wpOp P ops Q i K a w := by
  unfold wpOp at *
  split
  · rename_i ho; simpa only [ho] using h
  · rename_i o ho
    simp only [ho] at h
    split
    · rename_i hw
      simp only [hw, if_true] at h
      rcases h with h | ⟨_, _, _, h⟩
      · exact .inl (Oper.wp_of_no h)
      · exact h.elim
    · rename_i hw; simp only [hw] at h; exact h
theorem wpAny_of_wpK : ∀ (f : Nat) (listed : Array Bool) (a : Act) (w : World), wpK P ops Q rel f listed a w → wpAny P .any ops Q f listed a w := by
  intro f
  induction f with
  | zero => intro listed a w h; exact h
  | succ f ih =>
    intro listed a w h
    exact ⟨fun h0 => absurd h0 h.1, fun i hi => wpOp_mono (fun a' w' h' => ih _ _ _ (h'.2 w' (bself w'))) (wpOp_of_no (h.2 i hi))⟩

/-- Operation j in a frame in which operation i has yielded, and in the frame in which it has not. -/
theorem wpOp_unput {C : World → Prop} {j : Nat} {oi oj : Oper} {v : Value} (hj : ops[j]? = some oj) (hap : oi.apart ops oj = true) (hsi : ∀ cs b, oi.op ≠ .select cs b) (hsj : ∀ cs b, oj.op ≠ .select cs b)
    {K : Act → World → Prop} {a : Act} {w : World} (hy : GivesIn P ops C oi v a) (h : wpOp P ops Qno j K (a.put oi.dst v) w) :
    wpOp P ops Qno j (fun a' w' => GivesIn P ops C oi v a' ∧ K (a'.put oi.dst v) w') a w := by
  obtain ⟨h1, h2, h3⟩ := Oper.apart_spec hap
  have keep : ∀ (a : Act), GivesIn P ops C oi v a → ∀ u, GivesIn P ops C oi v (a.put oj.dst u) := fun a hy u =>
    hy.of_same (execOp_put oi hsi a oj.dst u h3) (wanted_put oi a oj.dst u h3)
  have comm : ∀ (a : Act) (u : Value), (a.put oi.dst v).put oj.dst u = (a.put oj.dst u).put oi.dst v := fun a u => Act.put_comm a v u h2
  unfold wpOp at *
  simp only [hj] at *
  rw [wanted_put oj a oi.dst v h1] at h
  by_cases hw : Region.wanted oj (yielded ops a.tmps) = true
  · simp only [hw, if_true] at h ⊢
    rcases h with h | ⟨_, _, _, h⟩
    case inr => exact h.elim
    refine .inl ?_
    unfold Oper.wp at *
    rw [execOp_put oj hsj a oi.dst v h1] at h
    generalize (execOp a.eval oj).run P w = r at *
    cases r with
    | halt x w' => cases x <;> exact h
    | ok n w' =>
      cases n <;> simp only [Oper.upon] at h ⊢
      case value u => exact ⟨keep a hy u, by rw [← comm]; exact h⟩
      case skip => exact ⟨keep a hy _, by rw [← comm]; exact h⟩
      case defer d =>
        refine ⟨keep { a with defers := d :: a.defers } (GivesIn.of_same (a := a) hy rfl rfl) undef, ?_⟩
        rw [← comm, ← Act.put_defers]
        exact h
      case enter f args =>
        refine Calls.mono h fun e w'' he => ?_
        cases e with
        | returned u => exact ⟨keep a hy u, by rw [← comm]; exact he⟩
        | panicked c => exact he
        | outgrown => exact he
      case row r args =>
        refine Rows.mono h fun u w'' he => ?_
        exact ⟨keep a hy u, by rw [← comm]; exact he⟩
  · simp only [hw] at h ⊢
    exact ⟨keep a hy _, by rw [← comm]; exact h⟩

/-- Operation j waits for operation i, straight or through others, in at most so many steps. -/
def DepN (ops : Array Oper) (i : Nat) : Nat → Nat → Prop
  | 0, _ => False
  | f + 1, j => ∃ (oj : Oper) (e : Edge), ops[j]? = some oj ∧ e ∈ oj.after ∧ Region.binds .any e = true ∧ (e.on = i ∨ DepN ops i f e.on)
def Dep (ops : Array Oper) (i j : Nat) : Prop := ∃ f, DepN ops i f j
theorem Dep.straight {ops : Array Oper} {i j : Nat} {oj : Oper} {e : Edge} (hj : ops[j]? = some oj) (he : e ∈ oj.after) (hb : Region.binds .any e = true) (h : e.on = i) : Dep ops i j := ⟨1, oj, e, hj, he, hb, .inl h⟩
theorem Dep.through {ops : Array Oper} {i j : Nat} {oj : Oper} {e : Edge} (hj : ops[j]? = some oj) (he : e ∈ oj.after) (hb : Region.binds .any e = true) (h : Dep ops i e.on) : Dep ops i j :=
  let ⟨f, hf⟩ := h
  ⟨f + 1, oj, e, hj, he, hb, .inr hf⟩
/-- What is listed is so with all that it waits for. -/
def Closed (ops : Array Oper) (listed : Array Bool) : Prop := ∀ j oj, ops[j]? = some oj → listed.getD j false = true → ∀ e ∈ oj.after, Region.binds .any e = true → listed.getD e.on false = true
theorem DepN.listed {i : Nat} {listed : Array Bool} (hc : Closed ops listed) : ∀ (f j : Nat), DepN ops i f j → listed.getD j false = true → listed.getD i false = true := by
  intro f
  induction f with
  | zero => intro j h; exact h.elim
  | succ f ih =>
    rintro j ⟨oj, e, hj, he, hb, h⟩ hl
    have h1 := hc _ _ hj hl _ he hb
    rcases h with h | h
    · rw [← h]; exact h1
    · exact ih _ h h1
theorem Dep.ready {i j : Nat} {listed : Array Bool} (hc : Closed ops listed) (h : Dep ops i j) (hr : j ∈ Region.ready .any ops listed) : listed.getD i false = true := by
  obtain ⟨_, o, ho, hall⟩ := mem_ready.1 hr
  obtain ⟨f, hf⟩ := h
  cases f with
  | zero => exact hf.elim
  | succ f =>
    obtain ⟨oj, e, hj, he, hb, h⟩ := hf
    have := Option.some.inj (hj.symm.trans ho)
    subst this
    rcases h with h | h
    · rw [← h]; exact hall _ he hb
    · exact h.listed hc _ _ (hall _ he hb)
theorem Closed.set {i : Nat} {listed : Array Bool} (hc : Closed ops listed) (hi : i ∈ Region.ready .any ops listed) : Closed ops (listed.setIfInBounds i true) := by
  obtain ⟨_, oi, hoi, hall⟩ := mem_ready.1 hi
  intro j oj hj hl e he hb
  by_cases hij : i = j
  · subst hij
    have := Option.some.inj (hj.symm.trans hoi)
    subst this
    exact getD_set_true (hall e he hb)
  · rw [getD_set_ne false hij] at hl
    exact getD_set_true (hc j oj hj hl e he hb)

/-- An operation that is ready and gives one value in every world of a class may be taken first. -/
theorem wpK_first {C0 : World → Prop} (h0 : ∀ w w', C0 w → Below w.heap.size w w' → C0 w') {i : Nat} (hri : ∀ w w', Below w.heap.size w w' → rel i w w') {oi : Oper} {v : Value} (hi : ops[i]? = some oi) (hsel : Region.noSelect ops = true) (f : Nat) :
    ∀ (listed : Array Bool) (a : Act) (C : World → Prop), (∀ w, C w → C0 w) → (∀ w w', C w → Below w.heap.size w w' → C w') → Closed ops listed →
      (∀ j oj, ops[j]? = some oj → j ≠ i → listed.getD j true = false → ¬ Dep ops i j → oi.apart ops oj = true ∧ ∀ w w', C0 w → rel j w w' → C0 w') →
      i ∈ Region.ready .any ops listed → GivesIn P ops C0 oi v a →
      (∀ w, C w → wpK P ops Q rel f (listed.setIfInBounds i true) (a.put oi.dst v) w) → ∀ w, C w → wpK P ops Q rel (f + 1) listed a w := by
  have hsel' := Region.noSelect_spec hsel
  induction f with
  | zero =>
    intro listed a C hCC hCB hcl hfree hr hy H w hw
    refine ⟨List.ne_nil_of_mem hr, fun j hj => ?_⟩
    by_cases hji : j = i
    · subst hji
      unfold wpOp
      simp only [hi]
      rcases hy with ⟨hwt, hg⟩ | ⟨hwt, rfl⟩
      · simp only [hwt, if_true]
        refine .inl ?_
        have h2 := hg w (hCC w hw)
        unfold givesAt at h2
        unfold Oper.wp
        generalize (execOp a.eval oi).run P w = r at *
        cases r with
        | ok n w' =>
          cases n <;> simp only [givesUpon] at h2 <;> simp only [Oper.upon]
          case value u => obtain ⟨rfl, rfl⟩ := h2; exact ⟨hri _ _ (bself _), fun w'' h' => H _ (hCB _ _ hw h')⟩
          case skip => obtain ⟨rfl, rfl⟩ := h2; exact ⟨hri _ _ (bself _), fun w'' h' => H _ (hCB _ _ hw h')⟩
          case enter f args =>
            obtain ⟨rfl, hc⟩ := h2
            exact hc.mono fun e w'' ⟨he, hb⟩ => by subst he; exact ⟨hri _ _ hb, fun w3 h' => H _ (hCB _ _ (hCB _ _ hw hb) h')⟩
        | halt x w' => simp only [givesUpon] at h2
      · simp only [hwt, Bool.false_eq_true, if_false]
        exact ⟨hri _ _ (bself _), fun w'' h' => H _ (hCB _ _ hw h')⟩
    · have h1 := (H w hw).1
      have h2 := ready_mono hj hji
      rw [h1] at h2
      cases h2
  | succ f ih =>
    intro listed a C hCC hCB hcl hfree hr hy H w hw
    refine ⟨List.ne_nil_of_mem hr, fun j hj => ?_⟩
    by_cases hji : j = i
    · subst hji
      unfold wpOp
      simp only [hi]
      rcases hy with ⟨hwt, hg⟩ | ⟨hwt, rfl⟩
      · simp only [hwt, if_true]
        refine .inl ?_
        have h2 := hg w (hCC w hw)
        unfold givesAt at h2
        unfold Oper.wp
        generalize (execOp a.eval oi).run P w = r at *
        cases r with
        | ok n w' =>
          cases n <;> simp only [givesUpon] at h2 <;> simp only [Oper.upon]
          case value u => obtain ⟨rfl, rfl⟩ := h2; exact ⟨hri _ _ (bself _), fun w'' h' => H _ (hCB _ _ hw h')⟩
          case skip => obtain ⟨rfl, rfl⟩ := h2; exact ⟨hri _ _ (bself _), fun w'' h' => H _ (hCB _ _ hw h')⟩
          case enter f args =>
            obtain ⟨rfl, hc⟩ := h2
            exact hc.mono fun e w'' ⟨he, hb⟩ => by subst he; exact ⟨hri _ _ hb, fun w3 h' => H _ (hCB _ _ (hCB _ _ hw hb) h')⟩
        | halt x w' => simp only [givesUpon] at h2
      · simp only [hwt, Bool.false_eq_true, if_false]
        exact ⟨hri _ _ (bself _), fun w'' h' => H _ (hCB _ _ hw h')⟩
    · obtain ⟨hjun, oj, hoj, hall⟩ := mem_ready.1 hj
      have hun := (mem_ready.1 hr).1
      have hnd : ¬ Dep ops i j := fun hd => by
        have h1 := hd.ready hcl hj
        rw [getD_both hun] at h1
        cases h1
      obtain ⟨hap, hsp⟩ := hfree j oj hoj hji hjun hnd
      have hH := (H w hw).2 j (ready_mono hj hji)
      refine wpOp_mono (fun a' w' h3 => ?_) (wpOp_unput hoj hap (fun cs b => hsel' i oi cs b hi) (fun cs b => hsel' j oj cs b hoj) hy hH)
      refine ⟨h3.2.1, fun w'' hb'' => ?_⟩
      refine ih (listed.setIfInBounds j true) a' (fun x => Below w'.heap.size w' x) (fun x hx => ?_) (fun x y hx hxy => bthen hx hxy) (hcl.set hj) ?_ (ready_mono hr (Ne.symm hji)) h3.1 ?_ w'' hb''
      · exact h0 _ _ (hsp _ _ (hCC _ hw) h3.2.1) hx
      · intro k ok hk hki hunk hno
        refine hfree k ok hk hki ?_ hno
        by_cases hjk : j = k
        · subst hjk; exact hjun
        · rw [getD_set_ne true hjk] at hunk; exact hunk
      · intro x hx
        rw [Array.setIfInBounds_comm _ _ hji]
        exact h3.2.2 x hx

/-- What is done, the last first. -/
def mk (m : Nat) : List Nat → Array Bool
  | [] => Array.replicate m false
  | i :: done => (mk m done).setIfInBounds i true
/-- What waits for operation i. -/
def waitSet (ops : Array Oper) (i : Nat) : Nat → List Nat
  | 0 => []
  | j + 1 => let s := waitSet ops i j; if (match ops[j]? with | some oj => oj.after.any fun e => Region.binds .any e && (e.on == i || s.contains e.on) | none => false) then j :: s else s
theorem waitSet_dep {i : Nat} : ∀ (n j : Nat), j ∈ waitSet ops i n → Dep ops i j := by
  intro n
  induction n with
  | zero => intro j h; cases h
  | succ n ih =>
    intro j h
    simp only [waitSet] at h
    by_cases hc : (match ops[n]? with | some oj => oj.after.any fun e => Region.binds .any e && (e.on == i || (waitSet ops i n).contains e.on) | none => false) = true
    · rw [if_pos hc] at h
      rcases List.mem_cons.1 h with rfl | h
      · split at hc
        · rename_i oj hoj
          obtain ⟨e, he, h1⟩ := Array.any_eq_true'.1 hc
          simp only [Bool.and_eq_true, Bool.or_eq_true, beq_iff_eq, List.contains_iff_mem] at h1
          rcases h1.2 with h2 | h2
          · exact .straight hoj he h1.1 h2
          · exact .through hoj he h1.1 (ih _ h2)
        · cases hc
      · exact ih j h
    · rw [if_neg hc] at h
      exact ih j h
/-- The operations of the list may be taken, one after the other. -/
def batchB (ops : Array Oper) (ok okj : Nat → Bool) : List Nat → List Nat → Bool
  | _, [] => true
  | done, i :: is => ok i && (Region.ready .any ops (mk ops.size done)).contains i &&
      (match ops[i]? with
        | none => false
        | some oi => (List.range ops.size).all fun j => j == i || done.contains j || (waitSet ops i ops.size).contains j || match ops[j]? with | some oj => oi.apart ops oj && okj j | none => true) &&
      batchB ops ok okj (i :: done) is
theorem mk_get {m : Nat} {done : List Nat} {j : Nat} (hj : j < m) : (mk m done).getD j true = done.contains j := by
  induction done with
  | nil => simp [mk, hj]
  | cons i done ih =>
    unfold mk
    by_cases h : i = j
    · subst h
      have hs : ∀ l : List Nat, (mk m l).size = m := fun l => by induction l <;> simp [mk, *]
      simp [hs, hj]
    · rw [getD_set_ne true h, ih]
      have : ¬ j = i := fun e => h e.symm
      simp [this]
theorem closed_nil (m : Nat) : Closed ops (mk m []) := fun j oj _ hl => by
  unfold mk at hl
  rw [getD_replicate_false] at hl
  cases hl

theorem batch_go {ok okj : Nat → Bool} {C0 C : World → Prop} (h0 : ∀ w w', C0 w → Below w.heap.size w w' → C0 w') (hCC : ∀ w, C w → C0 w) (hCB : ∀ w w', C w → Below w.heap.size w w' → C w')
    (hok : ∀ i, ok i = true → ∀ w w', Below w.heap.size w w' → rel i w w') (hokj : ∀ j, okj j = true → ∀ w w', C0 w → rel j w w' → C0 w') (hsel : Region.noSelect ops = true) {n : Nat} :
    ∀ (is : List Nat) (done : List Nat) (a : Act), Closed ops (mk ops.size done) → batchB ops ok okj done is = true →
    wpG P ops C0 (fun a' => ∀ w', C w' → wpK P ops Q rel n (mk ops.size (is.reverse ++ done)) a' w') (is.filterMap (fun i => ops[i]?)) a →
    ∀ w, C w → wpK P ops Q rel (n + is.length) (mk ops.size done) a w := by
  intro is
  induction is with
  | nil => intro done a _ _ h w hw; exact h w hw
  | cons i is ih =>
    intro done a hcl hB h w hw
    simp only [batchB, Bool.and_eq_true] at hB
    obtain ⟨⟨⟨hk, hr⟩, hm⟩, hB⟩ := hB
    have hr' : i ∈ Region.ready .any ops (mk ops.size done) := by simpa using hr
    cases hi : ops[i]? with
    | none => rw [hi] at hm; cases hm
    | some oi =>
      rw [hi] at hm
      simp only [List.filterMap_cons, hi] at h
      obtain ⟨v, hg, h⟩ := h
      have hx : (i :: is).reverse ++ done = is.reverse ++ (i :: done) := by simp
      rw [hx] at h
      refine wpK_first h0 (hok i hk) hi hsel (n + is.length) (mk ops.size done) a C hCC hCB hcl ?_ hr' hg (fun w hw => ih (i :: done) _ (hcl.set hr') hB h w hw) w hw
      intro j oj hj hji hun hnd
      have hjs : j < ops.size := (Array.getElem?_eq_some_iff.1 hj).1
      have h1 := List.all_eq_true.1 hm j (List.mem_range.2 hjs)
      rw [mk_get hjs] at hun
      rw [hj, hun] at h1
      have h2 : (waitSet ops i ops.size).contains j = false := by
        cases hw : (waitSet ops i ops.size).contains j with
        | false => rfl
        | true => exact absurd (waitSet_dep _ _ (by simpa using hw)) hnd
      rw [h2] at h1
      have h3 : oi.apart ops oj = true ∧ okj j = true := by simpa [hji] using h1
      exact ⟨h3.1, hokj j h3.2⟩

/-- Operation i comes now. -/
def PointK (P : Program) (ops : Array Oper) (Q : Exit → Act → World → Prop) (rel : Nat → World → World → Prop) (n : Nat) (done : List Nat) (i : Nat) (a : Act) (w : World) : Prop :=
  wpOp P ops Qno i (fun a' w' => rel i w w' ∧ ∀ w'', Below w'.heap.size w' w'' → wpK P ops Q rel n (mk ops.size (i :: done)) a' w'') a w
theorem point_go {n : Nat} {done : List Nat} {a : Act} {w : World} (i : Nat) {oi : Oper} (hi : ops[i]? = some oi)
    (h : wpList P ops (fun e a' w' => e = .normal ∧ rel i w w' ∧ ∀ w'', Below w'.heap.size w' w'' → wpK P ops Q rel n (mk ops.size (i :: done)) a' w'') [oi] a w) : PointK P ops Q rel n done i a w := by
  unfold PointK wpOp
  simp only [hi]
  unfold wpList at h
  by_cases hwt : Region.wanted oi (yielded ops a.tmps) = true
  · simp only [hwt, if_true] at h ⊢
    rcases h with h | ⟨_, _, _, h⟩
    · refine .inl ?_
      unfold Oper.wp Oper.upon at h ⊢
      generalize (execOp a.eval oi).run P w = r at h ⊢
      cases r with
      | ok x w' =>
        cases x with
        | enter f args =>
          refine Calls.mono h (fun e w'' he => ?_)
          cases e with
          | returned u => exact he.2
          | panicked c => exact absurd he.1 (by simp)
          | outgrown => obtain ⟨_, _, he, _⟩ := he; exact absurd he (by simp)
        | row r args => exact Rows.mono h (fun _ _ he => he.2)
        | value u => exact h.2
        | skip => exact h.2
        | defer d => exact h.2
        | _ => exact h
      | halt x w' => cases x <;> first | exact h | exact absurd h.1 (by simp)
    · exact absurd h.1 (by simp)
  · simp only [hwt] at h ⊢
    exact h.2
/-- One operation alone can come; two can come. -/
theorem wpK_one {n : Nat} {done : List Nat} {a : Act} {w : World} {i : Nat} (hr : Region.ready .any ops (mk ops.size done) = [i]) (h : PointK P ops Q rel n done i a w) : wpK P ops Q rel (n + 1) (mk ops.size done) a w := by
  refine ⟨by rw [hr]; simp, fun j hj => ?_⟩
  rw [hr] at hj
  obtain rfl : j = i := by simpa using hj
  exact h
end
section
variable {P : Program} {l : List Oper} {Q : Exit → Act → World → Prop} {D : List Nat} {W w : World} {L : List (Nat × List Value)} {a : Act}

/-- A list that tells what the call owns, and what a part of the call has made. -/
theorem Own.join {L1 : List (Nat × List Value)} {w' : World} (hS : Own D W L w) (h1 : Own [] w L1 w') : Own D W (L1 ++ L) w' := by
  have h2 := hS.step h1.below
  refine ⟨h2.os, h2.tape, h2.output, h2.size, h2.block, fun x hx => ?_, fun x hx => ?_, ?_⟩
  · rcases List.mem_append.1 hx with hx | hx
    · exact h1.has x hx
    · exact h2.has x hx
  · rcases List.mem_append.1 hx with hx | hx
    · rcases h1.ge x hx with h | h
      · cases h
      · exact .inr (Nat.le_trans hS.size h)
    · exact h2.ge x hx
  · rw [List.map_append, List.nodup_append]
    refine ⟨h1.apart, hS.apart, fun x hx y hy he => ?_⟩
    obtain ⟨p, hp, rfl⟩ := List.mem_map.1 hx
    obtain ⟨q, hq, rfl⟩ := List.mem_map.1 hy
    have hl := (hS.has q hq).lt
    rcases h1.ge p hp with h | h
    · cases h
    · omega

/-- What an operation of a region may do to the world: a hard one, anything; a middling one, whatever leaves the blocks up to B alone; any other makes memory at most. -/
def relOf (B : Nat) (mid hard : List Nat) (i : Nat) (w w' : World) : Prop := if hard.contains i then True else if mid.contains i then Below B w w' else Below w.heap.size w w'
theorem relOf_soft {B : Nat} {mid hard : List Nat} {i : Nat} (h : (!hard.contains i && !mid.contains i) = true) : relOf B mid hard i = fun w w' => Below w.heap.size w w' := by
  simp only [Bool.and_eq_true, Bool.not_eq_true'] at h
  unfold relOf
  rw [h.1, h.2]
  rfl
theorem relOf_hard {B : Nat} {mid hard : List Nat} {i : Nat} (h : hard.contains i = true) (w w' : World) : relOf B mid hard i w w' := by
  unfold relOf
  rw [if_pos h]
  trivial
theorem Own.stepB {B : Nat} {w w' : World} (hS : Own D W L w) (hW : W.heap.size ≤ B) (hL : ∀ x ∈ L, x.1 < B) (hb : Below B w w') : Own D W L w' where
  os := hb.os.trans hS.os
  tape := hb.tape.trans hS.tape
  output := hb.output.trans hS.output
  size := Nat.le_trans hS.size hb.size
  block := fun k hk hd => (hb.block k (Nat.lt_of_lt_of_le hk hW)).trans (hS.block k hk hd)
  has := fun x hx => (hS.has x hx).belowB hb (hL x hx)
  ge := hS.ge
  apart := hS.apart

/-- A region that draws its order: B, the middling and the hard operations are named. -/
theorem own_anyM {id : Nat} (hS : Own D W L w) (mid hard : List Nat) (n : Nat) (hm : P.follows .mixedOrders = true) (hB : (decide (l.length = n) && Region.noSelect l.toArray) = true)
    (h : Closed l.toArray (mk l.toArray.size []) → ∀ w', Own D W L w' → w.heap.size ≤ w'.heap.size → wpK P l.toArray Q (relOf w.heap.size mid hard) n (mk l.toArray.size []) a w') : (Code.region id l.toArray true).wp P Q a w := by
  simp only [Bool.and_eq_true, decide_eq_true_eq] at hB
  obtain ⟨rfl, hsel⟩ := hB
  refine wp_region_any hm ?_
  have := wpAny_of_wpK _ _ _ _ (h (closed_nil _) _ hS.drew (Nat.le_refl _))
  rw [← List.size_toArray] at this
  exact this
theorem own_any {id : Nat} (hS : Own D W L w) (hard : List Nat) (n : Nat) (hm : P.follows .mixedOrders = true) (hB : (decide (l.length = n) && Region.noSelect l.toArray) = true)
    (h : Closed l.toArray (mk l.toArray.size []) → ∀ w', Own D W L w' → wpK P l.toArray Q (relOf w.heap.size [] hard) n (mk l.toArray.size []) a w') : (Code.region id l.toArray true).wp P Q a w :=
  own_anyM hS [] hard n hm hB fun hc w' hw' _ => h hc w' hw'
theorem wpG_mono {C : World → Prop} {ops : Array Oper} : ∀ (l' : List Oper) (R R' : Act → Prop) (a : Act), (∀ a, R a → R' a) → wpG P ops C R l' a → wpG P ops C R' l' a := by
  intro l'
  induction l' with
  | nil => intro R R' a hR h; exact hR a h
  | cons o l' ih => intro R R' a hR ⟨v, h1, h2⟩; exact ⟨v, h1, ih R R' _ hR h2⟩
theorem batch_closed {ops : Array Oper} {ok okj : Nat → Bool} : ∀ (is done : List Nat), Closed ops (mk ops.size done) → batchB ops ok okj done is = true → Closed ops (mk ops.size (is.reverse ++ done)) := by
  intro is
  induction is with
  | nil => intro done h _; exact h
  | cons i is ih =>
    intro done h hb
    simp only [batchB, Bool.and_eq_true] at hb
    have := ih (i :: done) (h.set (by simpa using hb.1.1.2)) hb.2
    simpa using this
section
variable {B : Nat} {mid hard : List Nat} {m : Nat} {done : List Nat}
/-- Quiet operations. -/
theorem own_batch (hS : Own D W L w) (is : List Nat) (n : Nat) (hmn : n + is.length = m) (hcl : Closed l.toArray (mk l.toArray.size done)) (hB : (Region.noSelect l.toArray && batchB l.toArray (fun i => !hard.contains i && !mid.contains i) (fun i => !hard.contains i && !mid.contains i) done is) = true)
    (h : wpG P l.toArray (fun w' => Own D W L w') (fun a' => Closed l.toArray (mk l.toArray.size (is.reverse ++ done)) → ∀ w', Own D W L w' → wpK P l.toArray Q (relOf B mid hard) n (mk l.toArray.size (is.reverse ++ done)) a' w') (is.filterMap (fun i => l.toArray[i]?)) a) :
    wpK P l.toArray Q (relOf B mid hard) m (mk l.toArray.size done) a w := by
  subst hmn
  simp only [Bool.and_eq_true] at hB
  exact batch_go (C0 := fun w' => Own D W L w') (C := fun w' => Own D W L w') (fun _ _ h hb => h.step hb) (fun _ h => h) (fun _ _ h hb => h.step hb) (fun i hi w w' hb => by rw [relOf_soft hi]; exact hb) (fun i hi w w' hC hb => by rw [relOf_soft hi] at hb; exact hC.step hb) hB.1 is done a hcl hB.2
    (wpG_mono _ _ _ _ (fun a' h' w' hw' => h' (batch_closed is done hcl hB.2) w' hw') h) w hS
/-- Quiet operations that look at old blocks alone (those below B). -/
theorem own_batchM (hS : Own D W L w) (hW : W.heap.size ≤ B) (hL : ∀ x ∈ L, x.1 < B) (is : List Nat) (n : Nat) (hmn : n + is.length = m) (hcl : Closed l.toArray (mk l.toArray.size done)) (hB : (Region.noSelect l.toArray && batchB l.toArray (fun i => !hard.contains i && !mid.contains i) (fun i => !hard.contains i) done is) = true)
    (h : wpG P l.toArray (fun w' => Own D W L w') (fun a' => Closed l.toArray (mk l.toArray.size (is.reverse ++ done)) → ∀ w', Own D W L w' → wpK P l.toArray Q (relOf B mid hard) n (mk l.toArray.size (is.reverse ++ done)) a' w') (is.filterMap (fun i => l.toArray[i]?)) a) :
    wpK P l.toArray Q (relOf B mid hard) m (mk l.toArray.size done) a w := by
  subst hmn
  simp only [Bool.and_eq_true] at hB
  refine batch_go (C0 := fun w' => Own D W L w') (C := fun w' => Own D W L w') (fun _ _ h hb => h.step hb) (fun _ h => h) (fun _ _ h hb => h.step hb) (fun i hi w w' hb => by rw [relOf_soft hi]; exact hb) (fun i hi w w' hC hb => ?_) hB.1 is done a hcl hB.2
    (wpG_mono _ _ _ _ (fun a' h' w' hw' => h' (batch_closed is done hcl hB.2) w' hw') h) w hS
  unfold relOf at hb
  rw [if_neg (by simpa using hi)] at hb
  split at hb
  · exact hC.stepB hW hL hb
  · exact hC.step hb
theorem wpList_mono {ops : Array Oper} {Q Q' : Exit → Act → World → Prop} (hQ : ∀ e a w, Q e a w → Q' e a w) : ∀ (l : List Oper) (a : Act) (w : World), wpList P ops Q l a w → wpList P ops Q' l a w := by
  intro l
  induction l with
  | nil => intro a w h; exact hQ _ _ _ h
  | cons o l ih =>
    intro a w h
    unfold wpList at h ⊢
    by_cases hw : Region.wanted o (yielded ops a.tmps) = true
    · simp only [hw, if_true] at h ⊢
      rcases h with h | ⟨h1, a0, w0, h2⟩
      · refine .inl ?_
        unfold Oper.wp Oper.upon at *
        generalize (execOp a.eval o).run P w = r at *
        cases r with
        | halt x w' => cases x <;> first | exact h | exact hQ _ _ _ h
        | ok x w' =>
          cases x with
          | enter f args =>
            refine Calls.mono h (fun e w'' he => ?_)
            cases e with
            | returned u => exact ih _ _ he
            | panicked c => exact hQ _ _ _ he
            | outgrown => obtain ⟨a0, w0, he⟩ := he; exact ⟨a0, w0, hQ _ _ _ he⟩
          | row r args => exact Rows.mono h (fun _ _ he => ih _ _ he)
          | value u => exact ih _ _ h
          | skip => exact ih _ _ h
          | defer d => exact ih _ _ h
          | _ => exact h
      · exact .inr ⟨h1, a0, w0, hQ _ _ _ h2⟩
    · simp only [hw] at h ⊢
      exact ih _ _ h
theorem Closed.next {i : Nat} (hcl : Closed l.toArray (mk l.toArray.size done)) (hr : (Region.ready .any l.toArray (mk l.toArray.size done)).contains i = true) : Closed l.toArray (mk l.toArray.size (i :: done)) := hcl.set (by simpa using hr)
/-- An operation that makes memory at most. -/
theorem soft_pt (hS : Own D W L w) (i : Nat) {oi : Oper} (hi : l.toArray[i]? = some oi) (hs : (!hard.contains i && !mid.contains i) = true)
    (h : Own [] w [] w → wpList P l.toArray (fun e a' w' => e = .normal ∧ ∃ L1, Own [] w L1 w' ∧ ∀ w'', Own D W (L1 ++ L) w'' → wpK P l.toArray Q (relOf B mid hard) m (mk l.toArray.size (i :: done)) a' w'') [oi] a w) :
    PointK P l.toArray Q (relOf B mid hard) m done i a w :=
  point_go i hi (wpList_mono (fun e a' w' ⟨he, L1, h1, h2⟩ => ⟨he, by rw [relOf_soft hs]; exact h1.below, fun w'' hb => h2 w'' ((hS.join h1).step hb)⟩) _ _ _ (h (own_start w)))
/-- An operation that may do anything to what the call owns. -/
theorem hard_pt (i : Nat) {oi : Oper} (hi : l.toArray[i]? = some oi) (hs : hard.contains i = true)
    (h : wpList P l.toArray (fun e a' w' => e = .normal ∧ ∃ L1, Own D W L1 w' ∧ ∀ w'', Own D W L1 w'' → wpK P l.toArray Q (relOf B mid hard) m (mk l.toArray.size (i :: done)) a' w'') [oi] a w) :
    PointK P l.toArray Q (relOf B mid hard) m done i a w :=
  point_go i hi (wpList_mono (fun _ _ _ ⟨he, _, h1, h2⟩ => ⟨he, relOf_hard hs _ _, fun w'' hb => h2 w'' (h1.step hb)⟩) _ _ _ h)
/-- An operation that writes to the blocks K alone, which have been made since the region began. -/
theorem mid_pt {K : List (Nat × List Value)} (hS : Own D W (K ++ L) w) (hK : ∀ x ∈ K, B ≤ x.1) (hBw : B ≤ w.heap.size) (i : Nat) {oi : Oper} (hi : l.toArray[i]? = some oi) (hs : (!hard.contains i && mid.contains i) = true)
    (h : Own (K.map (·.1)) w K w → wpList P l.toArray (fun e a' w' => e = .normal ∧ ∃ L1, Own (K.map (·.1)) w L1 w' ∧ ∀ w'', Own D W (L1 ++ L) w'' → wpK P l.toArray Q (relOf B mid hard) m (mk l.toArray.size (i :: done)) a' w'') [oi] a w) :
    PointK P l.toArray Q (relOf B mid hard) m done i a w := by
  have hSK : Own D W K w := hS.forget (List.sublist_append_left _ _)
  have hSL : Own D W L w := hS.forget (List.sublist_append_right _ _)
  have hdis : ∀ x ∈ L, x.1 ∉ K.map (·.1) := by
    have h0 := hS.apart
    rw [List.map_append, List.nodup_append] at h0
    intro x hx hk
    exact h0.2.2 _ hk _ (List.mem_map_of_mem hx) rfl
  refine point_go i hi (wpList_mono (fun e a' w' ⟨he, L1, h1, h2⟩ => ⟨he, ?_, fun w'' hb => h2 w'' (Own.step ?_ hb)⟩) _ _ _ (h hSK.rebase))
  · simp only [Bool.and_eq_true, Bool.not_eq_true'] at hs
    unfold relOf
    rw [hs.1, hs.2]
    refine ⟨h1.os, h1.tape, h1.output, h1.size, fun k hk => h1.block k (Nat.lt_of_lt_of_le hk hBw) (fun hm => ?_)⟩
    obtain ⟨x, hx, rfl⟩ := List.mem_map.1 hm
    have := hK x hx
    omega
  · have hL' : ∀ x ∈ L, Has w' x.1 x.2 := fun x hx => h1.hasOld (hdis x hx) (hSL.has x hx)
    refine ⟨h1.os.trans hS.os, h1.tape.trans hS.tape, h1.output.trans hS.output, Nat.le_trans hS.size h1.size, fun k hk hd => ?_, fun x hx => ?_, fun x hx => ?_, ?_⟩
    · rw [h1.block k (Nat.lt_of_lt_of_le hk hS.size) (fun hm => ?_)]
      · exact hS.block k hk hd
      · obtain ⟨x, hx, rfl⟩ := List.mem_map.1 hm
        rcases hSK.ge x hx with h | h
        · exact hd h
        · omega
    · rcases List.mem_append.1 hx with hx | hx
      · exact h1.has x hx
      · exact hL' x hx
    · rcases List.mem_append.1 hx with hx | hx
      · rcases h1.ge x hx with h | h
        · obtain ⟨y, hy, he⟩ := List.mem_map.1 h
          rw [← he]; exact hSK.ge y hy
        · exact .inr (Nat.le_trans hS.size h)
      · exact hSL.ge x hx
    · rw [List.map_append, List.nodup_append]
      refine ⟨h1.apart, hSL.apart, fun x hx y hy he => ?_⟩
      obtain ⟨p, hp, rfl⟩ := List.mem_map.1 hx
      obtain ⟨q, hq, rfl⟩ := List.mem_map.1 hy
      rcases h1.ge p hp with h | h
      · rw [he] at h; exact hdis q hq h
      · have := (hSL.has q hq).lt; omega
theorem own_soft (hS : Own D W L w) (i : Nat) {oi : Oper} (hcl : Closed l.toArray (mk l.toArray.size done)) (hi : l.toArray[i]? = some oi) (hr : (decide (Region.ready .any l.toArray (mk l.toArray.size done) = [i]) && (!hard.contains i && !mid.contains i)) = true)
    (h : Own [] w [] w → wpList P l.toArray (fun e a' w' => e = .normal ∧ ∃ L1, Own [] w L1 w' ∧ (Closed l.toArray (mk l.toArray.size (i :: done)) → ∀ w'', Own D W (L1 ++ L) w'' → wpK P l.toArray Q (relOf B mid hard) m (mk l.toArray.size (i :: done)) a' w'')) [oi] a w) :
    wpK P l.toArray Q (relOf B mid hard) (m + 1) (mk l.toArray.size done) a w := by
  rw [Bool.and_eq_true, decide_eq_true_eq] at hr
  exact wpK_one hr.1 (soft_pt hS i hi hr.2 fun hO => wpList_mono (fun e a' w' ⟨he, L1, h1, h2⟩ => ⟨he, L1, h1, h2 (hcl.next (by rw [hr.1]; simp))⟩) _ _ _ (h hO))
/-- One operation that alone can come. -/
theorem own_hard (i : Nat) {oi : Oper} (hcl : Closed l.toArray (mk l.toArray.size done)) (hi : l.toArray[i]? = some oi) (hr : Region.ready .any l.toArray (mk l.toArray.size done) = [i]) (hs : hard.contains i = true)
    (h : wpList P l.toArray (fun e a' w' => e = .normal ∧ ∃ L1, Own D W L1 w' ∧ (Closed l.toArray (mk l.toArray.size (i :: done)) → ∀ w'', Own D W L1 w'' → wpK P l.toArray Q (relOf B mid hard) m (mk l.toArray.size (i :: done)) a' w'')) [oi] a w) :
    wpK P l.toArray Q (relOf B mid hard) (m + 1) (mk l.toArray.size done) a w :=
  wpK_one hr (hard_pt i hi hs (wpList_mono (fun e a' w' ⟨he, L1, h1, h2⟩ => ⟨he, L1, h1, h2 (hcl.next (by rw [hr]; simp))⟩) _ _ _ h))
theorem own_done (hr : Region.ready .any l.toArray (mk l.toArray.size done) = []) (h : Q .normal a w) : wpK P l.toArray Q (relOf B mid hard) 0 (mk l.toArray.size done) a w := ⟨hr, h⟩
end
end
end Go.Proofs.Ytgknameejoalnaa
namespace Go.Proofs.Ytgknameejoalnaa
open Go.RowKit

section
variable {P : Program} {l : List Oper} {Q : Exit → Act → World → Prop} {D : List Nat} {W w : World} {L : List (Nat × List Value)} {a : Act}

/-- A part of the list has turned. -/
theorem Own.replace {K L1 : List (Nat × List Value)} {w' : World} (hS : Own D W (K ++ L) w) (h1 : Own (K.map (·.1)) w L1 w') : Own D W (L1 ++ L) w' := by
  have hSK : Own D W K w := hS.forget (List.sublist_append_left _ _)
  have hSL : Own D W L w := hS.forget (List.sublist_append_right _ _)
  have hdis : ∀ x ∈ L, x.1 ∉ K.map (·.1) := by
    have h0 := hS.apart
    rw [List.map_append, List.nodup_append] at h0
    intro x hx hk
    exact h0.2.2 _ hk _ (List.mem_map_of_mem hx) rfl
  refine ⟨h1.os.trans hS.os, h1.tape.trans hS.tape, h1.output.trans hS.output, Nat.le_trans hS.size h1.size, fun k hk hd => ?_, fun x hx => ?_, fun x hx => ?_, ?_⟩
  · rw [h1.block k (Nat.lt_of_lt_of_le hk hS.size) (fun hm => ?_)]
    · exact hS.block k hk hd
    · obtain ⟨x, hx, rfl⟩ := List.mem_map.1 hm
      rcases hSK.ge x hx with h | h
      · exact hd h
      · omega
  · rcases List.mem_append.1 hx with hx | hx
    · exact h1.has x hx
    · exact h1.hasOld (hdis x hx) (hSL.has x hx)
  · rcases List.mem_append.1 hx with hx | hx
    · rcases h1.ge x hx with h | h
      · obtain ⟨y, hy, he⟩ := List.mem_map.1 h
        rw [← he]; exact hSK.ge y hy
      · exact .inr (Nat.le_trans hS.size h)
    · exact hSL.ge x hx
  · rw [List.map_append, List.nodup_append]
    refine ⟨h1.apart, hSL.apart, fun x hx y hy he => ?_⟩
    obtain ⟨p, hp, rfl⟩ := List.mem_map.1 hx
    obtain ⟨q, hq, rfl⟩ := List.mem_map.1 hy
    rcases h1.ge p hp with h | h
    · rw [he] at h; exact hdis q hq h
    · have := (hSL.has q hq).lt; omega

theorem Own.chain {K L1 : List (Nat × List Value)} {w' : World} (hS : Own D W K w) (h1 : Own (K.map (·.1)) w L1 w') : Own D W L1 w' := by
  have := Own.replace (K := K) (L := []) (by simpa using hS) h1
  simpa using this
section
variable {B : Nat} {mid hard : List Nat} {m : Nat} {done : List Nat}
end
end
end Go.Proofs.Ytgknameejoalnaa
namespace Go.Proofs.Ytgknameejoalnaa
open Go.RowKit

theorem Own.perm {D : List Nat} {W w : World} {L L' : List (Nat × List Value)} (hS : Own D W L w) (h : L.Perm L') : Own D W L' w :=
  ⟨hS.os, hS.tape, hS.output, hS.size, hS.block, fun x hx => hS.has x (h.mem_iff.2 hx), fun x hx => hS.ge x (h.mem_iff.2 hx), (h.map (·.1)).nodup_iff.1 hS.apart⟩

/-- The slice v holds n elements, the cells xs; X: its block, if there is one (a slice without room needs none). -/
def Sl (size n : Nat) (v : Value) (xs : List Value) (X : List (Nat × List Value)) : Prop :=
  xs.length = n * size ∧ ((∃ y, (y = none ∨ ∃ b o, y = some ⟨b, o, none⟩) ∧ v = .slice y 0 0 ∧ n = 0 ∧ X = []) ∨ ∃ b c junk, v = .slice (some ⟨b, 0, none⟩) n c ∧ n ≤ c ∧ c ≤ maxLen ∧ (xs ++ junk).length = c * size ∧ X = [(b, xs ++ junk)])
theorem Sl.one {size n : Nat} {v : Value} {xs : List Value} {X : List (Nat × List Value)} (h : Sl size n v xs X) : v.oneCell' = true := by
  rcases h.2 with ⟨y, _, rfl, _, _⟩ | ⟨b, c, junk, rfl, _⟩ <;> rfl
theorem Sl.slice {size n : Nat} {v : Value} {xs : List Value} {X : List (Nat × List Value)} (h : Sl size n v xs X) : ∃ y c, v = .slice y n c := by
  rcases h.2 with ⟨y, _, rfl, rfl, _⟩ | ⟨b, c, junk, rfl, _⟩
  · exact ⟨y, 0, rfl⟩
  · exact ⟨_, _, rfl⟩

section
variable {w : World} {b : Nat}
def setL : List Value → Nat → List Value → List Value
  | cs, _, [] => cs
  | cs, o, v :: vs => setL (cs.set o v) (o + 1) vs
theorem Has.setCells : ∀ (vs : List Value) (o : Nat) {w : World} {cs : List Value}, Has w b cs → Has (w.setCells b o vs) b (setL cs o vs) := by
  intro vs
  induction vs with
  | nil => intro o w cs h; exact h
  | cons v vs ih => intro o w cs h; exact ih (o + 1) (h.set_ o v)
theorem setL_app : ∀ (vs xs junk : List Value), vs.length ≤ junk.length → setL (xs ++ junk) xs.length vs = xs ++ vs ++ junk.drop vs.length := by
  intro vs
  induction vs with
  | nil => intro xs junk _; simp [setL]
  | cons v vs ih =>
    intro xs junk h
    cases junk with
    | nil => simp at h
    | cons y junk =>
      have h1 : (xs ++ y :: junk).set xs.length v = (xs ++ [v]) ++ junk := by simp
      have h2 := ih (xs ++ [v]) junk (by simpa using h)
      simp only [setL, h1]
      rw [show xs.length + 1 = (xs ++ [v]).length by simp, h2]
      simp
theorem setCells_rest : ∀ (vs : List Value) (o : Nat) (w : World), (w.setCells b o vs).os = w.os ∧ (w.setCells b o vs).tape = w.tape ∧ (w.setCells b o vs).output = w.output ∧ (w.setCells b o vs).heap.size = w.heap.size ∧ ∀ k, k ≠ b → (w.setCells b o vs).heap[k]? = w.heap[k]? := by
  intro vs
  induction vs with
  | nil => intro o w; exact ⟨rfl, rfl, rfl, rfl, fun _ _ => rfl⟩
  | cons v vs ih =>
    intro o w
    obtain ⟨h1, h2, h3, h4, h5⟩ := ih (o + 1) (w.setCell ⟨b, o, none⟩ v)
    exact ⟨h1, h2, h3, h4.trans (by simp [World.setCell]), fun k hk => (h5 k hk).trans (Below.heap_setCell _ _ _ _ hk)⟩
end

theorem Own.setCells {D : List Nat} {W w : World} {L : List (Nat × List Value)} {k b : Nat} {cs : List Value} (hS : Own D W L w) (hat : At k L b cs) (o : Nat) (vs : List Value) : Own D W (L.set k (b, setL cs o vs)) (w.setCells b o vs) := by
  obtain ⟨h1, h2, h3, h4, h5⟩ := setCells_rest (b := b) vs o w
  exact hS.turn hat h1 h2 h3 (by omega) (fun k _ hk => h5 k hk) ((hS.get hat).setCells vs o)

section
variable {P : Program} {rest : List Oper} {ops' : Array Oper} {o : Oper} {a : Act} {Q : Exit → Act → World → Prop} {D : List Nat} {W w : World} {L : List (Nat × List Value)}

/-- A row that a law of the kit tells, among the blocks of the call. -/
theorem own_row {X : List (Nat × List Value)} {w' : World} {e : TypeId} {size n : Nat} {v' : Value} {xs : List Value} (hS : Own D W (L ++ X) w) (h : w'.ownsRow w.heap.size e size v' n xs) (hg : w.grownBy w' none) : ∃ X', Own D W (L ++ X') w' ∧ Sl size n v' xs X' := by
  obtain ⟨hl, h⟩ := h
  have hb : Below w.heap.size w w' := ⟨hg.os, hg.tape, hg.output, hg.size, fun k hk => hg.block k hk (by simp)⟩
  rcases h with ⟨rfl, rfl⟩ | ⟨g, cap, cur, rfl, hge, hh, hnc, hcm, hcs, htk⟩
  · exact ⟨[], (hS.forget (by simp)).step hb, hl, .inl ⟨none, .inl rfl, rfl, rfl, rfl⟩⟩
  · refine ⟨[(g, cur.toList)], ?_, hl, .inr ⟨g, cap, cur.toList.drop (n * size), rfl, hnc, hcm, ?_, ?_⟩⟩
    · have h1 : Own D W ((g, cur.toList) :: (L ++ X)) w' := hS.add hb ⟨e, by simpa using hh⟩ hge
      have h2 : Own D W ((g, cur.toList) :: L) w' := h1.forget (by simp)
      exact h2.perm (by simpa using (List.perm_append_comm (l₁ := [(g, cur.toList)]) (l₂ := L)))
    · rw [← htk, List.take_append_drop]; simpa using hcs
    · rw [← htk, List.take_append_drop]

theorem own_append (hgd : o.guard = none) (s x : Operand) (t : TypeId) (ho : o.op = .call { callee := .builtin .append, args := #[s, x], argTypes := #[t, t] })
    {size bytes n : Nat} {v : Value} {xs : List Value} {X : List (Nat × List Value)} {e : TypeId} (hX : Sl size n v xs X) (hs : a.eval s = v) {ad : Addr} {m c : Nat} {news : List Value} (hx : a.eval x = .slice (some ad) m c)
    (hS : Own D W (L ++ X) w) (hn : ∀ j u, news[j]? = some u → w.cell? (ad.add j) = some u) (hl : news.length = m * size) (h1 : ∀ u ∈ news, u.oneCell' = true) (T : ElTy P t e size bytes) (h0 : 0 < size)
    (b1 : n + m ≤ maxLen) (b2 : (n + m) * bytes ≤ 140737488355328)
    (h : ∀ v' X' w', Own D W (L ++ X') w' → Sl size (n + m) v' (xs ++ news) X' → wpList P ops' Q rest (a.put o.dst v') w') : wpList P ops' Q (o :: rest) a w := by
  obtain ⟨i, z, hi, hz, hsz, hby, hzz⟩ := T.inf
  refine wpList_plain hgd fun K hK => ?_
  obtain ⟨hxl, hX2⟩ := id hX
  rcases hX2 with ⟨y, hy, rfl, rfl, rfl⟩ | ⟨b, cp, junk, rfl, hnc, hcm, hjl, rfl⟩
  · obtain rfl : xs = [] := List.eq_nil_of_length_eq_zero (by simpa using hxl)
    rcases hy with rfl | ⟨b, f, rfl⟩
    · obtain ⟨v', w', hrun, r1, r2, _⟩ := run_append_own (P := P) w w.heap.size t o.type e i z size bytes T.und hi hz hsz hby hzz h0 (.slice none 0 0) 0 [] (World.ownsRow_nil w _ e size) ad m c news hl hn h1 b1 b2 (Nat.le_refl _)
      obtain ⟨X', h3, h4⟩ := own_row hS r1 (by simpa [Value.ownBlock] using r2)
      unfold Oper.wp
      simp [execOp, ho, resolve, invoke, builtin, hs, hx, hrun, Result.andThen]
      exact hK _ _ (h v' X' w' h3 h4)
    · by_cases hm : m = 0
      · subst hm
        obtain rfl : news = [] := List.eq_nil_of_length_eq_zero (by simpa using hl)
        have hrun := run_append_room_cells (P := P) w t o.type e i T.und hi b f 0 0 ad 0 c [] (by simp) (by simp) (by simp) (Nat.le_refl _) (fun j hj => by simp at hj) (fun j hj => by simp at hj)
        unfold Oper.wp
        simp [execOp, ho, resolve, invoke, builtin, hs, hx, hrun, Result.andThen]
        exact hK _ _ (h _ [] _ (by simpa [World.setCells] using hS) ⟨by simp, .inl ⟨_, .inr ⟨b, f, rfl⟩, rfl, rfl, rfl⟩⟩)
      · obtain ⟨v', w', hrun, r1, r2⟩ := run_append_arg_grows (P := P) w t o.type e i z size bytes T.und hi hz hsz hby hzz h0 ⟨b, f, none⟩ 0 0 [] (by simp) (fun j u hj => by simp at hj) ad m c news hl hn (by omega) b1 b2
        obtain ⟨X', h3, h4⟩ := own_row hS r1 r2
        unfold Oper.wp
        simp [execOp, ho, resolve, invoke, builtin, hs, hx, hrun, Result.andThen]
        exact hK _ _ (h v' X' w' h3 h4)
  · have hat : At L.length (L ++ [(b, xs ++ junk)]) b (xs ++ junk) := by unfold At; simp
    have hb := hS.get hat
    by_cases hr : n + m ≤ cp
    · have hroom : (n + m) * size ≤ cp * size := Nat.mul_le_mul_right _ hr
      rw [Nat.add_mul] at hroom
      have hjn : news.length ≤ junk.length := by rw [List.length_append] at hjl; omega
      subst hsz
      have hrun := run_append_room_cells (P := P) w t o.type e i T.und hi b 0 n cp ad m c news hl hn h1 hr (fun j hj => by
        rw [hb.cell, Nat.zero_add]
        rw [List.getElem?_eq_getElem (by rw [List.length_append]; omega)]; rfl) (fun j _ => hb.frozen _)
      have hS2 := hS.setCells hat (n * i.size) news
      rw [← hxl, setL_app news xs junk hjn, List.set_append_right _ _ (Nat.le_refl _), Nat.sub_self] at hS2
      simp only [List.set_cons_zero] at hS2
      unfold Oper.wp
      simp [execOp, ho, resolve, invoke, builtin, hs, hx, hrun, Result.andThen]
      refine hK _ _ (h _ [(b, xs ++ news ++ junk.drop news.length)] _ ?_ ⟨by rw [List.length_append, hxl, hl, Nat.add_mul], .inr ⟨b, cp, junk.drop news.length, rfl, hr, hcm, ?_, rfl⟩⟩)
      · rw [← hxl]; exact hS2
      · rw [← hjl]; simp; omega
    · obtain ⟨v', w', hrun, r1, r2⟩ := run_append_arg_grows (P := P) w t o.type e i z size bytes T.und hi hz hsz hby hzz h0 ⟨b, 0, none⟩ n cp xs hxl (fun j u hj => by
        rw [Addr.add_lit, hb.cell, Nat.zero_add, List.getElem?_append_left (List.getElem?_eq_some_iff.1 hj).1]; exact hj) ad m c news hl hn (by omega) b1 b2
      obtain ⟨X', h3, h4⟩ := own_row hS r1 r2
      unfold Oper.wp
      simp [execOp, ho, resolve, invoke, builtin, hs, hx, hrun, Result.andThen]
      exact hK _ _ (h v' X' w' h3 h4)

/-- .. what is appended being a new block of the call, forgotten then. -/
theorem own_append_new (hgd : o.guard = none) (s x : Operand) (t : TypeId) (ho : o.op = .call { callee := .builtin .append, args := #[s, x], argTypes := #[t, t] })
    {size bytes n : Nat} {v : Value} {xs : List Value} {X : List (Nat × List Value)} {e : TypeId} (hX : Sl size n v xs X) (hs : a.eval s = v) {b m c : Nat} {news : List Value} (hx : a.eval x = .slice (some ⟨b, 0, none⟩) m c)
    (hS : Own D W (((b, news) :: L) ++ X) w) (hl : news.length = m * size) (h1 : news.all (·.oneCell') = true) (T : ElTy P t e size bytes) (h0 : 0 < size)
    (b1 : n + m ≤ maxLen) (b2 : (n + m) * bytes ≤ 140737488355328)
    (h : ∀ v' X' w', Own D W (L ++ X') w' → Sl size (n + m) v' (xs ++ news) X' → wpList P ops' Q rest (a.put o.dst v') w') : wpList P ops' Q (o :: rest) a w := by
  have hb : Has w b news := hS.has (b, news) (by simp)
  refine own_append hgd s x t ho hX hs hx (hS.forget (List.sublist_cons_self _ _) : Own D W (L ++ X) w) (fun j u hj => ?_) hl (fun u hu => List.all_eq_true.1 h1 u hu) T h0 b1 b2 h
  rw [Addr.add_lit, hb.cell, Nat.zero_add]
  exact hj

/-- A literal of a slice without elements. -/
theorem own_buildEmpty (hgd : o.guard = none) (t e : TypeId) (ho : o.op = .buildSlice t 0 #[]) (hS : Own D W L w) (hu : P.underlying t = some (.slice e)) (hi : (P.info? e).isSome = true)
    (h : ∀ b w', Own D W ((b, []) :: L) w' → wpList P ops' Q rest (a.put o.dst (.slice (some ⟨b, 0, none⟩) 0 0)) w') : wpList P ops' Q (o :: rest) a w := by
  refine wpList_plain hgd fun K hK => ?_
  cases hq : P.info? e with
  | none => simp [hq] at hi
  | some i =>
    have hrun : (execOp a.eval o).run P w = .ok (.value (.slice (some ⟨w.heap.size, 0, none⟩) 0 0)) (w.alloc (.cells [].toArray e)) := by
      unfold execOp
      have hf : Instr.fill (fun i_1 => some (i_1 * i.size, i.size)) (Array.map (fun _ => (default : Value)) (Array.range 0)) [] = some #[] := by simp [Instr.fill]
      simp [ho, Instr.buildSlice, run_underlying hu, sizeOf, typeInfo, hq, newRow, hf]
    unfold Oper.wp
    rw [hrun]
    exact hK _ _ (h _ _ (hS.new [] e))

end
end Go.Proofs.Ytgknameejoalnaa
