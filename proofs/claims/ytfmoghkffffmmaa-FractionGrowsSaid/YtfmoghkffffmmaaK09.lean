/- Texts Lte, Mea, Chk, Avo. -/
import Derived.Test.YtfmoghkffffmmaaK06
import Derived.Test.YtfmoghkffffmmaaK04
import Derived.Test.YtfmoghkffffmmaaK08
namespace Go.Proofs.Ytfmoghkffffmmaa
open Go.RowKit
section
variable {P : Program} {ops : Array Oper} {Q : Exit → Act → World → Prop} {rel : Nat → World → World → Prop} {D : List Nat} {W : World}

/-- Operation j in a frame in which operation k has yielded, from the frame in which it has not. -/
theorem wpOp_put {j : Nat} {ok oj : Oper} {v : Value} (hj : ops[j]? = some oj) (hap : ok.apart ops oj = true) (hsj : ∀ cs b, oj.op ≠ .select cs b)
    {K : Act → World → Prop} {a : Act} {w : World} (h : wpOp P ops Qno j K a w) : wpOp P ops Qno j (fun a' w' => ∃ a0, a' = a0.put ok.dst v ∧ K a0 w') (a.put ok.dst v) w := by
  obtain ⟨h1, h2, h3⟩ := Oper.apart_spec hap
  have comm : ∀ (a : Act) (u : Value), (a.put ok.dst v).put oj.dst u = (a.put oj.dst u).put ok.dst v := fun a u => Act.put_comm a v u h2
  unfold wpOp at *
  simp only [hj] at *
  rw [wanted_put oj a ok.dst v h1]
  by_cases hw : Region.wanted oj (yielded ops a.tmps) = true
  · simp only [hw, if_true] at h ⊢
    rcases h with h | ⟨_, _, _, h⟩
    case inr => exact h.elim
    refine .inl ?_
    unfold Oper.wp at *
    rw [execOp_put oj hsj a ok.dst v h1]
    generalize (execOp a.eval oj).run P w = r at *
    cases r with
    | halt x w' => cases x <;> exact h
    | ok n w' =>
      cases n <;> simp only [Oper.upon] at h ⊢
      case value u => exact ⟨_, comm a u, h⟩
      case skip => exact ⟨_, comm a _, h⟩
      case defer d =>
        refine ⟨_, ?_, h⟩
        rw [← comm]
        cases ok.dst <;> rfl
      case enter f args =>
        refine Calls.mono h fun e w'' he => ?_
        cases e with
        | returned u => exact ⟨_, comm a u, he⟩
        | panicked c => exact he
        | outgrown => exact he
      case row r args =>
        refine Rows.mono h fun u w'' he => ?_
        exact ⟨_, comm a u, he⟩
  · simp only [hw] at h ⊢
    exact ⟨_, comm a _, h⟩

theorem wpOp_go {K : Act → World → Prop} {a : Act} {w : World} {i : Nat} {oi : Oper} (hi : ops[i]? = some oi) (h : wpList P ops (fun e a' w' => e = .normal ∧ K a' w') [oi] a w) : wpOp P ops Qno i K a w := by
  unfold wpOp
  simp only [hi]
  unfold wpList at h
  by_cases hwt : Region.wanted oi (yielded ops a.tmps) = true
  · simp only [hwt, if_true] at h ⊢
    rcases h with h | ⟨_, _, _, h⟩
    · refine .inl ?_
      unfold Oper.wp Oper.upon at h ⊢
      generalize (execOp a.eval oi).run P w = r at h ⊢
      cases r with
      | ok x w' =>
        cases x with
        | enter f args =>
          refine Calls.mono h (fun e w'' he => ?_)
          cases e with
          | returned u => exact he.2
          | panicked c => exact absurd he.1 (by simp)
          | outgrown => obtain ⟨_, _, he, _⟩ := he; exact absurd he (by simp)
        | row r args => exact Rows.mono h (fun _ _ he => he.2)
        | value u => exact h.2
        | skip => exact h.2
        | defer d => exact h.2
        | _ => exact h
      | halt x w' => cases x <;> first | exact h | exact absurd h.1 (by simp)
    · exact absurd h.1 (by simp)
  · simp only [hwt] at h ⊢
    exact h.2

/-- The operations of the list, one after the other, each making memory at most; then R of what is owned, of the spans of blocks that they have made, of the frame and the world. -/
def Chn (P : Program) (ops : Array Oper) (D : List Nat) (W : World) (R : List (Nat × List Value) → List (Nat × Nat) → Act → World → Prop) : List Nat → List (Nat × List Value) → List (Nat × Nat) → Act → World → Prop
  | [], L, S, a, w => R L S a w
  | i :: is, L, S, a, w => wpOp P ops Qno i (fun a' w' => ∃ L1, Own [] w L1 w' ∧ ∀ w'', Own D W (L1 ++ L) w'' → Below w'.heap.size w' w'' → Chn P ops D W R is (L1 ++ L) ((w.heap.size, w'.heap.size) :: S) a' w'') a w
/-- Block b lies in none of the spans. -/
def Off (b : Nat) (S : List (Nat × Nat)) : Prop := ∀ p ∈ S, b < p.1 ∨ p.2 ≤ b

theorem mk_swap (m i k : Nat) (l : List Nat) : mk m (i :: k :: l) = mk m (k :: i :: l) := by
  by_cases h : i = k
  · subst h; rfl
  · show ((mk m l).setIfInBounds k true).setIfInBounds i true = ((mk m l).setIfInBounds i true).setIfInBounds k true
    exact Array.setIfInBounds_comm _ _ (fun e => h e.symm)

/-- The operations of the list come in this order, with operation k at any time. -/
def lateB (ops : Array Oper) (k : Nat) : List Nat → List Nat → Bool
  | [], done => decide (Region.ready .any ops (mk ops.size done) = [k])
  | i :: is, done => ((Region.ready .any ops (mk ops.size done)).all fun j => j == i || j == k) && (Region.ready .any ops (mk ops.size done)).contains i && decide (Region.ready .any ops (mk ops.size (k :: done)) = [i]) &&
      (match ops[k]?, ops[i]? with | some ok, some oi => ok.apart ops oi | _, _ => false) && lateB ops k is (i :: done)

theorem off_new {b : Nat} {zs : List Value} {w w' : World} {S : List (Nat × Nat)} (h : Own [] w [(b, zs)] w') (hO : ∀ p ∈ S, p.2 ≤ w.heap.size) : Off b S := fun p hp => by
  have h1 := hO p hp
  rcases h.ge (b, zs) (by simp) with h2 | h2
  · cases h2
  · exact .inr (Nat.le_trans h1 h2)
theorem spans_next {w w' w'' : World} {S : List (Nat × Nat)} (hO : ∀ p ∈ S, p.2 ≤ w.heap.size) (h1 : w.heap.size ≤ w'.heap.size) (h2 : w'.heap.size ≤ w''.heap.size) : ∀ p ∈ (w.heap.size, w'.heap.size) :: S, p.2 ≤ w''.heap.size := fun p hp => by
  rcases List.mem_cons.1 hp with rfl | hp
  · exact h2
  · exact Nat.le_trans (hO p hp) (Nat.le_trans h1 h2)
theorem chn_done {R : List (Nat × List Value) → List (Nat × Nat) → Act → World → Prop} {k : Nat} {ok : Oper} {v : Value} {b n : Nat} {zs : List Value} {all : List Nat} (hk : ops[k]? = some ok) (hsel : Region.noSelect ops = true)
    (hfin : ∀ L S a w, R L S a w → Off b S → Own D W ((b, zs) :: L) w → wpK P ops Q rel n (mk ops.size (k :: all)) (a.put ok.dst v) w) :
    ∀ (is done : List Nat) (L : List (Nat × List Value)) (S : List (Nat × Nat)) (a : Act) (w : World), lateB ops k is done = true → is.reverse ++ done = all → (∀ i ∈ is, ∀ w w', Below w.heap.size w w' → rel i w w') →
      (∀ w'', Own D W L w'' → Below w.heap.size w w'' → Chn P ops D W R is L S a w'') → Off b S → Own D W ((b, zs) :: L) w → wpK P ops Q rel (n + is.length) (mk ops.size (k :: done)) (a.put ok.dst v) w := by
  intro is
  induction is with
  | nil =>
    intro done L S a w hB hall hrel H hOff hS
    obtain rfl : done = all := by simpa using hall
    exact hfin L S a w (H w (hS.forget (List.sublist_cons_self _ _)) (bself w)) hOff hS
  | cons i is ih =>
    intro done L S a w hB hall hrel H hOff hS
    simp only [lateB, Bool.and_eq_true, decide_eq_true_eq] at hB
    obtain ⟨⟨⟨⟨h1, h2⟩, h3⟩, h4⟩, h5⟩ := hB
    have hi : ∃ oi, ops[i]? = some oi := by
      rw [hk] at h4
      cases hq : ops[i]? with
      | none => rw [hq] at h4; cases h4
      | some oi => exact ⟨oi, rfl⟩
    obtain ⟨oi, hi⟩ := hi
    rw [hk, hi] at h4
    refine wpK_one (n := n + is.length) h3 ?_
    have h6 := H w (hS.forget (List.sublist_cons_self _ _)) (bself w)
    refine wpOp_mono (fun a' w' h' => ?_) (wpOp_put (v := v) hi h4 (Region.noSelect_spec hsel i oi · · hi) h6)
    obtain ⟨a0, rfl, L1, hL1, hc⟩ := h'
    refine ⟨hrel i (by simp) _ _ hL1.below, fun w'' hb => ?_⟩
    rw [mk_swap]
    refine ih (i :: done) (L1 ++ L) ((w.heap.size, w'.heap.size) :: S) a0 w'' h5 (by rw [← hall]; simp) (fun j hj => hrel j (by simp [hj])) (fun w3 hO hb3 => hc w3 hO (bthen hb hb3)) (fun p hp => ?_) ?_
    · rcases List.mem_cons.1 hp with rfl | hp
      · exact .inl (hS.has (b, zs) (by simp)).lt
      · exact hOff p hp
    · exact ((hS.join hL1).perm List.perm_middle).step hb

theorem chn_late {R : List (Nat × List Value) → List (Nat × Nat) → Act → World → Prop} {k : Nat} {ok : Oper} {n : Nat} {zs : List Value} {all : List Nat} {t : TypeId} (hk : ops[k]? = some ok) (hg : ok.guard = none) (hop : ok.op = .alloc t) (Z : ZeroTy P t zs) (hsel : Region.noSelect ops = true)
    (hrk : ∀ w w', Below w.heap.size w w' → rel k w w')
    (hfin : ∀ L S a b w, R L S a w → Off b S → Own D W ((b, zs) :: L) w → wpK P ops Q rel n (mk ops.size (k :: all)) (a.put ok.dst (.pointer (some ⟨b, 0, none⟩))) w) :
    ∀ (is done : List Nat) (L : List (Nat × List Value)) (S : List (Nat × Nat)) (a : Act) (w : World), lateB ops k is done = true → is.reverse ++ done = all → (∀ i ∈ is, ∀ w w', Below w.heap.size w w' → rel i w w') →
      (∀ w'', Own D W L w'' → Below w.heap.size w w'' → Chn P ops D W R is L S a w'') → (∀ p ∈ S, p.2 ≤ w.heap.size) → Own D W L w → wpK P ops Q rel (n + is.length + 1) (mk ops.size done) a w := by
  intro is
  induction is with
  | nil =>
    intro done L S a w hB hall hrel H hO hS
    obtain rfl : done = all := by simpa using hall
    simp only [lateB, decide_eq_true_eq] at hB
    refine wpK_one (n := n) hB (point_go k hk (own_alloc hg t hop (own_start w) Z fun b w' h1 => ?_))
    unfold wpList
    exact ⟨rfl, hrk _ _ h1.below, fun w'' hb => hfin L S a b w'' (H w'' ((hS.step h1.below).step hb) (bthen h1.below hb)) (off_new h1 hO) ((hS.join h1).step hb)⟩
  | cons i is ih =>
    intro done L S a w hB hall hrel H hO hS
    have hB0 := hB
    simp only [lateB, Bool.and_eq_true, decide_eq_true_eq] at hB
    obtain ⟨⟨⟨⟨h1, h2⟩, h3⟩, h4⟩, h5⟩ := hB
    refine ⟨List.ne_nil_of_mem (by simpa using h2), fun j hj => ?_⟩
    have h7 := List.all_eq_true.1 h1 j hj
    simp only [Bool.or_eq_true, beq_iff_eq] at h7
    rcases h7 with rfl | rfl
    · refine wpOp_mono (fun a' w' h' => ?_) (H w hS (bself w))
      obtain ⟨L1, hL1, hc⟩ := h'
      refine ⟨hrel j (by simp) _ _ hL1.below, fun w'' hb => ?_⟩
      exact ih (j :: done) (L1 ++ L) ((w.heap.size, w'.heap.size) :: S) a' w'' h5 (by rw [← hall]; simp) (fun i hi => hrel i (by simp [hi])) (fun w3 hO hb3 => hc w3 hO (bthen hb hb3)) (spans_next hO hL1.below.size hb.size) ((hS.join hL1).step hb)
    · refine point_go j hk (own_alloc hg t hop (own_start w) Z fun b w' h1 => ?_)
      unfold wpList
      refine ⟨rfl, hrk _ _ h1.below, fun w'' hb => ?_⟩
      exact chn_done (P := P) (Q := Q) hk hsel (fun L S a w hR hF hO => hfin L S a b w hR hF hO) (i :: is) done L S a w'' hB0 hall hrel (fun w3 hO hb3 => H w3 hO (bthen (bthen h1.below hb) hb3)) (off_new h1 hO) ((hS.join h1).step hb)
end
section
variable {P : Program} {l : List Oper} {Q : Exit → Act → World → Prop} {D : List Nat} {W w : World} {L : List (Nat × List Value)} {a : Act} {B : Nat} {mid hard : List Nat} {done : List Nat}

theorem late_closed {ops : Array Oper} {k : Nat} : ∀ (is done : List Nat), Closed ops (mk ops.size done) → lateB ops k is done = true → Closed ops (mk ops.size (k :: (is.reverse ++ done))) := by
  intro is
  induction is with
  | nil =>
    intro done h hb
    simp only [lateB, decide_eq_true_eq] at hb
    exact h.set (i := k) (by rw [hb]; simp)
  | cons i is ih =>
    intro done h hb
    simp only [lateB, Bool.and_eq_true, decide_eq_true_eq] at hb
    have := ih (i :: done) (h.set (by simpa using hb.1.1.1.2)) hb.2
    simpa using this
/-- A chain of operations that make memory at most, with a free alloc (k) beside it; n operations remain behind. -/
theorem own_late (hS : Own D W L w) (k : Nat) (is : List Nat) (n : Nat) {m : Nat} (hmn : n + is.length + 1 = m) {ok : Oper} {t : TypeId} {zs : List Value} (hk : l.toArray[k]? = some ok) (hg : ok.guard = none) (hop : ok.op = .alloc t) (Z : ZeroTy P t zs)
    (hcl : Closed l.toArray (mk l.toArray.size done)) (hB : (Region.noSelect l.toArray && lateB l.toArray k is done && ((k :: is).all fun i => !hard.contains i && !mid.contains i)) = true)
    (h : ∀ w', Own D W L w' → Below w.heap.size w w' → Chn P l.toArray D W (fun L S a w => Closed l.toArray (mk l.toArray.size (k :: (is.reverse ++ done))) → ∀ b w', Off b S → Own D W ((b, zs) :: L) w' → Below w.heap.size w w' → wpK P l.toArray Q (relOf B mid hard) n (mk l.toArray.size (k :: (is.reverse ++ done))) (a.put ok.dst (.pointer (some ⟨b, 0, none⟩))) w') is L [] a w') :
    wpK P l.toArray Q (relOf B mid hard) m (mk l.toArray.size done) a w := by
  subst hmn
  simp only [Bool.and_eq_true] at hB
  have hs : ∀ i ∈ k :: is, ∀ w w', Below w.heap.size w w' → relOf B mid hard i w w' := fun i hi w w' hb => by
    rw [relOf_soft (List.all_eq_true.1 hB.2 i hi)]; exact hb
  exact chn_late (P := P) (Q := Q) (all := is.reverse ++ done) hk hg hop Z hB.1.1 (hs k (by simp)) (fun L S a b w hR hF hO => hR (late_closed is done hcl hB.1.2) b w hF hO (bself w)) is done L [] a w hB.1.2 rfl (fun i hi => hs i (by simp [hi])) h (fun p hp => by cases hp) hS
/-- One operation of the chain. -/
theorem chn_soft {R : List (Nat × List Value) → List (Nat × Nat) → Act → World → Prop} {S : List (Nat × Nat)} (i : Nat) {is : List Nat} {oi : Oper} (hi : l.toArray[i]? = some oi)
    (h : Own [] w [] w → wpList P l.toArray (fun e a' w' => e = .normal ∧ ∃ L1, Own [] w L1 w' ∧ ∀ w'', Own D W (L1 ++ L) w'' → Below w'.heap.size w' w'' → Chn P l.toArray D W R is (L1 ++ L) ((w.heap.size, w'.heap.size) :: S) a' w'') [oi] a w) : Chn P l.toArray D W R (i :: is) L S a w :=
  wpOp_go hi (h (own_start w))
end
end Go.Proofs.Ytfmoghkffffmmaa
namespace Go.Proofs.Ytfmoghkffffmmaa
open Go.RowKit

attribute [local irreducible] wpQuiet wpG wpP wpK wpList Code.wp Calls

instance rt_nums : RowTy Try.prog 56 5 := ⟨⟨_, Try.underlying56, rfl⟩, by kernel_rfl⟩
instance zt_nums : ZeroTy Try.prog 56 [.int .i64 0, .int .i64 0, .int .i64 0, .int .i64 0, .int .i64 0] := ⟨.agg #[.int .i64 0, .int .i64 0, .int .i64 0, .int .i64 0, .int .i64 0], by kernel_rfl, rfl⟩

set_option maxHeartbeats 400000 in
theorem measure1_calls (n p : Int) (a : Addr) (w : World) (h : w.cell? a = some (.int .i64 p)) :
    Calls Try.prog 41 #[.int .i64 n, .pointer (some a)] w (Gives (.int .i64 (scl n p)) w) := by
  go_enter Try.func41, Try.ntmps41
  go_wp2_with fail
  refine (length_Scale_calls n p _).mono ?_
  rintro e w' ⟨rfl, m, rfl⟩
  go_wp2_with fail
  go_ret
  exact Draws.gives ⟨rfl, m, rfl⟩

/-- The least gap, and how far the numerator and the denominator are moved. -/
def fracGap (l r : Int) : Int := if l = 0 then 3 * r else r
def fracUp (F : Fnt) (l : Int) : Int := par F l (if l = 0 then F.num1 else F.num2)
def fracDown (F : Fnt) (l : Int) : Int := par F l (if l = 0 then F.den1 else F.den2)
/-- The bottom of the rule. -/
def fracY (F : Fnt) (l : Int) : Int := par F l F.axis - hlf (par F l F.rule)
theorem prm_len {F : Fnt} (h : ValidF F) : (0 ≤ F.rule ∧ F.rule ≤ 20000) ∧ (0 ≤ F.axis ∧ F.axis ≤ 20000) ∧ (0 ≤ F.num1 ∧ F.num1 ≤ 20000) ∧ (0 ≤ F.num2 ∧ F.num2 ≤ 20000) ∧ (0 ≤ F.den1 ∧ F.den1 ≤ 20000) ∧ (0 ≤ F.den2 ∧ F.den2 ≤ 20000) := by
  have := h.2.2.1
  simp [prmOk, allIn] at this
  omega
theorem hlf_in {n : Int} (h0 : 0 ≤ n) (h1 : n ≤ 1000000000) : 0 ≤ hlf n ∧ n ≤ 2 * hlf n ∧ 2 * hlf n ≤ n + 1 := by
  rw [hlf_ok (by omega)]
  unfold rdiv
  rw [if_pos h0]
  omega

set_option maxHeartbeats 8000000 in
set_option maxRecDepth 100000 in
theorem measure_in (F : Fnt) (l p : Int) (c : Bool) (w : World) (hl : l ≠ 0)
    (r x u d h : Int) (er : r = scl F.rule p) (ex : x = scl F.axis p) (eu : u = scl F.num2 p) (ed : d = scl F.den2 p) (eh : h = hlf r) (br : 0 ≤ r ∧ r ≤ 20000) (bx : 0 ≤ x ∧ x ≤ 20000) (bh : 0 ≤ h ∧ h ≤ 20000) :
    Calls Try.prog 22 #[F.val, .agg #[.int .i64 l, .bool c], .int .i64 p] w (Gives (.agg #[.int .i64 r, .int .i64 (x - h), .int .i64 (r), .int .i64 u, .int .i64 d]) w) := by
  have Hr := Lib.hid (fun (w' : World) (b : Nat) (hc : w'.cell? ⟨b, 0, none⟩ = some (.int .i64 p)) => show Calls Try.prog 41 #[.int .i64 F.rule, .pointer (some ⟨b, 0, none⟩)] w' (Gives (.int .i64 r) w') by rw [er]; exact measure1_calls _ _ _ _ hc)
  have Hx := Lib.hid (fun (w' : World) (b : Nat) (hc : w'.cell? ⟨b, 0, none⟩ = some (.int .i64 p)) => show Calls Try.prog 41 #[.int .i64 F.axis, .pointer (some ⟨b, 0, none⟩)] w' (Gives (.int .i64 x) w') by rw [ex]; exact measure1_calls _ _ _ _ hc)
  have Hu := Lib.hid (fun (w' : World) (b : Nat) (hc : w'.cell? ⟨b, 0, none⟩ = some (.int .i64 p)) => show Calls Try.prog 41 #[.int .i64 F.num2, .pointer (some ⟨b, 0, none⟩)] w' (Gives (.int .i64 u) w') by rw [eu]; exact measure1_calls _ _ _ _ hc)
  have Hd := Lib.hid (fun (w' : World) (b : Nat) (hc : w'.cell? ⟨b, 0, none⟩ = some (.int .i64 p)) => show Calls Try.prog 41 #[.int .i64 F.den2, .pointer (some ⟨b, 0, none⟩)] w' (Gives (.int .i64 d) w') by rw [ed]; exact measure1_calls _ _ _ _ hc)
  have Hh := Lib.hid (fun (w' : World) => show Calls Try.prog 25 #[.int .i64 r] w' (Gives (.int .i64 h) w') by rw [eh]; exact length_Half_gives _ _)
  clear er ex eu ed eh
  have dl : decide (l = 0) = false := decide_eq_false hl
  have ws : IntKind.i64.wrap (x - h) = x - h := IntWalk.i64_in _ (by omega)
  have wm : IntKind.i64.wrap (3 * r) = 3 * r := IntWalk.i64_in _ (by omega)
  go_enter Try.func22, Try.ntmps22
  have hS := own_start w
  go_wp2_with (first | (refine own_unguard (by rfl) ?_) | (refine own_box1 (v := .int .i64 p) rfl _ _ rfl rfl rfl hS ?_; clear hS; (try clear ww); intro bb ww hS) | (refine w_ld rfl _ rfl (by rfl) (by first | exact rd_1 (by repeat constructor) (by first | rfl | assumption) | exact rd_w (by repeat constructor) (by rfl) | exact rd_o (by assumption) (by rfl) (by first | exact nmn | assumption | simp) | exact rd_h (by assumption) (by rfl) (by first | exact nmn | assumption | simp) | exact rd_1o (by assumption) (by first | exact nmn | assumption | simp) | exact rd_1h (by assumption) (by first | rfl | assumption) (by first | exact nmn | assumption | simp)) hS ?_) | (refine own_box rfl _ _ rfl (by rfl) hS ?_; clear hS; (try clear ww); intro bb ww hS) | (refine w_al rfl rfl hS ?_; clear hS; (try clear ww); intro bb ww hS) | (refine w_st rfl _ _ rfl (by rfl) (by rfl) (by repeat constructor) (by rfl) (by rfl) (by first | rfl | assumption) hS ?_; clear hS; (try clear ww); intro ww hS) | (refine w_s1 rfl _ _ rfl (by rfl) (by repeat constructor) (by first | exact .c | exact .t rfl) (by rfl) (by repeat constructor) hS ?_; clear hS; (try clear ww); intro ww hS))
  (try simp only [Act.put]); (try simp only [List.setIfInBounds_toArray]); (try simp only [List.set_cons_succ]); (try simp only [List.set_cons_zero])
  refine own_any hS [17] 18 (by kernel_rfl) (by kernel_rfl) ?_
  clear hS
  intro hcl ww hS
  refine own_batch hS [0, 1, 2, 3, 4, 5, 6, 7, 8, 9, 10, 11, 12, 13, 14, 15] 2 rfl hcl (by kernel_rfl) ?_
  (try simp only); repeat (first | (simp only [List.filterMap_cons]) | (simp only [List.filterMap_nil]) | (simp only [List.getElem?_toArray]) | (simp only [List.getElem?_cons_succ]) | (simp only [List.getElem?_cons_zero]) | (simp only [List.reverse_cons]) | (simp only [List.reverse_nil]) | (simp only [List.nil_append]) | (simp only [List.cons_append]))
  repeat (first
      | (first | (refine g_plain rfl ?_) | (refine g_yes rfl rfl rfl (by simp only [List.getElem?_toArray, List.getElem?_cons_succ, List.getElem?_cons_zero]; rfl) (by with_reducible constructor) ?_)
         apply Exists.intro; refine ⟨?_, ?_⟩
         focus (intro wq hq0; (first | have hq : Own _ _ _ wq := hq0 | have hq : Own _ _ _ wq := hq0.1 | skip); first | ((with_reducible show givesAt _ ({ dst := _, op := Op.load _ _, type := _, pos := _, after := _, guard := _ } : Oper) _ _ _); first | (exact givesAt_rd rfl (by rfl) (by first | exact rd_1 (by repeat constructor) (by first | rfl | assumption) | exact rd_w (by repeat constructor) (by rfl) | exact rd_o (by assumption) (by rfl) (by first | exact nmn | assumption | simp) | exact rd_h (by assumption) (by rfl) (by first | exact nmn | assumption | simp) | exact rd_1o (by assumption) (by first | exact nmn | assumption | simp) | exact rd_1h (by assumption) (by first | rfl | assumption) (by first | exact nmn | assumption | simp)) hq)) | (go_simp; first | (go_at_call 41; exact (by first | exact Hr.out _ _ ((Own.get hq at1).cell 0) | exact Hu.out _ _ ((Own.get hq at1).cell 0) | exact Hd.out _ _ ((Own.get hq at1).cell 0))) | (with_reducible rfl)))
         simp only [Act.put, List.setIfInBounds_toArray]; (try simp only [List.set_cons_succ]); (try simp only [List.set_cons_zero]))
      | (refine g_no rfl rfl rfl (by simp only [List.getElem?_toArray, List.getElem?_cons_succ, List.getElem?_cons_zero]; rfl) (by with_reducible constructor) ?_; simp only [Act.put, List.setIfInBounds_toArray]; (try simp only [List.set_cons_succ]); (try simp only [List.set_cons_zero])))
  refine g_nil ?_
  clear hS hcl
  intro hcl ww hS
  refine own_soft hS 16 hcl (by simp only [List.getElem?_toArray, List.getElem?_cons_succ, List.getElem?_cons_zero]; rfl) (by kernel_rfl) ?_
  have hO := hS
  clear hS
  intro hS
  refine own_alloc rfl _ rfl hS zt_nums ?_
  clear hS
  intro b1 w4 hS
  refine wpList_nil ⟨rfl, _, hS, ?_⟩
  clear hS hO hcl
  intro hcl w5 hS
  (try simp only [Act.put]); (try simp only [List.setIfInBounds_toArray]); (try simp only [List.set_cons_succ]); (try simp only [List.set_cons_zero])
  refine own_hard (D := []) (W := w) 17 hcl (by simp only [List.getElem?_toArray, List.getElem?_cons_succ, List.getElem?_cons_zero]; rfl) (by kernel_rfl) (by kernel_rfl) ?_
  refine own_store rfl _ _ _ rfl rfl rfl hS at0 rt_nums (by rfl) (by rfl) ?_
  clear hS
  intro w6 hS
  (try simp only [List.cons_append] at hS); (try simp only [List.nil_append] at hS); (try simp only [List.set_cons_zero] at hS)
  refine wpList_nil ⟨rfl, _, hS, ?_⟩
  clear hS hcl
  intro hcl w7 hS
  refine own_done (by kernel_rfl) ?_
  (try simp only [Act.put]); (try simp only [List.setIfInBounds_toArray]); (try simp only [List.set_cons_succ]); (try simp only [List.set_cons_zero])
  go_wp2_with (first | (refine own_unguard (by rfl) ?_) | (refine w_ld rfl _ rfl (by rfl) (by first | exact rd_1 (by repeat constructor) (by first | rfl | assumption) | exact rd_w (by repeat constructor) (by rfl) | exact rd_o (by assumption) (by rfl) (by first | exact nmn | assumption | simp) | exact rd_h (by assumption) (by rfl) (by first | exact nmn | assumption | simp) | exact rd_1o (by assumption) (by first | exact nmn | assumption | simp) | exact rd_1h (by assumption) (by first | rfl | assumption) (by first | exact nmn | assumption | simp)) hS ?_) | (refine own_box rfl _ _ rfl (by rfl) hS ?_; clear hS; (try clear ww); intro bb ww hS) | (refine w_al rfl rfl hS ?_; clear hS; (try clear ww); intro bb ww hS) | (refine w_st rfl _ _ rfl (by rfl) (by rfl) (by repeat constructor) (by rfl) (by rfl) (by first | rfl | assumption) hS ?_; clear hS; (try clear ww); intro ww hS) | (refine w_s1 rfl _ _ rfl (by rfl) (by repeat constructor) (by first | exact .c | exact .t rfl) (by rfl) (by repeat constructor) hS ?_; clear hS; (try clear ww); intro ww hS))
  (try simp only [Act.put]); (try simp only [List.setIfInBounds_toArray]); (try simp only [List.set_cons_succ]); (try simp only [List.set_cons_zero])
  refine own_any hS [10] 11 (by kernel_rfl) (by kernel_rfl) ?_
  clear hS
  intro hcl ww hS
  refine own_batch hS [0, 1, 2, 3, 4, 5, 6, 7, 8, 9] 1 rfl hcl (by kernel_rfl) ?_
  (try simp only); repeat (first | (simp only [List.filterMap_cons]) | (simp only [List.filterMap_nil]) | (simp only [List.getElem?_toArray]) | (simp only [List.getElem?_cons_succ]) | (simp only [List.getElem?_cons_zero]) | (simp only [List.reverse_cons]) | (simp only [List.reverse_nil]) | (simp only [List.nil_append]) | (simp only [List.cons_append]))
  repeat (first
      | (first | (refine g_plain rfl ?_) | (refine g_yes rfl rfl rfl (by simp only [List.getElem?_toArray, List.getElem?_cons_succ, List.getElem?_cons_zero]; rfl) (by with_reducible constructor) ?_)
         apply Exists.intro; refine ⟨?_, ?_⟩
         focus (intro wq hq0; (first | have hq : Own _ _ _ wq := hq0 | have hq : Own _ _ _ wq := hq0.1 | skip); first | ((with_reducible show givesAt _ ({ dst := _, op := Op.load _ _, type := _, pos := _, after := _, guard := _ } : Oper) _ _ _); first | (exact givesAt_rd rfl (by rfl) (by first | exact rd_1 (by repeat constructor) (by first | rfl | assumption) | exact rd_w (by repeat constructor) (by rfl) | exact rd_o (by assumption) (by rfl) (by first | exact nmn | assumption | simp) | exact rd_h (by assumption) (by rfl) (by first | exact nmn | assumption | simp) | exact rd_1o (by assumption) (by first | exact nmn | assumption | simp) | exact rd_1h (by assumption) (by first | rfl | assumption) (by first | exact nmn | assumption | simp)) hq)) | (go_simp; first | (go_at_call 41; exact Hx.out _ _ ((Own.get hq at2).cell 0)) | (go_at_call 25; exact Hh.out _) | (with_reducible rfl)))
         simp only [Act.put, List.setIfInBounds_toArray]; (try simp only [List.set_cons_succ]); (try simp only [List.set_cons_zero]))
      | (refine g_no rfl rfl rfl (by simp only [List.getElem?_toArray, List.getElem?_cons_succ, List.getElem?_cons_zero]; rfl) (by with_reducible constructor) ?_; simp only [Act.put, List.setIfInBounds_toArray]; (try simp only [List.set_cons_succ]); (try simp only [List.set_cons_zero])))
  refine g_nil ?_
  clear hS hcl
  intro hcl ww hS
  try simp only [ws]
  refine own_hard (D := []) (W := w) 10 hcl (by simp only [List.getElem?_toArray, List.getElem?_cons_succ, List.getElem?_cons_zero]; rfl) (by kernel_rfl) (by kernel_rfl) ?_
  refine own_store1 (v := .int .i64 (x - h)) rfl _ _ _ rfl rfl rfl rfl hS at0 ot_int (by simp) ?_
  clear hS
  intro w8 hS
  (try simp only [List.set_cons_zero] at hS); (try simp only [List.set_cons_succ] at hS)
  refine wpList_nil ⟨rfl, _, hS, ?_⟩
  clear hS hcl
  intro hcl w9 hS
  refine own_done (by kernel_rfl) ?_
  (try simp only [Act.put]); (try simp only [List.setIfInBounds_toArray]); (try simp only [List.set_cons_succ]); (try simp only [List.set_cons_zero])
  go_wp2_with (first | (refine own_unguard (by rfl) ?_) | (refine w_ld rfl _ rfl (by rfl) (by first | exact rd_1 (by repeat constructor) (by first | rfl | assumption) | exact rd_w (by repeat constructor) (by rfl) | exact rd_o (by assumption) (by rfl) (by first | exact nmn | assumption | simp) | exact rd_h (by assumption) (by rfl) (by first | exact nmn | assumption | simp) | exact rd_1o (by assumption) (by first | exact nmn | assumption | simp) | exact rd_1h (by assumption) (by first | rfl | assumption) (by first | exact nmn | assumption | simp)) hS ?_) | (refine own_box rfl _ _ rfl (by rfl) hS ?_; clear hS; (try clear ww); intro bb ww hS) | (refine w_al rfl rfl hS ?_; clear hS; (try clear ww); intro bb ww hS) | (refine w_st rfl _ _ rfl (by rfl) (by rfl) (by repeat constructor) (by rfl) (by rfl) (by first | rfl | assumption) hS ?_; clear hS; (try clear ww); intro ww hS) | (refine w_s1 rfl _ _ rfl (by rfl) (by repeat constructor) (by first | exact .c | exact .t rfl) (by rfl) (by repeat constructor) hS ?_; clear hS; (try clear ww); intro ww hS))
  have hc := (hS.get at1).cell
  refine bodyPost_ret (v := .agg #[.int .i64 r, .int .i64 (x - h), .int .i64 (r), .int .i64 u, .int .i64 d]) (by simp [results, Try.results22, go_sem, hc]) rfl ⟨rfl, hS.below⟩

set_option maxHeartbeats 8000000 in
set_option maxRecDepth 100000 in
theorem measure_0 (F : Fnt) (l p : Int) (c : Bool) (w : World) (hl : l = 0)
    (r x u d h u2 d2 : Int) (er : r = scl F.rule p) (ex : x = scl F.axis p) (eu : u = scl F.num1 p) (ed : d = scl F.den1 p) (eu2 : u2 = scl F.num2 p) (ed2 : d2 = scl F.den2 p) (eh : h = hlf r) (br : 0 ≤ r ∧ r ≤ 20000) (bx : 0 ≤ x ∧ x ≤ 20000) (bh : 0 ≤ h ∧ h ≤ 20000) :
    Calls Try.prog 22 #[F.val, .agg #[.int .i64 l, .bool c], .int .i64 p] w (Gives (.agg #[.int .i64 r, .int .i64 (x - h), .int .i64 (3 * r), .int .i64 u, .int .i64 d]) w) := by
  have Hr := Lib.hid (fun (w' : World) (b : Nat) (hc : w'.cell? ⟨b, 0, none⟩ = some (.int .i64 p)) => show Calls Try.prog 41 #[.int .i64 F.rule, .pointer (some ⟨b, 0, none⟩)] w' (Gives (.int .i64 r) w') by rw [er]; exact measure1_calls _ _ _ _ hc)
  have Hx := Lib.hid (fun (w' : World) (b : Nat) (hc : w'.cell? ⟨b, 0, none⟩ = some (.int .i64 p)) => show Calls Try.prog 41 #[.int .i64 F.axis, .pointer (some ⟨b, 0, none⟩)] w' (Gives (.int .i64 x) w') by rw [ex]; exact measure1_calls _ _ _ _ hc)
  have Hu := Lib.hid (fun (w' : World) (b : Nat) (hc : w'.cell? ⟨b, 0, none⟩ = some (.int .i64 p)) => show Calls Try.prog 41 #[.int .i64 F.num1, .pointer (some ⟨b, 0, none⟩)] w' (Gives (.int .i64 u) w') by rw [eu]; exact measure1_calls _ _ _ _ hc)
  have Hd := Lib.hid (fun (w' : World) (b : Nat) (hc : w'.cell? ⟨b, 0, none⟩ = some (.int .i64 p)) => show Calls Try.prog 41 #[.int .i64 F.den1, .pointer (some ⟨b, 0, none⟩)] w' (Gives (.int .i64 d) w') by rw [ed]; exact measure1_calls _ _ _ _ hc)
  have Hu2 := Lib.hid (fun (w' : World) (b : Nat) (hc : w'.cell? ⟨b, 0, none⟩ = some (.int .i64 p)) => show Calls Try.prog 41 #[.int .i64 F.num2, .pointer (some ⟨b, 0, none⟩)] w' (Gives (.int .i64 u2) w') by rw [eu2]; exact measure1_calls _ _ _ _ hc)
  have Hd2 := Lib.hid (fun (w' : World) (b : Nat) (hc : w'.cell? ⟨b, 0, none⟩ = some (.int .i64 p)) => show Calls Try.prog 41 #[.int .i64 F.den2, .pointer (some ⟨b, 0, none⟩)] w' (Gives (.int .i64 d2) w') by rw [ed2]; exact measure1_calls _ _ _ _ hc)
  have Hh := Lib.hid (fun (w' : World) => show Calls Try.prog 25 #[.int .i64 r] w' (Gives (.int .i64 h) w') by rw [eh]; exact length_Half_gives _ _)
  clear er ex eu ed eu2 ed2 eh
  subst hl
  have ws : IntKind.i64.wrap (x - h) = x - h := IntWalk.i64_in _ (by omega)
  have wm : IntKind.i64.wrap (3 * r) = 3 * r := IntWalk.i64_in _ (by omega)
  go_enter Try.func22, Try.ntmps22
  have hS := own_start w
  go_wp2_with (first | (refine own_unguard (by rfl) ?_) | (refine own_box1 (v := .int .i64 p) rfl _ _ rfl rfl rfl hS ?_; clear hS; (try clear ww); intro bb ww hS) | (refine w_ld rfl _ rfl (by rfl) (by first | exact rd_1 (by repeat constructor) (by first | rfl | assumption) | exact rd_w (by repeat constructor) (by rfl) | exact rd_o (by assumption) (by rfl) (by first | exact nmn | assumption | simp) | exact rd_h (by assumption) (by rfl) (by first | exact nmn | assumption | simp) | exact rd_1o (by assumption) (by first | exact nmn | assumption | simp) | exact rd_1h (by assumption) (by first | rfl | assumption) (by first | exact nmn | assumption | simp)) hS ?_) | (refine own_box rfl _ _ rfl (by rfl) hS ?_; clear hS; (try clear ww); intro bb ww hS) | (refine w_al rfl rfl hS ?_; clear hS; (try clear ww); intro bb ww hS) | (refine w_st rfl _ _ rfl (by rfl) (by rfl) (by repeat constructor) (by rfl) (by rfl) (by first | rfl | assumption) hS ?_; clear hS; (try clear ww); intro ww hS) | (refine w_s1 rfl _ _ rfl (by rfl) (by repeat constructor) (by first | exact .c | exact .t rfl) (by rfl) (by repeat constructor) hS ?_; clear hS; (try clear ww); intro ww hS))
  (try simp only [Act.put]); (try simp only [List.setIfInBounds_toArray]); (try simp only [List.set_cons_succ]); (try simp only [List.set_cons_zero])
  refine own_any hS [17] 18 (by kernel_rfl) (by kernel_rfl) ?_
  clear hS
  intro hcl ww hS
  refine own_batch hS [0, 1, 2, 3, 4, 5, 6, 7, 8, 9, 10, 11, 12, 13, 14, 15] 2 rfl hcl (by kernel_rfl) ?_
  (try simp only); repeat (first | (simp only [List.filterMap_cons]) | (simp only [List.filterMap_nil]) | (simp only [List.getElem?_toArray]) | (simp only [List.getElem?_cons_succ]) | (simp only [List.getElem?_cons_zero]) | (simp only [List.reverse_cons]) | (simp only [List.reverse_nil]) | (simp only [List.nil_append]) | (simp only [List.cons_append]))
  repeat (first
      | (first | (refine g_plain rfl ?_) | (refine g_yes rfl rfl rfl (by simp only [List.getElem?_toArray, List.getElem?_cons_succ, List.getElem?_cons_zero]; rfl) (by with_reducible constructor) ?_)
         apply Exists.intro; refine ⟨?_, ?_⟩
         focus (intro wq hq0; (first | have hq : Own _ _ _ wq := hq0 | have hq : Own _ _ _ wq := hq0.1 | skip); first | ((with_reducible show givesAt _ ({ dst := _, op := Op.load _ _, type := _, pos := _, after := _, guard := _ } : Oper) _ _ _); first | (exact givesAt_rd rfl (by rfl) (by first | exact rd_1 (by repeat constructor) (by first | rfl | assumption) | exact rd_w (by repeat constructor) (by rfl) | exact rd_o (by assumption) (by rfl) (by first | exact nmn | assumption | simp) | exact rd_h (by assumption) (by rfl) (by first | exact nmn | assumption | simp) | exact rd_1o (by assumption) (by first | exact nmn | assumption | simp) | exact rd_1h (by assumption) (by first | rfl | assumption) (by first | exact nmn | assumption | simp)) hq)) | (go_simp; first | (go_at_call 41; exact (by first | exact Hr.out _ _ ((Own.get hq at1).cell 0) | exact Hu2.out _ _ ((Own.get hq at1).cell 0) | exact Hd2.out _ _ ((Own.get hq at1).cell 0))) | (with_reducible rfl)))
         simp only [Act.put, List.setIfInBounds_toArray]; (try simp only [List.set_cons_succ]); (try simp only [List.set_cons_zero]))
      | (refine g_no rfl rfl rfl (by simp only [List.getElem?_toArray, List.getElem?_cons_succ, List.getElem?_cons_zero]; rfl) (by with_reducible constructor) ?_; simp only [Act.put, List.setIfInBounds_toArray]; (try simp only [List.set_cons_succ]); (try simp only [List.set_cons_zero])))
  refine g_nil ?_
  clear hS hcl
  intro hcl ww hS
  refine own_soft hS 16 hcl (by simp only [List.getElem?_toArray, List.getElem?_cons_succ, List.getElem?_cons_zero]; rfl) (by kernel_rfl) ?_
  have hO := hS
  clear hS
  intro hS
  refine own_alloc rfl _ rfl hS zt_nums ?_
  clear hS
  intro b1 w4 hS
  refine wpList_nil ⟨rfl, _, hS, ?_⟩
  clear hS hO hcl
  intro hcl w5 hS
  (try simp only [Act.put]); (try simp only [List.setIfInBounds_toArray]); (try simp only [List.set_cons_succ]); (try simp only [List.set_cons_zero])
  refine own_hard (D := []) (W := w) 17 hcl (by simp only [List.getElem?_toArray, List.getElem?_cons_succ, List.getElem?_cons_zero]; rfl) (by kernel_rfl) (by kernel_rfl) ?_
  refine own_store rfl _ _ _ rfl rfl rfl hS at0 rt_nums (by rfl) (by rfl) ?_
  clear hS
  intro w6 hS
  (try simp only [List.cons_append] at hS); (try simp only [List.nil_append] at hS); (try simp only [List.set_cons_zero] at hS)
  refine wpList_nil ⟨rfl, _, hS, ?_⟩
  clear hS hcl
  intro hcl w7 hS
  refine own_done (by kernel_rfl) ?_
  (try simp only [Act.put]); (try simp only [List.setIfInBounds_toArray]); (try simp only [List.set_cons_succ]); (try simp only [List.set_cons_zero])
  go_wp2_with (first | (refine own_unguard (by rfl) ?_) | (refine w_ld rfl _ rfl (by rfl) (by first | exact rd_1 (by repeat constructor) (by first | rfl | assumption) | exact rd_w (by repeat constructor) (by rfl) | exact rd_o (by assumption) (by rfl) (by first | exact nmn | assumption | simp) | exact rd_h (by assumption) (by rfl) (by first | exact nmn | assumption | simp) | exact rd_1o (by assumption) (by first | exact nmn | assumption | simp) | exact rd_1h (by assumption) (by first | rfl | assumption) (by first | exact nmn | assumption | simp)) hS ?_) | (refine own_box rfl _ _ rfl (by rfl) hS ?_; clear hS; (try clear ww); intro bb ww hS) | (refine w_al rfl rfl hS ?_; clear hS; (try clear ww); intro bb ww hS) | (refine w_st rfl _ _ rfl (by rfl) (by rfl) (by repeat constructor) (by rfl) (by rfl) (by first | rfl | assumption) hS ?_; clear hS; (try clear ww); intro ww hS) | (refine w_s1 rfl _ _ rfl (by rfl) (by repeat constructor) (by first | exact .c | exact .t rfl) (by rfl) (by repeat constructor) hS ?_; clear hS; (try clear ww); intro ww hS))
  (try simp only [Act.put]); (try simp only [List.setIfInBounds_toArray]); (try simp only [List.set_cons_succ]); (try simp only [List.set_cons_zero])
  refine own_any hS [10] 11 (by kernel_rfl) (by kernel_rfl) ?_
  clear hS
  intro hcl ww hS
  refine own_batch hS [0, 1, 2, 3, 4, 5, 6, 7, 8, 9] 1 rfl hcl (by kernel_rfl) ?_
  (try simp only); repeat (first | (simp only [List.filterMap_cons]) | (simp only [List.filterMap_nil]) | (simp only [List.getElem?_toArray]) | (simp only [List.getElem?_cons_succ]) | (simp only [List.getElem?_cons_zero]) | (simp only [List.reverse_cons]) | (simp only [List.reverse_nil]) | (simp only [List.nil_append]) | (simp only [List.cons_append]))
  repeat (first
      | (first | (refine g_plain rfl ?_) | (refine g_yes rfl rfl rfl (by simp only [List.getElem?_toArray, List.getElem?_cons_succ, List.getElem?_cons_zero]; rfl) (by with_reducible constructor) ?_)
         apply Exists.intro; refine ⟨?_, ?_⟩
         focus (intro wq hq0; (first | have hq : Own _ _ _ wq := hq0 | have hq : Own _ _ _ wq := hq0.1 | skip); first | ((with_reducible show givesAt _ ({ dst := _, op := Op.load _ _, type := _, pos := _, after := _, guard := _ } : Oper) _ _ _); first | (exact givesAt_rd rfl (by rfl) (by first | exact rd_1 (by repeat constructor) (by first | rfl | assumption) | exact rd_w (by repeat constructor) (by rfl) | exact rd_o (by assumption) (by rfl) (by first | exact nmn | assumption | simp) | exact rd_h (by assumption) (by rfl) (by first | exact nmn | assumption | simp) | exact rd_1o (by assumption) (by first | exact nmn | assumption | simp) | exact rd_1h (by assumption) (by first | rfl | assumption) (by first | exact nmn | assumption | simp)) hq)) | (go_simp; first | (go_at_call 41; exact Hx.out _ _ ((Own.get hq at2).cell 0)) | (go_at_call 25; exact Hh.out _) | (with_reducible rfl)))
         simp only [Act.put, List.setIfInBounds_toArray]; (try simp only [List.set_cons_succ]); (try simp only [List.set_cons_zero]))
      | (refine g_no rfl rfl rfl (by simp only [List.getElem?_toArray, List.getElem?_cons_succ, List.getElem?_cons_zero]; rfl) (by with_reducible constructor) ?_; simp only [Act.put, List.setIfInBounds_toArray]; (try simp only [List.set_cons_succ]); (try simp only [List.set_cons_zero])))
  refine g_nil ?_
  clear hS hcl
  intro hcl ww hS
  try simp only [ws]
  refine own_hard (D := []) (W := w) 10 hcl (by simp only [List.getElem?_toArray, List.getElem?_cons_succ, List.getElem?_cons_zero]; rfl) (by kernel_rfl) (by kernel_rfl) ?_
  refine own_store1 (v := .int .i64 (x - h)) rfl _ _ _ rfl rfl rfl rfl hS at0 ot_int (by simp) ?_
  clear hS
  intro w8 hS
  (try simp only [List.set_cons_zero] at hS); (try simp only [List.set_cons_succ] at hS)
  refine wpList_nil ⟨rfl, _, hS, ?_⟩
  clear hS hcl
  intro hcl w9 hS
  refine own_done (by kernel_rfl) ?_
  (try simp only [Act.put]); (try simp only [List.setIfInBounds_toArray]); (try simp only [List.set_cons_succ]); (try simp only [List.set_cons_zero])
  go_wp2_with (first | (refine own_unguard (by rfl) ?_) | (refine w_ld rfl _ rfl (by rfl) (by first | exact rd_1 (by repeat constructor) (by first | rfl | assumption) | exact rd_w (by repeat constructor) (by rfl) | exact rd_o (by assumption) (by rfl) (by first | exact nmn | assumption | simp) | exact rd_h (by assumption) (by rfl) (by first | exact nmn | assumption | simp) | exact rd_1o (by assumption) (by first | exact nmn | assumption | simp) | exact rd_1h (by assumption) (by first | rfl | assumption) (by first | exact nmn | assumption | simp)) hS ?_) | (refine own_box rfl _ _ rfl (by rfl) hS ?_; clear hS; (try clear ww); intro bb ww hS) | (refine w_al rfl rfl hS ?_; clear hS; (try clear ww); intro bb ww hS) | (refine w_st rfl _ _ rfl (by rfl) (by rfl) (by repeat constructor) (by rfl) (by rfl) (by first | rfl | assumption) hS ?_; clear hS; (try clear ww); intro ww hS) | (refine w_s1 rfl _ _ rfl (by rfl) (by repeat constructor) (by first | exact .c | exact .t rfl) (by rfl) (by repeat constructor) hS ?_; clear hS; (try clear ww); intro ww hS))
  (try simp only [Act.put]); (try simp only [List.setIfInBounds_toArray]); (try simp only [List.set_cons_succ]); (try simp only [List.set_cons_zero])
  refine own_any hS [14, 16, 18] 19 (by kernel_rfl) (by kernel_rfl) ?_
  clear hS
  intro hcl ww hS
  refine own_batch hS [0, 1, 2, 3, 4, 5, 6, 7, 8, 9, 10, 11, 12, 13] 5 rfl hcl (by kernel_rfl) ?_
  (try simp only); repeat (first | (simp only [List.filterMap_cons]) | (simp only [List.filterMap_nil]) | (simp only [List.getElem?_toArray]) | (simp only [List.getElem?_cons_succ]) | (simp only [List.getElem?_cons_zero]) | (simp only [List.reverse_cons]) | (simp only [List.reverse_nil]) | (simp only [List.nil_append]) | (simp only [List.cons_append]))
  repeat (first
      | (first | (refine g_plain rfl ?_) | (refine g_yes rfl rfl rfl (by simp only [List.getElem?_toArray, List.getElem?_cons_succ, List.getElem?_cons_zero]; rfl) (by with_reducible constructor) ?_)
         apply Exists.intro; refine ⟨?_, ?_⟩
         focus (intro wq hq0; (first | have hq : Own _ _ _ wq := hq0 | have hq : Own _ _ _ wq := hq0.1 | skip); first | ((with_reducible show givesAt _ ({ dst := _, op := Op.load _ _, type := _, pos := _, after := _, guard := _ } : Oper) _ _ _); first | (exact givesAt_rd rfl (by rfl) (by first | exact rd_1 (by repeat constructor) (by first | rfl | assumption) | exact rd_w (by repeat constructor) (by rfl) | exact rd_o (by assumption) (by rfl) (by first | exact nmn | assumption | simp) | exact rd_h (by assumption) (by rfl) (by first | exact nmn | assumption | simp) | exact rd_1o (by assumption) (by first | exact nmn | assumption | simp) | exact rd_1h (by assumption) (by first | rfl | assumption) (by first | exact nmn | assumption | simp)) hq)) | (go_simp; first | (go_at_call 41; exact (by first | exact Hu.out _ _ ((Own.get hq at2).cell 0) | exact Hd.out _ _ ((Own.get hq at2).cell 0))) | (with_reducible rfl)))
         simp only [Act.put, List.setIfInBounds_toArray]; (try simp only [List.set_cons_succ]); (try simp only [List.set_cons_zero]))
      | (refine g_no rfl rfl rfl (by simp only [List.getElem?_toArray, List.getElem?_cons_succ, List.getElem?_cons_zero]; rfl) (by with_reducible constructor) ?_; simp only [Act.put, List.setIfInBounds_toArray]; (try simp only [List.set_cons_succ]); (try simp only [List.set_cons_zero])))
  refine g_nil ?_
  clear hS hcl
  intro hcl ww hS
  try simp only [wm]
  refine own_hard (D := []) (W := w) 14 hcl (by simp only [List.getElem?_toArray, List.getElem?_cons_succ, List.getElem?_cons_zero]; rfl) (by kernel_rfl) (by kernel_rfl) ?_
  refine own_store1 (v := .int .i64 (3 * r)) rfl _ _ _ rfl rfl rfl rfl hS at0 ot_int (by simp) ?_
  clear hS
  intro w10 hS
  (try simp only [List.set_cons_zero] at hS); (try simp only [List.set_cons_succ] at hS)
  refine wpList_nil ⟨rfl, _, hS, ?_⟩
  clear hS hcl
  intro hcl w11 hS
  (try simp only [Act.put]); (try simp only [List.setIfInBounds_toArray]); (try simp only [List.set_cons_succ]); (try simp only [List.set_cons_zero])
  refine own_batch hS [15] 3 rfl hcl (by kernel_rfl) ?_
  (try simp only); repeat (first | (simp only [List.filterMap_cons]) | (simp only [List.filterMap_nil]) | (simp only [List.getElem?_toArray]) | (simp only [List.getElem?_cons_succ]) | (simp only [List.getElem?_cons_zero]) | (simp only [List.reverse_cons]) | (simp only [List.reverse_nil]) | (simp only [List.nil_append]) | (simp only [List.cons_append]))
  repeat (first
      | (first | (refine g_plain rfl ?_) | (refine g_yes rfl rfl rfl (by simp only [List.getElem?_toArray, List.getElem?_cons_succ, List.getElem?_cons_zero]; rfl) (by with_reducible constructor) ?_)
         apply Exists.intro; refine ⟨?_, ?_⟩
         focus (intro wq hq0; (first | have hq : Own _ _ _ wq := hq0 | have hq : Own _ _ _ wq := hq0.1 | skip); first | ((with_reducible show givesAt _ ({ dst := _, op := Op.load _ _, type := _, pos := _, after := _, guard := _ } : Oper) _ _ _); first | (exact givesAt_rd rfl (by rfl) (by first | exact rd_1 (by repeat constructor) (by first | rfl | assumption) | exact rd_w (by repeat constructor) (by rfl) | exact rd_o (by assumption) (by rfl) (by first | exact nmn | assumption | simp) | exact rd_h (by assumption) (by rfl) (by first | exact nmn | assumption | simp) | exact rd_1o (by assumption) (by first | exact nmn | assumption | simp) | exact rd_1h (by assumption) (by first | rfl | assumption) (by first | exact nmn | assumption | simp)) hq)) | (go_simp; first | (with_reducible rfl)))
         simp only [Act.put, List.setIfInBounds_toArray]; (try simp only [List.set_cons_succ]); (try simp only [List.set_cons_zero]))
      | (refine g_no rfl rfl rfl (by simp only [List.getElem?_toArray, List.getElem?_cons_succ, List.getElem?_cons_zero]; rfl) (by with_reducible constructor) ?_; simp only [Act.put, List.setIfInBounds_toArray]; (try simp only [List.set_cons_succ]); (try simp only [List.set_cons_zero])))
  refine g_nil ?_
  clear hS hcl
  intro hcl ww hS
  refine own_hard (D := []) (W := w) 16 hcl (by simp only [List.getElem?_toArray, List.getElem?_cons_succ, List.getElem?_cons_zero]; rfl) (by kernel_rfl) (by kernel_rfl) ?_
  refine own_store1 (v := .int .i64 (u)) rfl _ _ _ rfl rfl rfl rfl hS at0 ot_int (by simp) ?_
  clear hS
  intro w10 hS
  (try simp only [List.set_cons_zero] at hS); (try simp only [List.set_cons_succ] at hS)
  refine wpList_nil ⟨rfl, _, hS, ?_⟩
  clear hS hcl
  intro hcl w11 hS
  (try simp only [Act.put]); (try simp only [List.setIfInBounds_toArray]); (try simp only [List.set_cons_succ]); (try simp only [List.set_cons_zero])
  refine own_batch hS [17] 1 rfl hcl (by kernel_rfl) ?_
  (try simp only); repeat (first | (simp only [List.filterMap_cons]) | (simp only [List.filterMap_nil]) | (simp only [List.getElem?_toArray]) | (simp only [List.getElem?_cons_succ]) | (simp only [List.getElem?_cons_zero]) | (simp only [List.reverse_cons]) | (simp only [List.reverse_nil]) | (simp only [List.nil_append]) | (simp only [List.cons_append]))
  repeat (first
      | (first | (refine g_plain rfl ?_) | (refine g_yes rfl rfl rfl (by simp only [List.getElem?_toArray, List.getElem?_cons_succ, List.getElem?_cons_zero]; rfl) (by with_reducible constructor) ?_)
         apply Exists.intro; refine ⟨?_, ?_⟩
         focus (intro wq hq0; (first | have hq : Own _ _ _ wq := hq0 | have hq : Own _ _ _ wq := hq0.1 | skip); first | ((with_reducible show givesAt _ ({ dst := _, op := Op.load _ _, type := _, pos := _, after := _, guard := _ } : Oper) _ _ _); first | (exact givesAt_rd rfl (by rfl) (by first | exact rd_1 (by repeat constructor) (by first | rfl | assumption) | exact rd_w (by repeat constructor) (by rfl) | exact rd_o (by assumption) (by rfl) (by first | exact nmn | assumption | simp) | exact rd_h (by assumption) (by rfl) (by first | exact nmn | assumption | simp) | exact rd_1o (by assumption) (by first | exact nmn | assumption | simp) | exact rd_1h (by assumption) (by first | rfl | assumption) (by first | exact nmn | assumption | simp)) hq)) | (go_simp; first | (with_reducible rfl)))
         simp only [Act.put, List.setIfInBounds_toArray]; (try simp only [List.set_cons_succ]); (try simp only [List.set_cons_zero]))
      | (refine g_no rfl rfl rfl (by simp only [List.getElem?_toArray, List.getElem?_cons_succ, List.getElem?_cons_zero]; rfl) (by with_reducible constructor) ?_; simp only [Act.put, List.setIfInBounds_toArray]; (try simp only [List.set_cons_succ]); (try simp only [List.set_cons_zero])))
  refine g_nil ?_
  clear hS hcl
  intro hcl ww hS
  refine own_hard (D := []) (W := w) 18 hcl (by simp only [List.getElem?_toArray, List.getElem?_cons_succ, List.getElem?_cons_zero]; rfl) (by kernel_rfl) (by kernel_rfl) ?_
  refine own_store1 (v := .int .i64 (d)) rfl _ _ _ rfl rfl rfl rfl hS at0 ot_int (by simp) ?_
  clear hS
  intro w10 hS
  (try simp only [List.set_cons_zero] at hS); (try simp only [List.set_cons_succ] at hS)
  refine wpList_nil ⟨rfl, _, hS, ?_⟩
  clear hS hcl
  intro hcl w11 hS
  (try simp only [Act.put]); (try simp only [List.setIfInBounds_toArray]); (try simp only [List.set_cons_succ]); (try simp only [List.set_cons_zero])
  refine own_done (by kernel_rfl) ?_
  (try simp only [Act.put]); (try simp only [List.setIfInBounds_toArray]); (try simp only [List.set_cons_succ]); (try simp only [List.set_cons_zero])
  go_wp2_with (first | (refine own_unguard (by rfl) ?_) | (refine w_ld rfl _ rfl (by rfl) (by first | exact rd_1 (by repeat constructor) (by first | rfl | assumption) | exact rd_w (by repeat constructor) (by rfl) | exact rd_o (by assumption) (by rfl) (by first | exact nmn | assumption | simp) | exact rd_h (by assumption) (by rfl) (by first | exact nmn | assumption | simp) | exact rd_1o (by assumption) (by first | exact nmn | assumption | simp) | exact rd_1h (by assumption) (by first | rfl | assumption) (by first | exact nmn | assumption | simp)) hS ?_) | (refine own_box rfl _ _ rfl (by rfl) hS ?_; clear hS; (try clear ww); intro bb ww hS) | (refine w_al rfl rfl hS ?_; clear hS; (try clear ww); intro bb ww hS) | (refine w_st rfl _ _ rfl (by rfl) (by rfl) (by repeat constructor) (by rfl) (by rfl) (by first | rfl | assumption) hS ?_; clear hS; (try clear ww); intro ww hS) | (refine w_s1 rfl _ _ rfl (by rfl) (by repeat constructor) (by first | exact .c | exact .t rfl) (by rfl) (by repeat constructor) hS ?_; clear hS; (try clear ww); intro ww hS))
  have hc := (hS.get at1).cell
  refine bodyPost_ret (v := .agg #[.int .i64 r, .int .i64 (x - h), .int .i64 (3 * r), .int .i64 u, .int .i64 d]) (by simp [results, Try.results22, go_sem, hc]) rfl ⟨rfl, hS.below⟩

/-- The lengths of a fraction. -/
theorem measure_calls (F : Fnt) (l : Int) (c : Bool) (w : World) (hv : ValidF F) :
    Calls Try.prog 22 #[F.val, .agg #[.int .i64 l, .bool c], .int .i64 (sizeOf' F l)] w (Gives (.agg #[.int .i64 (par F l F.rule), .int .i64 (fracY F l), .int .i64 (fracGap l (par F l F.rule)), .int .i64 (fracUp F l), .int .i64 (fracDown F l)]) w) := by
  have h := prm_len hv
  have hr := par_in (l := l) hv h.1.1 h.1.2
  have hx := par_in (l := l) hv h.2.1.1 h.2.1.2
  have hh := hlf_in hr.1 (by omega)
  by_cases hl : l = 0
  · have := measure_0 F l (sizeOf' F l) c w hl (par F l F.rule) (par F l F.axis) (par F l F.num1) (par F l F.den1) (hlf (par F l F.rule)) _ _ rfl rfl rfl rfl rfl rfl rfl ⟨hr.1, by omega⟩ ⟨hx.1, by omega⟩ (by omega)
    simp only [fracGap, fracUp, fracDown, fracY, hl, if_true] at this ⊢
    exact this
  · have := measure_in F l (sizeOf' F l) c w hl (par F l F.rule) (par F l F.axis) (par F l F.num2) (par F l F.den2) (hlf (par F l F.rule)) rfl rfl rfl rfl rfl ⟨hr.1, by omega⟩ ⟨hx.1, by omega⟩ (by omega)
    simp only [fracGap, fracUp, fracDown, fracY, hl, if_false]
    exact this

end Go.Proofs.Ytfmoghkffffmmaa
namespace Go.Proofs.Ytfmoghkffffmmaa
open Go.RowKit

attribute [local irreducible] wpQuiet wpG wpP wpK wpList Code.wp Calls

/-- The call gives a box and an error. -/
def GivesBE (n : Nat) (b : Bx n) (err : Int) (w : World) (e : Ending) (w' : World) : Prop := ∃ cs, e = .returned (.tuple #[.agg cs.toArray, .int .i64 err]) ∧ Rep w' n b cs ∧ Below w.heap.size w w'
/-- The empty box. -/
def zeroB (n : Nat) : Bx (n + 1) := (⟨0, ⟨#[]⟩, 0, 0, 0, 0, 0, 0, 0, []⟩, [])
theorem rep_zero (n : Nat) (w : World) : Rep w (n + 1) (zeroB n) [.int .i64 0, .string ⟨#[]⟩, .int .i64 0, .int .i64 0, .int .i64 0, .int .i64 0, .int .i64 0, .int .i64 0, .slice none 0 0, .int .i64 0, .slice none 0 0] :=
  rep_mk (kx := none) (sx := none) (kc := 0) (sc := 0) (hdOk_new i64_0 i64_0 i64_0 i64_0) (by simp) (.inl rfl) (fun i kid hi => by simp at hi)

end Go.Proofs.Ytfmoghkffffmmaa
namespace Go.Proofs.Ytfmoghkffffmmaa
open Go.RowKit

attribute [local irreducible] wpQuiet wpG wpP wpK wpList Code.wp Calls

/-- The cells are the box, none of whose lists lies in the blocks B. -/
@[reducible] def RepA (B : List Nat) (w : World) (n : Nat) (b : Bx n) (cs : List Value) : Prop := RepG (fun k _ => k ∉ B) (fun k => k ∉ B) w n b cs
theorem RepG.rep {ko : Nat → Nat → Prop} {so : Nat → Prop} {w : World} {n : Nat} {b : Bx n} {cs : List Value} (h : RepG ko so w n b cs) : Rep w n b cs := h.mono (fun _ _ _ => trivial) (fun _ _ => trivial)
theorem repA_step {B : List Nat} {w w' : World} {n : Nat} {b : Bx n} {cs : List Value} (h : RepA B w n b cs) (hb : Below w.heap.size w w') : RepA B w' n b cs := RepG.step hb n b cs h
theorem repA_less {B B' : List Nat} {w : World} {n : Nat} {b : Bx n} {cs : List Value} (h : RepA B w n b cs) (hB : ∀ k ∈ B', k ∈ B ∨ w.heap.size ≤ k) : RepA B' w n b cs :=
  (rep_keep2 (Q := fun k => k ∉ B) (fun _ _ _ => rfl) n b cs h).mono (fun k _ hk hm => (hB k hm).elim hk.1 (fun h2 => by have := hk.2; omega)) (fun k hk hm => (hB k hm).elim hk.1 (fun h2 => by have := hk.2; omega))
/-- A box away from what has turned. -/
theorem repA_turn {B D : List Nat} {w w' : World} {n : Nat} {b : Bx n} {cs : List Value} {L : List (Nat × List Value)} (h : RepA B w n b cs) (hS : Own D w L w') (hD : ∀ k ∈ D, k ∈ B) : RepA B w' n b cs :=
  (rep_keep2 (Q := fun k => k ∉ B) (fun k hk hlt => hS.block k hlt (fun hd => hk (hD k hd))) n b cs h).mono (fun _ _ hk => hk.1) (fun _ hk => hk.1)

/-- The block of a slice of the call's own. -/
theorem sl_where {size n : Nat} {y : Option Addr} {c : Nat} {xs : List Value} {X : List (Nat × List Value)} (h : Sl size n (.slice y n c) xs X) (hn : n ≠ 0) {k o : Nat} (hx : y = some ⟨k, o, none⟩) : ∃ z, (k, z) ∈ X := by
  rcases h.2 with ⟨_, _, _, h0, _⟩ | ⟨b, c', junk, he, _, _, _, rfl⟩
  · exact absurd h0 hn
  · subst hx
    have hb : k = b := by
      simp at he
      exact he.1.1
    exact ⟨xs ++ junk, by rw [hb]; simp⟩
/-- A list of boxes lies there; K: where. -/
def RepLA (K : Nat → Prop) (B : List Nat) (w : World) (n : Nat) (x : Option Addr) (kids : List (Bx n)) : Prop := ∀ i kid, kids[i]? = some kid → ∃ k o css, x = some ⟨k, o, none⟩ ∧ K k ∧ w.rangeAt k (o + i * 11) css ∧ RepA B w n kid css
theorem rep_mkA {B : List Nat} {w : World} {n : Nat} {a : Hd} {kids : List (Bx n)} {kx sx : Option Addr} {kc sc : Nat} (ha : HdOk a) (hl : kids.length ≤ maxLen) (hs : RowAt w sx 1 intCells a.src) (hso : a.src ≠ [] → ∀ k o, sx = some ⟨k, o, none⟩ → k ∉ B) (hk : RepLA (fun k => k ∉ B) B w n kx kids) : RepA B w (n + 1) (a, kids) (a.cells (.slice kx kids.length kc) (.slice sx a.src.length sc)) :=
  ⟨kx, kc, sx, sc, rfl, ha, hl, hs, hso, hk⟩
theorem rep_outA {B : List Nat} {w : World} {n : Nat} {a : Hd} {kids : List (Bx n)} {cs : List Value} (h : RepA B w (n + 1) (a, kids) cs) : ∃ kx kc sx sc, cs = a.cells (.slice kx kids.length kc) (.slice sx a.src.length sc) ∧ HdOk a ∧ kids.length ≤ maxLen ∧ RowAt w sx 1 intCells a.src ∧ (a.src ≠ [] → ∀ k o, sx = some ⟨k, o, none⟩ → k ∉ B) ∧ RepLA (fun k => k ∉ B) B w n kx kids := by
  obtain ⟨kx, kc, sx, sc, h1, h2, h3, h4, h5, h6⟩ := h
  exact ⟨kx, kc, sx, sc, h1, h2, h3, h4, h5, h6⟩
theorem RepLA.step {K : Nat → Prop} {B : List Nat} {w w' : World} {n : Nat} {x : Option Addr} {kids : List (Bx n)} (h : RepLA K B w n x kids) (hb : Below w.heap.size w w') : RepLA K B w' n x kids := fun i kid hi => by
  obtain ⟨k, o, css, e, hK, hr, hp⟩ := h i kid hi
  exact ⟨k, o, css, e, hK, rangeAt_below hr hb, repA_step hp hb⟩
/-- The call gives a box away from the blocks B. -/
def GivesA (B : List Nat) (n : Nat) (b : Bx n) (w : World) (e : Ending) (w' : World) : Prop := ∃ cs, e = .returned (.agg cs.toArray) ∧ RepA B w' n b cs ∧ Below w.heap.size w w'

set_option maxHeartbeats 4000000 in
set_option maxRecDepth 100000 in
theorem box_At_A (B : List Nat) (n : Nat) (b : Bx (n + 1)) (cs : List Value) (x y : Int) (w : World) (hr : RepA B w (n + 1) b cs) (hB : ∀ k ∈ B, k < w.heap.size) (hx : I64 x) (hy : I64 y) (hsl : b.1.src.length ≤ 1000000) : Calls Try.prog 24 #[.agg cs.toArray, .int .i64 x, .int .i64 y] w (GivesA B (n + 1) (atXY (n + 1) b x y) w) := by
  obtain ⟨⟨kind, name, size, bw, bh, bd, bx, by_, of, src⟩, kids⟩ := b
  obtain ⟨kx, kc, sx, sc, rfl, ha, hkl, hrow0, hso, hkids⟩ := rep_outA hr
  have HH := Lib.hid (show HdOk ⟨kind, name, size, bw, bh, bd, x, y, of, src⟩ from ⟨ha.kind, ha.size, ha.w, ha.h, ha.d, hx, hy, ha.of, ha.src, ha.srcLen, ha.nameLen⟩)
  have HL := Lib.hid hkl
  have HSr := Lib.hid hrow0
  have HK := Lib.hid hkids
  have HB := Lib.hid hB
  simp only at HSr
  clear hr ha hkl hrow0 hkids hx hy hso hB
  go_enter Try.func24, Try.ntmps24
  have hS := own_start w
  go_wp2_with (first | (refine own_unguard (by rfl) ?_) | (go_at_call 43; refine own_ints hS (clone_calls _ _ _ _ (HSr.out.own hS) hsl) ?_; clear hS; intro y2 c2 Xs ww hXs hrow hS1; have hS := hS1.perm (front_back Xs _ _ []); clear hS1) | (refine w_ld rfl _ rfl (by rfl) (by first | exact rd_1 (by repeat constructor) (by first | rfl | assumption) | exact rd_w (by repeat constructor) (by rfl) | exact rd_o (by assumption) (by rfl) (by first | exact nmn | assumption | simp) | exact rd_h (by assumption) (by rfl) (by first | exact nmn | assumption | simp) | exact rd_1o (by assumption) (by first | exact nmn | assumption | simp) | exact rd_1h (by assumption) (by first | rfl | assumption) (by first | exact nmn | assumption | simp)) hS ?_) | (refine own_box rfl _ _ rfl (by rfl) hS ?_; clear hS; (try clear ww); intro bb ww hS) | (refine w_al rfl rfl hS ?_; clear hS; (try clear ww); intro bb ww hS) | (refine w_st rfl _ _ rfl (by rfl) (by rfl) (by repeat constructor) (by rfl) (by rfl) (by first | rfl | assumption) hS ?_; clear hS; (try clear ww); intro ww hS) | (refine w_s1 rfl _ _ rfl (by rfl) (by repeat constructor) (by first | exact .c | exact .t rfl) (by rfl) (by repeat constructor) hS ?_; clear hS; (try clear ww); intro ww hS))
  have hc := (hS.get at0).cell
  have hso2 : src ≠ [] → ∀ k o, y2 = some ⟨k, o, none⟩ → k ∉ B := fun hne k o hx hm => by
    have h1 := HB.out k hm
    rcases sl_where hXs (by intro h0; exact hne (List.eq_nil_of_length_eq_zero h0)) hx with ⟨z, hz⟩
    rcases hS.ge (k, z) (by simp [hz]) with h2 | h2
    · cases h2
    · simp only at h2; omega
  refine bodyPost_ret (v := .agg #[.int .i64 kind, .string name, .int .i64 size, .int .i64 bw, .int .i64 bh, .int .i64 bd, .int .i64 x, .int .i64 y, .slice kx kids.length kc, .int .i64 of, .slice y2 src.length c2]) (by simp [results, Try.results24, go_sem, hc]) rfl ⟨_, rfl, rep_mkA HH.out HL.out (sl_row hS (fun x hx => by simp [hx]) hXs) hso2 (HK.out.step hS.below), hS.below⟩

end Go.Proofs.Ytfmoghkffffmmaa
