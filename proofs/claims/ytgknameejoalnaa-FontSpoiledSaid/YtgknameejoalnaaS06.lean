/- Texts Lte, Fre, Ant, Anm, Ltf, Pick, Rev, Slr, Open, OpenG. -/
import Derived.Test.YtgknameejoalnaaS05
import Derived.Test.YtgknameejoalnaaS01
import Derived.Test.YtgknameejoalnaaS02
import Derived.ProofKit
import Derived.Deep.Slices
namespace Go.Proofs.Ytgknameejoalnaa
open Go.RowKit
section
variable {P : Program} {ops : Array Oper} {Q : Exit → Act → World → Prop} {rel : Nat → World → World → Prop} {D : List Nat} {W : World}

/-- Operation j in a frame in which operation k has yielded, from the frame in which it has not. -/
theorem wpOp_put {j : Nat} {ok oj : Oper} {v : Value} (hj : ops[j]? = some oj) (hap : ok.apart ops oj = true) (hsj : ∀ cs b, oj.op ≠ .select cs b)
    {K : Act → World → Prop} {a : Act} {w : World} (h : wpOp P ops Qno j K a w) : wpOp P ops Qno j (fun a' w' => ∃ a0, a' = a0.put ok.dst v ∧ K a0 w') (a.put ok.dst v) w := by
  obtain ⟨h1, h2, h3⟩ := Oper.apart_spec hap
  have comm : ∀ (a : Act) (u : Value), (a.put ok.dst v).put oj.dst u = (a.put oj.dst u).put ok.dst v := fun a u => Act.put_comm a v u h2
  unfold wpOp at *
  simp only [hj] at *
  rw [wanted_put oj a ok.dst v h1]
  by_cases hw : Region.wanted oj (yielded ops a.tmps) = true
  · simp only [hw, if_true] at h ⊢
    rcases h with h | ⟨_, _, _, h⟩
    case inr => exact h.elim
    refine .inl ?_
    unfold Oper.wp at *
    rw [execOp_put oj hsj a ok.dst v h1]
    generalize (execOp a.eval oj).run P w = r at *
    cases r with
    | halt x w' => cases x <;> exact h
    | ok n w' =>
      cases n <;> simp only [Oper.upon] at h ⊢
      case value u => exact ⟨_, comm a u, h⟩
      case skip => exact ⟨_, comm a _, h⟩
      case defer d =>
        refine ⟨_, ?_, h⟩
        rw [← comm]
        cases ok.dst <;> rfl
      case enter f args =>
        refine Calls.mono h fun e w'' he => ?_
        cases e with
        | returned u => exact ⟨_, comm a u, he⟩
        | panicked c => exact he
        | outgrown => exact he
      case row r args =>
        refine Rows.mono h fun u w'' he => ?_
        exact ⟨_, comm a u, he⟩
  · simp only [hw] at h ⊢
    exact ⟨_, comm a _, h⟩

theorem wpOp_go {K : Act → World → Prop} {a : Act} {w : World} {i : Nat} {oi : Oper} (hi : ops[i]? = some oi) (h : wpList P ops (fun e a' w' => e = .normal ∧ K a' w') [oi] a w) : wpOp P ops Qno i K a w := by
  unfold wpOp
  simp only [hi]
  unfold wpList at h
  by_cases hwt : Region.wanted oi (yielded ops a.tmps) = true
  · simp only [hwt, if_true] at h ⊢
    rcases h with h | ⟨_, _, _, h⟩
    · refine .inl ?_
      unfold Oper.wp Oper.upon at h ⊢
      generalize (execOp a.eval oi).run P w = r at h ⊢
      cases r with
      | ok x w' =>
        cases x with
        | enter f args =>
          refine Calls.mono h (fun e w'' he => ?_)
          cases e with
          | returned u => exact he.2
          | panicked c => exact absurd he.1 (by simp)
          | outgrown => obtain ⟨_, _, he, _⟩ := he; exact absurd he (by simp)
        | row r args => exact Rows.mono h (fun _ _ he => he.2)
        | value u => exact h.2
        | skip => exact h.2
        | defer d => exact h.2
        | _ => exact h
      | halt x w' => cases x <;> first | exact h | exact absurd h.1 (by simp)
    · exact absurd h.1 (by simp)
  · simp only [hwt] at h ⊢
    exact h.2

theorem mk_swap (m i k : Nat) (l : List Nat) : mk m (i :: k :: l) = mk m (k :: i :: l) := by
  by_cases h : i = k
  · subst h; rfl
  · show ((mk m l).setIfInBounds k true).setIfInBounds i true = ((mk m l).setIfInBounds i true).setIfInBounds k true
    exact Array.setIfInBounds_comm _ _ (fun e => h e.symm)

end
section
variable {P : Program} {l : List Oper} {Q : Exit → Act → World → Prop} {D : List Nat} {W w : World} {L : List (Nat × List Value)} {a : Act} {B : Nat} {mid hard : List Nat} {done : List Nat}

end
end Go.Proofs.Ytgknameejoalnaa
namespace Go.Proofs.Ytgknameejoalnaa
open Go.RowKit
section
variable {P : Program} {ops : Array Oper} {Q : Exit → Act → World → Prop} {rel : Nat → World → World → Prop} {D : List Nat} {W w : World} {L : List (Nat × List Value)} {a : Act} {done : List Nat}

theorem mk_perm {m : Nat} {l l' : List Nat} (h : l.Perm l') : mk m l = mk m l' := by
  induction h with
  | nil => rfl
  | cons x _ ih => show (mk m _).setIfInBounds x true = (mk m _).setIfInBounds x true; rw [ih]
  | swap x y l => exact mk_swap m y x l
  | trans _ _ ih1 ih2 => exact ih1.trans ih2
/-- Whatever of ks is left may come now, and nothing else. -/
def freesB (ops : Array Oper) : Nat → List Nat → List Nat → Bool
  | 0, _, _ => true
  | f + 1, done, ks => ks.isEmpty || ((Region.ready .any ops (mk ops.size done)).all ks.contains && !(Region.ready .any ops (mk ops.size done)).isEmpty && ks.all fun k => (Region.ready .any ops (mk ops.size done)).contains k && freesB ops f (k :: done) (ks.erase k))
/-- Operation k.1 makes a new variable, which it puts into slot k.2.1, and which holds k.2.2. -/
def FreeAl (P : Program) (ops : Array Oper) (k : Nat × Nat × List Value) : Prop := ∃ ok t, ops[k.1]? = some ok ∧ ok.guard = none ∧ ok.op = .alloc t ∧ ok.dst = some k.2.1 ∧ ZeroTy P t k.2.2
inductive FreesAl (P : Program) (ops : Array Oper) : List (Nat × Nat × List Value) → Prop
  | nil : FreesAl P ops []
  | cons {i d : Nat} {t : TypeId} {z : List Value} {ok : Oper} {ks : List (Nat × Nat × List Value)} : ops[i]? = some ok → ok.guard = none → ok.op = .alloc t → ok.dst = some d → ZeroTy P t z → FreesAl P ops ks → FreesAl P ops ((i, d, z) :: ks)
theorem FreesAl.at {ks : List (Nat × Nat × List Value)} (h : FreesAl P ops ks) : ∀ k ∈ ks, FreeAl P ops k := by
  induction h with
  | nil => intro k hk; cases hk
  | cons h1 h2 h3 h4 h5 _ ih =>
    intro k hk
    rcases List.mem_cons.1 hk with rfl | hk
    · exact ⟨_, _, h1, h2, h3, h4, h5⟩
    · exact ih k hk
/-- The frame, the new variables known: f tells their blocks. -/
def putF (f : Nat → Nat) (ks : List (Nat × Nat × List Value)) (a : Act) : Act := ks.foldr (fun k a => a.put (some k.2.1) (.pointer (some ⟨f k.1, 0, none⟩))) a
def ownF (f : Nat → Nat) (ks : List (Nat × Nat × List Value)) : List (Nat × List Value) := ks.map fun k => (f k.1, k.2.2)
theorem putF_cons (f : Nat → Nat) (k : Nat × Nat × List Value) (ks : List (Nat × Nat × List Value)) (a : Act) : putF f (k :: ks) a = (putF f ks a).put (some k.2.1) (.pointer (some ⟨f k.1, 0, none⟩)) := rfl
theorem ownF_cons (f : Nat → Nat) (k : Nat × Nat × List Value) (ks : List (Nat × Nat × List Value)) : ownF f (k :: ks) = (f k.1, k.2.2) :: ownF f ks := rfl
theorem putF_perm {f : Nat → Nat} {ks js : List (Nat × Nat × List Value)} (h : ks.Perm js) (hd : (ks.map (·.2.1)).Nodup) (a : Act) : putF f ks a = putF f js a := by
  refine List.Perm.foldr_eq' h (fun x hx y hy z => ?_) a
  by_cases he : x = y
  · subst he; rfl
  · refine Act.put_comm z _ _ fun d h1 h2 => he ?_
    injection h1 with h1
    injection h2 with h2
    obtain ⟨i, hi⟩ := List.mem_iff_getElem?.1 hx
    obtain ⟨j, hj⟩ := List.mem_iff_getElem?.1 hy
    have e1 : (ks.map (·.2.1))[i]? = some x.2.1 := by rw [List.getElem?_map, hi]; rfl
    have e2 : (ks.map (·.2.1))[j]? = some x.2.1 := by rw [List.getElem?_map, hj]; simp [h1, h2]
    obtain rfl := (List.getElem?_inj (List.getElem?_eq_some_iff.1 e1).1 hd).1 (e1.trans e2.symm)
    rw [hi] at hj
    exact Option.some.inj hj
theorem ownF_upd {f : Nat → Nat} {i b : Nat} {js : List (Nat × Nat × List Value)} (h : i ∉ js.map (·.1)) : ownF (fun x => if x = i then b else f x) js = ownF f js := by
  unfold ownF
  refine List.map_congr_left fun k hk => ?_
  have : k.1 ≠ i := fun e => h (e ▸ List.mem_map_of_mem hk)
  simp [this]
theorem putF_upd {f : Nat → Nat} {i b : Nat} {a : Act} : ∀ {js : List (Nat × Nat × List Value)}, i ∉ js.map (·.1) → putF (fun x => if x = i then b else f x) js a = putF f js a := by
  intro js
  induction js with
  | nil => intro _; rfl
  | cons k js ih =>
    intro h
    simp only [List.map_cons, List.mem_cons, not_or] at h
    have hk : k.1 ≠ i := fun e => h.1 e.symm
    rw [putF_cons, putF_cons, ih h.2]
    simp [hk]

theorem frees_go {n : Nat} {all : List (Nat × Nat × List Value)} (hal : ∀ k ∈ all, FreeAl P ops k) (hni : (all.map (·.1)).Nodup) (hnd : (all.map (·.2.1)).Nodup) (hrel : ∀ k ∈ all, ∀ w w', Below w.heap.size w w' → rel k.1 w w')
    (hfin : ∀ f w', Closed ops (mk ops.size (all.map (·.1) ++ done)) → Own D W (ownF f all ++ L) w' → wpK P ops Q rel n (mk ops.size (all.map (·.1) ++ done)) (putF f all a) w') :
    ∀ (len : Nat) (ks js : List (Nat × Nat × List Value)) (f : Nat → Nat) (w : World), ks.length = len → (js ++ ks).Perm all → freesB ops len (js.map (·.1) ++ done) (ks.map (·.1)) = true → Closed ops (mk ops.size (js.map (·.1) ++ done)) → Own D W (ownF f js ++ L) w →
      wpK P ops Q rel (n + len) (mk ops.size (js.map (·.1) ++ done)) (putF f js a) w := by
  intro len
  induction len with
  | zero =>
    intro ks js f w hl hp _ hcl hS
    obtain rfl : ks = [] := List.length_eq_zero_iff.1 hl
    rw [List.append_nil] at hp
    have hq : mk ops.size (js.map (·.1) ++ done) = mk ops.size (all.map (·.1) ++ done) := mk_perm ((hp.map _).append_right _)
    rw [hq, putF_perm hp ((hp.map _).nodup_iff.2 hnd)]
    exact hfin f w (hq ▸ hcl) (hS.perm ((hp.map _).append_right _))
  | succ len ih =>
    intro ks js f w hl hp hB hcl hS
    have hne : (ks.map (·.1)).isEmpty = false := by cases ks <;> simp_all
    simp only [freesB, hne, Bool.false_or, Bool.and_eq_true] at hB
    obtain ⟨⟨h1, h2⟩, h3⟩ := hB
    refine ⟨fun h0 => by rw [h0] at h2; simp at h2, fun i hi => ?_⟩
    have h4 := List.all_eq_true.1 h1 i hi
    obtain ⟨k, hk, rfl⟩ := List.mem_map.1 (by simpa using h4 : i ∈ ks.map (·.1))
    have h5 := List.all_eq_true.1 h3 k.1 (List.mem_map_of_mem hk)
    simp only [Bool.and_eq_true] at h5
    obtain ⟨s, t, rfl⟩ := List.append_of_mem hk
    have hka : k ∈ all := hp.subset (by simp)
    obtain ⟨ok, ty, e1, e2, e3, e4, Z⟩ := hal k hka
    have hnp : ((js ++ (s ++ k :: t)).map (·.1)).Nodup := (hp.map _).nodup_iff.2 hni
    have hp' : ((k :: js) ++ (s ++ t)).Perm (js ++ (s ++ k :: t)) := by
      rw [← List.append_assoc, ← List.append_assoc]
      exact (List.perm_middle (a := k) (l₁ := js ++ s) (l₂ := t)).symm
    have hnk : (((k :: js) ++ (s ++ t)).map (·.1)).Nodup := (hp'.map _).nodup_iff.2 hnp
    simp only [List.cons_append, List.map_cons, List.nodup_cons, List.map_append, List.mem_append, not_or] at hnk
    have hjs := hnk.1.1
    have hsn := hnk.1.2.1
    refine point_go k.1 e1 (own_alloc e2 ty e3 (own_start w) Z fun b w' h6 => ?_)
    unfold wpList
    refine ⟨rfl, hrel k hka _ _ h6.below, fun w'' hb => ?_⟩
    have h7 := ih (s ++ t) (k :: js) (fun x => if x = k.1 then b else f x) w'' (by simp at hl ⊢; omega) (hp'.trans hp) (by
      have h8 := h5.2
      rw [List.map_append, List.map_cons, List.erase_append_right _ hsn, List.erase_cons_head] at h8
      rw [List.map_append]
      exact h8) (hcl.set hi) (by
      rw [ownF_cons, ownF_upd hjs]
      simpa using (hS.join h6).step hb)
    have h9 : putF (fun x => if x = k.1 then b else f x) (k :: js) a = (putF f js a).put ok.dst (.pointer (some ⟨b, 0, none⟩)) := by
      rw [putF_cons, putF_upd hjs, e4]
      simp
    rw [h9] at h7
    exact h7
end
section
variable {P : Program} {l : List Oper} {Q : Exit → Act → World → Prop} {D : List Nat} {W w : World} {L : List (Nat × List Value)} {a : Act} {B : Nat} {mid hard : List Nat} {done : List Nat}
/-- What is to be checked. -/
def freeB (ops : Array Oper) (soft : Nat → Bool) (done : List Nat) (ks : List (Nat × Nat)) : Bool := freesB ops ks.length done (ks.map (·.1)) && decide ((ks.map (·.1)).Nodup) && decide ((ks.map (·.2)).Nodup) && ks.all (fun k => soft k.1)
/-- New variables, made in any order; n operations remain behind. -/
theorem own_frees (hS : Own D W L w) (ks : List (Nat × Nat × List Value)) (n : Nat) {m : Nat} (hmn : n + ks.length = m) (hal : FreesAl P l.toArray ks) (hcl : Closed l.toArray (mk l.toArray.size done))
    (hB : freeB l.toArray (fun i => !hard.contains i && !mid.contains i) done (ks.map fun k => (k.1, k.2.1)) = true)
    (h : ∀ f w', Closed l.toArray (mk l.toArray.size (ks.map (·.1) ++ done)) → Own D W (ownF f ks ++ L) w' → wpK P l.toArray Q (relOf B mid hard) n (mk l.toArray.size (ks.map (·.1) ++ done)) (putF f ks a) w') :
    wpK P l.toArray Q (relOf B mid hard) m (mk l.toArray.size done) a w := by
  subst hmn
  simp only [freeB, Bool.and_eq_true, decide_eq_true_eq, List.map_map, List.length_map] at hB
  obtain ⟨⟨⟨h1, h2⟩, h3⟩, h4⟩ := hB
  refine frees_go (P := P) (Q := Q) (D := D) (W := W) (L := L) (a := a) hal.at h2 h3 (fun k hk w w' hb => ?_) (fun f w' hc hO => h f w' hc hO) ks.length ks [] (fun _ => 0) w rfl (List.Perm.refl _) h1 hcl hS
  rw [relOf_soft (List.all_eq_true.1 h4 (k.1, k.2.1) (List.mem_map_of_mem (f := fun k : Nat × Nat × List Value => (k.1, k.2.1)) hk))]
  exact hb
end
end Go.Proofs.Ytgknameejoalnaa
namespace Go.Proofs.Ytgknameejoalnaa
open Go.RowKit
section
variable {P : Program} {l : List Oper} {Q : Exit → Act → World → Prop} {D T : List Nat} {W w : World} {L : List (Nat × List Value)} {a : Act}

theorem Own.rebaseN (hS : Own D W L w) : ∃ DD, Hid (DD = L.map (·.1)) ∧ Own DD w L w := ⟨_, rfl, hS.rebase⟩
section
variable {late : List Nat} {m : Nat} {done : List Nat}
end
end
end Go.Proofs.Ytgknameejoalnaa
namespace Go.Proofs.Ytgknameejoalnaa
open Go.RowKit
section
variable {P : Program} {l : List Oper} {Q : Exit → Act → World → Prop} {D : List Nat} {W w : World} {L K : List (Nat × List Value)} {a : Act} {mid hard : List Nat} {m : Nat} {done : List Nat}

/-- Quiet operations that look at what was there when the region began. -/
theorem own_batchN (hS : Own D w L w) (is : List Nat) (n : Nat) (hmn : n + is.length = m) {w0 : World} (hS0 : Own D w L w0) (hcl : Closed l.toArray (mk l.toArray.size done)) (hB : (Region.noSelect l.toArray && batchB l.toArray (fun i => !hard.contains i && !mid.contains i) (fun i => !hard.contains i) done is) = true)
    (h : wpG P l.toArray (fun w' => Own D w L w') (fun a' => Closed l.toArray (mk l.toArray.size (is.reverse ++ done)) → ∀ w', Own D w L w' → wpK P l.toArray Q (relOf w.heap.size mid hard) n (mk l.toArray.size (is.reverse ++ done)) a' w') (is.filterMap (fun i => l.toArray[i]?)) a) :
    wpK P l.toArray Q (relOf w.heap.size mid hard) m (mk l.toArray.size done) a w0 :=
  own_batchM hS0 (Nat.le_refl _) (fun x hx => (hS.has x hx).lt) is n hmn hcl hB h
/-- What is new is behind the old. -/
theorem Own.newer (hS : Own D W (K ++ L) w) (hD : ∀ k ∈ D, k ∈ L.map (·.1)) : ∀ x ∈ K, W.heap.size ≤ x.1 := fun x hx => by
  rcases hS.ge x (List.mem_append_left _ hx) with h | h
  · have h1 := hD _ h
    have h2 := hS.apart
    rw [List.map_append, List.nodup_append] at h2
    exact absurd rfl (h2.2.2 _ (List.mem_map_of_mem hx) _ h1)
  · exact h
/-- An operation that turns the new blocks K alone. -/
theorem own_mid (hS : Own D W (K ++ L) w) (hK : ∀ x ∈ K, W.heap.size ≤ x.1) (i : Nat) {oi : Oper} (hcl : Closed l.toArray (mk l.toArray.size done)) (hi : l.toArray[i]? = some oi) (hr : (decide (Region.ready .any l.toArray (mk l.toArray.size done) = [i]) && (!hard.contains i && mid.contains i)) = true)
    (h : Own (K.map (·.1)) w K w → wpList P l.toArray (fun e a' w' => e = .normal ∧ ∃ K', Own (K.map (·.1)) w K' w' ∧ (Closed l.toArray (mk l.toArray.size (i :: done)) → ∀ w'', Own D W (K' ++ L) w'' → wpK P l.toArray Q (relOf W.heap.size mid hard) m (mk l.toArray.size (i :: done)) a' w'')) [oi] a w) :
    wpK P l.toArray Q (relOf W.heap.size mid hard) (m + 1) (mk l.toArray.size done) a w := by
  rw [Bool.and_eq_true, decide_eq_true_eq] at hr
  exact wpK_one hr.1 (mid_pt hS hK hS.size i hi hr.2 fun hO => wpList_mono (fun e a' w' ⟨he, L1, h1, h2⟩ => ⟨he, L1, h1, h2 (hcl.next (by rw [hr.1]; simp))⟩) _ _ _ (h hO))
end
end Go.Proofs.Ytgknameejoalnaa
namespace Go.Proofs.Ytgknameejoalnaa
open Go.RowKit
section
variable {P : Program} {ops : Array Oper} {Q : Exit → Act → World → Prop} {rel : Nat → World → World → Prop} {D : List Nat} {W : World}

/-- The operations of the list, one after the other, each making memory at most; then R of what is owned, of the frame and the world. -/
def Chf (P : Program) (ops : Array Oper) (D : List Nat) (W : World) (R : List (Nat × List Value) → Act → World → Prop) : List Nat → List (Nat × List Value) → Act → World → Prop
  | [], L, a, w => R L a w
  | i :: is, L, a, w => wpOp P ops Qno i (fun a' w' => (∃ oi v, ops[i]? = some oi ∧ a' = a.put oi.dst v) ∧ ∃ L1, Own [] w L1 w' ∧ ∀ w'', Own D W (L1 ++ L) w'' → Chf P ops D W R is (L1 ++ L) a' w'') a w
/-- Operation k makes a block that holds zs, and yields val of it, in this frame and in every world. -/
def FreeK (P : Program) (ops : Array Oper) (k : Nat) (ok : Oper) (zs : List Value) (val : Nat → Value) (a : Act) : Prop := ∀ w, wpOp P ops Qno k (fun a' w' => ∃ b, a' = a.put ok.dst (val b) ∧ Own [] w [(b, zs)] w') a w
/-- What is to be checked: the list's operations come in this order, with operation k at any time. -/
def lateF (ops : Array Oper) (k : Nat) : List Nat → List Nat → Bool
  | [], done => decide (Region.ready .any ops (mk ops.size done) = [k])
  | i :: is, done => ((Region.ready .any ops (mk ops.size done)).all fun j => j == i || j == k) && (Region.ready .any ops (mk ops.size done)).contains i && decide (Region.ready .any ops (mk ops.size (k :: done)) = [i]) &&
      (match ops[k]?, ops[i]? with | some ok, some oi => ok.apart ops oi && oi.apart ops ok | _, _ => false) && lateF ops k is (i :: done)

theorem freeK_put {k : Nat} {ok oi : Oper} {zs : List Value} {val : Nat → Value} {a : Act} {v : Value} (hk : ops[k]? = some ok) (h1 : oi.apart ops ok = true) (hsel : Region.noSelect ops = true) (h : FreeK P ops k ok zs val a) : FreeK P ops k ok zs val (a.put oi.dst v) := fun w => by
  obtain ⟨_, h2, _⟩ := Oper.apart_spec h1
  refine wpOp_mono (fun a' w' h' => ?_) (wpOp_put (v := v) hk h1 (Region.noSelect_spec hsel k ok · · hk) (h w))
  obtain ⟨a0, rfl, b, rfl, hO⟩ := h'
  exact ⟨b, (Act.put_comm a v (val b) h2).symm, hO⟩

theorem chf_done {R : List (Nat × List Value) → Act → World → Prop} {k : Nat} {ok : Oper} {v : Value} {b n : Nat} {zs : List Value} {all : List Nat} (hk : ops[k]? = some ok) (hsel : Region.noSelect ops = true)
    (hfin : ∀ L a w, R L a w → Own D W ((b, zs) :: L) w → wpK P ops Q rel n (mk ops.size (k :: all)) (a.put ok.dst v) w) :
    ∀ (is done : List Nat) (L : List (Nat × List Value)) (a : Act) (w : World), lateF ops k is done = true → is.reverse ++ done = all → (∀ i ∈ is, ∀ w w', Below w.heap.size w w' → rel i w w') →
      (∀ w'', Own D W L w'' → Chf P ops D W R is L a w'') → Own D W ((b, zs) :: L) w → wpK P ops Q rel (n + is.length) (mk ops.size (k :: done)) (a.put ok.dst v) w := by
  intro is
  induction is with
  | nil =>
    intro done L a w hB hall hrel H hS
    obtain rfl : done = all := by simpa using hall
    exact hfin L a w (H w (hS.forget (List.sublist_cons_self _ _))) hS
  | cons i is ih =>
    intro done L a w hB hall hrel H hS
    simp only [lateF, Bool.and_eq_true, decide_eq_true_eq] at hB
    obtain ⟨⟨⟨⟨h1, h2⟩, h3⟩, h4⟩, h5⟩ := hB
    have hi : ∃ oi, ops[i]? = some oi := by
      rw [hk] at h4
      cases hq : ops[i]? with
      | none => rw [hq] at h4; cases h4
      | some oi => exact ⟨oi, rfl⟩
    obtain ⟨oi, hi⟩ := hi
    rw [hk, hi, Bool.and_eq_true] at h4
    refine wpK_one (n := n + is.length) h3 ?_
    have h6 := H w (hS.forget (List.sublist_cons_self _ _))
    refine wpOp_mono (fun a' w' h' => ?_) (wpOp_put (v := v) hi h4.1 (Region.noSelect_spec hsel i oi · · hi) h6)
    obtain ⟨a0, rfl, _, L1, hL1, hc⟩ := h'
    refine ⟨hrel i (by simp) _ _ hL1.below, fun w'' hb => ?_⟩
    rw [mk_swap]
    refine ih (i :: done) (L1 ++ L) a0 w'' h5 (by rw [← hall]; simp) (fun j hj => hrel j (by simp [hj])) (fun w3 hO => hc w3 hO) ?_
    exact ((hS.join hL1).perm List.perm_middle).step hb

theorem chf_late {R : List (Nat × List Value) → Act → World → Prop} {k : Nat} {ok : Oper} {n : Nat} {zs : List Value} {val : Nat → Value} {all : List Nat} (hk : ops[k]? = some ok) (hsel : Region.noSelect ops = true)
    (hrk : ∀ w w', Below w.heap.size w w' → rel k w w')
    (hfin : ∀ L a b w, R L a w → Own D W ((b, zs) :: L) w → wpK P ops Q rel n (mk ops.size (k :: all)) (a.put ok.dst (val b)) w) :
    ∀ (is done : List Nat) (L : List (Nat × List Value)) (a : Act) (w : World), lateF ops k is done = true → is.reverse ++ done = all → (∀ i ∈ is, ∀ w w', Below w.heap.size w w' → rel i w w') → FreeK P ops k ok zs val a →
      (∀ w'', Own D W L w'' → Chf P ops D W R is L a w'') → Own D W L w → wpK P ops Q rel (n + is.length + 1) (mk ops.size done) a w := by
  intro is
  induction is with
  | nil =>
    intro done L a w hB hall hrel hF H hS
    obtain rfl : done = all := by simpa using hall
    simp only [lateF, decide_eq_true_eq] at hB
    refine wpK_one (n := n) hB (wpOp_mono (fun a' w' h' => ?_) (hF w))
    obtain ⟨b, rfl, h1⟩ := h'
    exact ⟨hrk _ _ h1.below, fun w'' hb => hfin L a b w'' (H w'' ((hS.step h1.below).step hb)) ((hS.join h1).step hb)⟩
  | cons i is ih =>
    intro done L a w hB hall hrel hF H hS
    have hB0 := hB
    simp only [lateF, Bool.and_eq_true, decide_eq_true_eq] at hB
    obtain ⟨⟨⟨⟨h1, h2⟩, h3⟩, h4⟩, h5⟩ := hB
    refine ⟨List.ne_nil_of_mem (by simpa using h2), fun j hj => ?_⟩
    have h7 := List.all_eq_true.1 h1 j hj
    simp only [Bool.or_eq_true, beq_iff_eq] at h7
    rcases h7 with rfl | rfl
    · refine wpOp_mono (fun a' w' h' => ?_) (H w hS)
      obtain ⟨⟨oi, v, hoi, rfl⟩, L1, hL1, hc⟩ := h'
      rw [hk, hoi] at h4
      simp only [Bool.and_eq_true] at h4
      refine ⟨hrel j (by simp) _ _ hL1.below, fun w'' hb => ?_⟩
      exact ih (j :: done) (L1 ++ L) _ w'' h5 (by rw [← hall]; simp) (fun i hi => hrel i (by simp [hi])) (freeK_put hk h4.2 hsel hF) (fun w3 hO => hc w3 hO) ((hS.join hL1).step hb)
    · refine wpOp_mono (fun a' w' h' => ?_) (hF w)
      obtain ⟨b, rfl, h1⟩ := h'
      refine ⟨hrk _ _ h1.below, fun w'' hb => ?_⟩
      exact chf_done (P := P) (Q := Q) hk hsel (fun L a w hR hO => hfin L a b w hR hO) (i :: is) done L a w'' hB0 hall hrel (fun w3 hO => H w3 hO) ((hS.join h1).step hb)
theorem lateF_closed {k : Nat} : ∀ (is done : List Nat), Closed ops (mk ops.size done) → lateF ops k is done = true → Closed ops (mk ops.size (k :: (is.reverse ++ done))) := by
  intro is
  induction is with
  | nil =>
    intro done h hb
    simp only [lateF, decide_eq_true_eq] at hb
    exact h.set (i := k) (by rw [hb]; simp)
  | cons i is ih =>
    intro done h hb
    simp only [lateF, Bool.and_eq_true, decide_eq_true_eq] at hb
    have := ih (i :: done) (h.set (by simpa using hb.1.1.1.2)) hb.2
    simpa using this
end
section
variable {P : Program} {l : List Oper} {Q : Exit → Act → World → Prop} {D : List Nat} {W w : World} {L : List (Nat × List Value)} {a : Act} {B : Nat} {mid hard : List Nat} {done : List Nat}
/-- A chain of operations that make memory at most, with operation k beside it; n operations remain behind. -/
theorem own_lateF (hS : Own D W L w) (k : Nat) (is : List Nat) (n : Nat) {m : Nat} (hmn : n + is.length + 1 = m) {ok : Oper} {zs : List Value} (val : Nat → Value) (hk : l.toArray[k]? = some ok)
    (hcl : Closed l.toArray (mk l.toArray.size done)) (hB : (Region.noSelect l.toArray && lateF l.toArray k is done && ((k :: is).all fun i => !hard.contains i && !mid.contains i)) = true)
    (hF : ∀ w, wpList P l.toArray (fun e a' w' => e = .normal ∧ ∃ b, a' = a.put ok.dst (val b) ∧ Own [] w [(b, zs)] w') [ok] a w)
    (h : ∀ w', Own D W L w' → Chf P l.toArray D W (fun L a w => Closed l.toArray (mk l.toArray.size (k :: (is.reverse ++ done))) → ∀ b w', Own D W ((b, zs) :: L) w' → wpK P l.toArray Q (relOf B mid hard) n (mk l.toArray.size (k :: (is.reverse ++ done))) (a.put ok.dst (val b)) w') is L a w') :
    wpK P l.toArray Q (relOf B mid hard) m (mk l.toArray.size done) a w := by
  subst hmn
  simp only [Bool.and_eq_true] at hB
  have hs : ∀ i ∈ k :: is, ∀ w w', Below w.heap.size w w' → relOf B mid hard i w w' := fun i hi w w' hb => by
    rw [relOf_soft (List.all_eq_true.1 hB.2 i hi)]; exact hb
  exact chf_late (P := P) (Q := Q) (all := is.reverse ++ done) hk hB.1.1 (hs k (by simp)) (fun L a b w hR hO => hR (lateF_closed is done hcl hB.1.2) b w hO) is done L a w hB.1.2 rfl (fun i hi => hs i (by simp [hi])) (fun w => wpOp_go hk (hF w)) h hS
/-- One operation of the chain. -/
theorem chf_soft {R : List (Nat × List Value) → Act → World → Prop} (i : Nat) {is : List Nat} {oi : Oper} (hi : l.toArray[i]? = some oi)
    (h : Own [] w [] w → wpList P l.toArray (fun e a' w' => e = .normal ∧ (∃ v, a' = a.put oi.dst v) ∧ ∃ L1, Own [] w L1 w' ∧ ∀ w'', Own D W (L1 ++ L) w'' → Chf P l.toArray D W R is (L1 ++ L) a' w'') [oi] a w) : Chf P l.toArray D W R (i :: is) L a w :=
  wpOp_go hi (wpList_mono (fun _ _ _ ⟨he, ⟨v, hv⟩, h'⟩ => ⟨he, ⟨oi, v, hi, hv⟩, h'⟩) _ _ _ (h (own_start w)))
end
end Go.Proofs.Ytgknameejoalnaa
namespace Go.Proofs.Ytgknameejoalnaa
open Go.RowKit

attribute [local irreducible] wpQuiet wpList Code.wp

theorem GlysAt.below {w w' : World} {v : Value} {gs : List Gly} (h : GlysAt w v gs) (hb : Below w.heap.size w w') : GlysAt w' v gs := by
  rcases h with h | ⟨b, o, c, rfl, h⟩
  · exact .inl h
  · refine .inr ⟨b, o, c, rfl, fun i g hi => ?_⟩
    obtain ⟨h0, h1, h2, h3, h4, h5⟩ := h i g hi
    have hl : b < w.heap.size := World.block_lt_of_cell? w _ h0
    exact ⟨(hb.cell hl).trans h0, (hb.cell hl).trans h1, (hb.cell hl).trans h2, (hb.cell hl).trans h3, (hb.cell hl).trans h4, (hb.cell hl).trans h5⟩

end Go.Proofs.Ytgknameejoalnaa
namespace Go.Proofs.Ytgknameejoalnaa
open Go.RowKit

/-- Two names are not the same. -/
def Apart (a b : ByteArray) : Prop := (a.toList == b.toList) = false
theorem Apart.symm {a b : ByteArray} (h : Apart a b) : Apart b a := by
  unfold Apart at *
  simp only [beq_eq_false_iff_ne, ne_eq] at *
  exact fun e => h e.symm
theorem pairs_iff {α : Type} (f : α → ByteArray) (l : List α) : (∀ (k : Nat) (g : α), l[k]? = some g → ∀ (j : Nat), j < k → ∀ g', l[j]? = some g' → Apart (f g') (f g)) ↔ l.Pairwise fun a b => Apart (f a) (f b) := by
  rw [List.pairwise_iff_getElem]
  constructor
  · intro h i j hi hj hij
    exact h j l[j] (by simp [hj]) i hij l[i] (by simp [hi])
  · intro h k g hk j hj g' hg'
    obtain ⟨h1, rfl⟩ := List.getElem?_eq_some_iff.1 hk
    obtain ⟨h2, rfl⟩ := List.getElem?_eq_some_iff.1 hg'
    exact h j k h2 h1 hj
theorem glysOk_iff {gs : List Gly} : GlysOk gs ↔ (∀ g ∈ gs, gIn g = true) ∧ gs.Pairwise fun a b => Apart a.name b.name := by
  rw [← pairs_iff Gly.name]
  constructor
  · intro h
    refine ⟨fun g hg => ?_, fun k g hk => (h k g hk).2⟩
    obtain ⟨k, hk⟩ := List.mem_iff_getElem?.1 hg
    exact (h k g hk).1
  · rintro ⟨h1, h2⟩ k g hk
    exact ⟨h1 g (List.mem_of_getElem? hk), h2 k g hk⟩
theorem strsReq_iff {gs : List Gly} {ss : List Str} : StrsReq gs ss ↔ (∀ s ∈ ss, StrReq gs s) ∧ ss.Pairwise fun a b => Apart a.name b.name := by
  rw [← pairs_iff Str.name]
  constructor
  · intro h
    refine ⟨fun g hg => ?_, fun k g hk => (h k g hk).2⟩
    obtain ⟨k, hk⟩ := List.mem_iff_getElem?.1 hg
    exact (h k g hk).1
  · rintro ⟨h1, h2⟩ k g hk
    exact ⟨h1 g (List.mem_of_getElem? hk), h2 k g hk⟩

theorem beqS {a b : List UInt8} (h : (a == b) = true) : (b == a) = true := by rw [beq_iff_eq] at *; exact h.symm
theorem strReq_congr {gs gs' : List Gly} {s : Str} (h : ∀ n, n ∈ s.sizes ∨ (∃ p ∈ s.parts, p.name = n) → findG gs' n = findG gs n) : StrReq gs' s ↔ StrReq gs s := by
  unfold StrReq
  have h1 : (∀ k n, s.sizes[k]? = some n → SizeOk gs' s.sizes k n) ↔ (∀ k n, s.sizes[k]? = some n → SizeOk gs s.sizes k n) := by
    have key : ∀ k n, s.sizes[k]? = some n → (SizeOk gs' s.sizes k n ↔ SizeOk gs s.sizes k n) := by
      intro k n hk
      unfold SizeOk
      rw [h n (.inl (List.mem_of_getElem? hk))]
      constructor
      · rintro ⟨g, hg, h1⟩
        exact ⟨g, hg, fun m n' g' hm hn' hg' => h1 m n' g' hm hn' (by rw [h n' (.inl (List.mem_of_getElem? hn'))]; exact hg')⟩
      · rintro ⟨g, hg, h1⟩
        exact ⟨g, hg, fun m n' g' hm hn' hg' => h1 m n' g' hm hn' (by rw [h n' (.inl (List.mem_of_getElem? hn'))] at hg'; exact hg')⟩
    constructor
    · intro h2 k n hk; exact (key k n hk).1 (h2 k n hk)
    · intro h2 k n hk; exact (key k n hk).2 (h2 k n hk)
  have h2 : (∀ p ∈ s.parts, PartOk gs' s.ov p) ↔ (∀ p ∈ s.parts, PartOk gs s.ov p) := by
    constructor
    · intro h2 p hp; have := h2 p hp; unfold PartOk at this ⊢; rwa [h p.name (.inr ⟨p, hp, rfl⟩)] at this
    · intro h2 p hp; have := h2 p hp; unfold PartOk at this ⊢; rwa [h p.name (.inr ⟨p, hp, rfl⟩)]
  rw [h1, h2]

/-- A glyph twice. -/
theorem double_bad {gs : List Gly} {i : Nat} {g : Gly} (hi : gs[i]? = some g) : ¬ GlysOk (gs ++ [g]) := fun h => by
  have h1 := (glysOk_iff.1 h).2
  rw [List.pairwise_append] at h1
  have := h1.2.2 g (List.mem_of_getElem? hi) g (by simp)
  simp [Apart] at this
/-- A glyph that a stretch names. -/
def Needed (ss : List Str) (n : ByteArray) : Prop := ∃ s ∈ ss, (∃ m ∈ s.sizes, (m.toList == n.toList) = true) ∨ ∃ p ∈ s.parts, (p.name.toList == n.toList) = true
theorem less_find {gs : List Gly} {i : Nat} {g : Gly} (hi : gs[i]? = some g) (h : gs.Pairwise fun a b => Apart a.name b.name) (n : ByteArray) : findG (gs.take i ++ gs.drop (i + 1)) n = if (g.name.toList == n.toList) = true then none else findG gs n := by
  obtain ⟨hlt, rfl⟩ := List.getElem?_eq_some_iff.1 hi
  have hsplit : gs = gs.take i ++ gs[i] :: gs.drop (i + 1) := by simp
  have hnot : ∀ a ∈ gs.take i ++ gs.drop (i + 1), Apart a.name gs[i].name := by
    intro a ha
    rw [hsplit] at h
    rw [List.pairwise_append, List.pairwise_cons] at h
    rcases List.mem_append.1 ha with ha | ha
    · exact h.2.2 a ha _ (List.mem_cons_self ..)
    · exact (h.2.1.1 a ha).symm
  split
  · rename_i hn
    unfold findG
    rw [List.find?_eq_none]
    intro a ha hc
    have := hnot a ha
    simp only [beq_iff_eq] at hn hc
    unfold Apart at this
    rw [hc, hn] at this
    simp at this
  · rename_i hn
    have h1 : findG gs n = findG (gs.take i ++ gs[i] :: gs.drop (i + 1)) n := by rw [← hsplit]
    rw [h1]
    unfold findG
    rw [List.find?_append, List.find?_append, List.find?_cons_of_neg (by simpa using hn)]
theorem less_glysOk {gs : List Gly} {i : Nat} (h : GlysOk gs) : GlysOk (gs.take i ++ gs.drop (i + 1)) := by
  rw [glysOk_iff] at h ⊢
  have hs : (gs.take i ++ gs.drop (i + 1)).Sublist gs := by
    have := List.Sublist.append (List.Sublist.refl (gs.take i)) (List.drop_sublist_drop_left gs (Nat.le_succ i))
    rwa [List.take_append_drop] at this
  exact ⟨fun g hg => h.1 g (hs.subset hg), h.2.sublist hs⟩
theorem less_strs {gs : List Gly} {ss : List Str} {i : Nat} {g : Gly} (hi : gs[i]? = some g) (hg : GlysOk gs) (hs : StrsReq gs ss) : StrsReq (gs.take i ++ gs.drop (i + 1)) ss ↔ ¬ Needed ss g.name := by
  have hfind := less_find hi (glysOk_iff.1 hg).2
  rw [strsReq_iff] at hs ⊢
  constructor
  · rintro ⟨h1, _⟩ ⟨s, hsm, h2⟩
    have h3 := h1 s hsm
    unfold StrReq at h3
    rcases h2 with ⟨m, hm, he⟩ | ⟨p, hp, he⟩
    · obtain ⟨k, hk⟩ := List.mem_iff_getElem?.1 hm
      obtain ⟨g', hg', _⟩ := h3.2.2.2.2.1 k m hk
      rw [hfind, if_pos (beqS he)] at hg'
      cases hg'
    · rcases h3.2.2.2.2.2 with ⟨h4, _⟩ | ⟨_, h4, _⟩
      · rw [h4] at hp; cases hp
      · obtain ⟨g', hg', _⟩ := h4 p hp
        rw [hfind, if_pos (beqS he)] at hg'
        cases hg'
  · intro hn
    refine ⟨fun s hsm => (strReq_congr fun n hnm => ?_).2 (hs.1 s hsm), hs.2⟩
    rw [hfind, if_neg]
    intro he
    refine hn ⟨s, hsm, ?_⟩
    rcases hnm with hm | ⟨p, hp, rfl⟩
    · exact .inl ⟨n, hm, beqS he⟩
    · exact .inr ⟨p, hp, beqS he⟩
end Go.Proofs.Ytgknameejoalnaa
namespace Go.Proofs.Ytgknameejoalnaa
open Go.RowKit

/-- What a slice of the call's own holds, RowAt tells. -/
theorem Sl.rowAt {D : List Nat} {W w : World} {L : List (Nat × List Value)} {α : Type} {size n : Nat} {v : Value} {f : α → List Value} {l : List α} {X : List (Nat × List Value)} (hS : Own D W L w) (hm : ∀ x ∈ X, x ∈ L) (h : Sl size n v (l.flatMap f) X) (hf : ∀ a, (f a).length = size) (h0 : 0 < size) : ∃ y c, v = .slice y l.length c ∧ RowAt w y size f l ∧ l.length ≤ c ∧ c ≤ maxLen := by
  obtain ⟨hl, h⟩ := h
  have hn : n = l.length := by
    rw [flat_len hf] at hl
    exact (Nat.eq_of_mul_eq_mul_right h0 hl).symm
  subst hn
  rcases h with ⟨y, _, rfl, h, rfl⟩ | ⟨b, c, junk, rfl, h1, h2, h3, rfl⟩
  · exact ⟨y, 0, by rw [h], .inl (List.eq_nil_of_length_eq_zero h), by omega, by simp [maxLen]⟩
  · exact ⟨_, c, rfl, RowAt.of_has (fun a _ => hf a) (hS.has (b, l.flatMap f ++ junk) (hm _ (by simp))), h1, h2⟩
end Go.Proofs.Ytgknameejoalnaa
namespace Go.Proofs.Ytgknameejoalnaa
open Go.RowKit Go.ChangeShapes Go.WideShapes Go.Deep

section
variable {H : Type} {enc : TypeId × Value → H} {P : Program} {w : World}

/-- A list of things of which each place has one. -/
theorem list_of {α : Type} (R : Nat → α → Prop) (n : Nat) (h : ∀ i, i < n → ∃ x, R i x) : ∃ l : List α, l.length = n ∧ ∀ i x, l[i]? = some x → R i x := by
  induction n with
  | zero => exact ⟨[], rfl, fun i x hx => by simp at hx⟩
  | succ n ih =>
    obtain ⟨l, hl, hr⟩ := ih fun i hi => h i (by omega)
    obtain ⟨x, hx⟩ := h n (by omega)
    refine ⟨l ++ [x], by simp [hl], fun i y hy => ?_⟩
    by_cases hi : i < n
    · rw [List.getElem?_append_left (by omega)] at hy; exact hr i y hy
    · have hin : i = n := by
        have : i < (l ++ [x]).length := (List.getElem?_eq_some_iff.1 hy).1
        simp at this; omega
      subst hin
      rw [List.getElem?_append_right (by omega), hl] at hy
      simp at hy
      subst hy; exact hx

theorem add_plain (b o z : Nat) : (⟨b, o, none⟩ : Addr).add z = ⟨b, o + z, none⟩ := by
  unfold Addr.add
  split
  · rename_i h; subst h; rfl
  · rfl

/-- A slice that reads: empty, or a row of elements each of which reads. -/
theorem read_slice {t e : TypeId} {fuel : Nat} {cs : List Value} {x : DataW H × List MemPlace} (ht : P.underlying t = some (.slice e)) (hC : 0 < P.cellsOf e)
    (h : DataW.trod enc P w 0 (fun _ => true) true fuel t cs = some x) :
    (∃ y c, cs = [.slice y 0 c]) ∨ ∃ (b o len c n : Nat), 0 < len ∧ cs = [.slice (some ⟨b, o, none⟩) len c] ∧ len ≤ c ∧ c ≤ maxLen ∧
      ∀ i, i < len → ∃ cs' y, cs'.length = P.cellsOf e ∧ (∀ j, j < P.cellsOf e → w.cell? ⟨b, o + i * P.cellsOf e + j, none⟩ = cs'[j]?) ∧ DataW.trod enc P w 0 (fun _ => true) true n e cs' = some y := by
  rcases open_slice ht h with ⟨rfl, _⟩ | ⟨a, len, cap, m, n, D, Pl, rfl, _, hl, hm, hmm, _, hi⟩
  · exact .inl ⟨_, _, rfl⟩
  · by_cases h0 : len = 0
    · subst h0; exact .inl ⟨_, _, rfl⟩
    · have hlm : len ≤ m := by rw [hmm]; simp; omega
      obtain ⟨cs0, hc0, _⟩ := hi 0 (by omega)
      obtain ⟨_, hl0, hat0⟩ := World.cells?_some hc0
      obtain ⟨b, o, s⟩ := a
      have hs : s = none := by
        have h1 := hat0 0 hC
        rw [List.getElem?_eq_getElem (by omega)] at h1
        cases s with
        | none => rfl
        | some z => simp [World.cell?, Addr.add] at h1; split at h1 <;> simp at h1
      subst hs
      refine .inr ⟨b, o, len, cap, n, by omega, rfl, hl, hm, fun i hlt => ?_⟩
      obtain ⟨cs', hc', ht'⟩ := hi i (by omega)
      obtain ⟨_, hl', hat'⟩ := World.cells?_some hc'
      exact ⟨cs', _, hl', fun j hj => by have := hat' j hj; rw [add_plain, add_plain] at this; exact this, ht'⟩

/-- The fields of a struct that reads. -/
theorem read_struct {t : TypeId} {fs : Array Field} {fuel : Nat} {cs : List Value} {x : DataW H × List MemPlace} (ht : P.underlying t = some (.struct fs)) (h : DataW.trod enc P w 0 (fun _ => true) true fuel t cs = some x) :
    cs.length = P.cellsOf t ∧ ∃ n, ∀ (i : Nat) (f : Field), fs[i]? = some f → ∃ y, DataW.trod enc P w 0 (fun _ => true) true n f.type ((cs.drop f.offset).take (P.cellsOf f.type)) = some y := by
  obtain ⟨xs, n, _, _, hl, hx, hf⟩ := DataW.trod_struct ht h
  refine ⟨hl, n, fun i f hi => ?_⟩
  have hlt : i < xs.length := by rw [hx]; exact (Array.getElem?_eq_some_iff.1 hi).1
  exact ⟨xs[i], by rw [hf i f hi, List.getElem?_eq_getElem hlt]⟩

/-- A field of one cell. -/
theorem take_one {cs : List Value} {o : Nat} {v : Value} (h : (cs.drop o).take 1 = [v]) : cs[o]? = some v := by
  have h1 : ((cs.drop o).take 1)[0]? = some v := by rw [h]; rfl
  rw [List.getElem?_take] at h1
  simpa using h1

theorem i64_of {n : Int} (h : (Lit.int .i64 n).wf = true) : I64 n := by
  simp [Lit.wf, IntKind.min, IntKind.max, IntKind.signed, IntKind.bits] at h
  unfold I64; omega
end
end Go.Proofs.Ytgknameejoalnaa
namespace Go.Proofs.Ytgknameejoalnaa
open Go.RowKit Go.ChangeShapes Go.WideShapes Go.Deep

theorem Try.cellsInt : Try.prog.cellsOf 3 = 1 := by kernel_rfl
theorem Try.cellsString : Try.prog.cellsOf 9 = 1 := by kernel_rfl
theorem Try.cellsBool : Try.prog.cellsOf 4 = 1 := by kernel_rfl
theorem Try.cellsGlyph : Try.prog.cellsOf 23 = 6 := by kernel_rfl

section
variable {H : Type} {enc : TypeId × Value → H} {w : World}

theorem field_int {n o : Nat} {cs : List Value} {y : DataW H × List MemPlace} (h : DataW.trod enc Try.prog w 0 (fun _ => true) true n 3 ((cs.drop o).take (Try.prog.cellsOf 3)) = some y) : ∃ z, cs[o]? = some (.int .i64 z) ∧ I64 z := by
  rw [Try.cellsInt] at h
  obtain ⟨z, hz, _, wz⟩ := DataW.trod_int Try.underlying3 h
  exact ⟨z, take_one hz, i64_of wz⟩
theorem field_string {n o : Nat} {cs : List Value} {y : DataW H × List MemPlace} (h : DataW.trod enc Try.prog w 0 (fun _ => true) true n 9 ((cs.drop o).take (Try.prog.cellsOf 9)) = some y) : ∃ s, cs[o]? = some (.string s) ∧ s.size ≤ maxLen := by
  rw [Try.cellsString] at h
  obtain ⟨s, hs, _, ws⟩ := DataW.trod_string Try.underlying9 h
  exact ⟨s, take_one hs, ws⟩
theorem field_bool {n o : Nat} {cs : List Value} {y : DataW H × List MemPlace} (h : DataW.trod enc Try.prog w 0 (fun _ => true) true n 4 ((cs.drop o).take (Try.prog.cellsOf 4)) = some y) : ∃ b, cs[o]? = some (.bool b) := by
  rw [Try.cellsBool] at h
  obtain ⟨b, hb, _⟩ := DataW.trod_bool Try.underlying4 h
  exact ⟨b, take_one hb⟩

set_option maxRecDepth 100000 in
/-- The cells of a glyph that reads. -/
theorem read_glyph {fuel : Nat} {cs : List Value} {x : DataW H × List MemPlace} (h : DataW.trod enc Try.prog w 0 (fun _ => true) true fuel 23 cs = some x) :
    ∃ g : Gly, cs = [.string g.name, .int .i64 g.w, .int .i64 g.h, .int .i64 g.d, .int .i64 g.it, .int .i64 g.at_] ∧ g.wf ∧ g.name.size ≤ maxLen := by
  obtain ⟨hl, n, hf⟩ := read_struct Try.underlying23 h
  rw [Try.cellsGlyph] at hl
  obtain ⟨_, f0⟩ := hf 0 _ rfl
  obtain ⟨_, f1⟩ := hf 1 _ rfl
  obtain ⟨_, f2⟩ := hf 2 _ rfl
  obtain ⟨_, f3⟩ := hf 3 _ rfl
  obtain ⟨_, f4⟩ := hf 4 _ rfl
  obtain ⟨_, f5⟩ := hf 5 _ rfl
  obtain ⟨s, e0, hs⟩ := field_string f0
  obtain ⟨n1, e1, h1⟩ := field_int f1
  obtain ⟨n2, e2, h2⟩ := field_int f2
  obtain ⟨n3, e3, h3⟩ := field_int f3
  obtain ⟨n4, e4, h4⟩ := field_int f4
  obtain ⟨n5, e5, h5⟩ := field_int f5
  refine ⟨{ name := s, w := n1, h := n2, d := n3, it := n4, at_ := n5 }, ?_, ⟨h1, h2, h3, h4, h5⟩, hs⟩
  match cs, hl with
  | [c0, c1, c2, c3, c4, c5], _ =>
    simp at e0 e1 e2 e3 e4 e5
    subst e0 e1 e2 e3 e4 e5
    rfl

end
end Go.Proofs.Ytgknameejoalnaa
