/- Texts Cel, Rng, Evr, Ofl, Hlf, Clo, Mak. -/
import Derived.Test.YtgnkngkogamjaaaR04
import Derived.Test.YtgnkngkogamjaaaR03
import Derived.RangeFuncNested
import Derived.RangeFuncLeaves
import Derived.Test.YtgnkngkogamjaaaR01
import Derived.RangeFuncBound
import Derived.RangeFuncCalls
import Derived.Shelf.Abstract
import Derived.Shelf.RegionOpen
import Derived.WalkKit
import Derived.OwnWalkIn
import Derived.TacticsInMore
import Derived.LoopNIn
import Derived.LoopIn
import Derived.Test.YtgnkngkogamjaaaR02
import Derived.WalkSpells
import Derived.Test.YtgnkngkogamjaaaR00
import Derived.Laws.MakeOwn
namespace Go.Proofs.Ytgnkngkogamjaaa
open Go.RowKit

/-- A box as its cells tell it: its numbers, its list, its sources. -/
abbrev El := Hd × Value × Value
@[reducible] def elC (e : El) : List Value := e.1.cells e.2.1 e.2.2
theorem elC_len (e : El) : (elC e).length = 11 := rfl
def elX (x : Int) (e : El) : El := ({ e.1 with x := x }, e.2)
def elY (y : Int) (e : El) : El := ({ e.1 with y := y }, e.2)
theorem flat_get {ks : List El} {junk : List Value} {i j : Nat} {e : El} {v : Value} (h : ks[i]? = some e) (hv : (elC e)[j]? = some v) : (ks.flatMap elC ++ junk)[i * 11 + j]? = some v := by
  induction ks generalizing i with
  | nil => simp at h
  | cons a ks ih =>
    have hj : j < 11 := by rw [← elC_len e]; exact (List.getElem?_eq_some_iff.1 hv).1
    cases i with
    | zero =>
      obtain rfl : a = e := by simpa using h
      rw [List.flatMap_cons, List.append_assoc, List.getElem?_append_left (by rw [elC_len]; omega)]
      simpa using hv
    | succ i =>
      rw [List.flatMap_cons, List.append_assoc, List.getElem?_append_right (by rw [elC_len]; omega), elC_len]
      have := ih (i := i) (by simpa using h)
      rw [← this]
      congr 1
      omega
theorem flat_set {ks : List El} {junk : List Value} {i j : Nat} {e e' : El} {v : Value} (h : ks[i]? = some e) (hj : j < 11) (hv : (elC e).set j v = elC e') : (ks.flatMap elC ++ junk).set (i * 11 + j) v = (ks.set i e').flatMap elC ++ junk := by
  induction ks generalizing i with
  | nil => simp at h
  | cons a ks ih =>
    cases i with
    | zero =>
      obtain rfl : a = e := by simpa using h
      rw [List.flatMap_cons, List.append_assoc, List.set_append_left _ _ (by rw [elC_len]; omega), List.set_cons_zero, List.flatMap_cons, List.append_assoc, ← hv]
      simp
    | succ i =>
      rw [List.flatMap_cons, List.append_assoc, List.set_append_right _ _ (by rw [elC_len]; omega), elC_len, List.set_cons_succ, List.flatMap_cons, List.append_assoc, ← ih (by simpa using h)]
      congr 2
      omega
theorem flat_size {ks : List El} : (ks.flatMap elC).length = ks.length * 11 := by
  induction ks with
  | nil => rfl
  | cons a ks ih => rw [List.flatMap_cons, List.length_append, ih, elC_len, List.length_cons]; omega

/-- The elements for which P holds have got the X that f says. -/
def PlX (ks cur : List El) (P : Nat → Prop) (f : Nat → Int) : Prop := cur.length = ks.length ∧ ∀ i e, ks[i]? = some e → (P i → cur[i]? = some (elX (f i) e)) ∧ (¬ P i → cur[i]? = some e)
theorem plX_start {ks : List El} {P : Nat → Prop} {f : Nat → Int} (h : ∀ i, ¬ P i) : PlX ks ks P f := ⟨rfl, fun i _e he => ⟨fun hp => (h i hp).elim, fun _ => he⟩⟩
theorem PlX.iff {ks cur : List El} {P P' : Nat → Prop} {f : Nat → Int} (h : PlX ks cur P f) (hp : ∀ i, i < ks.length → (P i ↔ P' i)) : PlX ks cur P' f :=
  ⟨h.1, fun i e he => by
    have hi := (List.getElem?_eq_some_iff.1 he).1
    exact ⟨fun hq => (h.2 i e he).1 ((hp i hi).2 hq), fun hq => (h.2 i e he).2 (fun h' => hq ((hp i hi).1 h'))⟩⟩
/-- What an element holds meanwhile: only its X may have turned. -/
theorem PlX.at {ks cur : List El} {P : Nat → Prop} {f : Nat → Int} {i : Nat} {e : El} (h : PlX ks cur P f) (he : ks[i]? = some e) : ∃ x, cur[i]? = some (elX x e) := by
  by_cases hp : P i
  · exact ⟨_, (h.2 i e he).1 hp⟩
  · exact ⟨e.1.x, (h.2 i e he).2 hp⟩
theorem PlX.next {ks cur : List El} {P P' : Nat → Prop} {f : Nat → Int} {i : Nat} {e : El} (h : PlX ks cur P f) (he : ks[i]? = some e) (hp : ∀ j, P' j ↔ P j ∨ j = i) : PlX ks (cur.set i (elX (f i) e)) P' f := by
  have hi : i < cur.length := by rw [h.1]; exact (List.getElem?_eq_some_iff.1 he).1
  refine ⟨by simpa using h.1, fun j e' he' => ?_⟩
  by_cases hj : i = j
  · subst hj
    obtain rfl : e = e' := by rw [he] at he'; exact Option.some.inj he'
    exact ⟨fun _ => by rw [List.getElem?_set_self hi], fun hn => (hn ((hp i).2 (.inr rfl))).elim⟩
  · rw [List.getElem?_set_ne hj]
    exact ⟨fun hq => (h.2 j e' he').1 (((hp j).1 hq).elim id (fun h => (hj h.symm).elim)), fun hq => (h.2 j e' he').2 (fun h' => hq ((hp j).2 (.inl h')))⟩

/-- The columns: how wide they are, where they begin, where their cells lie. -/
def colW (R C : Nat) (wd : Nat → Int) (c : Nat) : Int := mxs 0 ((List.range R).map fun r => wd (c + r * C))
def colB (R C : Nat) (wd : Nat → Int) (sp : Int) : Nat → Int
  | 0 => 0
  | c + 1 => colB R C wd sp c + colW R C wd c + sp
theorem mxs_le {a b : Int} {ns : List Int} (h0 : a ≤ b) (h : ∀ n ∈ ns, n ≤ b) : mxs a ns ≤ b := by
  unfold mxs
  induction ns generalizing a with
  | nil => exact h0
  | cons n ns ih => exact ih (by have := h n (List.mem_cons_self ..); omega) (fun m hm => h m (List.mem_cons_of_mem _ hm))
theorem mxs_ge {a : Int} {ns : List Int} : a ≤ mxs a ns := by
  unfold mxs
  induction ns generalizing a with
  | nil => exact Int.le_refl _
  | cons n ns ih => exact Int.le_trans (Int.le_max_left a n) ih
theorem mxs_mem {a n : Int} {ns : List Int} (h : n ∈ ns) : n ≤ mxs a ns := by
  induction ns generalizing a with
  | nil => cases h
  | cons m ns ih =>
    rcases List.mem_cons.1 h with rfl | h
    · exact Int.le_trans (Int.le_max_right a n) (mxs_ge (ns := ns))
    · exact ih h
theorem colW_in {R C : Nat} {wd : Nat → Int} (hw : ∀ i, wd i ≤ 1073741824) (c : Nat) : 0 ≤ colW R C wd c ∧ colW R C wd c ≤ 1073741824 :=
  ⟨mxs_ge, mxs_le (by omega) (fun n hn => by obtain ⟨r, _, rfl⟩ := List.mem_map.1 hn; exact hw _)⟩
theorem colB_in {R C : Nat} {wd : Nat → Int} {sp : Int} (hw : ∀ i, wd i ≤ 1073741824) (hs : 0 ≤ sp ∧ sp ≤ 20000) (c : Nat) : 0 ≤ colB R C wd sp c ∧ colB R C wd sp c ≤ 2000000000 * c := by
  induction c with
  | zero => exact ⟨Int.le_refl _, by simp [colB]⟩
  | succ c ih =>
    have := colW_in (R := R) (C := C) hw c
    rw [colB]
    push_cast
    omega
theorem finRange_vals (R : Nat) (f : Nat → Int) : (List.finRange R).map (fun x => f x.1) = (List.range R).map f := by
  apply List.ext_getElem?
  intro i
  by_cases h : i < R
  · rw [List.getElem?_map, List.getElem?_map, List.getElem?_eq_getElem (by simpa using h), List.getElem?_eq_getElem (by simpa using h)]
    simp
  · rw [List.getElem?_eq_none (by simpa using h), List.getElem?_eq_none (by simpa using h)]
end Go.Proofs.Ytgnkngkogamjaaa
namespace Go.Proofs.Ytgnkngkogamjaaa
open Go.RowKit

section
variable {P : Program} {ops : Array Oper} {Q : Exit → Act → World → Prop} {l n : Nat}

theorem rows_round {row : String} {args : Array Value} {w : World} {R : Value → World → Prop} (h : Rows P row args w R) : RowsIn (Fence.wide.inRound l) n P row args w R := by
  intro c cs _
  obtain ⟨v, w', hr, hs⟩ := h c cs
  exact ⟨v, w', hr, (stepsIn_wide (P := P)).2 hs⟩
theorem calls_round {f : FuncId} {args : Array Value} {w : World} {R : Ending → World → Prop} (h : Calls P f args w R) : CallsIn (Fence.wide.inRound l) n P f args w R := (callsIn_wide (n := n)).2 h

theorem upon_round (_hq : ¬ LetsOut Q) {o : Oper} {a : Act} {K K' : Act → World → Prop} (hk : ∀ a w, K a w → K' a w) {r : Result Next} (h : o.upon P a K Q r) : o.uponIn (Fence.wide.inRound l) n P a K' Q r := by
  cases r with
  | ok x w' =>
    cases x with
    | value v => exact hk _ _ h
    | skip => exact hk _ _ h
    | defer d => exact hk _ _ h
    | enter f args =>
      refine ⟨fun h => by simp [Fence.wide] at h, calls_round (Calls.mono h ?_)⟩
      intro e w'' he
      cases e with
      | returned v => exact hk _ _ he
      | panicked c => exact he
      | outgrown => exact he
    | row row args =>
      refine ⟨fun h => by simp [Fence.wide] at h, rows_round (l := l) ?_⟩
      exact Rows.mono h (fun v w'' he => hk _ _ he)
    | _ => exact h.elim
  | halt s w' =>
    cases s with
    | panic v => exact h
    | _ => exact h.elim

/-- No operation is a defer statement. -/
def noDefer (ops : List Oper) : Bool := ops.all fun o => match o.op with | .defer _ => false | _ => true
theorem noDefer_out {ops : List Oper} (h : noDefer ops = true) : ∀ o ∈ ops, ∀ c, o.op ≠ .defer c := fun o ho c hc => by
  have := List.all_eq_true.1 h o ho
  rw [hc] at this
  cases this

theorem op_round (hq : ¬ LetsOut Q) {o : Oper} (hd : ∀ c, o.op ≠ .defer c) {a : Act} {w : World} {K K' : Act → World → Prop} (hk : ∀ a w, K a w → K' a w) (h : o.wp P a w K Q) : o.wpIn (Fence.wide.inRound l) n P a w K' Q := by
  refine ⟨fun _ _ => trivial, ?_⟩
  rw [Oper.semAt_eq _ _ _ hd]
  exact upon_round hq hk h

theorem list_round (hq : ¬ LetsOut Q) : ∀ (rest : List Oper) (a : Act) (w : World), (∀ o ∈ rest, ∀ c, o.op ≠ .defer c) → wpList P ops Q rest a w → wpListIn (Fence.wide.inRound l) n P ops Q rest a w
  | [], _, _, _, h => h
  | o :: rest, a, w, hd, h => by
    unfold wpList at h
    unfold wpListIn
    split at h
    · rename_i hw
      rw [if_pos hw]
      rcases h with h | ⟨_, h⟩
      · exact op_round hq (hd o (List.mem_cons_self ..)) (fun a w h => list_round hq rest a w (fun o ho => hd o (List.mem_cons_of_mem _ ho)) h) h
      · exact (hq h).elim
    · rename_i hw
      rw [if_neg hw]
      exact ⟨fun _ _ => trivial, list_round hq rest _ w (fun o ho => hd o (List.mem_cons_of_mem _ ho)) h⟩

/-- A region in the text's order, in a round. -/
theorem region_round {id : Nat} {ls : List Oper} {a : Act} {w : World} (hq : ¬ LetsOut Q) (hd : noDefer ls = true) (h : wpList P ls.toArray Q ls a w) : (Code.region id ls.toArray false).wpIn (Fence.wide.inRound l) n P Q a w :=
  wpIn_region_lit (list_round hq ls a w (noDefer_out hd) h)

theorem ops_round (hq : ¬ LetsOut Q) (hd : ∀ o ∈ ops.toList, ∀ c, o.op ≠ .defer c) : ∀ (is : List Nat) (a : Act) (w : World), wpOps P ops Q is a w → wpOpsIn (Fence.wide.inRound l) n P ops Q is a w
  | [], _, _, h => h
  | i :: is, a, w, h => by
    unfold wpOps at h
    unfold wpOpsIn
    cases ho : ops[i]? with
    | none => rw [ho] at h; exact ops_round hq hd is a w h
    | some o =>
      rw [ho] at h
      simp only at h ⊢
      split at h
      · rename_i hw
        rw [if_pos hw]
        rcases h with h | ⟨_, h⟩
        · exact op_round hq (hd o (Array.mem_toList_iff.2 (Array.mem_of_getElem? ho))) (fun a w h => ops_round hq hd is a w h) h
        · exact (hq h).elim
      · rename_i hw
        rw [if_neg hw]
        exact ⟨fun _ _ => trivial, ops_round hq hd is _ w h⟩

/-- What every order of a region's operations gives. -/
def RegionAny (P : Program) (ops : Array Oper) (Q : Exit → Act → World → Prop) (a : Act) (w : World) : Prop :=
  ∀ t, wpOps P ops Q (Region.schedule (P.follows .mixedOrders) ops t) a { w with drawn := w.drawn + 1 }
theorem RegionAny.wp {id : Nat} {a : Act} {w : World} (h : RegionAny P ops Q a w) : (Code.region id ops true).wp P Q a w := wp_region_draw h
theorem RegionAny.round {id : Nat} {ls : List Oper} {a : Act} {w : World} (hq : ¬ LetsOut Q) (hd : noDefer ls = true) (h : RegionAny P ls.toArray Q a w) : (Code.region id ls.toArray true).wpIn (Fence.wide.inRound l) n P Q a w :=
  wpIn_region_draw fun t => ops_round hq (fun o ho => noDefer_out hd o (by simpa using ho)) _ _ _ (h t)
theorem regionAny_any {a : Act} {w : World} (hm : P.follows .mixedOrders = true) (h : wpAny P .any ops Q ops.size (Array.replicate ops.size false) a { w with drawn := w.drawn + 1 }) : RegionAny P ops Q a w := fun t => by
  simp only [Region.schedule, hm, Bool.true_or, if_true]
  exact wpAny_sound ops.size t _ a _ h
end

section
variable {P : Program} {l : List Oper} {a : Act} {Q : Exit → Act → World → Prop} {D : List Nat} {W w : World} {L : List (Nat × List Value)}
theorem own_anyMR (hS : Own D W L w) (mid hard : List Nat) (n : Nat) (hm : P.follows .mixedOrders = true) (hB : (decide (l.length = n) && Region.noSelect l.toArray) = true)
    (h : Closed l.toArray (mk l.toArray.size []) → ∀ w', Own D W L w' → w.heap.size ≤ w'.heap.size → wpK P l.toArray Q (relOf w.heap.size mid hard) n (mk l.toArray.size []) a w') : RegionAny P l.toArray Q a w := by
  simp only [Bool.and_eq_true, decide_eq_true_eq] at hB
  obtain ⟨rfl, hsel⟩ := hB
  refine regionAny_any hm ?_
  have := wpAny_of_wpK _ _ _ _ (h (closed_nil _) _ hS.drew (Nat.le_refl _))
  rw [← List.size_toArray] at this
  exact this
theorem own_anyR (hS : Own D W L w) (hard : List Nat) (n : Nat) (hm : P.follows .mixedOrders = true) (hB : (decide (l.length = n) && Region.noSelect l.toArray) = true)
    (h : Closed l.toArray (mk l.toArray.size []) → ∀ w', Own D W L w' → wpK P l.toArray Q (relOf w.heap.size [] hard) n (mk l.toArray.size []) a w') : RegionAny P l.toArray Q a w :=
  own_anyMR hS [] hard n hm hB fun hc w' hw' _ => h hc w' hw'
end

/-! ### What a range over a function leaves alone -/
section
variable {D : List Nat} {W w w' : World} {L L' : List (Nat × List Value)}
theorem has_cells {b : Nat} {cs : List Value} (h : Has w b cs) : ∃ o : Obj, w.heap[b]? = some o ∧ o.isCells = true := by
  obtain ⟨t, h⟩ := h
  exact ⟨_, h, rfl⟩
theorem Own.notCells (hS : Own D W L w) {k : Nat} {o : Obj} (ho : w.heap[k]? = some o) (hc : o.isCells = false) : k ∉ L.map (·.1) := fun h => by
  obtain ⟨x, hx, rfl⟩ := List.mem_map.1 h
  obtain ⟨o', h', hc'⟩ := has_cells (hS.has x hx)
  rw [ho] at h'
  cases h'
  rw [hc] at hc'
  cases hc'
/-- A step that turns a block that is no cells and not of W. -/
theorem Own.grown (hS : Own D W L w) {row : Option Nat} (hg : w.grownBy w' row) (hr : ∀ r, row = some r → W.heap.size ≤ r ∧ ∃ o : Obj, w.heap[r]? = some o ∧ o.isCells = false) : Own D W L w' where
  os := hg.os.trans hS.os
  tape := hg.tape.trans hS.tape
  output := hg.output.trans hS.output
  size := Nat.le_trans hS.size hg.size
  block := fun k hk hd => (hg.block k (Nat.lt_of_lt_of_le hk hS.size) (fun e => by have := (hr k e.symm).1; omega)).trans (hS.block k hk hd)
  has := fun x hx => by
    obtain ⟨t, h⟩ := hS.has x hx
    refine ⟨t, (hg.block x.1 (Has.lt ⟨t, h⟩) (fun e => ?_)).trans h⟩
    obtain ⟨_, o, ho, hc⟩ := hr x.1 e.symm
    exact hS.notCells ho hc (List.mem_map_of_mem hx)
  ge := hS.ge
  apart := hS.apart
theorem Own.putObj (hS : Own D W L w) {r : Nat} {o : Obj} (o' : Obj) (hr : W.heap.size ≤ r) (ho : w.heap[r]? = some o) (hc : o.isCells = false) : Own D W L (w.putObj r o') :=
  hS.grown (grownBy_putObj' w r o') (fun k e => by cases e; exact ⟨hr, o, ho, hc⟩)
/-- The blocks of a round are new, or of the list. -/
theorem Own.chainR (hA : Own D W L w) (hB : Own (L.map (·.1)) w L' w') : Own D W L' w' where
  os := hB.os.trans hA.os
  tape := hB.tape.trans hA.tape
  output := hB.output.trans hA.output
  size := Nat.le_trans hA.size hB.size
  block := fun k hk hd => (hB.block k (Nat.lt_of_lt_of_le hk hA.size) (fun h => by
    obtain ⟨x, hx, rfl⟩ := List.mem_map.1 h
    rcases hA.ge x hx with h | h
    · exact hd h
    · omega)).trans (hA.block k hk hd)
  has := hB.has
  ge := fun x hx => by
    rcases hB.ge x hx with h | h
    · obtain ⟨y, hy, he⟩ := List.mem_map.1 h
      rw [← he]
      exact hA.ge y hy
    · exact .inr (Nat.le_trans hA.size h)
  apart := hB.apart
theorem keepsFrom_own {B : Nat} (hA : Own D W L w) (hB : Own (L.map (·.1)) w L' w') : KeepsFrom B w w' :=
  ⟨hB.size, fun k _o _ ho hc => (hB.block k (Array.getElem?_eq_some_iff.1 ho).1 (hA.notCells ho hc)).trans ho⟩
end

/-- The blocks of the closure keep. -/
def KeepB (KB : List Nat) (w w' : World) : Prop := w.heap.size ≤ w'.heap.size ∧ ∀ k ∈ KB, k < w.heap.size → w'.heap[k]? = w.heap[k]?
theorem KeepB.trans {KB : List Nat} {A B C : World} (h : KeepB KB A B) (k : KeepB KB B C) : KeepB KB A C :=
  ⟨Nat.le_trans h.1 k.1, fun i hi hl => (k.2 i hi (Nat.lt_of_lt_of_le hl h.1)).trans (h.2 i hi hl)⟩
theorem KeepB.refl {KB : List Nat} {A : World} : KeepB KB A A := ⟨Nat.le_refl _, fun _ _ _ => rfl⟩

/-- Between two rounds: the own blocks hold what Rl tells of the rounds that were. -/
def RoundI {α : Type} (KB : List Nat) (L : List (Nat × List Value)) (w : World) (Rl : List α → List (Nat × List Value) → Prop) (pre : List α) (W : World) : Prop :=
  ∃ L', Own (L.map (·.1)) w L' W ∧ Rl pre L' ∧ ∀ x ∈ L', x.1 ∉ KB
theorem roundI_from {α : Type} {KB : List Nat} {L : List (Nat × List Value)} {w : World} {Rl : List α → List (Nat × List Value) → Prop} : OwnFrom w.heap.size (RoundI KB L w Rl) := by
  rintro pre A B row ⟨L', hS, hR, hK⟩ hg hr
  exact ⟨L', hS.grown hg hr, hR, hK⟩

/-- How a round may be left. -/
def roundPostO {α : Type} (Rl : List α → List (Nat × List Value) → Prop) (Rx : Code → List α → List (Nat × List Value) → Prop) (xs : List α) (L' : List (Nat × List Value)) (W : World) : Exit → Act → World → Prop
  | .normal, _, W' => ∃ L'', Own (L'.map (·.1)) W L'' W' ∧ Rl xs L''
  | .ret, _, W' => ∃ L'', Own (L'.map (·.1)) W L'' W' ∧ Rx .ret xs L''
  | _, _, _ => False
theorem roundPostO_stays {α : Type} {Rl : List α → List (Nat × List Value) → Prop} {Rx : Code → List α → List (Nat × List Value) → Prop} {xs : List α} {L' : List (Nat × List Value)} {W : World} : ¬ LetsOut (roundPostO Rl Rx xs L' W) := by
  rintro ⟨a, w, h⟩
  exact h
theorem then_stays {K : Act → World → Prop} {Q : Exit → Act → World → Prop} (h : ¬ LetsOut Q) : ¬ LetsOut (Exit.then K Q) := by
  rintro ⟨a, w, h'⟩
  exact h ⟨a, w, h'⟩
theorem block_stays {id : Nat} {Q : Exit → Act → World → Prop} (h : ¬ LetsOut Q) : ¬ LetsOut (Exit.inBlock id Q) := by
  rintro ⟨a, w, h'⟩
  exact h ⟨a, w, h'⟩

theorem postG_of_own {α : Type} {KB : List Nat} {L L' : List (Nat × List Value)} {w W : World} {B : Nat} {Rl : List α → List (Nat × List Value) → Prop} {Rx : Code → List α → List (Nat × List Value) → Prop} {xs : List α}
    (hb : ∀ k ∈ KB, k < w.heap.size) (hS : Own (L.map (·.1)) w L' W) (hK : ∀ x ∈ L', x.1 ∉ KB) : ∀ (e : Exit) (a : Act) (W' : World), roundPostO Rl Rx xs L' W e a W' → ownPostG B (KeepB KB) (RoundI KB L w Rl) (fun c => RoundI KB L w (Rx c)) xs W e a W' := by
  have hk' : ∀ {L''} {W'}, Own (L'.map (·.1)) W L'' W' → ∀ x ∈ L'', x.1 ∉ KB := fun hS' x hx hxk => by
    rcases hS'.ge x hx with h | h
    · obtain ⟨y, hy, he⟩ := List.mem_map.1 h
      rw [← he] at hxk
      exact hK y hy hxk
    · have := hb _ hxk
      have := hS.size
      omega
  have hkb : ∀ {L''} {W'}, Own (L'.map (·.1)) W L'' W' → KeepB KB W W' := fun hS' => ⟨hS'.size, fun k hk hl => hS'.block k hl (fun h => by
    obtain ⟨y, hy, he⟩ := List.mem_map.1 h
    rw [← he] at hk
    exact hK y hy hk)⟩
  intro e a W' h
  cases e with
  | normal =>
    obtain ⟨L'', hS', hR⟩ := h
    exact ⟨keepsFrom_own hS hS', hkb hS', L'', hS.chainR hS', hR, hk' hS'⟩
  | ret =>
    obtain ⟨L'', hS', hR⟩ := h
    exact ⟨keepsFrom_own hS hS', L'', hS.chainR hS', hR, hk' hS'⟩
  | exit id => exact h.elim
  | goto t => exact h.elim
  | panic c => exact h.elim
  | outgrown => exact h.elim

section
variable {P : Program} {Q : Exit → Act → World → Prop} {a : Act} {D : List Nat} {W0 w : World} {L : List (Nat × List Value)} {α : Type}

theorem keepB_put {KB : List Nat} (hb : ∀ k ∈ KB, k < w.heap.size) (W : World) (l : Nat) (o o' : Obj) (hl : w.heap.size ≤ l) (_h : W.heap[l]? = some o) (_c : o.isCells = false) (_k : o.isWalk = false) : KeepB KB W (W.putObj l o') := by
  refine ⟨(grownBy_putObj' W l o').size, fun k hk hlt => (grownBy_putObj' W l o').block k hlt ?_⟩
  intro e
  cases e
  have := hb _ hk
  omega

/-- The statement in a function's own frame. -/
theorem wp_range {g : Operand} {ps : Array Tmp} {assign body : Code} {KB : List Nat} {Rl : List α → List (Nat × List Value) → Prop} {Rx : Code → List α → List (Nat × List Value) → Prop} {gf : Nat} {lb : Array Value} {encs : α → Array Value} {S Sp : List α → Prop} {N : Nat}
    (hS : Own D W0 L w) (hR0 : Rl [] L) (hKL : ∀ x ∈ L, x.1 ∉ KB) (hb : ∀ k ∈ KB, k < w.heap.size)
    (hg : a.eval g = .func (.func gf) #[] lb) (eg : ∀ args w, (callFunc gf args).run P w = .ok (.enter gf args) w)
    (hseq : SeqStopsK Fence.wide 8 P gf lb encs (KeepB KB) S Sp N w) (hps : ∀ x, (encs x).size = ps.size) (a₁ : α → Act)
    (hassign : ∀ (l : Nat) (x : α) (W : World) (K : Act → World → Prop), K (a₁ x) W →
      assign.wpIn (Fence.wide.inRound l) 7 P (Exit.then K (fun _ _ _ => False)) { tmps := (ps.zip (encs x)).foldl (fun t (p, v) => t.setIfInBounds p v) a.tmps, defers := [] } W)
    (hbody : ∀ (l : Nat) (pre : List α) (x : α) (W : World) (L' : List (Nat × List Value)), w.heap.size ≤ l → (∃ r, W.heap[l]? = some (.loop r)) → Own (L.map (·.1)) w L' W → Rl pre L' → pre.length < N → body.wpIn (Fence.wide.inRound l) 7 P (roundPostO Rl Rx (pre ++ [x]) L' W) (a₁ x) W)
    (hdone : ∀ (M : Nat) (xs : List α) (W : World) (L' : List (Nat × List Value)), w.heap.size ≤ M → S xs → Own (L.map (·.1)) w L' W → Rl xs L' → W.heap[M]? = some (.deferred (some [])) → Q .normal { a with defers := { target := .collected M, args := #[] } :: a.defers } W)
    (hstop : ∀ (M : Nat) (c : Code) (pre : List α) (W : World) (L' : List (Nat × List Value)), w.heap.size ≤ M → Own (L.map (·.1)) w L' W → Rx c pre L' → W.heap[M]? = some (.deferred (some [])) → c.wp P Q { a with defers := { target := .collected M, args := #[] } :: a.defers } W) :
    (Code.rangeFunc g ps assign body).wp P Q a w := by
  refine (wpIn_wide (n := 9)).1 ?_
  refine wpIn_rangeFunc_ownH (F := Fence.wide) rfl (by decide) hg trivial eg hseq (fun h k => h.trans k) (keepB_put hb) (Below.refl _ w) hps
    (RoundI KB L w Rl) (fun c => RoundI KB L w (Rx c)) roundI_from (fun c => roundI_from) ⟨L, hS.rebase, hR0, hKL⟩ (fun x a' _ => a' = a₁ x) (fun _ _ _ _ _ _ hs _ _ => hs)
    (fun l pre x W K hi hK => hassign l x W K (hK _ _ (KeepsFrom.refl _ _) KeepB.refl hi rfl)) ?_ ?_ ?_
  · rintro l pre x a' W hl hr ⟨L', hS', hR', hK'⟩ rfl hlen
    exact wpIn_mono (hbody l pre x W L' hl hr hS' hR' hlen) (postG_of_own hb hS' hK')
  · rintro M xs W hM hs ⟨L', hS', hR', _⟩ hd
    exact hdone M xs W L' hM hs hS' hR' hd
  · rintro M c pre W hM _ ⟨L', hS', hR', _⟩ hd
    exact wpIn_wide.2 (hstop M c pre W L' hM hS' hR' hd)

/-- The statement in a round of another. -/
theorem wp_rangeIn {l₀ : Nat} {g : Operand} {ps : Array Tmp} {assign body : Code} {KB : List Nat} {Rl : List α → List (Nat × List Value) → Prop} {gf : Nat} {lb : Array Value} {encs : α → Array Value} {S Sp : List α → Prop} {N : Nat}
    (hS : Own D W0 L w) (hl₀ : ∃ r, w.heap[l₀]? = some (.loop r)) (hR0 : Rl [] L) (hKL : ∀ x ∈ L, x.1 ∉ KB) (hb : ∀ k ∈ KB, k < w.heap.size)
    (hg : a.eval g = .func (.func gf) #[] lb) (eg : ∀ args w, (callFunc gf args).run P w = .ok (.enter gf args) w)
    (hseq : SeqStopsK Fence.wide 6 P gf lb encs (KeepB KB) S Sp N w) (hps : ∀ x, (encs x).size = ps.size) (a₁ : α → Act)
    (hassign : ∀ (l : Nat) (x : α) (W : World) (K : Act → World → Prop), K (a₁ x) W →
      assign.wpIn (Fence.wide.inRound l) 5 P (Exit.then K (fun _ _ _ => False)) { tmps := (ps.zip (encs x)).foldl (fun t (p, v) => t.setIfInBounds p v) a.tmps, defers := [] } W)
    (hbody : ∀ (l : Nat) (pre : List α) (x : α) (W : World) (L' : List (Nat × List Value)), Own (L.map (·.1)) w L' W → Rl pre L' → pre.length < N → body.wpIn (Fence.wide.inRound l) 5 P (roundPostO Rl (fun _ _ _ => False) (pre ++ [x]) L' W) (a₁ x) W)
    (hdone : ∀ (xs : List α) (W : World) (L' : List (Nat × List Value)), S xs → Own (L.map (·.1)) w L' W → Rl xs L' → Q .normal a W) :
    (Code.rangeFunc g ps assign body).wpIn (Fence.wide.inRound l₀) 7 P Q a w := by
  obtain ⟨r₀, hl₀⟩ := hl₀
  refine wpIn_rangeFunc_ownN (F := Fence.wide.inRound l₀) rfl hl₀ (by decide) hg trivial eg (SeqStopsK.inRound l₀ hseq) (fun h k => h.trans k) (keepB_put hb) (Below.refl _ w) hps
    (RoundI KB L w Rl) (fun c => RoundI KB L w (fun _ _ => False)) roundI_from (fun c => roundI_from) ⟨L, hS.rebase, hR0, hKL⟩ (fun x a' _ => a' = a₁ x) (fun _ _ _ _ _ _ hs _ _ => hs)
    (fun l pre x W K hi hK => hassign l x W K (hK _ _ (KeepsFrom.refl _ _) KeepB.refl hi rfl)) ?_ ?_ ?_
  · rintro l pre x a' W hl hr ⟨L', hS', hR', hK'⟩ rfl hlen
    exact wpIn_mono (hbody l pre x W L' hS' hR' hlen) (postG_of_own (Rx := fun _ _ _ => False) hb hS' hK')
  · rintro xs W hs ⟨L', hS', hR', _⟩
    exact hdone xs W L' hs hS' hR'
  · rintro c pre W _ ⟨L', _, h, _⟩
    exact h.elim
end

/-! ### The function's end -/
/-- The marks of the ranges that were: blocks that are no cells, new since W, each another. -/
inductive Marks (W w : World) : List Deferred → Prop
  | nil : Marks W w []
  | cons {r : Nat} {ds : List Deferred} : W.heap.size ≤ r → w.heap[r]? = some (.deferred (some [])) → (∀ d ∈ ds, d.target ≠ .collected r) → Marks W w ds → Marks W w ({ target := .collected r, args := #[] } :: ds)
theorem Marks.keep {W w w' : World} {ds : List Deferred} (h : Marks W w ds) (hk : ∀ r, (∃ d ∈ ds, d.target = .collected r) → w.heap[r]? = some (.deferred (some [])) → w'.heap[r]? = some (.deferred (some []))) : Marks W w' ds := by
  induction h with
  | nil => exact .nil
  | cons h1 h2 h3 h4 ih =>
    refine .cons h1 (hk _ ⟨_, List.mem_cons_self .., rfl⟩ h2) h3 (ih fun r hr => hk r ?_)
    obtain ⟨d, hd, e⟩ := hr
    exact ⟨d, List.mem_cons_of_mem _ hd, e⟩
theorem Marks.own {W w w' : World} {ds : List Deferred} {L L' : List (Nat × List Value)} {D : List Nat} {V : World} (h : Marks W w ds) (hA : Own D V L w) (hS : Own (L.map (·.1)) w L' w') : Marks W w' ds :=
  h.keep fun r _ hr => (hS.block r (Array.getElem?_eq_some_iff.1 hr).1 (hA.notCells hr rfl)).trans hr
theorem Marks.lt {W w : World} {ds : List Deferred} (h : Marks W w ds) : ∀ d ∈ ds, ∀ r, d.target = .collected r → r < w.heap.size := by
  induction h with
  | nil => intro d hd; cases hd
  | cons h1 h2 h3 h4 ih =>
    intro d hd r hr
    rcases List.mem_cons.1 hd with rfl | hd
    · cases hr
      exact (Array.getElem?_eq_some_iff.1 h2).1
    · exact ih d hd r hr

theorem leaves_marks {P : Program} {n : Nat} {fn : Func} {tmps : Array Value} {R : Ending → World → Prop} {D : List Nat} {W : World} {L : List (Nat × List Value)}
    (hend : ∀ w', Own D W L w' → ∃ v, (results fn tmps).run P w' = .ok v w' ∧ R (.returned v) w') : ∀ (ds : List Deferred) (w : World), Own D W L w → Marks W w ds → LeavesInM Fence.wide n P fn tmps R ds .returning w := by
  intro ds
  induction ds with
  | nil =>
    intro w hS _
    exact hend w hS
  | cons d ds ih =>
    intro w hS hM
    cases hM with
    | cons h1 h2 h3 h4 =>
      refine ⟨by simp, .inl ⟨_, _, rfl, run_takeDeferred h2, ih _ (hS.putObj _ h1 h2 rfl) (h4.keep fun r hr hd => ?_)⟩⟩
      refine (World.putObj_heap_other ?_).trans hd
      rintro rfl
      obtain ⟨d, hd', he⟩ := hr
      exact h3 d hd' he

theorem calls_of_marks {P : Program} {f : FuncId} {fn : Func} {c : Code} {args : Array Value} {w : World} {R : Ending → World → Prop} (hf : P.funcs[f]? = some fn) (hb : fn.body = some c)
    (h : c.wp P (bodyPostM Fence.wide 9 P fn R) { tmps := args ++ Array.replicate (fn.ntmps - args.size) undef, defers := [] } w) : Calls P f args w R :=
  (callsIn_wide (n := 9)).1 (callsIn_of_wp_marks hf hb trivial (wpIn_wide.2 h))

end Go.Proofs.Ytgnkngkogamjaaa
namespace Go.Proofs.Ytgnkngkogamjaaa
open Go.RowKit
attribute [local go_sem] Oper.semAt_some
attribute [local irreducible] wpQuiet wpG wpP wpK wpList Code.wp Calls

theorem every_calls (b e s : Int) (w : World) : Calls Try.prog 26 #[.int .i64 b, .int .i64 e, .int .i64 s] w (fun r w' => ∃ k0 k1 k2, r = .returned (.func (.func 46) #[] #[.pointer (some ⟨k0, 0, none⟩), .pointer (some ⟨k1, 0, none⟩), .pointer (some ⟨k2, 0, none⟩)]) ∧ Own [] w [(k2, [.int .i64 s]), (k1, [.int .i64 e]), (k0, [.int .i64 b])] w') := by
  go_enter Try.func26, Try.ntmps26
  have hS := own_start w
  go_wp2_with (first | (refine own_unguard (by rfl) ?_) | (refine own_box1 (v := .int .i64 b) rfl _ _ rfl rfl rfl hS ?_; clear hS; (try clear ww); intro k0 ww hS) | (refine own_box1 (v := .int .i64 e) rfl _ _ rfl rfl rfl hS ?_; clear hS; (try clear ww); intro k1 ww hS) | (refine own_box1 (v := .int .i64 s) rfl _ _ rfl rfl rfl hS ?_; clear hS; (try clear ww); intro k2 ww hS) | (refine w_ld rfl _ rfl (by rfl) (by first | exact rd_1 (by repeat constructor) (by first | rfl | assumption) | exact rd_w (by repeat constructor) (by rfl) | exact rd_o (by assumption) (by rfl) (by first | exact nmn | assumption | simp) | exact rd_h (by assumption) (by rfl) (by first | exact nmn | assumption | simp) | exact rd_1o (by assumption) (by first | exact nmn | assumption | simp) | exact rd_1h (by assumption) (by first | rfl | assumption) (by first | exact nmn | assumption | simp)) hS ?_) | (refine own_box rfl _ _ rfl (by rfl) hS ?_; clear hS; (try clear ww); intro bb ww hS) | (refine w_s1 rfl _ _ rfl (by rfl) (by repeat constructor) (by first | exact .c | exact .t rfl) (by rfl) (by repeat constructor) hS ?_; clear hS; (try clear ww); intro ww hS))
  go_ret
  exact ⟨_, _, _, rfl, hS⟩

theorem every_stops (k0 k1 k2 b e s N m : Nat) (w : World) (h0 : Has w k0 [.int .i64 b]) (h1 : Has w k1 [.int .i64 e]) (h2 : Has w k2 [.int .i64 s]) (hs : 1 ≤ s) (hN : ∀ j, j < N ↔ b + j * s < e) (hbd : e + s ≤ 1000000000) (hm : 1 ≤ m) :
    SeqStopsK Fence.wide m Try.prog 46 #[.pointer (some ⟨k0, 0, none⟩), .pointer (some ⟨k1, 0, none⟩), .pointer (some ⟨k2, 0, none⟩)] (fun x : Fin N => #[.int .i64 ((b : Int) + (x.1 : Int) * (s : Int))]) (KeepB [k2, k1, k0]) (fun xs => xs = List.finRange N) (fun _ => True) N w := by
  intro l J Jx W hW hJ hJx hY hJ0
  have c0 := (h0.below hW).cell 0
  have c1 := (h1.below hW).cell 0
  have c2 := (h2.below hW).cell 0
  simp only [List.getElem?_cons_zero] at c0 c1 c2
  have ht0 : J ((List.finRange N).take 0) W := by simpa using hJ0
  refine callsIn_of_wp Try.func46 rfl trivial ?_ rfl
  simp only [Try.ntmps46, List.size_toArray, List.length_cons, List.length_nil, Nat.reduceAdd, Nat.reduceSub, Array.replicate_succ, Array.replicate_zero, List.push_toArray, List.append_toArray, List.nil_append, List.cons_append]
  gi_wp2
  gi_loopw [5] (fun p wr => ∃ j : Nat, j ≤ N ∧ p = .int .i64 ((b : Int) + (j : Int) * (s : Int)) ∧ J ((List.finRange N).take j) wr ∧ wr.cell? ⟨k1, 0, none⟩ = some (.int .i64 e) ∧ wr.cell? ⟨k2, 0, none⟩ = some (.int .i64 s)) (fun p wr => e + s - (intOf p).toNat)
  case atStart => exact ⟨0, Nat.zero_le _, by simp, ht0, c1, c2⟩
  case round =>
    obtain ⟨j, hj, rfl, hJs, c1', c2'⟩ := hrel
    by_cases hlt : j < N
    · have hle := (hN j).1 hlt
      have hz : ((b + j * s : Nat) : Int) = (b : Int) + (j : Int) * (s : Int) := by push_cast; rfl
      have d1 : decide ((b : Int) + (j : Int) * (s : Int) < (e : Int)) = true := decide_eq_true (by omega)
      have hw : IntKind.i64.wrap (((b : Int) + (j : Int) * (s : Int)) + (s : Int)) = ((b : Int) + ((j + 1 : Nat) : Int) * (s : Int)) := by rw [IntWalk.i64_in _ (by omega)]; push_cast; rw [Int.add_mul]; omega
      have hsucc : (List.finRange N).take j ++ [⟨j, hlt⟩] = (List.finRange N).take (j + 1) := by
        rw [List.take_add_one, List.getElem?_eq_getElem (by simpa using hlt)]
        simp
      obtain ⟨fn, tmps, assign, body, hy, hR⟩ := hY ((List.finRange N).take j) ⟨j, hlt⟩ wr hJs (by simp; omega)
      rw [hsucc] at hR
      obtain ⟨x, hx⟩ : ∃ x : Int, x = (b : Int) + (j : Int) * (s : Int) := ⟨_, rfl⟩
      simp only at hy
      rw [← hx] at hy d1 hw ⊢
      have HX := Lib.hid (show x + (s : Int) = (b : Int) + ((j + 1 : Nat) : Int) * (s : Int) ∧ x < (e : Int) ∧ 0 ≤ x by rw [hx]; push_cast; rw [Int.add_mul]; omega)
      clear hx
      gi_wp2
      refine hR.mono ?_
      rintro r W3 (⟨rfl, hJ3, hk3⟩ | ⟨rfl, hJx3⟩)
      · have c1'' := (World.cell?_of_block (a := ⟨k1, 0, none⟩) (hk3.2 k1 (by simp) (World.block_lt_of_cell? wr _ c1'))).trans c1'
        have c2'' := (World.cell?_of_block (a := ⟨k2, 0, none⟩) (hk3.2 k2 (by simp) (World.block_lt_of_cell? wr _ c2'))).trans c2'
        gi_wp2
        go_roundw
        case rel => exact ⟨j + 1, hlt, by go_num, hJ3, c1'', c2''⟩
        case measure =>
          have hh := HX.out
          push_cast at hh
          rw [← hh.1]
          simp only [intOf]
          omega
      · gi_wp2
        refine bodyPost_ret (results_none rfl _ _ _) rfl ?_
        exact ⟨⟨_, rfl⟩, .inr ⟨_, trivial, hJx3⟩⟩
    · have hjN : j = N := by omega
      subst hjN
      have hle : ¬ (b + j * s < e) := fun h => hlt ((hN j).2 h)
      have hz : ((b + j * s : Nat) : Int) = (b : Int) + (j : Int) * (s : Int) := by push_cast; rfl
      have d1 : decide ((b : Int) + (j : Int) * (s : Int) < (e : Int)) = false := decide_eq_false (by omega)
      gi_wp2
      go_end0
      exact ⟨⟨_, rfl⟩, .inl ⟨_, rfl, by simpa [List.take_of_length_le] using hJs⟩⟩
end Go.Proofs.Ytgnkngkogamjaaa
namespace Go.Proofs.Ytgnkngkogamjaaa
open Go.RowKit

theorem givesAt_rd {P : Program} {o : Oper} {a : Act} {D : List Nat} {W w : World} {L : List (Nat × List Value)} {ty : TypeId} {x : Operand} {p : Addr} {v : Value} (ho : o.op = .load ty x) (hx : a.eval x = .pointer (some p)) (hr : Reads P D W L ty p v) (hS : Own D W L w) : givesAt P o a w v := by
  unfold givesAt execOp
  simp only [ho, hx, Sem.run_bind, hr w hS, Sem.run_pure, Result.andThen_ok, givesUpon]
  first | done | exact ⟨rfl, rfl⟩ | exact ⟨trivial, trivial⟩ | trivial

theorem own_float {P : Program} {id : Nat} {Q : Exit → Act → World → Prop} {a : Act} {l : List Oper} {om : Oper} {D : List Nat} {W w : World} {L : List (Nat × List Value)} (hS : Own D W L w) (n m : Nat) (z : List Value) (t : TypeId) (hm : P.follows .mixedOrders = true) (hB : floatB .any l.toArray n m = true)
    (hom : l[m]? = some om) (hQ : ∀ c a (d : Tmp) v w, Q (.panic c) (Act.put a (some d) v) w → Q (.panic c) a w)
    (hal : ∀ (a : Act) (w : World), (execOp a.eval om).run P w = .ok (.value (.pointer (some ⟨w.heap.size, 0, none⟩))) (w.alloc (.cells z.toArray t)))
    (h : ∀ C : World → Prop, (∀ w', C w' → Own D W L w') → wpG P l.toArray C (fun a1 => wpP P l.toArray (fun a2 => ∀ b w', Own D W ((b, z) :: L) w' → wpList P l.toArray Q (l.drop (m + 1)) (a2.put om.dst (.pointer (some ⟨b, 0, none⟩))) w') ((l.take m).drop n) a1) (l.take n) a) :
    (Code.region id l.toArray true).wp P Q a w := by
  have wpP_mono : ∀ (l' : List Oper) (R R' : Act → Prop) (a : Act), (∀ a, R a → R' a) → wpP P l.toArray R l' a → wpP P l.toArray R' l' a := by
    intro l'
    induction l' with
    | nil => intro R R' a hR h; exact hR a h
    | cons o l' ih => intro R R' a hR ⟨v, h1, h2⟩; exact ⟨v, h1, ih R R' _ hR h2⟩
  have wpG_mono : ∀ (C : World → Prop) (l' : List Oper) (R R' : Act → Prop) (a : Act), (∀ a, R a → R' a) → wpG P l.toArray C R l' a → wpG P l.toArray C R' l' a := by
    intro C l'
    induction l' with
    | nil => intro R R' a hR h; exact hR a h
    | cons o l' ih => intro R R' a hR ⟨v, h1, h2⟩; exact ⟨v, h1, ih R R' _ hR h2⟩
  refine wp_region_float [] n m (.cells z.toArray t) hm hB hom hQ hal (by simp) fun C hC => ?_
  refine wpG_mono C _ _ _ _ (fun a1 h1 => ?_) (h C fun w' hw' => hS.step (hC.below w' hw'))
  refine wpP_mono _ _ _ _ (fun a2 h2 b w' hw' hb hO => ?_) h1
  exact h2 b w' (hS.add (hC.below w' hw') ⟨t, hO⟩ hb)

end Go.Proofs.Ytgnkngkogamjaaa
namespace Go.Proofs.Ytgnkngkogamjaaa
open Go.RowKit

attribute [local irreducible] Code.wp Calls

set_option maxHeartbeats 1000000 in
theorem length_Half_calls (n : Int) (w : World) : Calls Try.prog 25 #[.int .i64 n] w (Draws (.int .i64 (hlf n)) w) := by
  by_cases h : lenOk n = true
  · have hb := lenOk_iff.1 h
    have hs := Lib.hid (hlf_ok hb)
    go_enter Try.func25, Try.ntmps25
    go_wp2_with fail
    refine (length_Valid_calls _ _).mono ?_
    rintro e w' ⟨rfl, rfl⟩
    go_wp2_with fail
    refine (quotient_2_calls _ _ (by omega) (by omega)).mono ?_
    rintro e w' ⟨rfl, m, rfl⟩
    go_wp2_with fail
    go_ret
    exact ⟨ret_int hs.out.symm, m, rfl⟩
  · have hs := Lib.hid (show hlf n = 0 by unfold hlf; rw [if_neg h])
    have hl : lenOk n = false := by simpa using h
    clear h
    go_enter Try.func25, Try.ntmps25
    go_wp2_with fail
    refine (length_Valid_calls _ _).mono ?_
    rintro e w' ⟨rfl, rfl⟩
    go_wp2_with fail
    go_ret
    exact ⟨ret_int hs.out.symm, 0, rfl⟩

theorem length_Half_gives (n : Int) (w : World) : Calls Try.prog 25 #[.int .i64 n] w (Gives (.int .i64 (hlf n)) w) := (length_Half_calls n w).mono fun _ _ h => h.gives
theorem length_Scale_gives (n p : Int) (w : World) : Calls Try.prog 21 #[.int .i64 n, .int .i64 p] w (Gives (.int .i64 (scl n p)) w) := (length_Scale_calls n p w).mono fun _ _ h => h.gives

end Go.Proofs.Ytgnkngkogamjaaa
namespace Go.Proofs.Ytgnkngkogamjaaa
open Go.RowKit

attribute [local irreducible] wpQuiet wpList Code.wp Calls

instance ot_ints : OneTy Try.prog 35 := ⟨⟨_, Try.underlying35, rfl⟩, by kernel_rfl⟩
theorem el_int : ElTy Try.prog 35 3 1 8 := ElTy.mk' (.int .i64 0) Try.underlying35 (by kernel_rfl) rfl

/-- The call gives a slice of these numbers, in new memory. -/
def GivesInts (src : List Int) (w : World) (e : Ending) (w' : World) : Prop :=
  ∃ v X, e = .returned v ∧ Sl 1 src.length v (src.flatMap intCells) X ∧ Own [] w X w'
theorem own_ints {P : Program} {D : List Nat} {W w : World} {L : List (Nat × List Value)} {f : FuncId} {args : Array Value} {src : List Int} {R : Ending → World → Prop} (hS : Own D W L w) (hc : Calls P f args w (GivesInts src w))
    (h : ∀ y c X w', Sl 1 src.length (.slice y src.length c) (src.flatMap intCells) X → RowAt w' y 1 intCells src → Own D W (X ++ L) w' → R (.returned (.slice y src.length c)) w') : Calls P f args w R :=
  hc.mono fun _ _ ⟨v, X, he, hX, hO⟩ => by
    obtain ⟨y, c, rfl, hr, _, _⟩ := Sl.rowAt hO (fun x hx => hx) hX (fun _ => rfl) (by decide)
    rw [he]
    exact h y c X _ hX hr (hS.join hO)

set_option maxHeartbeats 4000000 in
set_option maxRecDepth 100000 in
theorem clone_nil (c : Nat) (w : World) : Calls Try.prog 61 #[.slice none 0 c] w (GivesInts [] w) := by
  have hnil := fun (w : World) (a : Option Addr) (n c : Nat) => Lib.run_eql_slice_nil (P := Try.prog) w 35 3 a n c 0 0 Try.underlying35
  go_enter Try.func61, Try.ntmps61
  have hS := own_start w
  go_wp2_with (first | (refine own_unguard (by rfl) ?_) | (refine w_ld rfl _ rfl (by rfl) (by first | exact rd_1 (by repeat constructor) (by first | rfl | assumption) | exact rd_w (by repeat constructor) (by rfl) | exact rd_o (by assumption) (by rfl) (by first | exact nmn | assumption | simp) | exact rd_h (by assumption) (by rfl) (by first | exact nmn | assumption | simp) | exact rd_1o (by assumption) (by first | exact nmn | assumption | simp) | exact rd_1h (by assumption) (by first | rfl | assumption) (by first | exact nmn | assumption | simp)) hS ?_) | (refine own_box rfl _ _ rfl (by rfl) hS ?_; clear hS; (try clear ww); intro bb ww hS) | (refine w_s1 rfl _ _ rfl (by rfl) (by repeat constructor) (by first | exact .c | exact .t rfl) (by rfl) (by repeat constructor) hS ?_; clear hS; (try clear ww); intro ww hS))
  go_ret
  exact ⟨_, [], rfl, sl_nil 1, hS⟩

theorem clone_cells {W w : World} {L : List (Nat × List Value)} {a : Addr} {src : List Int} (hS : Own [] W L w) (hr : RowAt W (some a) 1 intCells src) : ∀ j u, (src.flatMap intCells)[j]? = some u → w.cell? (a.add j) = some u := by
  intro j u hj
  by_cases h : src = []
  · subst h; simp at hj
  · obtain ⟨b, o, hx, hr2⟩ := (hr.own hS).flat (fun _ _ => rfl) h
    obtain rfl : a = ⟨b, o, none⟩ := by simpa using hx
    rw [Addr.add_lit]
    exact hr2 j u hj
theorem clone_one (src : List Int) : ∀ u ∈ src.flatMap intCells, u.oneCell' = true := by
  intro u hu
  obtain ⟨n, _, h⟩ := List.mem_flatMap.1 hu
  simp [intCells] at h
  subst h; rfl

set_option maxHeartbeats 4000000 in
set_option maxRecDepth 100000 in
theorem clone_some (a : Addr) (src : List Int) (c : Nat) (w : World) (hr : RowAt w (some a) 1 intCells src) (hl : src.length ≤ 17592186044416) : Calls Try.prog 61 #[.slice (some a) src.length c] w (GivesInts src w) := by
  have HR := Lib.hid hr
  clear hr
  have hnil := fun (w : World) (a : Option Addr) (n c : Nat) => Lib.run_eql_slice_nil (P := Try.prog) w 35 3 a n c 0 0 Try.underlying35
  go_enter Try.func61, Try.ntmps61
  have hS := own_start w
  go_wp2_with (first | (refine own_unguard (by rfl) ?_) | (refine own_buildEmpty rfl 35 3 rfl hS Try.underlying35 (by kernel_rfl) ?_; clear hS; (try clear ww); intro bb ww hS) | (refine own_append rfl _ _ _ rfl (size := 1) (n := 0) (xs := []) (X := []) ⟨rfl, .inl ⟨_, .inr ⟨bb, 0, rfl⟩, rfl, rfl, rfl⟩⟩ rfl (news := src.flatMap intCells) rfl (show Own [] w ([(bb, [])] ++ []) ww from hS) (clone_cells hS HR.out) (flat_len (f := intCells) (size := 1) (fun _ => rfl) src) (clone_one src) el_int (by decide) (by simp only [maxLen]; omega) (by omega) ?_; clear hS; intro v1 X1 ww hS hX) | (refine w_ld rfl _ rfl (by rfl) (by first | exact rd_1 (by repeat constructor) (by first | rfl | assumption) | exact rd_w (by repeat constructor) (by rfl) | exact rd_o (by assumption) (by rfl) (by first | exact nmn | assumption | simp) | exact rd_h (by assumption) (by rfl) (by first | exact nmn | assumption | simp) | exact rd_1o (by assumption) (by first | exact nmn | assumption | simp) | exact rd_1h (by assumption) (by first | rfl | assumption) (by first | exact nmn | assumption | simp)) hS ?_) | (refine own_box rfl _ _ rfl (by rfl) hS ?_; clear hS; (try clear ww); intro bb ww hS) | (refine w_s1 rfl _ _ rfl (by rfl) (by repeat constructor) (by first | exact .c | exact .t rfl) (by rfl) (by repeat constructor) hS ?_; clear hS; (try clear ww); intro ww hS))
  go_ret
  exact ⟨_, _, rfl, by simpa using hX, hS.forget (by simp)⟩

theorem clone_calls (x : Option Addr) (src : List Int) (c : Nat) (w : World) (hr : RowAt w x 1 intCells src) (hl : src.length ≤ 17592186044416) : Calls Try.prog 61 #[.slice x src.length c] w (GivesInts src w) := by
  cases x with
  | some a => exact clone_some a src c w hr hl
  | none =>
    rcases hr with rfl | ⟨_, _, h, _⟩
    · exact clone_nil c w
    · cases h

end Go.Proofs.Ytgnkngkogamjaaa
namespace Go.Proofs.Ytgnkngkogamjaaa
open Go.RowKit

section
variable {P : Program} {rest : List Oper} {ops' : Array Oper} {o : Oper} {a : Act} {Q : Exit → Act → World → Prop} {D : List Nat} {W w : World} {L : List (Nat × List Value)}

/-- A new slice of n elements. -/
theorem own_make (hgd : o.guard = none) (l c : Operand) (t : TypeId) (ho : o.op = .makeSlice t l c) {e : TypeId} {size bytes n : Nat} (T : ElTy P t e size bytes) (hl : a.eval l = .int .i64 (n : Int)) (hc : a.eval c = .int .i64 (n : Int)) (hS : Own D W L w)
    (hb : n * bytes ≤ 140737488355328) (hn : n ≤ 140737488355328)
    (h : ∀ b cs w', Own D W ((b, cs) :: L) w' → cs.length = n * size → wpList P ops' Q rest (a.put o.dst (.slice (some ⟨b, 0, none⟩) n n)) w') : wpList P ops' Q (o :: rest) a w := by
  obtain ⟨i, z, hi, hz, hsz, hby, hzz⟩ := T.inf
  subst hsz hby
  have hmul : (i.bytes : Int) * (n : Int) ≤ 281474976710656 := by
    have h1 : i.bytes * n ≤ 281474976710656 := by rw [Nat.mul_comm]; omega
    rw [← Int.natCast_mul]
    omega
  have hrun := run_make (P := P) (w := w) t e i z T.und hi hz .i64 .i64 (n : Int) (n : Int) (by omega) (Int.le_refl _) hmul (by omega)
  simp only [Int.toNat_natCast] at hrun
  refine wpList_plain hgd fun K hK => ?_
  unfold Oper.wp execOp
  simp only [ho, hl, hc, Sem.run_bind, hrun, Sem.run_pure, Result.andThen_ok]
  exact hK _ _ (h w.heap.size (madeCells z.cells (n * i.size)).toList _ (by simpa using hS.new (madeCells z.cells (n * i.size)).toList e) (by simp [size_madeCells]))

/-- All elements go over. -/
theorem own_copy (hgd : o.guard = none) (d s : Operand) (dT sT : TypeId) (ho : o.op = .call { callee := .builtin .copy, args := #[d, s], argTypes := #[dT, sT] }) {e : TypeId} {size bytes n c1 c2 k b : Nat} (T : ElTy P dT e size bytes)
    {ad : Addr} {cur news : List Value} (hd : a.eval d = .slice (some ⟨b, 0, none⟩) n c1) (hs : a.eval s = .slice (some ad) n c2) (hS : Own D W L w) (hm : At k L b cur) (hn : news.length = n * size)
    (hsrc : ∀ j v, news[j]? = some v → w.cell? (ad.add j) = some v) (hfit : news.length ≤ cur.length) (h1 : ∀ v ∈ news, v.oneCell' = true)
    (h : ∀ w', Own D W (L.set k (b, setL cur 0 news)) w' → wpList P ops' Q rest (a.put o.dst (.int .i64 (n : Int))) w') : wpList P ops' Q (o :: rest) a w := by
  obtain ⟨i, z, hi, hz, hsz, hby, hzz⟩ := T.inf
  subst hsz
  have hb := hS.get hm
  have hl := run_loadCells_list (P := P) w ad news hsrc
  have hst := run_storeCells_cells (P := P) b 0 news 0 w (fun j hj => by
    rw [hb.cell, List.getElem?_eq_getElem (by omega)]; rfl) (fun j _ => hb.frozen _) h1
  rw [hn] at hl
  have hrun : (Builtin.copy_ #[dT, sT] o.type #[.slice (some ⟨b, 0, none⟩) n c1, .slice (some ad) n c2]).run P w = .ok (goInt n) (w.setCells b 0 news) := by
    simp [Builtin.copy_, run_underlying T.und, Builtin.lenOf, Builtin.firstCells, sizeOf, typeInfo, hi, hl, hst]
  refine wpList_plain hgd fun K hK => ?_
  unfold Oper.wp
  simp [execOp, ho, resolve, invoke, builtin, hd, hs, hrun, Result.andThen]
  exact hK _ _ (h _ (hS.setCells hm 0 news))
theorem own_copy0 (hgd : o.guard = none) (d s : Operand) (dT sT : TypeId) (ho : o.op = .call { callee := .builtin .copy, args := #[d, s], argTypes := #[dT, sT] }) {e : TypeId} {size bytes c1 c2 : Nat} (T : ElTy P dT e size bytes)
    {x y : Option Addr} (hd : a.eval d = .slice x 0 c1) (hs : a.eval s = .slice y 0 c2)
    (h : wpList P ops' Q rest (a.put o.dst (.int .i64 0)) w) : wpList P ops' Q (o :: rest) a w := by
  obtain ⟨i, z, hi, hz, hsz, hby, hzz⟩ := T.inf
  have hrun : (Builtin.copy_ #[dT, sT] o.type #[.slice x 0 c1, .slice y 0 c2]).run P w = .ok (goInt 0) w := by
    cases x <;> cases y <;> simp [Builtin.copy_, run_underlying T.und, Builtin.lenOf, Builtin.firstCells, sizeOf, typeInfo, hi, loadCells, loadCellsFrom, storeCells]
  refine wpList_plain hgd fun K hK => ?_
  unfold Oper.wp
  simp [execOp, ho, resolve, invoke, builtin, hd, hs, hrun, Result.andThen]
  exact hK _ _ h
end
end Go.Proofs.Ytgnkngkogamjaaa
