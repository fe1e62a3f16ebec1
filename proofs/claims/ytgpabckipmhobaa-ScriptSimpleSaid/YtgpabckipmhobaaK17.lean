/- Texts Avi, Fmk, Fgd, Fgp, Ant, Anm, Off, Scb, Mkb. -/
import Derived.Test.YtgpabckipmhobaaK16
import Derived.Test.YtgpabckipmhobaaK04
import Derived.Test.YtgpabckipmhobaaK14
import Derived.Test.YtgpabckipmhobaaK15
namespace Go.Proofs.Ytgpabckipmhobaa
open Go.RowKit

attribute [local irreducible] wpQuiet wpG wpP wpK wpList Code.wp Calls

/-- The cells are the box, whose lists lie where P says. -/
@[reducible] def RepP (P : Nat → Prop) (w : World) (n : Nat) (b : Bx n) (cs : List Value) : Prop := RepG (fun k _ => P k) P w n b cs
/-- The call gives a box whose lists lie where P says, or in blocks that it has made. -/
def GivesI (P : Nat → Prop) (n : Nat) (b : Bx n) (w : World) (e : Ending) (w' : World) : Prop :=
  ∃ cs, e = .returned (.agg cs.toArray) ∧ RepP (fun k => P k ∨ (w.heap.size ≤ k ∧ k < w'.heap.size)) w' n b cs ∧ Below w.heap.size w w'
theorem givesI_of {P : Nat → Prop} {Pr : Program} {f : FuncId} {args : Array Value} {n : Nat} {b : Bx n} {w : World} (h : ∀ B : List Nat, (∀ k ∈ B, k < w.heap.size) → (∀ k, P k → k ∉ B) → Calls Pr f args w (GivesA B n b w)) : Calls Pr f args w (GivesI P n b w) := by
  classical
  have hm : ∀ k, k ∈ (List.range w.heap.size).filter (fun k => decide (¬ P k)) ↔ k < w.heap.size ∧ ¬ P k := fun k => by simp
  refine (h ((List.range w.heap.size).filter fun k => decide (¬ P k)) (fun k hk => ((hm k).1 hk).1) (fun k hp hk => ((hm k).1 hk).2 hp)).mono ?_
  rintro e w' ⟨cs, he, hr, hb⟩
  have key : ∀ k, (k ∉ (List.range w.heap.size).filter fun k => decide (¬ P k)) ∧ k < w'.heap.size → P k ∨ (w.heap.size ≤ k ∧ k < w'.heap.size) := fun k hk => by
    by_cases h1 : P k
    · exact .inl h1
    · by_cases h2 : k < w.heap.size
      · exact absurd ((hm k).2 ⟨h2, h1⟩) hk.1
      · exact .inr ⟨by omega, hk.2⟩
  exact ⟨cs, he, (rep_keep2 (w := w') (w' := w') (fun _ _ _ => rfl) n b cs hr).mono (fun k _ hk => key k hk) (fun k hk => key k hk), hb⟩
theorem repP_A {P : Nat → Prop} {B : List Nat} {w : World} {n : Nat} {b : Bx n} {cs : List Value} (h : RepP P w n b cs) (hB : ∀ k, P k → k ∉ B) : RepA B w n b cs := h.mono (fun k _ hk => hB k hk) hB
theorem repP_step {P : Nat → Prop} {w w' : World} {n : Nat} {b : Bx n} {cs : List Value} (h : RepP P w n b cs) (hb : Below w.heap.size w w') : RepP P w' n b cs := RepG.step hb n b cs h
theorem repP_mono {P P' : Nat → Prop} {w : World} {n : Nat} {b : Bx n} {cs : List Value} (h : RepP P w n b cs) (hP : ∀ k, P k → P' k) : RepP P' w n b cs := h.mono (fun k _ hk => hP k hk) hP
theorem rep_bare {ko : Nat → Nat → Prop} {so : Nat → Prop} {w : World} {n : Nat} {a : Hd} {cs : List Value} (h : Rep w (n + 1) (a, []) cs) (hs : a.src = []) : RepG ko so w (n + 1) (a, []) cs := by
  obtain ⟨kx, kc, sx, sc, h1, h2, h3, h4, h5, h6⟩ := h
  exact ⟨kx, kc, sx, sc, h1, h2, h3, h4, fun h0 => absurd hs h0, fun i kid hi => by simp at hi⟩
/-- A list of boxes, whose lists lie where P says. -/
def RepLP (P : Nat → Prop) (w : World) (n : Nat) (x : Option Addr) (kids : List (Bx n)) : Prop := ∀ i kid, kids[i]? = some kid → ∃ k o css, x = some ⟨k, o, none⟩ ∧ w.rangeAt k (o + i * 11) css ∧ RepP P w n kid css
theorem repLP_A {P : Nat → Prop} {B : List Nat} {w : World} {n : Nat} {x : Option Addr} {kids : List (Bx n)} (h : RepLP P w n x kids) (hB : ∀ k, P k → k ∉ B) : RepLA (fun _ => True) B w n x kids := fun i kid hi => by
  obtain ⟨k, o, css, e, hr, hp⟩ := h i kid hi
  exact ⟨k, o, css, e, trivial, hr, repP_A hp hB⟩
theorem repLP_L {P : Nat → Prop} {w : World} {n : Nat} {x : Option Addr} {kids : List (Bx n)} (h : RepLP P w n x kids) : RepL w n x kids := fun i kid hi => by
  obtain ⟨k, o, css, e, hr, hp⟩ := h i kid hi
  exact ⟨k, o, css, e, hr, hp.rep⟩

theorem box_At_I (P : Nat → Prop) (n : Nat) (b : Bx (n + 1)) (cs : List Value) (x y : Int) (w : World) (hr : RepP P w (n + 1) b cs) (hx : I64 x) (hy : I64 y) (hsl : b.1.src.length ≤ 17592186044416) : Calls Try.prog 47 #[.agg cs.toArray, .int .i64 x, .int .i64 y] w (GivesI P (n + 1) (atXY (n + 1) b x y) w) :=
  givesI_of fun B hB hP => box_At_A B n b cs x y w (repP_A hr hP) hB hx hy hsl
theorem box_List_I (P : Nat → Prop) (n : Nat) (kids : List (Bx n)) (kx : Option Addr) (kc : Nat) (bw bh bd : Int) (w : World) (hk : RepLP P w n kx kids) (hsm : ∀ k ∈ kids, Small n k ∧ bCount n k ≤ 1000000) (hl : kids.length ≤ 1000000) (h1 : I64 bw) (h2 : I64 bh) (h3 : I64 bd) :
    Calls Try.prog 49 #[.int .i64 bw, .int .i64 bh, .int .i64 bd, .slice kx kids.length kc] w (GivesI P (n + 1) (listB n bw bh bd kids) w) :=
  givesI_of fun B hB hP => box_List_A B n kids kx kc bw bh bd w (repLP_A hk hP) hB hsm hl h1 h2 h3

end Go.Proofs.Ytgpabckipmhobaa
namespace Go.Proofs.Ytgpabckipmhobaa
open Go.RowKit

attribute [local irreducible] wpQuiet wpG wpP wpK wpList Code.wp Calls



end Go.Proofs.Ytgpabckipmhobaa
namespace Go.Proofs.Ytgpabckipmhobaa
open Go.RowKit

attribute [local irreducible] wpQuiet wpG wpP wpK wpList Code.wp Calls

theorem valid_lens {n : Nat} {a : Hd} {kids : List (Bx n)} (h : validB (n + 1) (a, kids)) : (-1073741824 ≤ a.w ∧ a.w ≤ 1073741824) ∧ (-1073741824 ≤ a.h ∧ a.h ≤ 1073741824) ∧ (-1073741824 ≤ a.d ∧ a.d ≤ 1073741824) := by
  have h1 := h.1
  simp only [allOwn, ownOk, Bool.and_eq_true] at h1
  have h2 := h1.1.1.1
  simp [lensOk, Hd.lens] at h2
  omega

theorem small_at {n : Nat} {b : Bx (n + 1)} {x y : Int} (h : Small (n + 1) b) : Small (n + 1) (atXY (n + 1) b x y) := h
theorem count_at {n : Nat} {b : Bx (n + 1)} {x y : Int} : bCount (n + 1) (atXY (n + 1) b x y) = bCount (n + 1) b := rfl





end Go.Proofs.Ytgpabckipmhobaa
namespace Go.Proofs.Ytgpabckipmhobaa
open Go.RowKit

attribute [local irreducible] wpQuiet wpG wpP wpK wpList Code.wp Calls

/-- The call gives a box and an error; its lists lie where P says, or in new blocks. -/
def GivesBEP (P : Nat → Prop) (n : Nat) (b : Bx n) (err : Int) (w : World) (e : Ending) (w' : World) : Prop := ∃ cs, e = .returned (.tuple #[.agg cs.toArray, .int .i64 err]) ∧ RepP (fun k => P k ∨ w.heap.size ≤ k) w' n b cs ∧ Below w.heap.size w w'
theorem repP_turn {P : Nat → Prop} {D : List Nat} {w w' : World} {n : Nat} {b : Bx n} {cs : List Value} {L : List (Nat × List Value)} (h : RepP P w n b cs) (hS : Own D w L w') (hD : ∀ k, P k → k ∉ D) : RepP P w' n b cs :=
  (rep_keep2 (Q := P) (fun k hk hlt => hS.block k hlt (hD k hk)) n b cs h).mono (fun _ _ hk => hk.1) (fun _ hk => hk.1)
end Go.Proofs.Ytgpabckipmhobaa
namespace Go.Proofs.Ytgpabckipmhobaa
open Go.RowKit
section
variable {P : Program} {l : List Oper} {Q : Exit → Act → World → Prop} {D T : List Nat} {W w : World} {L : List (Nat × List Value)} {a : Act}

section
variable {late : List Nat} {m : Nat} {done : List Nat}
end
end
end Go.Proofs.Ytgpabckipmhobaa
namespace Go.Proofs.Ytgpabckipmhobaa
open Go.RowKit
section
variable {P : Program} {l : List Oper} {Q : Exit → Act → World → Prop} {D : List Nat} {W w : World} {L K : List (Nat × List Value)} {a : Act} {mid hard : List Nat} {m : Nat} {done : List Nat}

/-- A block that was there before is none of the call's own. -/
theorem Own.oldOff (hS : Own [] W L w) {k : Nat} (h : k < W.heap.size) : k ∉ L.map (·.1) := fun hk => by
  obtain ⟨x, hx, rfl⟩ := List.mem_map.1 hk
  rcases hS.ge x hx with h1 | h1
  · cases h1
  · omega
end
end Go.Proofs.Ytgpabckipmhobaa
namespace Go.Proofs.Ytgpabckipmhobaa
open Go.RowKit

attribute [local irreducible] wpQuiet wpG wpP wpK wpList Code.wp Calls

/-- What lies where P says is there and stays, where D alone may turn; it is where R says, or not below B; what lies below B stays, too. -/
structure Safe (R : Nat → Prop) (B : Nat) (P : Nat → Prop) (D : List Nat) (W : World) : Prop where
  off : ∀ k, P k → k < W.heap.size ∧ k ∉ D
  low : ∀ k, P k → R k ∨ B ≤ k
  size : B ≤ W.heap.size
  old : ∀ k, k < B → k ∉ D

theorem safe_start {R : Nat → Prop} {w w1 : World} {L : List (Nat × List Value)} (hS : Own [] w L w1) (hP : ∀ k, R k → k < w.heap.size) : ∃ DD, Hid (DD = L.map (·.1)) ∧ Safe R w.heap.size R DD w1 ∧ Own DD w1 L w1 :=
  ⟨_, rfl, ⟨fun k hk => ⟨Nat.lt_of_lt_of_le (hP k hk) hS.size, hS.oldOff (hP k hk)⟩, fun _ hk => .inl hk, hS.size, fun _ hk => hS.oldOff hk⟩, hS.rebase⟩

section
variable {R P : Nat → Prop} {B : Nat} {D : List Nat} {W w w1 w3 : World} {L K : List (Nat × List Value)} {n : Nat} {b : Bx n} {cs : List Value}

theorem own_give (hs : Safe R B P D W) (hS : Own D W L w) (hr : RepP (fun k => P k ∨ (w.heap.size ≤ k ∧ k < w1.heap.size)) w1 n b cs) (hb : Below w.heap.size w w1) (hb3 : Below w1.heap.size w1 w3) :
    ∃ (P' : Nat → Prop) (DD : List Nat), Hid (DD = L.map (·.1)) ∧ (∀ k, P k → P' k) ∧ Safe R B P' DD w3 ∧ RepP P' w3 n b cs ∧ Own DD w3 L w3 ∧ Own D W L w3 := by
  have hS1 := hS.step hb
  have hS3 := hS1.step hb3
  have key : ∀ k ∈ L.map (·.1), k < w.heap.size ∧ (k ∈ D ∨ W.heap.size ≤ k) := fun k hk => by
    obtain ⟨x, hx, rfl⟩ := List.mem_map.1 hk
    exact ⟨(hS.has x hx).lt, hS.ge x hx⟩
  refine ⟨_, _, rfl, fun k hk => .inl hk, ⟨?_, ?_, ?_, ?_⟩, repP_step hr hb3, hS3.rebase, hS3⟩
  · rintro k (hk | hk)
    · have h1 := hs.off k hk
      refine ⟨Nat.lt_of_lt_of_le h1.1 hS3.size, fun hm => ?_⟩
      rcases (key k hm).2 with h2 | h2
      · exact h1.2 h2
      · omega
    · refine ⟨Nat.lt_of_lt_of_le hk.2 hb3.size, fun hm => ?_⟩
      have := (key k hm).1
      omega
  · rintro k (hk | hk)
    · exact hs.low k hk
    · have := hs.size
      have := hS.size
      exact .inr (by omega)
  · have := hs.size
    have := hS3.size
    omega
  · intro k hk hm
    rcases (key k hm).2 with h2 | h2
    · exact hs.old k hk h2
    · have := hs.size
      omega
theorem Safe.turn (hs : Safe R B P D W) (hr : RepP P W n b cs) (hS : Own D W L w) : RepP P w n b cs := repP_turn hr hS (fun k hk => (hs.off k hk).2)
theorem Safe.ends (hs : Safe R B P D W) (hr : RepP P W n b cs) (hS : Own D W L w) : RepP (fun k => R k ∨ B ≤ k) w n b cs := repP_mono (hs.turn hr hS) hs.low
theorem chainH {DD : List Nat} (h0 : Own D W K w) (hD : Hid (DD = K.map (·.1))) (h1 : Own DD w L w1) : Own D W L w1 := h0.chain (hD.out ▸ h1)
theorem Safe.range (hs : Safe R B P D W) (hS : Own D W L w) {k o : Nat} {xs : List Value} (hk : k < B) (h : W.rangeAt k o xs) : w.rangeAt k o xs := hS.range (hs.old k hk) h
end

/-- The cells are those of some boxes, one behind the other. -/
def AllP (P : Nat → Prop) (w : World) (n : Nat) : List (Bx n) → List Value → Prop
  | [], xs => xs = []
  | b :: bs, xs => ∃ c rest, xs = c ++ rest ∧ RepP P w n b c ∧ AllP P w n bs rest
theorem allP_row {P : Nat → Prop} {w : World} {n : Nat} : ∀ (kids : List (Bx n)) (xs : List Value), AllP P w n kids xs → ∃ l : List { c : List Value // c.length = 11 }, l.flatMap Subtype.val = xs ∧ l.length = kids.length ∧ ∀ (i : Nat) (c : { c : List Value // c.length = 11 }) (b : Bx n), l[i]? = some c → kids[i]? = some b → RepP P w n b c.1
  | [], xs, h => ⟨[], by obtain rfl : xs = [] := h; rfl, rfl, fun i c b hc => by simp at hc⟩
  | k :: ks, xs, h => by
    obtain ⟨c, rest, rfl, hr, h2⟩ := h
    obtain ⟨l, e1, e2, e3⟩ := allP_row ks rest h2
    refine ⟨⟨c, hr.len⟩ :: l, by rw [List.flatMap_cons, e1], by simp [e2], fun i c' b hc hb => ?_⟩
    cases i with
    | zero =>
      simp only [List.getElem?_cons_zero, Option.some.injEq] at hc hb
      subst hc hb
      exact hr
    | succ i => exact e3 i c' b (by simpa using hc) (by simpa using hb)
/-- A row of boxes that the call itself has made. -/
theorem sl_kids {P : Nat → Prop} {D : List Nat} {W w : World} {L X : List (Nat × List Value)} {y : Option Addr} {m c n : Nat} {kids : List (Bx n)} {xs : List Value} (hS : Own D W L w) (hm : ∀ x ∈ X, x ∈ L) (h : Sl 11 m (.slice y m c) xs X) (hk : kids.length = m) (ha : AllP P w n kids xs) : RepLP P w n y kids := by
  obtain ⟨l, rfl, e2, e3⟩ := allP_row kids xs ha
  obtain rfl : l.length = m := e2.trans hk
  obtain ⟨y', c', he, hrow, _, _⟩ := Sl.rowAt hS hm h (fun a => a.2) (by decide)
  obtain ⟨rfl, _⟩ : y = y' ∧ c = c' := by simpa using he
  intro i kid hi
  have hlt : i < l.length := by rw [e2]; exact (List.getElem?_eq_some_iff.1 hi).1
  obtain ⟨k, o, hx, hrg⟩ := hrow.get (List.getElem?_eq_getElem hlt)
  exact ⟨k, o, _, hx, hrg, e3 i _ kid (List.getElem?_eq_getElem hlt) hi⟩
/-- .. in a block that is known whole. -/
theorem has_kids {P : Nat → Prop} {w : World} {k n : Nat} {kids : List (Bx n)} {xs : List Value} (h : Has w k xs) (ha : AllP P w n kids xs) : RepLP P w n (some ⟨k, 0, none⟩) kids := by
  obtain ⟨l, rfl, e2, e3⟩ := allP_row kids xs ha
  have hrow : RowAt w (some ⟨k, 0, none⟩) 11 Subtype.val l := RowAt.of_has (junk := []) (fun a _ => a.2) (by simpa using h)
  intro i kid hi
  have hlt : i < l.length := by rw [e2]; exact (List.getElem?_eq_some_iff.1 hi).1
  obtain ⟨k, o, hx, hrg⟩ := hrow.get (List.getElem?_eq_getElem hlt)
  exact ⟨k, o, _, hx, hrg, e3 i _ kid (List.getElem?_eq_getElem hlt) hi⟩

end Go.Proofs.Ytgpabckipmhobaa
namespace Go.Proofs.Ytgpabckipmhobaa
open Go.RowKit

theorem range_lt0 {w : World} {k o : Nat} {xs : List Value} (h : w.rangeAt k o xs) (hl : xs.length = 11) : k < w.heap.size := by
  obtain ⟨v, hv⟩ : ∃ v, xs[0]? = some v := ⟨xs[0]'(by omega), List.getElem?_eq_getElem _⟩
  exact World.block_lt_of_cell? w _ (h 0 v hv)
theorem perm_row {α : Type} (x y r : α) (L : List α) : (x :: y :: r :: L).Perm ((x :: y :: L) ++ [r]) :=
  .cons _ (.cons _ (List.perm_append_comm (l₁ := [r]) (l₂ := L)))
theorem ext_E {E : E4} {n : Nat} {kids : List (Bx (n + 1))} (hE : E = extL (kids.map (·.1))) (x : Option Addr) (c : Nat) (w : World) (hk : RepL w (n + 1) x kids) (hm : ∀ k ∈ kids, Mild k.1) (hl : kids.length ≤ 1000000) :
    Calls Try.prog 48 #[.slice x kids.length c] w (Gives (.tuple #[.int .i64 E.l, .int .i64 E.r, .int .i64 E.h, .int .i64 E.d]) w) := by
  subst hE
  exact box_Extent_calls n kids x c w hk hm hl

/-- An extent that is not great. -/
def E4in (e : E4) : Prop := (-17179869184 ≤ e.r ∧ e.r ≤ 17179869184) ∧ (-17179869184 ≤ e.h ∧ e.h ≤ 17179869184) ∧ (-17179869184 ≤ e.d ∧ e.d ≤ 17179869184)
theorem ext1_in {a : Hd} (h : Mild a) : E4in (ext1 a) := by
  unfold Mild at h
  unfold E4in ext1
  simp only
  omega
theorem extStep_in {e : E4} {a : Hd} (he : E4in e) (h : Mild a) : E4in (extStep e a) := by
  unfold Mild at h
  unfold E4in at he
  unfold E4in extStep
  simp only
  omega
theorem ext_fold {l : List Hd} : ∀ {e : E4}, E4in e → (∀ a ∈ l, Mild a) → E4in (l.foldl extStep e) := by
  induction l with
  | nil => intro e he _; exact he
  | cons a l ih => intro e he h; exact ih (extStep_in he (h a (by simp))) (fun b hb => h b (by simp [hb]))
theorem extL_in {l : List Hd} (h : ∀ a ∈ l, Mild a) : E4in (extL l) := by
  cases l with
  | nil => unfold E4in extL; simp only; omega
  | cons a l => exact ext_fold (ext1_in (h a (by simp))) (fun b hb => h b (by simp [hb]))
theorem extL_i64 {l : List Hd} (h : ∀ a ∈ l, Mild a) : I64 (extL l).r ∧ I64 (extL l).h ∧ I64 (extL l).d := by
  have := extL_in h
  unfold E4in at this
  unfold I64
  omega

theorem scl_size {n p : Int} (h : -20000 ≤ n ∧ n ≤ 20000) (hp : 1 ≤ p ∧ p ≤ 1000) : -200000 ≤ scl n p ∧ scl n p ≤ 200000 := by
  rw [scl_ok (by omega) (by omega) (by omega)]
  have h1 : n * p ≤ 20000 * p := Int.mul_le_mul_of_nonneg_right h.2 (by omega)
  have h2 : -20000 * p ≤ n * p := Int.mul_le_mul_of_nonneg_right h.1 (by omega)
  unfold rdiv
  split <;> omega
/-- The italic correction of a valid box in a valid font is not great. -/
theorem ital_in {F : Fnt} {n : Nat} {b : Bx n} (hf : ValidF F) (hb : validB n b) : 0 ≤ italB F n b ∧ italB F n b ≤ 200000 := by
  cases hi : innerS n b with
  | none => unfold italB; rw [hi]; simp
  | some g =>
    obtain ⟨m, g⟩ := g
    rw [ital_scl hf hi hb]
    have := scl_size (metricsOk_bd (pick_metrics hf g.1.name)).2.2.2.1 (inner_size hi hb)
    omega
theorem shQ_in {F : Fnt} {l n : Int} (h : ValidF F) (h0 : 0 ≤ n) (h1 : n ≤ 20000) : 0 ≤ shQ F l n ∧ shQ F l n ≤ 20000 := by
  have := par_in (l := 2 + l / 2) h h0 h1
  unfold par at this
  unfold shQ
  omega
theorem shX_in {F : Fnt} {l p : Int} (h : ValidF F) (hp : 0 ≤ p ∧ p ≤ 100) : 0 ≤ shX F l p ∧ shX F l p ≤ 20000 := by
  have hx := prm_scr h
  have h1 := par_in (l := l) h hx.1.1 hx.1.2
  have h2 := scl_in h1.1 (by omega) hp
  unfold shX
  omega
theorem shift_in {F : Fnt} {l : Int} {c s : Bool} {b : Hd} {subs sups : List Hd} (hv : ValidF F) (hb : (-1073741824 ≤ b.h ∧ b.h ≤ 1073741824) ∧ (-1073741824 ≤ b.d ∧ b.d ≤ 1073741824)) (hs : ∀ a ∈ subs, -1073741824 ≤ a.h ∧ a.h ≤ 1073741824) (hu : ∀ a ∈ sups, -1073741824 ≤ a.d ∧ a.d ≤ 1073741824) :
    (-4294967296 ≤ (shiftP F l c s b subs sups).1 ∧ (shiftP F l c s b subs sups).1 ≤ 4294967296) ∧ (-4294967296 ≤ (shiftP F l c s b subs sups).2 ∧ (shiftP F l c s b subs sups).2 ≤ 4294967296) := by
  have hp := prm_scr hv
  have q1 := shQ_in (l := l) hv hp.2.2.2.2.2.2.2.1.1 hp.2.2.2.2.2.2.2.1.2
  have q2 := shQ_in (l := l) hv hp.2.2.2.2.2.2.2.2.1 hp.2.2.2.2.2.2.2.2.2
  have x1 := shX_in (l := l) (p := 25) hv (by omega)
  have x2 := shX_in (l := l) (p := 80) hv (by omega)
  have r0 := par_in (l := l) hv hp.2.1.1 hp.2.1.2
  have r1 := par_in (l := l) hv hp.2.2.1.1 hp.2.2.1.2
  have r2 := par_in (l := l) hv hp.2.2.2.1.1 hp.2.2.2.1.2
  have r3 := par_in (l := l) hv hp.2.2.2.2.1.1 hp.2.2.2.2.1.2
  have s1 := par_in (l := l) hv hp.2.2.2.2.2.1.1 hp.2.2.2.2.2.1.2
  have s2 := par_in (l := l) hv hp.2.2.2.2.2.2.1.1 hp.2.2.2.2.2.2.1.2
  have hr : 0 ≤ par F l (raiseP F l c) ∧ par F l (raiseP F l c) ≤ 20000 := by
    unfold raiseP
    repeat' split
    all_goals omega
  have u0 : -1073761824 ≤ shU0 F l s b.h ∧ shU0 F l s b.h ≤ 1073741824 := by unfold shU0; split <;> omega
  have v0 : -1073741824 ≤ shV0 F l s b.d ∧ shV0 F l s b.d ≤ 1073761824 := by unfold shV0; split <;> omega
  cases subs with
  | nil =>
    cases sups with
    | nil => unfold shiftP; simp only; omega
    | cons a sups =>
      have := hu a (by simp)
      unfold shiftP shUp
      simp only
      omega
  | cons e subs =>
    have h1 := hs e (by simp)
    cases sups with
    | nil => unfold shiftP shLow; simp only; omega
    | cons a sups =>
      have h2 := hu a (by simp)
      unfold shiftP shUp shGap
      simp only
      repeat' split
      all_goals (simp only; omega)

/-- The shifts; the kids; the box. -/
def scrUV (F : Fnt) (l : Int) (c : Bool) (n : Nat) (base : Bx (n + 1)) (subs sups : List (Bx (n + 1))) : Int × Int := shiftP F l c (innerS (n + 1) base).isSome base.1 (subs.map (·.1)) (sups.map (·.1))
def scrK (F : Fnt) (l : Int) (c : Bool) (n : Nat) (base : Bx (n + 1)) (subs sups : List (Bx (n + 1))) : List (Bx (n + 1)) :=
  atXY (n + 1) base 0 0 :: (subs.map (fun b => atXY (n + 1) b (base.1.w - italB F (n + 1) base) (-(scrUV F l c n base subs sups).2)) ++ sups.map (fun b => atXY (n + 1) b base.1.w (scrUV F l c n base subs sups).1))
def scrB (F : Fnt) (l : Int) (c : Bool) (n : Nat) (base : Bx (n + 1)) (subs sups : List (Bx (n + 1))) : Bx (n + 2) :=
  listB (n + 1) (extL ((scrK F l c n base subs sups).map (·.1))).r (extL ((scrK F l c n base subs sups).map (·.1))).h (extL ((scrK F l c n base subs sups).map (·.1))).d (scrK F l c n base subs sups)
/-- What is asked of a font, a style and boxes. -/
def ScrOk (F : Fnt) (l : Int) (n : Nat) (base : Bx (n + 1)) (subs sups : List (Bx (n + 1))) : Prop := ValidF F ∧ lvlOk l = true ∧ validB (n + 1) base ∧ (subs.length ≤ 1 ∧ ∀ b ∈ subs, validB (n + 1) b) ∧ (sups.length ≤ 1 ∧ ∀ b ∈ sups, validB (n + 1) b)
theorem vlens {n : Nat} {b : Bx (n + 1)} (h : validB (n + 1) b) : (-1073741824 ≤ b.1.w ∧ b.1.w ≤ 1073741824) ∧ (-1073741824 ≤ b.1.h ∧ b.1.h ≤ 1073741824) ∧ (-1073741824 ≤ b.1.d ∧ b.1.d ≤ 1073741824) := by
  obtain ⟨a, ks⟩ := b
  exact valid_lens h
theorem scrUV_in {F : Fnt} {l : Int} {c : Bool} {n : Nat} {base : Bx (n + 1)} {subs sups : List (Bx (n + 1))} (h : ScrOk F l n base subs sups) :
    (-4294967296 ≤ (scrUV F l c n base subs sups).1 ∧ (scrUV F l c n base subs sups).1 ≤ 4294967296) ∧ (-4294967296 ≤ (scrUV F l c n base subs sups).2 ∧ (scrUV F l c n base subs sups).2 ≤ 4294967296) :=
  shift_in h.1 (vlens h.2.2.1).2 (fun a ha => by
    obtain ⟨b, hb, rfl⟩ := List.mem_map.1 ha
    exact (vlens (h.2.2.2.1.2 b hb)).2.1) (fun a ha => by
    obtain ⟨b, hb, rfl⟩ := List.mem_map.1 ha
    exact (vlens (h.2.2.2.2.2 b hb)).2.2)
theorem scrK_mild {F : Fnt} {l : Int} {c : Bool} {n : Nat} {base : Bx (n + 1)} {subs sups : List (Bx (n + 1))} (h : ScrOk F l n base subs sups) : ∀ k ∈ scrK F l c n base subs sups, Mild k.1 := by
  have huv := scrUV_in (c := c) h
  have hi := ital_in h.1 h.2.2.1
  have hb := vlens h.2.2.1
  intro k hk
  simp only [scrK, List.mem_cons, List.mem_append, List.mem_map] at hk
  rcases hk with rfl | ⟨b, hm, rfl⟩ | ⟨b, hm, rfl⟩
  · unfold Mild atXY; simp only; omega
  · have := vlens (h.2.2.2.1.2 b hm)
    unfold Mild atXY; simp only; omega
  · have := vlens (h.2.2.2.2.2 b hm)
    unfold Mild atXY; simp only; omega

end Go.Proofs.Ytgpabckipmhobaa
namespace Go.Proofs.Ytgpabckipmhobaa
open Go.RowKit

attribute [local irreducible] wpQuiet wpG wpP wpK wpList Code.wp Calls

end Go.Proofs.Ytgpabckipmhobaa
