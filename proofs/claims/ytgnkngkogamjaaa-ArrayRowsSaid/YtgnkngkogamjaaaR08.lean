/- Texts Bxf, Anb, Bls. -/
import Derived.Test.YtgnkngkogamjaaaR06
import Derived.Test.YtgnkngkogamjaaaR03
import Derived.Test.YtgnkngkogamjaaaR05
import Derived.Test.YtgnkngkogamjaaaR04
namespace Go.Proofs.Ytgnkngkogamjaaa
open Go.RowKit

attribute [local irreducible] wpQuiet wpG wpP wpK wpList Code.wp Calls

/-- A box at another place. -/
def atXY : (n : Nat) → Bx n → Int → Int → Bx n
  | 0, b, _, _ => b
  | _ + 1, b, x, y => ({ b.1 with x := x, y := y }, b.2)
def listB (n : Nat) (bw bh bd : Int) (kids : List (Bx n)) : Bx (n + 1) := (⟨3, ⟨#[]⟩, 0, bw, bh, bd, 0, 0, 0, []⟩, kids)
/-- A list of boxes lies there. -/
def RepL (w : World) (n : Nat) (x : Option Addr) (kids : List (Bx n)) : Prop := ∀ i kid, kids[i]? = some kid → ∃ k o css, x = some ⟨k, o, none⟩ ∧ w.rangeAt k (o + i * 11) css ∧ Rep w n kid css
theorem RepL.step {w w' : World} {n : Nat} {x : Option Addr} {kids : List (Bx n)} (h : RepL w n x kids) (hb : Below w.heap.size w w') : RepL w' n x kids := fun i kid hi => by
  obtain ⟨k, o, css, e, hr, hp⟩ := h i kid hi
  exact ⟨k, o, css, e, rangeAt_below hr hb, hp.step hb⟩
theorem rep_mk {w : World} {n : Nat} {a : Hd} {kids : List (Bx n)} {kx sx : Option Addr} {kc sc : Nat} (ha : HdOk a) (hl : kids.length ≤ maxLen) (hs : RowAt w sx 1 intCells a.src) (hk : RepL w n kx kids) : Rep w (n + 1) (a, kids) (a.cells (.slice kx kids.length kc) (.slice sx a.src.length sc)) :=
  ⟨kx, kc, sx, sc, rfl, ha, hl, hs, fun _ _ _ _ => trivial, fun i kid hi => by
    obtain ⟨k, o, css, e, hr, hp⟩ := hk i kid hi
    exact ⟨k, o, css, e, trivial, hr, hp⟩⟩
theorem rep_out {w : World} {n : Nat} {a : Hd} {kids : List (Bx n)} {cs : List Value} (h : Rep w (n + 1) (a, kids) cs) : ∃ kx kc sx sc, cs = a.cells (.slice kx kids.length kc) (.slice sx a.src.length sc) ∧ HdOk a ∧ kids.length ≤ maxLen ∧ RowAt w sx 1 intCells a.src ∧ RepL w n kx kids := by
  obtain ⟨kx, kc, sx, sc, h1, h2, h3, h4, _, h6⟩ := h
  exact ⟨kx, kc, sx, sc, h1, h2, h3, h4, fun i kid hi => by
    obtain ⟨k, o, css, e, _, hr, hp⟩ := h6 i kid hi
    exact ⟨k, o, css, e, hr, hp⟩⟩
theorem i64_0 : I64 0 := by unfold I64; omega
theorem hdOk_new {k bw bh bd : Int} (hk : I64 k) (h1 : I64 bw) (h2 : I64 bh) (h3 : I64 bd) : HdOk ⟨k, ⟨#[]⟩, 0, bw, bh, bd, 0, 0, 0, []⟩ := ⟨hk, i64_0, h1, h2, h3, i64_0, i64_0, i64_0, by simp, by simp, by simp [ByteArray.size]⟩



end Go.Proofs.Ytgnkngkogamjaaa
namespace Go.Proofs.Ytgnkngkogamjaaa
open Go.RowKit

section
variable {P : Program} {l : List Oper} {Q : Exit → Act → World → Prop} {D : List Nat} {W w : World} {L : List (Nat × List Value)} {a : Act}

/-- A part of the list has turned. -/
theorem Own.replace {K L1 : List (Nat × List Value)} {w' : World} (hS : Own D W (K ++ L) w) (h1 : Own (K.map (·.1)) w L1 w') : Own D W (L1 ++ L) w' := by
  have hSK : Own D W K w := hS.forget (List.sublist_append_left _ _)
  have hSL : Own D W L w := hS.forget (List.sublist_append_right _ _)
  have hdis : ∀ x ∈ L, x.1 ∉ K.map (·.1) := by
    have h0 := hS.apart
    rw [List.map_append, List.nodup_append] at h0
    intro x hx hk
    exact h0.2.2 _ hk _ (List.mem_map_of_mem hx) rfl
  refine ⟨h1.os.trans hS.os, h1.tape.trans hS.tape, h1.output.trans hS.output, Nat.le_trans hS.size h1.size, fun k hk hd => ?_, fun x hx => ?_, fun x hx => ?_, ?_⟩
  · rw [h1.block k (Nat.lt_of_lt_of_le hk hS.size) (fun hm => ?_)]
    · exact hS.block k hk hd
    · obtain ⟨x, hx, rfl⟩ := List.mem_map.1 hm
      rcases hSK.ge x hx with h | h
      · exact hd h
      · omega
  · rcases List.mem_append.1 hx with hx | hx
    · exact h1.has x hx
    · exact h1.hasOld (hdis x hx) (hSL.has x hx)
  · rcases List.mem_append.1 hx with hx | hx
    · rcases h1.ge x hx with h | h
      · obtain ⟨y, hy, he⟩ := List.mem_map.1 h
        rw [← he]; exact hSK.ge y hy
      · exact .inr (Nat.le_trans hS.size h)
    · exact hSL.ge x hx
  · rw [List.map_append, List.nodup_append]
    refine ⟨h1.apart, hSL.apart, fun x hx y hy he => ?_⟩
    obtain ⟨p, hp, rfl⟩ := List.mem_map.1 hx
    obtain ⟨q, hq, rfl⟩ := List.mem_map.1 hy
    rcases h1.ge p hp with h | h
    · rw [he] at h; exact hdis q hq h
    · have := (hSL.has q hq).lt; omega

theorem Own.chain {K L1 : List (Nat × List Value)} {w' : World} (hS : Own D W K w) (h1 : Own (K.map (·.1)) w L1 w') : Own D W L1 w' := by
  have := Own.replace (K := K) (L := []) (by simpa using hS) h1
  simpa using this
section
variable {B : Nat} {mid hard : List Nat} {m : Nat} {done : List Nat}
theorem own_softB (hS : Own D W L w) (i : Nat) {oi : Oper} (hcl : Closed l.toArray (mk l.toArray.size done)) (hi : l.toArray[i]? = some oi) (hr : (decide (Region.ready .any l.toArray (mk l.toArray.size done) = [i]) && (!hard.contains i && !mid.contains i)) = true)
    (h : Own [] w [] w → wpList P l.toArray (fun e a' w' => e = .normal ∧ ∃ L1, Own [] w L1 w' ∧ (Closed l.toArray (mk l.toArray.size (i :: done)) → ∀ w'', Own D W (L1 ++ L) w'' → Below w'.heap.size w' w'' → wpK P l.toArray Q (relOf B mid hard) m (mk l.toArray.size (i :: done)) a' w'')) [oi] a w) :
    wpK P l.toArray Q (relOf B mid hard) (m + 1) (mk l.toArray.size done) a w := by
  rw [Bool.and_eq_true, decide_eq_true_eq] at hr
  refine wpK_one hr.1 (point_go i hi (wpList_mono (fun e a' w' ⟨he, L1, h1, h2⟩ => ⟨he, by rw [relOf_soft hr.2]; exact h1.below, fun w'' hb => ?_⟩) _ _ _ (h (own_start w))))
  exact h2 (hcl.next (by rw [hr.1]; simp)) w'' ((hS.join h1).step hb) hb
end
end
end Go.Proofs.Ytgnkngkogamjaaa
namespace Go.Proofs.Ytgnkngkogamjaaa
open Go.RowKit

attribute [local irreducible] wpQuiet wpG wpP wpK wpList Code.wp Calls

/-- A box whose blocks are there stays a box where they stay. -/
theorem rep_keep2 {Q : Nat → Prop} {w w' : World} (h1 : ∀ k, Q k → k < w.heap.size → w'.heap[k]? = w.heap[k]?) :
    ∀ (n : Nat) (b : Bx n) (cs : List Value), RepG (fun k _ => Q k) Q w n b cs → RepG (fun k _ => Q k ∧ k < w.heap.size) (fun k => Q k ∧ k < w.heap.size) w' n b cs := by
  have hc : ∀ (k i : Nat) (v : Value), Q k → w.cell? ⟨k, i, none⟩ = some v → w'.cell? ⟨k, i, none⟩ = some v := fun k i v hk hv => by
    have hlt := World.block_lt_of_cell? w _ hv
    rw [← hv]
    exact World.cell?_of_block (w := w) (a := ⟨k, i, none⟩) (h1 k hk hlt)
  intro n
  induction n with
  | zero => intro b cs h; exact h
  | succ n ih =>
    rintro b cs ⟨kx, kc, sx, sc, hcs, hok, hlen, hrow, hso, hkids⟩
    have hs2 : ∀ (hne : b.1.src ≠ []) (k o : Nat), sx = some ⟨k, o, none⟩ → k < w.heap.size := fun hne k o hx => by
      obtain ⟨z, hz⟩ : ∃ z, b.1.src[0]? = some z := by
        cases hb : b.1.src with
        | nil => exact absurd hb hne
        | cons z l => exact ⟨z, rfl⟩
      obtain ⟨b', o', hx', hr⟩ := hrow.get hz
      rw [hx] at hx'
      obtain ⟨rfl, rfl⟩ : k = b' ∧ o = o' := by simpa using hx'
      exact World.block_lt_of_cell? w _ (hr 0 _ rfl)
    refine ⟨kx, kc, sx, sc, hcs, hok, hlen, ?_, fun hne k o hx => ⟨hso hne k o hx, hs2 hne k o hx⟩, fun i kid hi => ?_⟩
    · by_cases hne : b.1.src = []
      · exact .inl hne
      · rcases hrow with h | ⟨k, o, hx, hr⟩
        · exact .inl h
        · exact .inr ⟨k, o, hx, fun i z hi j v hj => hc k _ v (hso hne k o hx) (hr i z hi j v hj)⟩
    · obtain ⟨k, o, css, ek, hko, hr, hrep⟩ := hkids i kid hi
      obtain ⟨v, hv⟩ : ∃ v, css[0]? = some v := ⟨css[0]'(by rw [hrep.len]; omega), List.getElem?_eq_getElem _⟩
      exact ⟨k, o, css, ek, ⟨hko, World.block_lt_of_cell? w _ (hr 0 v hv)⟩, fun j v hj => hc k _ v hko (hr j v hj), ih kid css hrep⟩

/-- The kids that have been copied, away from the blocks B. -/
def Done (w : World) (n : Nat) (kids : List (Bx n)) (B : List Nat) (l : List { c : List Value // c.length = 11 }) : Prop :=
  ∀ (q : Nat) (css : { c : List Value // c.length = 11 }) (kid : Bx n), l[q]? = some css → kids[q]? = some kid → RepG (fun k _ => k ∉ B) (fun k => k ∉ B) w n kid css.1
theorem Done.turn {w w' : World} {n : Nat} {kids : List (Bx n)} {B B' D : List Nat} {l : List { c : List Value // c.length = 11 }} {L : List (Nat × List Value)} (h : Done w n kids B l) (hS : Own D w L w') (hD : ∀ k ∈ D, k ∈ B) (hB : ∀ k ∈ B', k ∈ B ∨ w.heap.size ≤ k) : Done w' n kids B' l := fun q css kid hq hk =>
  (rep_keep2 (Q := fun k => k ∉ B) (fun k hk hlt => hS.block k hlt (fun hd => hk (hD k hd))) n kid css.1 (h q css kid hq hk)).mono
    (fun k _ hk2 hb => (hB k hb).elim (fun h => hk2.1 h) (fun h => by have := hk2.2; omega)) (fun k hk2 hb => (hB k hb).elim (fun h => hk2.1 h) (fun h => by have := hk2.2; omega))
theorem Done.next {w : World} {n : Nat} {kids : List (Bx n)} {B : List Nat} {l : List { c : List Value // c.length = 11 }} {css : { c : List Value // c.length = 11 }} {kid : Bx n} (h : Done w n kids B l) (hk : kids[l.length]? = some kid) (hr : RepG (fun k _ => k ∉ B) (fun k => k ∉ B) w n kid css.1) : Done w n kids B (l ++ [css]) := by
  intro q c2 kid2 hq hk2
  by_cases hlt : q < l.length
  · rw [List.getElem?_append_left hlt] at hq
    exact h q c2 kid2 hq hk2
  · have hqe : q = l.length := by
      have := (List.getElem?_eq_some_iff.1 hq).1
      simp at this
      omega
    subst hqe
    rw [List.getElem?_append_right (Nat.le_refl _), Nat.sub_self] at hq
    obtain rfl : css = c2 := by simpa using hq
    obtain rfl : kid = kid2 := Option.some.inj (hk.symm.trans hk2)
    exact hr
theorem repL_flat {w : World} {n : Nat} {kids : List (Bx n)} {kx : Option Addr} (h : RepL w n kx kids) (hne : kids ≠ []) : ∃ k o, ∃ l : List { c : List Value // c.length = 11 }, kx = some ⟨k, o, none⟩ ∧ l.length = kids.length ∧ w.rangeAt k o (l.flatMap Subtype.val) ∧ (∀ v ∈ l.flatMap Subtype.val, v.oneCell' = true) ∧ ∀ (q : Nat) (css : { c : List Value // c.length = 11 }) (kid : Bx n), l[q]? = some css → kids[q]? = some kid → Rep w n kid css.1 := by
  obtain ⟨kid0, hk0⟩ : ∃ kid, kids[0]? = some kid := by
    cases kids with
    | nil => exact absurd rfl hne
    | cons x l => exact ⟨x, rfl⟩
  obtain ⟨k, o, _, hkx, _⟩ := h 0 kid0 hk0
  obtain ⟨l, hll, hr⟩ := list_of (α := { c : List Value // c.length = 11 }) (fun i css => w.rangeAt k (o + i * 11) css.1 ∧ css.1.all (·.oneCell') = true ∧ ∀ kid, kids[i]? = some kid → Rep w n kid css.1) kids.length fun i hi => by
    obtain ⟨k2, o2, css, e, hrg, hrep⟩ := h i kids[i] (by simp [hi])
    rw [hkx] at e
    obtain ⟨rfl, rfl⟩ : k = k2 ∧ o = o2 := by simpa using e
    exact ⟨⟨css, hrep.len⟩, hrg, rep_all hrep, fun kid hk => by
      obtain rfl : kids[i] = kid := by simpa [hi] using hk
      exact hrep⟩
  obtain ⟨b, o', hx, hfl⟩ := RowAt.flat (w := w) (x := kx) (size := 11) (f := Subtype.val) (l := l) (.inr ⟨k, o, hkx, fun i x hi => (hr i x hi).1⟩) (fun a _ => a.2) (by
    intro h0
    subst h0
    have := (List.getElem?_eq_some_iff.1 hk0).1
    simp at hll
    omega)
  rw [hkx] at hx
  obtain ⟨rfl, rfl⟩ : k = b ∧ o = o' := by simpa using hx
  refine ⟨k, o, l, hkx, hll, hfl, fun v hv => ?_, fun q css kid hq hk => (hr q css hq).2.2 kid hk⟩
  obtain ⟨x, hx, hv⟩ := List.mem_flatMap.1 hv
  obtain ⟨i, hi⟩ := List.mem_iff_getElem?.1 hx
  exact List.all_eq_true.1 (hr i x hi).2.1 v hv



end Go.Proofs.Ytgnkngkogamjaaa
