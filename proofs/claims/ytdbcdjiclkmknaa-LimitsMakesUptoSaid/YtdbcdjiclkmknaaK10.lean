/- Texts Open, Dps, Deep, Bxf, Anb, Bls. -/
import Derived.Test.YtdbcdjiclkmknaaK01
import Derived.ProofKit
import Derived.Deep.Slices
import Derived.Test.YtdbcdjiclkmknaaK09
import Derived.Test.YtdbcdjiclkmknaaK02
import Derived.Test.YtdbcdjiclkmknaaK03
namespace Go.Proofs.Ytdbcdjiclkmknaa
open Go.RowKit Go.ChangeShapes Go.WideShapes Go.Deep

section
variable {H : Type} {enc : TypeId × Value → H} {P : Program} {w : World}

/-- A list of things of which each place has one. -/
theorem list_of {α : Type} (R : Nat → α → Prop) (n : Nat) (h : ∀ i, i < n → ∃ x, R i x) : ∃ l : List α, l.length = n ∧ ∀ i x, l[i]? = some x → R i x := by
  induction n with
  | zero => exact ⟨[], rfl, fun i x hx => by simp at hx⟩
  | succ n ih =>
    obtain ⟨l, hl, hr⟩ := ih fun i hi => h i (by omega)
    obtain ⟨x, hx⟩ := h n (by omega)
    refine ⟨l ++ [x], by simp [hl], fun i y hy => ?_⟩
    by_cases hi : i < n
    · rw [List.getElem?_append_left (by omega)] at hy; exact hr i y hy
    · have hin : i = n := by
        have : i < (l ++ [x]).length := (List.getElem?_eq_some_iff.1 hy).1
        simp at this; omega
      subst hin
      rw [List.getElem?_append_right (by omega), hl] at hy
      simp at hy
      subst hy; exact hx

theorem add_plain (b o z : Nat) : (⟨b, o, none⟩ : Addr).add z = ⟨b, o + z, none⟩ := by
  unfold Addr.add
  split
  · rename_i h; subst h; rfl
  · rfl

/-- A slice that reads: empty, or a row of elements each of which reads. -/
theorem read_slice {t e : TypeId} {fuel : Nat} {cs : List Value} {x : DataW H × List MemPlace} (ht : P.underlying t = some (.slice e)) (hC : 0 < P.cellsOf e)
    (h : DataW.trod enc P w 0 (fun _ => true) true fuel t cs = some x) :
    (∃ y c, cs = [.slice y 0 c]) ∨ ∃ (b o len c n : Nat), 0 < len ∧ cs = [.slice (some ⟨b, o, none⟩) len c] ∧ len ≤ c ∧ c ≤ maxLen ∧
      ∀ i, i < len → ∃ cs' y, cs'.length = P.cellsOf e ∧ (∀ j, j < P.cellsOf e → w.cell? ⟨b, o + i * P.cellsOf e + j, none⟩ = cs'[j]?) ∧ DataW.trod enc P w 0 (fun _ => true) true n e cs' = some y := by
  rcases open_slice ht h with ⟨rfl, _⟩ | ⟨a, len, cap, m, n, D, Pl, rfl, _, hl, hm, hmm, _, hi⟩
  · exact .inl ⟨_, _, rfl⟩
  · by_cases h0 : len = 0
    · subst h0; exact .inl ⟨_, _, rfl⟩
    · have hlm : len ≤ m := by rw [hmm]; simp; omega
      obtain ⟨cs0, hc0, _⟩ := hi 0 (by omega)
      obtain ⟨_, hl0, hat0⟩ := World.cells?_some hc0
      obtain ⟨b, o, s⟩ := a
      have hs : s = none := by
        have h1 := hat0 0 hC
        rw [List.getElem?_eq_getElem (by omega)] at h1
        cases s with
        | none => rfl
        | some z => simp [World.cell?, Addr.add] at h1; split at h1 <;> simp at h1
      subst hs
      refine .inr ⟨b, o, len, cap, n, by omega, rfl, hl, hm, fun i hlt => ?_⟩
      obtain ⟨cs', hc', ht'⟩ := hi i (by omega)
      obtain ⟨_, hl', hat'⟩ := World.cells?_some hc'
      exact ⟨cs', _, hl', fun j hj => by have := hat' j hj; rw [add_plain, add_plain] at this; exact this, ht'⟩

/-- The fields of a struct that reads. -/
theorem read_struct {t : TypeId} {fs : Array Field} {fuel : Nat} {cs : List Value} {x : DataW H × List MemPlace} (ht : P.underlying t = some (.struct fs)) (h : DataW.trod enc P w 0 (fun _ => true) true fuel t cs = some x) :
    cs.length = P.cellsOf t ∧ ∃ n, ∀ (i : Nat) (f : Field), fs[i]? = some f → ∃ y, DataW.trod enc P w 0 (fun _ => true) true n f.type ((cs.drop f.offset).take (P.cellsOf f.type)) = some y := by
  obtain ⟨xs, n, _, _, hl, hx, hf⟩ := DataW.trod_struct ht h
  refine ⟨hl, n, fun i f hi => ?_⟩
  have hlt : i < xs.length := by rw [hx]; exact (Array.getElem?_eq_some_iff.1 hi).1
  exact ⟨xs[i], by rw [hf i f hi, List.getElem?_eq_getElem hlt]⟩

/-- A field of one cell. -/
theorem take_one {cs : List Value} {o : Nat} {v : Value} (h : (cs.drop o).take 1 = [v]) : cs[o]? = some v := by
  have h1 : ((cs.drop o).take 1)[0]? = some v := by rw [h]; rfl
  rw [List.getElem?_take] at h1
  simpa using h1

theorem i64_of {n : Int} (h : (Lit.int .i64 n).wf = true) : I64 n := by
  simp [Lit.wf, IntKind.min, IntKind.max, IntKind.signed, IntKind.bits] at h
  unfold I64; omega
end
end Go.Proofs.Ytdbcdjiclkmknaa
namespace Go.Proofs.Ytdbcdjiclkmknaa
open Go.RowKit

theorem window_set (cs : List Value) (o j : Nat) (v : Value) : ((cs.set (o + j) v).drop o).take 11 = ((cs.drop o).take 11).set j v := by
  rw [List.drop_set, if_neg (by omega), List.take_set, show o + j - o = j by omega]
theorem Has.window {w : World} {k o : Nat} {cs : List Value} (h : Has w k cs) : w.rangeAt k o ((cs.drop o).take 11) := fun j v hj => by
  rw [h.cell]
  rw [List.getElem?_take] at hj
  split at hj
  · rw [List.getElem?_drop] at hj; exact hj
  · cases hj
theorem Has.same {w : World} {k : Nat} {cs cs' : List Value} (h : Has w k cs) (h' : Has w k cs') : cs = cs' := by
  obtain ⟨t, h⟩ := h
  obtain ⟨t', h'⟩ := h'
  rw [h] at h'
  injection h' with h'
  injection h' with h1
  simpa using h1
theorem set_out {cs : List Value} {i j : Nat} {v : Value} (h : j ≠ i) : (cs.set j v)[i]? = cs[i]? := List.getElem?_set_ne h

/-- The entries for the kids of a box that has been copied. -/
def kidEntries (k' : Nat) {m : Nat} (kids : List (Bx m)) : List ((Nat × Nat) × Nat) := kids.zipIdx.map fun x => ((k', x.2 * 11), bCount m x.1)
theorem kidEntries_fst (k' : Nat) {m : Nat} (kids : List (Bx m)) : (kidEntries k' kids).map (·.1) = (List.range kids.length).map fun i => (k', i * 11) := by
  unfold kidEntries
  rw [List.map_map]
  apply List.ext_getElem?
  intro i
  simp only [List.getElem?_map, List.getElem?_zipIdx]
  by_cases hi : i < kids.length
  · simp [hi]
  · simp [hi]
theorem kidEntries_snd (k' : Nat) {m : Nat} (kids : List (Bx m)) : (kidEntries k' kids).map (·.2) = kids.map (bCount m) := by
  unfold kidEntries
  rw [List.map_map]
  apply List.ext_getElem?
  intro i
  simp only [List.getElem?_map, List.getElem?_zipIdx]
  cases kids[i]? <;> simp

theorem deep_push {P : Nat → Prop} {W w w2 : World} (hP : ∀ k, P k → k < W.heap.size) {N : Nat} {b : Bx N} {rb rv : Nat} {zs : List Value} {t : Nat} {v v2 : Value} {KL SL X A Xs X2 L2 : List (Nat × List Value)} {rest : List ((Nat × Nat) × Nat)} {k0 o0 wt : Nat}
    {xb c : Nat} {ys cs : List Value} {K1 K2 : List (Nat × List Value)} {m : Nat} {a : Hd} {kids : List (Bx m)} {kx kx' sx sx' : Option Addr} {kc kc' sc sc' k' : Nat}
    (hI : DeepInv P W N b rb rv zs t v w KL SL X (rest ++ [((k0, o0), wt)])) (hT : Top W rv zs v w KL SL rest k0 o0 wt xb c ys cs K1 K2 m a kids kx kc sx sc)
    (hS2 : Own [] W L2 w2) (hp : L2.Perm ((((rv, zs) :: (A ++ (k0, (cs.set (o0 + 10) (.slice sx' a.src.length sc')).set (o0 + 8) (.slice kx' kids.length kc')) :: (K1 ++ K2))) ++ (SL ++ Xs)) ++ X2))
    (hrow : RowAt w2 sx' 1 intCells a.src) (hsb : a.src ≠ [] → ∀ k o, sx' = some ⟨k, o, none⟩ → k ∈ Xs.map (·.1))
    (hA : (kids = [] ∧ A = []) ∨ ∃ arr, A = [(k', arr)] ∧ kx' = some ⟨k', 0, none⟩ ∧ arr.length = kids.length * 11 ∧ ∀ k o, kx = some ⟨k, o, none⟩ → W.rangeAt k o arr)
    (hst : Sl 1 (rest.length + kids.length) v2 ((rest.map (·.1)).flatMap ptr ++ ((List.range kids.length).map fun i => (k', i * 11)).flatMap ptr) X2) :
    ∃ t' KL' SL' ps', t' < t ∧ DeepInv P W N b rb rv zs t' v2 w2 KL' SL' X2 ps' := by
  have hlt : ((rest ++ kidEntries k' kids).map (·.2)).sum < t := by
    rw [← hI.weight, List.map_append, List.map_append, List.sum_append, List.sum_append, kidEntries_snd]
    have := hT.count
    simp only [bCount] at this
    simp
    omega
  have hbd := hI.bound
  obtain ⟨CS, hCS⟩ : ∃ CS, CS = (cs.set (o0 + 10) (.slice sx' a.src.length sc')).set (o0 + 8) (.slice kx' kids.length kc') := ⟨_, rfl⟩
  rw [← hCS] at hp
  have hS3 := hS2.perm hp
  have hCl : CS.length = cs.length := by rw [hCS]; simp
  have hwin : (CS.drop o0).take 11 = a.cells (.slice kx' kids.length kc') (.slice sx' a.src.length sc') := by
    rw [hCS, window_set, window_set, hT.cells]
    rfl
  have hout : ∀ i, ¬ (o0 ≤ i ∧ i < o0 + 11) → CS[i]? = cs[i]? := fun i hi => by
    rw [hCS, set_out (by omega), set_out (by omega)]
  have hH : ∀ x, x ∈ A ∨ x = (k0, CS) ∨ x ∈ K1 ∨ x ∈ K2 ∨ x ∈ SL ∨ x ∈ Xs → Has w2 x.1 x.2 := fun x hx => hS3.has x (by
    simp only [List.mem_append, List.mem_cons]
    rcases hx with h | h | h | h | h | h <;> simp [h])
  have hk0 : Has w2 k0 CS := hH (k0, CS) (.inr (.inl rfl))
  have hwh : ∀ x ∈ KL, Has w x.1 x.2 := fun x hx => hI.own.has x (by simp [hx])
  have hk0w : Has w k0 cs := hT.own.has (k0, cs) (by simp)
  have hKL : ∀ x, x ∈ KL ↔ x = (k0, cs) ∨ x ∈ K1 ∨ x ∈ K2 := fun x => by
    rw [hT.split]; simp only [List.mem_append, List.mem_cons]; constructor
    · rintro (h | h | h) <;> simp [h]
    · rintro (h | h | h) <;> simp [h]
  have hn0 : ∀ x, x ∈ A ∨ x = (k0, CS) ∨ x ∈ K1 ∨ x ∈ K2 ∨ x ∈ SL ∨ x ∈ Xs → W.heap.size ≤ x.1 := fun x hx => by
    have := hS3.ge x (by
      simp only [List.mem_append, List.mem_cons]
      rcases hx with h | h | h | h | h | h <;> simp [h])
    rcases this with h | h
    · cases h
    · exact h
  -- the new blocks
  have hrest := hI.nodup
  rw [List.map_append, List.nodup_append] at hrest
  obtain ⟨hnd1, _, hnd2⟩ := hrest
  have hKL' : ∀ x, x ∈ (A ++ (k0, CS) :: (K1 ++ K2)) ↔ x ∈ A ∨ x = (k0, CS) ∨ x ∈ K1 ∨ x ∈ K2 := fun x => by
    simp only [List.mem_append, List.mem_cons]
  have hcell : ∀ (k i : Nat) (u : Value), (P k ∨ k ∈ KL.map (·.1) ∨ k ∈ SL.map (·.1)) → ¬ (k = k0 ∧ o0 ≤ i ∧ i < o0 + 11) → w.cell? ⟨k, i, none⟩ = some u → w2.cell? ⟨k, i, none⟩ = some u := by
    intro k i u hk hn hu
    rcases hk with hk | hk | hk
    · have h1 : w.heap[k]? = W.heap[k]? := hI.own.block k (hP k hk) (by simp)
      have h2 : w2.heap[k]? = W.heap[k]? := hS3.block k (hP k hk) (by simp)
      rw [← hu]
      exact World.cell?_of_block (w := w) (a := ⟨k, i, none⟩) (by rw [h1, h2])
    · obtain ⟨⟨_, ck⟩, hx, rfl⟩ := List.mem_map.1 hk
      have hw := hwh _ hx
      simp only at hw hn hu ⊢
      rw [hw.cell] at hu
      rcases (hKL _).1 hx with he | he | he
      · obtain ⟨rfl, rfl⟩ := by simpa using he
        rw [hk0.cell, hout i (fun h => hn ⟨rfl, h⟩)]; exact hu
      · rw [(hH _ (.inr (.inr (.inl he)))).cell]; exact hu
      · rw [(hH _ (.inr (.inr (.inr (.inl he))))).cell]; exact hu
    · obtain ⟨⟨_, ck⟩, hx, rfl⟩ := List.mem_map.1 hk
      have hw : Has w _ ck := hI.own.has _ (by simp only [List.mem_append]; exact .inl (.inr hx))
      simp only at hw hu ⊢
      rw [hw.cell] at hu
      rw [(hH _ (.inr (.inr (.inr (.inr (.inl hx)))))).cell]; exact hu
  have hturn := rep_turn (P := P) (K := KL.map (·.1)) (K' := (A ++ (k0, CS) :: (K1 ++ K2)).map (·.1)) (S := SL.map (·.1)) (S' := (SL ++ Xs).map (·.1)) (w := w) (w' := w2) (k0 := k0) (o0 := o0)
    (fun k hk => by
      obtain ⟨x, hx, rfl⟩ := List.mem_map.1 hk
      rcases (hKL x).1 hx with rfl | he | he
      · exact List.mem_map.2 ⟨(k0, CS), by simp, rfl⟩
      · exact List.mem_map.2 ⟨x, by simp [he], rfl⟩
      · exact List.mem_map.2 ⟨x, by simp [he], rfl⟩)
    (fun k hk => by rw [List.map_append]; exact List.mem_append_left _ hk) (fun h => by have h1 := hP _ h; have h2 := hn0 (k0, CS) (.inr (.inl rfl)); simp only at h2; omega)
    (fun hk => by
      have h0 := hI.own.apart
      rw [List.map_append, List.nodup_append, List.map_append, List.nodup_append] at h0
      exact h0.1.2.2 k0 (by rw [hT.split]; simp) k0 hk rfl)
    hT.mod hcell hk0w.window hk0.window (by rw [hT.cells]) hwin (hT.srcs.own (show Own [] W _ w from hI.own)) (fun i hi k o hkx css hcl hrg => by
      rcases hA with ⟨h, _⟩ | ⟨arr, rfl, hk', hal, har⟩
      · subst h; simp at hi
      · have hW := har k o hkx
        have hkn : k < W.heap.size := by
          obtain ⟨z, hz⟩ : ∃ z, arr[0]? = some z := ⟨arr[0]'(by omega), List.getElem?_eq_getElem _⟩
          exact World.block_lt_of_cell? W _ (hW 0 z hz)
        refine ⟨k', hk', by simp, fun j u hj => ?_⟩
        have hj11 : j < 11 := by rw [← hcl]; exact (List.getElem?_eq_some_iff.1 hj).1
        rw [(hH (k', arr) (.inl (by simp))).cell]
        have hu := hrg j u hj
        have hz : arr[i * 11 + j]? = some (arr[i * 11 + j]'(by omega)) := List.getElem?_eq_getElem _
        have h2 := hW _ _ hz
        have h3 := hI.own.cell (a := ⟨k, o + (i * 11 + j), none⟩) (by simp) h2
        rw [← Nat.add_assoc] at h3
        rw [h3] at hu
        rw [Nat.zero_add, hz]; exact hu) hrow (fun hne k o hsx => .inr (by rw [List.map_append]; exact List.mem_append_right _ (hsb hne k o hsx)))
  obtain ⟨cs0, hrb, hr11, hroot⟩ := hI.root
  refine ⟨((rest ++ kidEntries k' kids).map (·.2)).sum, A ++ (k0, CS) :: (K1 ++ K2), SL ++ Xs, rest ++ kidEntries k' kids, hlt, ?_⟩
  · refine { own := hS3, stack := ?_, nodup := ?_, weight := rfl, bound := by omega, pend := ?_, root := ?_ }
    · rw [List.map_append, List.flatMap_append, kidEntries_fst]
      have : (rest ++ kidEntries k' kids).length = rest.length + kids.length := by simp [kidEntries]
      rw [this]
      exact hst
    · rw [List.map_append, kidEntries_fst, List.nodup_append]
      refine ⟨hnd1, ?_, ?_⟩
      · rw [List.nodup_iff_pairwise_ne, List.pairwise_map]
        exact (List.nodup_iff_pairwise_ne.1 List.nodup_range).imp fun h he => h (by have := (Prod.mk.inj he).2; omega)
      · intro p hp q hq he
        subst he
        obtain ⟨x, hx, rfl⟩ := List.mem_map.1 hp
        obtain ⟨ck, _, _, hxk, _⟩ := hI.pend x (by simp [hx])
        obtain ⟨i, hi, he⟩ := List.mem_map.1 hq
        have hk : x.1.1 = k' := by rw [← he]
        rcases hA with ⟨h, _⟩ | ⟨arr, rfl, _⟩
        · subst h; simp at hi
        · have h0 := hS3.apart
          rw [hk] at hxk
          have hh : ∀ y, y ∈ ((k0, CS) :: (K1 ++ K2)) → y.1 ≠ k' := by
            simp only [List.map_append, List.map_cons, List.nodup_append, List.nodup_cons, List.cons_append, List.nil_append, List.append_assoc] at h0
            intro y hy hyk
            refine h0.2.1 ?_
            rcases List.mem_cons.1 hy with rfl | hy
            · rw [← hyk]; simp
            · rcases List.mem_append.1 hy with hy | hy
              · rw [← hyk]; simp only [List.mem_cons, List.mem_append]; exact .inr (.inl (List.mem_map_of_mem hy))
              · rw [← hyk]; simp only [List.mem_cons, List.mem_append]; exact .inr (.inr (.inl (List.mem_map_of_mem hy)))
          rcases (hKL _).1 hxk with he | he | he
          · exact hh (k0, CS) (by simp) (by simpa using (congrArg Prod.fst he).symm)
          · exact hh _ (by simp only [List.mem_cons, List.mem_append]; exact .inr (.inl he)) rfl
          · exact hh _ (by simp only [List.mem_cons, List.mem_append]; exact .inr (.inr he)) rfl
    · intro p hp
      rcases List.mem_append.1 hp with hp | hp
      · obtain ⟨ck, mp, bp, hpk, hpm, hpl, hpr, hps, hpc⟩ := hI.pend p (by simp [hp])
        have hne : p.1 ≠ (k0, o0) := fun he => hnd2 p.1 (List.mem_map_of_mem hp) (k0, o0) (by simp) he
        rcases (hKL _).1 hpk with he | he | he
        · have hpk0 : p.1.1 = k0 := congrArg Prod.fst he
          have hck : ck = cs := congrArg Prod.snd he
          subst hck
          have hpo : p.1.2 ≠ o0 := fun h => hne (Prod.ext hpk0 h)
          refine ⟨CS, mp, bp, by rw [hpk0]; simp, hpm, by omega, ?_, hps, hpc⟩
          have hm0 := hT.mod
          have : (CS.drop p.1.2).take 11 = (ck.drop p.1.2).take 11 := by
            apply List.ext_getElem?
            intro j
            rw [List.getElem?_take, List.getElem?_take]
            split
            · rw [List.getElem?_drop, List.getElem?_drop, hout _ (by omega)]
            · rfl
          rw [this]; exact hpr
        · exact ⟨ck, mp, bp, by simp [he], hpm, hpl, hpr, hps, hpc⟩
        · exact ⟨ck, mp, bp, by simp [he], hpm, hpl, hpr, hps, hpc⟩
      · unfold kidEntries at hp
        obtain ⟨⟨kid, i⟩, hx, rfl⟩ := List.mem_map.1 hp
        have hki : kids[i]? = some kid := by
          have := List.mem_zipIdx hx
          simp at this
          rw [this.2]; simp [this.1]
        have hil : i < kids.length := (List.getElem?_eq_some_iff.1 hki).1
        rcases hA with ⟨h, _⟩ | ⟨arr, rfl, hk', hal, har⟩
        · subst h; simp at hil
        · obtain ⟨kx2, kc2, sx2, sc2, hcs2, _, _, _, _, hkids⟩ := hT.rep
          obtain ⟨k, o, css, ek, _, hrg, hrep⟩ := hkids i kid hki
          simp only [Hd.cells, List.cons.injEq, Value.slice.injEq, true_and, and_true] at hcs2
          obtain ⟨⟨rfl, -⟩, -⟩ := hcs2
          have hW := har k o ek
          have hce : (arr.drop (i * 11)).take 11 = css := by
            refine rangeAt_eq (w := W) (b := k) (o := o + i * 11) (fun j u hj => ?_) hrg (by rw [hrep.len]; simp; omega)
            rw [List.getElem?_take] at hj
            split at hj
            · rw [List.getElem?_drop] at hj
              rw [Nat.add_assoc]; exact hW _ _ hj
            · cases hj
          exact ⟨arr, m, kid, by simp, by simp, by simp only; omega, by simp only; rw [hce]; exact hrep, hT.small.2.2 kid (List.mem_of_getElem? hki), rfl⟩
    · by_cases hq : rb = k0
      · subst hq
        have hcs0 : cs0 = cs := (hwh _ hrb).same hk0w
        subst hcs0
        have hl := hT.len
        have ho0 : o0 = 0 := by omega
        subst ho0
        have hc0 : cs0 = a.cells (.slice kx kids.length kc) (.slice sx a.src.length sc) := by
          have := hT.cells
          rw [List.drop_zero, List.take_of_length_le (by omega)] at this
          exact this
        have hc1 : CS = a.cells (.slice kx' kids.length kc') (.slice sx' a.src.length sc') := by
          have := hwin
          rw [List.drop_zero, List.take_of_length_le (by omega)] at this
          exact this
        refine ⟨CS, by simp, by omega, ?_⟩
        have := (hturn N b cs0 hroot).2
        rw [List.drop_zero, List.drop_zero, List.take_of_length_le (by omega), List.take_of_length_le (by omega)] at this
        exact this rfl
      · have hrb2 : (rb, cs0) ∈ K1 ∨ (rb, cs0) ∈ K2 := by
          rcases (hKL _).1 hrb with he | he
          · exact absurd (congrArg Prod.fst he) hq
          · exact he
        refine ⟨cs0, ?_, hr11, (hturn N b cs0 hroot).1⟩
        rcases hrb2 with h | h <;> simp [h]

/-- A box stays a box where its blocks stay. -/
theorem rep_keep {P : Nat → Prop} {K S : List Nat} {w w' : World} (h1 : ∀ (k i : Nat) (v : Value), (P k ∨ k ∈ K ∨ k ∈ S) → w.cell? ⟨k, i, none⟩ = some v → w'.cell? ⟨k, i, none⟩ = some v) :
    ∀ (n : Nat) (b : Bx n) (cs : List Value), RepG (koK P K) (soK P S) w n b cs → RepG (koK P K) (soK P S) w' n b cs := by
  intro n
  induction n with
  | zero => intro b cs h; exact h
  | succ n ih =>
    rintro b cs ⟨kx, kc, sx, sc, hcs, hok, hlen, hrow, hso, hkids⟩
    refine ⟨kx, kc, sx, sc, hcs, hok, hlen, ?_, hso, fun i kid hi => ?_⟩
    · rcases hrow with h | ⟨k, o, hx, hr⟩
      · exact .inl h
      · by_cases hne : b.1.src = []
        · exact .inl hne
        · refine .inr ⟨k, o, hx, fun i z hi j v hj => h1 k _ v ?_ (hr i z hi j v hj)⟩
          rcases hso hne k o hx with h | h
          · exact .inl h
          · exact .inr (.inr h)
    · obtain ⟨k, o, css, ek, hko, hr, hrep⟩ := hkids i kid hi
      refine ⟨k, o, css, ek, hko, fun j v hj => h1 k _ v ?_ (hr j v hj), ih kid css hrep⟩
      rcases hko with h | ⟨h, _⟩
      · exact .inl h
      · exact .inr (.inl h)
theorem rep_all {ko : Nat → Nat → Prop} {so : Nat → Prop} {w : World} {n : Nat} {b : Bx n} {cs : List Value} (h : RepG ko so w n b cs) : cs.all (·.oneCell') = true := by
  cases n with
  | zero => exact h.elim
  | succ n => obtain ⟨kx, kc, sx, sc, rfl, _⟩ := h; rfl

/-- The stack is empty: the box has been copied. -/
theorem deep_end {P : Nat → Prop} {W w w' : World} (hP : ∀ k, P k → k < W.heap.size) {N : Nat} {b : Bx N} {rb rv : Nat} {zs zs' : List Value} {t : Nat} {v : Value} {KL SL X : List (Nat × List Value)} {ps : List ((Nat × Nat) × Nat)} {cs0 : List Value} (hI : DeepInv P W N b rb rv zs t v w KL SL X ps)
    (hroot : RepG (koK P (KL.map (·.1))) (soK P (SL.map (·.1))) w N b cs0) (hS : Own [] W ((rv, zs') :: ((KL ++ SL) ++ X)) w') : RepG (fun k _ => P k ∨ W.heap.size ≤ k) (fun k => P k ∨ W.heap.size ≤ k) w' N b cs0 := by
  have hge : ∀ x, x ∈ KL ∨ x ∈ SL → W.heap.size ≤ x.1 := fun x hx => by
    have := hS.ge x (by simp only [List.mem_cons, List.mem_append]; rcases hx with h | h <;> simp [h])
    rcases this with h | h
    · cases h
    · exact h
  refine RepG.mono (fun k o h => ?_) (fun k h => ?_) N b cs0 (rep_keep (fun k i u hk hu => ?_) N b cs0 hroot)
  · rcases h with h | ⟨h, _⟩
    · exact .inl h
    · obtain ⟨x, hx, rfl⟩ := List.mem_map.1 h
      exact .inr (hge x (.inl hx))
  · rcases h with h | h
    · exact .inl h
    · obtain ⟨x, hx, rfl⟩ := List.mem_map.1 h
      exact .inr (hge x (.inr hx))
  rcases hk with hk | hk | hk
  · have h1 : w.heap[k]? = W.heap[k]? := hI.own.block k (hP k hk) (by simp)
    have h2 : w'.heap[k]? = W.heap[k]? := hS.block k (hP k hk) (by simp)
    rw [← hu]
    exact World.cell?_of_block (w := w) (a := ⟨k, i, none⟩) (by rw [h1, h2])
  · obtain ⟨⟨k2, ck⟩, hx, rfl⟩ := List.mem_map.1 hk
    have h1 : Has w k2 ck := hI.own.has (k2, ck) (by simp [hx])
    have h2 : Has w' k2 ck := hS.has (k2, ck) (by simp [hx])
    simp only at h1 h2 hu ⊢
    rw [h1.cell] at hu
    rw [h2.cell]; exact hu
  · obtain ⟨⟨k2, ck⟩, hx, rfl⟩ := List.mem_map.1 hk
    have h1 : Has w k2 ck := hI.own.has (k2, ck) (by simp only [List.mem_append]; exact .inl (.inr hx))
    have h2 : Has w' k2 ck := hS.has (k2, ck) (by simp only [List.mem_append, List.mem_cons]; exact .inr (.inl (.inr hx)))
    simp only at h1 h2 hu ⊢
    rw [h1.cell] at hu
    rw [h2.cell]; exact hu

theorem sl_block {n : Nat} {y : Option Addr} {c : Nat} {l : List Int} {X : List (Nat × List Value)} (h : Sl 1 n (.slice y n c) (l.flatMap intCells) X) (hl : n = l.length) : l ≠ [] → ∀ k o, y = some ⟨k, o, none⟩ → k ∈ X.map (·.1) := by
  intro hne k o hy
  subst hy
  rcases h.2 with ⟨_, _, _, h0, _⟩ | ⟨b, c', junk, hv, _, _, _, rfl⟩
  · exact absurd (List.eq_nil_of_length_eq_zero (by omega)) hne
  · simp at hv
    simp [hv.1.1]
theorem sl_row {D : List Nat} {W w : World} {L X : List (Nat × List Value)} {y : Option Addr} {c : Nat} {l : List Int} (hS : Own D W L w) (hm : ∀ x ∈ X, x ∈ L) (h : Sl 1 l.length (.slice y l.length c) (l.flatMap intCells) X) : RowAt w y 1 intCells l := by
  obtain ⟨y', c', he, hr, _, _⟩ := Sl.rowAt hS hm h (fun _ => rfl) (by decide)
  obtain ⟨rfl, _⟩ : y = y' ∧ c = c' := by simpa using he
  exact hr
/-- The kids of a box, one behind the other. -/
theorem kids_flat {W : World} {m : Nat} {a : Hd} {kids : List (Bx m)} {kx sx : Option Addr} {kc sc : Nat} (h : Rep W (m + 1) (a, kids) (a.cells (.slice kx kids.length kc) (.slice sx a.src.length sc))) (hne : kids ≠ []) :
    ∃ k o news, kx = some ⟨k, o, none⟩ ∧ news.length = kids.length * 11 ∧ W.rangeAt k o news ∧ ∀ v ∈ news, v.oneCell' = true := by
  obtain ⟨kx2, kc2, sx2, sc2, hcs2, _, _, _, _, hkids⟩ := h
  simp only [Hd.cells, List.cons.injEq, Value.slice.injEq, true_and, and_true] at hcs2
  obtain ⟨⟨rfl, -⟩, -⟩ := hcs2
  obtain ⟨kid0, hk0⟩ : ∃ kid, kids[0]? = some kid := by
    cases kids with
    | nil => exact absurd rfl hne
    | cons x l => exact ⟨x, rfl⟩
  obtain ⟨k, o, _, hkx, _⟩ := hkids 0 kid0 hk0
  obtain ⟨l, hll, hr⟩ := list_of (fun i css => W.rangeAt k (o + i * 11) css ∧ css.length = 11 ∧ css.all (·.oneCell') = true) kids.length fun i hi => by
    obtain ⟨k2, o2, css, e, _, hrg, hrep⟩ := hkids i kids[i] (by simp [hi])
    rw [hkx] at e
    have hko : k = k2 ∧ o = o2 := by simpa using e
    obtain ⟨rfl, rfl⟩ := hko
    exact ⟨css, hrg, hrep.len, rep_all hrep⟩
  have hlen : ∀ x ∈ l, x.length = 11 := fun x hx => by
    obtain ⟨i, hi⟩ := List.mem_iff_getElem?.1 hx
    exact (hr i x hi).2.1
  obtain ⟨b, o', hx, hfl⟩ := RowAt.flat (w := W) (x := kx) (size := 11) (f := id) (l := l) (.inr ⟨k, o, hkx, fun i x hi => (hr i x hi).1⟩) hlen (by
    intro h0
    subst h0
    have := (List.getElem?_eq_some_iff.1 hk0).1
    simp at hll
    omega)
  rw [hkx] at hx
  have hko : k = b ∧ o = o' := by simpa using hx
  obtain ⟨rfl, rfl⟩ := hko
  refine ⟨k, o, l.flatMap id, hkx, ?_, hfl, fun v hv => ?_⟩
  · rw [← hll]
    clear hr hll hx hfl
    induction l with
    | nil => simp
    | cons x l ih =>
      rw [List.flatMap_cons, List.length_append, ih fun y hy => hlen y (by simp [hy]), List.length_cons, Nat.succ_mul]
      have : (id x).length = 11 := hlen x (by simp)
      omega
  · obtain ⟨x, hx, hv⟩ := List.mem_flatMap.1 hv
    obtain ⟨i, hi⟩ := List.mem_iff_getElem?.1 hx
    exact List.all_eq_true.1 (hr i x hi).2.2 v hv
theorem setL_all {cur news : List Value} (h : cur.length = news.length) : setL cur 0 news = news := by
  have := setL_app news [] cur (by omega)
  rw [List.nil_append, List.length_nil] at this
  rw [this, List.drop_of_length_le (by omega)]
  simp
theorem deep_perm (x z : Nat × List Value) (A K S Xs X2 : List (Nat × List Value)) : ((A ++ (x :: ((z :: K) ++ S ++ Xs))) ++ X2).Perm ((((z :: (A ++ x :: K)) ++ (S ++ Xs))) ++ X2) := by
  refine List.Perm.append_right X2 ?_
  have h1 : (A ++ (x :: ((z :: K) ++ S ++ Xs))).Perm ((A ++ (x :: (z :: K))) ++ (S ++ Xs)) := by simp
  refine h1.trans (List.Perm.append_right _ ?_)
  have h2 : (A ++ x :: z :: K).Perm (A ++ z :: x :: K) := List.Perm.append_left A (List.Perm.swap _ _ _)
  exact h2.trans List.perm_middle
theorem src_cells {W w : World} {L : List (Nat × List Value)} {b o : Nat} {news : List Value} (hS : Own [] W L w) (h : W.rangeAt b o news) : ∀ j v, news[j]? = some v → w.cell? ((⟨b, o, none⟩ : Addr).add j) = some v := fun j v hj => by
  rw [Addr.add_lit]
  exact hS.cell (by simp) (h j v hj)
theorem two_last (x y : Nat × List Value) (R : List (Nat × List Value)) : (x :: y :: R).Perm ((x :: R) ++ [y]) := List.Perm.cons x (List.perm_append_comm (l₁ := [y]) (l₂ := R))
theorem three_last (x y z : Nat × List Value) (R : List (Nat × List Value)) : (x :: y :: z :: R).Perm ((x :: y :: R) ++ [z]) := List.Perm.cons x (two_last y z R)
theorem range_next {k' j : Nat} {l : List Value} : l ++ ((List.range (j + 1)).map fun i => (k', i * 11)).flatMap ptr = (l ++ ((List.range j).map fun i => (k', i * 11)).flatMap ptr) ++ [.pointer (some ⟨k', j * 11, none⟩)] := by
  rw [List.range_succ, List.map_append, List.flatMap_append]
  simp [ptr]
end Go.Proofs.Ytdbcdjiclkmknaa
namespace Go.Proofs.Ytdbcdjiclkmknaa
open Go.RowKit

attribute [local irreducible] wpQuiet wpList Code.wp Calls

instance rt_box : RowTy Try.prog 33 11 := ⟨⟨_, Try.underlying33, rfl⟩, by kernel_rfl⟩
instance zt_box : ZeroTy Try.prog 33 [.int .i64 0, .string ⟨#[]⟩, .int .i64 0, .int .i64 0, .int .i64 0, .int .i64 0, .int .i64 0, .int .i64 0, .slice none 0 0, .int .i64 0, .slice none 0 0] := ⟨.agg #[.int .i64 0, .string ⟨#[]⟩, .int .i64 0, .int .i64 0, .int .i64 0, .int .i64 0, .int .i64 0, .int .i64 0, .slice none 0 0, .int .i64 0, .slice none 0 0], by kernel_rfl, rfl⟩
instance ot_boxs : OneTy Try.prog 30 := ⟨⟨_, Try.underlying30, rfl⟩, by kernel_rfl⟩
instance ot_ptr : OneTy Try.prog 74 := ⟨⟨_, Try.underlying74, rfl⟩, by kernel_rfl⟩
theorem el_ptr : ElTy Try.prog 94 74 1 8 := ElTy.mk' (.pointer none) Try.underlying94 (by kernel_rfl) rfl
theorem el_box : ElTy Try.prog 30 33 11 128 := ElTy.mk' (.agg #[.int .i64 0, .string ⟨#[]⟩, .int .i64 0, .int .i64 0, .int .i64 0, .int .i64 0, .int .i64 0, .int .i64 0, .slice none 0 0, .int .i64 0, .slice none 0 0]) Try.underlying30 (by kernel_rfl) rfl

theorem front_back (Xs : List (Nat × List Value)) (x y : Nat × List Value) (R : List (Nat × List Value)) : (Xs ++ x :: y :: R).Perm (x :: y :: (R ++ Xs)) := List.perm_append_comm (l₁ := Xs) (l₂ := x :: y :: R)
theorem eleven {α : Type} {l : List α} (h : l.length = 11) : ∃ c0 c1 c2 c3 c4 c5 c6 c7 c8 c9 c10, l = [c0, c1, c2, c3, c4, c5, c6, c7, c8, c9, c10] := by
  match l, h with
  | [c0, c1, c2, c3, c4, c5, c6, c7, c8, c9, c10], _ => exact ⟨c0, c1, c2, c3, c4, c5, c6, c7, c8, c9, c10, rfl⟩

set_option maxHeartbeats 8000000 in
set_option maxRecDepth 100000 in
theorem deep_Box_calls (P : Nat → Prop) (N : Nat) (b : Bx N) (cs : List Value) (w : World) (hP : ∀ k, P k → k < w.heap.size) (hr : RepG (fun k _ => P k) P w N b cs) (hs : Small N b) (hc : bCount N b ≤ 1000000) : Calls Try.prog 47 #[.agg cs.toArray] w (fun e w' => ∃ cs', e = .returned (.agg cs'.toArray) ∧ RepG (fun k _ => P k ∨ w.heap.size ≤ k) (fun k => P k ∨ w.heap.size ≤ k) w' N b cs' ∧ Below w.heap.size w w') := by
  have hl := hr.len
  have HR := Lib.hid hr
  have HP := Lib.hid hP
  have HS := Lib.hid hs
  have HC := Lib.hid hc
  have HL := Lib.hid hl
  clear hr hs hc hl hP
  go_enter Try.func47, Try.ntmps47
  have hS := own_start w
  go_wp2_with (first|(refine own_unguard (by rfl) ?_)|(refine own_box rfl _ _ rfl rfl hS ?_;clear hS;(try clear ww);intro rb ww hS)|(refine own_alloc rfl _ rfl hS zt_box ?_;clear hS;(try clear ww);intro rv ww hS)|(refine own_buildSlice rfl _ _ 1 _ rfl [.pointer (some ⟨rb, 0, none⟩)] hS Try.underlying94 (by kernel_rfl) ?_;clear hS;(try clear ww);intro bb ww hS)|(refine w_ld rfl _ rfl (by rfl) (by first|exact rd_1 (by repeat constructor) (by first|rfl|assumption)|exact rd_w (by repeat constructor) (by rfl)|((first|refine rd_o ‹_› (by rfl) ?_|refine rd_h ‹_› (by rfl) ?_|refine rd_1o ‹_› ?_|refine rd_1h ‹_› (by first|rfl|assumption) ?_);first|exact nmn|assumption|simp)) hS ?_)|((first|refine own_box rfl _ _ rfl (by rfl) hS ?_|refine w_al rfl rfl hS ?_);clear hS;(try clear ww);intro bb ww hS)|((first|refine w_st rfl _ _ rfl (by rfl) (by rfl) (by repeat constructor) (by rfl) (by rfl) (by first|rfl|assumption) hS ?_|refine w_s1 rfl _ _ rfl (by rfl) (by repeat constructor) (by first|exact .c|exact .t rfl) (by rfl) (by repeat constructor) hS ?_);clear hS;(try clear ww);intro ww hS))
  obtain ⟨zs, hzs, hS0⟩ : ∃ zs, Hid (zs = [Value.int .i64 0, .string ⟨#[]⟩, .int .i64 0, .int .i64 0, .int .i64 0, .int .i64 0, .int .i64 0, .int .i64 0, .slice none 0 0, .int .i64 0, .slice none 0 0]) ∧ Own [] w [(bb, [.pointer (some ⟨rb, 0, none⟩)]), (rv, zs), (rb, cs)] ww := ⟨_, rfl, hS⟩
  clear hS
  have hS := hS0
  clear hS0
  go_loopw [3] (fun v wr => ∃ t KL SL X ps, DeepInv P w N b rb rv zs t v wr KL SL X ps) (fun v wr => least (fun t => ∃ KL SL X ps, DeepInv P w N b rb rv zs t v wr KL SL X ps))
  case atStart => exact ⟨_, _, _, _, _, deep_start HR.out HS.out HC.out hS⟩
  case round =>
    clear hS
    have hspec := least_spec hrel
    clear hrel
    obtain ⟨T, hT⟩ : ∃ T, Hid (T = least (fun k => ∃ KL SL X ps, DeepInv P w N b rb rv zs k u3 wr KL SL X ps)) := ⟨_, rfl⟩
    rw [← hT.out] at hspec
    obtain ⟨KL, SL, X, ps, hI⟩ := hspec
    rcases List.eq_nil_or_concat ps with rfl | ⟨rest, ⟨⟨k0, o0⟩, wt⟩, rfl⟩
    · obtain ⟨y, c, hv⟩ := hI.stack.slice
      simp only [List.length_nil] at hv
      subst hv
      obtain ⟨cs0, hm, h11, hroot⟩ := hI.root
      obtain ⟨c0, c1, c2, c3, c4, c5, c6, c7, c8, c9, c10, rfl⟩ := eleven h11
      have hrt : RowTy Try.prog 33 ([c0, c1, c2, c3, c4, c5, c6, c7, c8, c9, c10] : List Value).length := rt_box
      have hall := rep_all hroot
      have hS : Own [] w ((rv, zs) :: ((KL ++ SL) ++ X)) wr := hI.own
      obtain ⟨n0, hat⟩ : ∃ n, At n ((rv, zs) :: ((KL ++ SL) ++ X)) rb [c0, c1, c2, c3, c4, c5, c6, c7, c8, c9, c10] := List.mem_iff_getElem?.1 (by simp [hm])
      have hzl : zs.length = ([c0, c1, c2, c3, c4, c5, c6, c7, c8, c9, c10] : List Value).length := by rw [hzs.out]; rfl
      have HI := Lib.hid hI
      have HRt := Lib.hid hroot
      clear hI hroot hm h11 hT
      go_wp2_with (first|(refine own_unguard (by rfl) ?_)|(refine own_load rfl _ _ rfl rfl hS hat hrt ?_)|(refine own_store rfl _ _ _ rfl rfl rfl hS at0 hrt hzl hall ?_;clear hS;intro ww hS)|(refine w_ld rfl _ rfl (by rfl) (by first|exact rd_1 (by repeat constructor) (by first|rfl|assumption)|exact rd_w (by repeat constructor) (by rfl)|((first|refine rd_o ‹_› (by rfl) ?_|refine rd_h ‹_› (by rfl) ?_|refine rd_1o ‹_› ?_|refine rd_1h ‹_› (by first|rfl|assumption) ?_);first|exact nmn|assumption|simp)) hS ?_)|((first|refine own_box rfl _ _ rfl (by rfl) hS ?_|refine w_al rfl rfl hS ?_);clear hS;(try clear ww);intro bb ww hS)|((first|refine w_st rfl _ _ rfl (by rfl) (by rfl) (by repeat constructor) (by rfl) (by rfl) (by first|rfl|assumption) hS ?_|refine w_s1 rfl _ _ rfl (by rfl) (by repeat constructor) (by first|exact .c|exact .t rfl) (by rfl) (by repeat constructor) hS ?_);clear hS;(try clear ww);intro ww hS))
      have hc := (hS.get at0).cell
      refine bodyPost_ret (v := .agg #[c0, c1, c2, c3, c4, c5, c6, c7, c8, c9, c10]) (by simp [results, Try.results47, go_sem, hc]) rfl ⟨[c0, c1, c2, c3, c4, c5, c6, c7, c8, c9, c10], rfl, deep_end HP.out HI.out HRt.out hS, hS.below⟩
    · rw [List.concat_eq_append] at hI
      obtain ⟨xb, c, ys, ks, K1, K2, m, a, kids, kx, kc, sx, sc, rfl, hTop⟩ := deep_pop hI
      have hv := hTop.v
      subst hv
      have hlen := deep_len hI
      simp only [List.length_append, List.length_cons, List.length_nil] at hlen
      have h8 : ks[o0 + 8]? = some (.slice kx kids.length kc) := top_cell hTop.cells rfl
      have h10 : ks[o0 + 10]? = some (.slice sx a.src.length sc) := top_cell hTop.cells rfl
      have g8 : ∀ s v, ((ks.set (o0 + 10) s).set (o0 + 8) v)[o0 + 8]? = some v := fun s v => by
        have := hTop.len
        rw [List.getElem?_set_self (by simp; omega)]
      have hkl := hTop.small.2.1
      have hsl := hTop.small.1
      have hol := hTop.len
      have hroom := hTop.room
      have htop := hTop.top
      simp only at hkl hsl
      have HSr := Lib.hid hTop.srcs
      obtain ⟨R, hR, hS⟩ : ∃ R, Hid (R = ((rv, zs) :: (K1 ++ K2)) ++ SL) ∧ Own [] w ((k0, ks) :: (xb, ys) :: R) wr := ⟨_, rfl, hTop.own⟩
      have HI := Lib.hid hI
      have HTop := Lib.hid hTop
      clear hI hTop
      by_cases hk0 : kids.length = 0
      · obtain rfl : kids = [] := List.eq_nil_of_length_eq_zero hk0
        simp only [List.length_nil] at h8
        clear hk0
        go_wp2_with (first|(refine own_unguard (by rfl) ?_)|(refine own_load1 rfl _ _ rfl rfl hS at1 ot_ptr htop ?_)|(refine own_load1 rfl _ _ rfl rfl hS at0 ot_boxs h8 ?_)|(refine own_load1 rfl _ _ rfl rfl hS at0 ot_boxs (g8 _ _) ?_)|(refine own_load1 rfl _ _ rfl rfl hS at0 ot_ints h10 ?_)|(go_at_call 46;refine own_ints hS (clone_calls _ _ _ _ (HSr.out.own hS) hsl) ?_;clear hS;intro y2 c2 Xs ww hXs hrow hS1;have hS := hS1.perm (front_back Xs (k0, ks) (xb, ys) R);clear hS1)|(refine own_store1 (i := o0 + 10) (v := .slice y2 a.src.length c2) rfl _ _ _ rfl rfl rfl rfl hS at0 ot_ints (by omega) ?_;clear hS;intro ww hS;simp only [List.set_cons_zero] at hS)|(refine own_store1 (i := o0 + 8) (v := .slice none 0 0) rfl _ _ _ rfl rfl rfl rfl hS at0 ot_boxs (by simp;omega) ?_;clear hS;intro ww hS;simp only [List.set_cons_zero] at hS)|(refine own_copy0 rfl _ _ _ _ rfl el_box rfl rfl ?_)|(refine w_ld rfl _ rfl (by rfl) (by first|exact rd_1 (by repeat constructor) (by first|rfl|assumption)|exact rd_w (by repeat constructor) (by rfl)|((first|refine rd_o ‹_› (by rfl) ?_|refine rd_h ‹_› (by rfl) ?_|refine rd_1o ‹_› ?_|refine rd_1h ‹_› (by first|rfl|assumption) ?_);first|exact nmn|assumption|simp)) hS ?_)|((first|refine own_box rfl _ _ rfl (by rfl) hS ?_|refine w_al rfl rfl hS ?_);clear hS;(try clear ww);intro bb ww hS)|((first|refine w_st rfl _ _ rfl (by rfl) (by rfl) (by repeat constructor) (by rfl) (by rfl) (by first|rfl|assumption) hS ?_|refine w_s1 rfl _ _ rfl (by rfl) (by repeat constructor) (by first|exact .c|exact .t rfl) (by rfl) (by repeat constructor) hS ?_);clear hS;(try clear ww);intro ww hS))
        refine wp_loop_once ?_
        go_wp2_with (first|(refine own_unguard (by rfl) ?_)|(refine w_ld rfl _ rfl (by rfl) (by first|exact rd_1 (by repeat constructor) (by first|rfl|assumption)|exact rd_w (by repeat constructor) (by rfl)|((first|refine rd_o ‹_› (by rfl) ?_|refine rd_h ‹_› (by rfl) ?_|refine rd_1o ‹_› ?_|refine rd_1h ‹_› (by first|rfl|assumption) ?_);first|exact nmn|assumption|simp)) hS ?_)|((first|refine own_box rfl _ _ rfl (by rfl) hS ?_|refine w_al rfl rfl hS ?_);clear hS;(try clear ww);intro bb ww hS)|((first|refine w_st rfl _ _ rfl (by rfl) (by rfl) (by repeat constructor) (by rfl) (by rfl) (by first|rfl|assumption) hS ?_|refine w_s1 rfl _ _ rfl (by rfl) (by repeat constructor) (by first|exact .c|exact .t rfl) (by rfl) (by repeat constructor) hS ?_);clear hS;(try clear ww);intro ww hS))
        obtain rfl := hR.out
        obtain ⟨t', KL', SL', ps', hlt', hI'⟩ := deep_push HP.out (A := []) (Xs := Xs) (X2 := [(xb, ys)]) (k' := 0) HI.out HTop.out hS ((two_last _ _ _).trans (deep_perm (k0, _) (rv, zs) [] (K1 ++ K2) SL Xs [(xb, ys)])) (sl_row hS (fun x hx => by simp [hx]) hXs) (sl_block hXs rfl) (.inl ⟨rfl, rfl⟩) (by simpa using HTop.out.stack)
        have HI' := Lib.hid hI'
        clear hI'
        go_roundw
        case rel => exact ⟨t', KL', SL', _, ps', HI'.out⟩
        case measure => exact Nat.lt_of_le_of_lt (least_le ⟨KL', SL', _, ps', HI'.out⟩) (by rw [← hT.out]; exact hlt')
      · obtain ⟨kb, ko, news, hkx, hnl, hnr, hn1⟩ := kids_flat HTop.out.rep (by intro h; subst h; simp at hk0)
        subst hkx
        have HNr := Lib.hid hnr
        clear hnr
        go_wp2_with (first|(refine own_unguard (by rfl) ?_)|(refine own_load1 rfl _ _ rfl rfl hS at1 ot_ptr htop ?_)|(refine own_load1 rfl _ _ rfl rfl hS at0 ot_boxs h8 ?_)|(refine own_load1 rfl _ _ rfl rfl hS at0 ot_boxs (g8 _ _) ?_)|(refine own_load1 rfl _ _ rfl rfl hS at0 ot_ints h10 ?_)|(go_at_call 46;refine own_ints hS (clone_calls _ _ _ _ (HSr.out.own hS) hsl) ?_;clear hS;intro y2 c2 Xs ww hXs hrow hS1;have hS := hS1.perm (front_back Xs (k0, ks) (xb, ys) R);clear hS1)|(refine own_store1 (i := o0 + 10) (v := .slice y2 a.src.length c2) rfl _ _ _ rfl rfl rfl rfl hS at0 ot_ints (by omega) ?_;clear hS;intro ww hS;simp only [List.set_cons_zero] at hS)|(refine own_store1 (i := o0 + 8) (v := .slice none 0 0) rfl _ _ _ rfl rfl rfl rfl hS at0 ot_boxs (by simp;omega) ?_;clear hS;intro ww hS;simp only [List.set_cons_zero] at hS)|(refine own_make (n := kids.length) rfl _ _ _ rfl el_box rfl rfl hS (by omega) (by omega) ?_;clear hS;intro k' arr0 ww hS harr)|(refine own_store1 (i := o0 + 8) (v := .slice (some ⟨k', 0, none⟩) kids.length kids.length) rfl _ _ _ rfl rfl rfl rfl hS at1 ot_boxs (by simp;omega) ?_;clear hS;intro ww hS;simp only [List.set_cons_zero, List.set_cons_succ, List.set_set] at hS)|(refine own_load1 rfl _ _ rfl rfl hS at1 ot_boxs (g8 _ _) ?_)|(refine own_copy (n := kids.length) rfl _ _ _ _ rfl el_box rfl rfl hS at0 hnl (src_cells hS HNr.out) (by omega) hn1 ?_;clear hS;intro ww hS;simp only [List.set_cons_zero] at hS;rw [setL_all (by omega)] at hS)|(refine w_ld rfl _ rfl (by rfl) (by first|exact rd_1 (by repeat constructor) (by first|rfl|assumption)|exact rd_w (by repeat constructor) (by rfl)|((first|refine rd_o ‹_› (by rfl) ?_|refine rd_h ‹_› (by rfl) ?_|refine rd_1o ‹_› ?_|refine rd_1h ‹_› (by first|rfl|assumption) ?_);first|exact nmn|assumption|simp)) hS ?_)|((first|refine own_box rfl _ _ rfl (by rfl) hS ?_|refine w_al rfl rfl hS ?_);clear hS;(try clear ww);intro bb ww hS)|((first|refine w_st rfl _ _ rfl (by rfl) (by rfl) (by repeat constructor) (by rfl) (by rfl) (by first|rfl|assumption) hS ?_|refine w_s1 rfl _ _ rfl (by rfl) (by repeat constructor) (by first|exact .c|exact .t rfl) (by rfl) (by repeat constructor) hS ?_);clear hS;(try clear ww);intro ww hS))
        have hS1 := hS.perm (three_last _ _ _ _)
        clear hS
        have hS := hS1
        clear hS1
        go_loopw [3, 57] (fun v i wr2 => ∃ (j : Nat) (X2 : List (Nat × List Value)), j ≤ kids.length ∧ i = .int .i64 j ∧ Sl 1 (rest.length + j) v ((rest.map (·.1)).flatMap ptr ++ ((List.range j).map fun i => (k', i * 11)).flatMap ptr) X2 ∧ Own [] w (((k', news) :: (k0, (ks.set (o0 + 10) (.slice y2 a.src.length c2)).set (o0 + 8) (.slice (some ⟨k', 0, none⟩) kids.length kids.length)) :: (R ++ Xs)) ++ X2) wr2) (fun _ i _ => kids.length - (intOf i).toNat)
        case atStart => exact ⟨0, [(xb, ys)], Nat.zero_le _, rfl, by simpa using HTop.out.stack, hS⟩
        case round =>
          clear hS
          obtain ⟨j, X2, hj, rfl, hX2, hS⟩ := hrel
          by_cases hjl : j < kids.length
          · skip
            go_wp2_with (first|(refine own_unguard (by rfl) ?_)|(refine own_load1 rfl _ _ rfl rfl hS at1 ot_boxs (g8 _ _) ?_)|(refine own_buildSlice rfl _ _ 1 _ rfl [.pointer (some ⟨k', j * 11, none⟩)] hS Try.underlying94 (by kernel_rfl) ?_;clear hS;intro b1 ww hS)|(refine own_append_new (b := b1) rfl _ _ _ rfl hX2 rfl rfl (show Own [] w (((b1, [.pointer (some ⟨k', j * 11, none⟩)]) :: (_ :: _ :: _)) ++ X2) ww from hS) rfl rfl el_ptr (by decide) (by simp only [maxLen];omega) (by omega) ?_;clear hS hX2;intro v' X' ww hS hX2)|(refine w_ld rfl _ rfl (by rfl) (by first|exact rd_1 (by repeat constructor) (by first|rfl|assumption)|exact rd_w (by repeat constructor) (by rfl)|((first|refine rd_o ‹_› (by rfl) ?_|refine rd_h ‹_› (by rfl) ?_|refine rd_1o ‹_› ?_|refine rd_1h ‹_› (by first|rfl|assumption) ?_);first|exact nmn|assumption|simp)) hS ?_)|((first|refine own_box rfl _ _ rfl (by rfl) hS ?_|refine w_al rfl rfl hS ?_);clear hS;(try clear ww);intro bb ww hS)|((first|refine w_st rfl _ _ rfl (by rfl) (by rfl) (by repeat constructor) (by rfl) (by rfl) (by first|rfl|assumption) hS ?_|refine w_s1 rfl _ _ rfl (by rfl) (by repeat constructor) (by first|exact .c|exact .t rfl) (by rfl) (by repeat constructor) hS ?_);clear hS;(try clear ww);intro ww hS))
            have HX2 := Lib.hid (show Sl 1 (rest.length + (j + 1)) v' ((rest.map (·.1)).flatMap ptr ++ ((List.range (j + 1)).map fun i => (k', i * 11)).flatMap ptr) X' by rw [range_next, ← Nat.add_assoc]; exact hX2)
            clear hX2
            go_roundw
            case rel => exact ⟨j + 1, X', hjl, by go_num, HX2.out, hS⟩
            case measure => exact loop_meas hjl
          · obtain rfl : j = kids.length := by omega
            go_wp2_with (first|(refine own_unguard (by rfl) ?_)|(refine w_ld rfl _ rfl (by rfl) (by first|exact rd_1 (by repeat constructor) (by first|rfl|assumption)|exact rd_w (by repeat constructor) (by rfl)|((first|refine rd_o ‹_› (by rfl) ?_|refine rd_h ‹_› (by rfl) ?_|refine rd_1o ‹_› ?_|refine rd_1h ‹_› (by first|rfl|assumption) ?_);first|exact nmn|assumption|simp)) hS ?_)|((first|refine own_box rfl _ _ rfl (by rfl) hS ?_|refine w_al rfl rfl hS ?_);clear hS;(try clear ww);intro bb ww hS)|((first|refine w_st rfl _ _ rfl (by rfl) (by rfl) (by repeat constructor) (by rfl) (by rfl) (by first|rfl|assumption) hS ?_|refine w_s1 rfl _ _ rfl (by rfl) (by repeat constructor) (by first|exact .c|exact .t rfl) (by rfl) (by repeat constructor) hS ?_);clear hS;(try clear ww);intro ww hS))
            obtain rfl := hR.out
            obtain ⟨t', KL', SL', ps', hlt', hI'⟩ := deep_push HP.out (A := [(k', news)]) (Xs := Xs) (X2 := X2) (k' := k') HI.out HTop.out hS (deep_perm (k0, _) (rv, zs) [(k', news)] (K1 ++ K2) SL Xs X2) (sl_row hS (fun x hx => by simp [hx]) hXs) (sl_block hXs rfl) (.inr ⟨news, rfl, rfl, hnl, fun k o he => by obtain ⟨rfl, rfl⟩ : kb = k ∧ ko = o := (by simpa using he); exact HNr.out⟩) hX2
            have HI' := Lib.hid hI'
            clear hI'
            go_roundw
            case rel => exact ⟨t', KL', SL', _, ps', HI'.out⟩
            case measure => exact Nat.lt_of_le_of_lt (least_le ⟨KL', SL', _, ps', HI'.out⟩) (by rw [← hT.out]; exact hlt')

end Go.Proofs.Ytdbcdjiclkmknaa
namespace Go.Proofs.Ytdbcdjiclkmknaa
open Go.RowKit

attribute [local irreducible] wpQuiet wpG wpP wpK wpList Code.wp Calls

/-- A box at another place. -/
def atXY : (n : Nat) → Bx n → Int → Int → Bx n
  | 0, b, _, _ => b
  | _ + 1, b, x, y => ({ b.1 with x := x, y := y }, b.2)
def listB (n : Nat) (bw bh bd : Int) (kids : List (Bx n)) : Bx (n + 1) := (⟨3, ⟨#[]⟩, 0, bw, bh, bd, 0, 0, 0, []⟩, kids)
/-- A list of boxes lies there. -/
def RepL (w : World) (n : Nat) (x : Option Addr) (kids : List (Bx n)) : Prop := ∀ i kid, kids[i]? = some kid → ∃ k o css, x = some ⟨k, o, none⟩ ∧ w.rangeAt k (o + i * 11) css ∧ Rep w n kid css
theorem RepL.step {w w' : World} {n : Nat} {x : Option Addr} {kids : List (Bx n)} (h : RepL w n x kids) (hb : Below w.heap.size w w') : RepL w' n x kids := fun i kid hi => by
  obtain ⟨k, o, css, e, hr, hp⟩ := h i kid hi
  exact ⟨k, o, css, e, rangeAt_below hr hb, hp.step hb⟩
theorem rep_mk {w : World} {n : Nat} {a : Hd} {kids : List (Bx n)} {kx sx : Option Addr} {kc sc : Nat} (ha : HdOk a) (hl : kids.length ≤ maxLen) (hs : RowAt w sx 1 intCells a.src) (hk : RepL w n kx kids) : Rep w (n + 1) (a, kids) (a.cells (.slice kx kids.length kc) (.slice sx a.src.length sc)) :=
  ⟨kx, kc, sx, sc, rfl, ha, hl, hs, fun _ _ _ _ => trivial, fun i kid hi => by
    obtain ⟨k, o, css, e, hr, hp⟩ := hk i kid hi
    exact ⟨k, o, css, e, trivial, hr, hp⟩⟩
theorem rep_out {w : World} {n : Nat} {a : Hd} {kids : List (Bx n)} {cs : List Value} (h : Rep w (n + 1) (a, kids) cs) : ∃ kx kc sx sc, cs = a.cells (.slice kx kids.length kc) (.slice sx a.src.length sc) ∧ HdOk a ∧ kids.length ≤ maxLen ∧ RowAt w sx 1 intCells a.src ∧ RepL w n kx kids := by
  obtain ⟨kx, kc, sx, sc, h1, h2, h3, h4, _, h6⟩ := h
  exact ⟨kx, kc, sx, sc, h1, h2, h3, h4, fun i kid hi => by
    obtain ⟨k, o, css, e, _, hr, hp⟩ := h6 i kid hi
    exact ⟨k, o, css, e, hr, hp⟩⟩
theorem i64_0 : I64 0 := by unfold I64; omega
theorem hdOk_new {k bw bh bd : Int} (hk : I64 k) (h1 : I64 bw) (h2 : I64 bh) (h3 : I64 bd) : HdOk ⟨k, ⟨#[]⟩, 0, bw, bh, bd, 0, 0, 0, []⟩ := ⟨hk, i64_0, h1, h2, h3, i64_0, i64_0, i64_0, by simp, by simp, by simp [ByteArray.size]⟩





end Go.Proofs.Ytdbcdjiclkmknaa
namespace Go.Proofs.Ytdbcdjiclkmknaa
open Go.RowKit

section
variable {P : Program} {l : List Oper} {Q : Exit → Act → World → Prop} {D : List Nat} {W w : World} {L : List (Nat × List Value)} {a : Act}

/-- A part of the list has turned. -/
theorem Own.replace {K L1 : List (Nat × List Value)} {w' : World} (hS : Own D W (K ++ L) w) (h1 : Own (K.map (·.1)) w L1 w') : Own D W (L1 ++ L) w' := by
  have hSK : Own D W K w := hS.forget (List.sublist_append_left _ _)
  have hSL : Own D W L w := hS.forget (List.sublist_append_right _ _)
  have hdis : ∀ x ∈ L, x.1 ∉ K.map (·.1) := by
    have h0 := hS.apart
    rw [List.map_append, List.nodup_append] at h0
    intro x hx hk
    exact h0.2.2 _ hk _ (List.mem_map_of_mem hx) rfl
  refine ⟨h1.os.trans hS.os, h1.tape.trans hS.tape, h1.output.trans hS.output, Nat.le_trans hS.size h1.size, fun k hk hd => ?_, fun x hx => ?_, fun x hx => ?_, ?_⟩
  · rw [h1.block k (Nat.lt_of_lt_of_le hk hS.size) (fun hm => ?_)]
    · exact hS.block k hk hd
    · obtain ⟨x, hx, rfl⟩ := List.mem_map.1 hm
      rcases hSK.ge x hx with h | h
      · exact hd h
      · omega
  · rcases List.mem_append.1 hx with hx | hx
    · exact h1.has x hx
    · exact h1.hasOld (hdis x hx) (hSL.has x hx)
  · rcases List.mem_append.1 hx with hx | hx
    · rcases h1.ge x hx with h | h
      · obtain ⟨y, hy, he⟩ := List.mem_map.1 h
        rw [← he]; exact hSK.ge y hy
      · exact .inr (Nat.le_trans hS.size h)
    · exact hSL.ge x hx
  · rw [List.map_append, List.nodup_append]
    refine ⟨h1.apart, hSL.apart, fun x hx y hy he => ?_⟩
    obtain ⟨p, hp, rfl⟩ := List.mem_map.1 hx
    obtain ⟨q, hq, rfl⟩ := List.mem_map.1 hy
    rcases h1.ge p hp with h | h
    · rw [he] at h; exact hdis q hq h
    · have := (hSL.has q hq).lt; omega

theorem Own.chain {K L1 : List (Nat × List Value)} {w' : World} (hS : Own D W K w) (h1 : Own (K.map (·.1)) w L1 w') : Own D W L1 w' := by
  have := Own.replace (K := K) (L := []) (by simpa using hS) h1
  simpa using this
section
variable {B : Nat} {mid hard : List Nat} {m : Nat} {done : List Nat}
theorem own_softB (hS : Own D W L w) (i : Nat) {oi : Oper} (hcl : Closed l.toArray (mk l.toArray.size done)) (hi : l.toArray[i]? = some oi) (hr : (decide (Region.ready .any l.toArray (mk l.toArray.size done) = [i]) && (!hard.contains i && !mid.contains i)) = true)
    (h : Own [] w [] w → wpList P l.toArray (fun e a' w' => e = .normal ∧ ∃ L1, Own [] w L1 w' ∧ (Closed l.toArray (mk l.toArray.size (i :: done)) → ∀ w'', Own D W (L1 ++ L) w'' → Below w'.heap.size w' w'' → wpK P l.toArray Q (relOf B mid hard) m (mk l.toArray.size (i :: done)) a' w'')) [oi] a w) :
    wpK P l.toArray Q (relOf B mid hard) (m + 1) (mk l.toArray.size done) a w := by
  rw [Bool.and_eq_true, decide_eq_true_eq] at hr
  refine wpK_one hr.1 (point_go i hi (wpList_mono (fun e a' w' ⟨he, L1, h1, h2⟩ => ⟨he, by rw [relOf_soft hr.2]; exact h1.below, fun w'' hb => ?_⟩) _ _ _ (h (own_start w))))
  exact h2 (hcl.next (by rw [hr.1]; simp)) w'' ((hS.join h1).step hb) hb
end
end
end Go.Proofs.Ytdbcdjiclkmknaa
namespace Go.Proofs.Ytdbcdjiclkmknaa
open Go.RowKit

attribute [local irreducible] wpQuiet wpG wpP wpK wpList Code.wp Calls

/-- A box whose blocks are there stays a box where they stay. -/
theorem rep_keep2 {Q : Nat → Prop} {w w' : World} (h1 : ∀ k, Q k → k < w.heap.size → w'.heap[k]? = w.heap[k]?) :
    ∀ (n : Nat) (b : Bx n) (cs : List Value), RepG (fun k _ => Q k) Q w n b cs → RepG (fun k _ => Q k ∧ k < w.heap.size) (fun k => Q k ∧ k < w.heap.size) w' n b cs := by
  have hc : ∀ (k i : Nat) (v : Value), Q k → w.cell? ⟨k, i, none⟩ = some v → w'.cell? ⟨k, i, none⟩ = some v := fun k i v hk hv => by
    have hlt := World.block_lt_of_cell? w _ hv
    rw [← hv]
    exact World.cell?_of_block (w := w) (a := ⟨k, i, none⟩) (h1 k hk hlt)
  intro n
  induction n with
  | zero => intro b cs h; exact h
  | succ n ih =>
    rintro b cs ⟨kx, kc, sx, sc, hcs, hok, hlen, hrow, hso, hkids⟩
    have hs2 : ∀ (hne : b.1.src ≠ []) (k o : Nat), sx = some ⟨k, o, none⟩ → k < w.heap.size := fun hne k o hx => by
      obtain ⟨z, hz⟩ : ∃ z, b.1.src[0]? = some z := by
        cases hb : b.1.src with
        | nil => exact absurd hb hne
        | cons z l => exact ⟨z, rfl⟩
      obtain ⟨b', o', hx', hr⟩ := hrow.get hz
      rw [hx] at hx'
      obtain ⟨rfl, rfl⟩ : k = b' ∧ o = o' := by simpa using hx'
      exact World.block_lt_of_cell? w _ (hr 0 _ rfl)
    refine ⟨kx, kc, sx, sc, hcs, hok, hlen, ?_, fun hne k o hx => ⟨hso hne k o hx, hs2 hne k o hx⟩, fun i kid hi => ?_⟩
    · by_cases hne : b.1.src = []
      · exact .inl hne
      · rcases hrow with h | ⟨k, o, hx, hr⟩
        · exact .inl h
        · exact .inr ⟨k, o, hx, fun i z hi j v hj => hc k _ v (hso hne k o hx) (hr i z hi j v hj)⟩
    · obtain ⟨k, o, css, ek, hko, hr, hrep⟩ := hkids i kid hi
      obtain ⟨v, hv⟩ : ∃ v, css[0]? = some v := ⟨css[0]'(by rw [hrep.len]; omega), List.getElem?_eq_getElem _⟩
      exact ⟨k, o, css, ek, ⟨hko, World.block_lt_of_cell? w _ (hr 0 v hv)⟩, fun j v hj => hc k _ v hko (hr j v hj), ih kid css hrep⟩

/-- The kids that have been copied, away from the blocks B. -/
def Done (w : World) (n : Nat) (kids : List (Bx n)) (B : List Nat) (l : List { c : List Value // c.length = 11 }) : Prop :=
  ∀ (q : Nat) (css : { c : List Value // c.length = 11 }) (kid : Bx n), l[q]? = some css → kids[q]? = some kid → RepG (fun k _ => k ∉ B) (fun k => k ∉ B) w n kid css.1
theorem Done.turn {w w' : World} {n : Nat} {kids : List (Bx n)} {B B' D : List Nat} {l : List { c : List Value // c.length = 11 }} {L : List (Nat × List Value)} (h : Done w n kids B l) (hS : Own D w L w') (hD : ∀ k ∈ D, k ∈ B) (hB : ∀ k ∈ B', k ∈ B ∨ w.heap.size ≤ k) : Done w' n kids B' l := fun q css kid hq hk =>
  (rep_keep2 (Q := fun k => k ∉ B) (fun k hk hlt => hS.block k hlt (fun hd => hk (hD k hd))) n kid css.1 (h q css kid hq hk)).mono
    (fun k _ hk2 hb => (hB k hb).elim (fun h => hk2.1 h) (fun h => by have := hk2.2; omega)) (fun k hk2 hb => (hB k hb).elim (fun h => hk2.1 h) (fun h => by have := hk2.2; omega))
theorem Done.next {w : World} {n : Nat} {kids : List (Bx n)} {B : List Nat} {l : List { c : List Value // c.length = 11 }} {css : { c : List Value // c.length = 11 }} {kid : Bx n} (h : Done w n kids B l) (hk : kids[l.length]? = some kid) (hr : RepG (fun k _ => k ∉ B) (fun k => k ∉ B) w n kid css.1) : Done w n kids B (l ++ [css]) := by
  intro q c2 kid2 hq hk2
  by_cases hlt : q < l.length
  · rw [List.getElem?_append_left hlt] at hq
    exact h q c2 kid2 hq hk2
  · have hqe : q = l.length := by
      have := (List.getElem?_eq_some_iff.1 hq).1
      simp at this
      omega
    subst hqe
    rw [List.getElem?_append_right (Nat.le_refl _), Nat.sub_self] at hq
    obtain rfl : css = c2 := by simpa using hq
    obtain rfl : kid = kid2 := Option.some.inj (hk.symm.trans hk2)
    exact hr
end Go.Proofs.Ytdbcdjiclkmknaa
