/- Texts Dps, Num, Str, Few, Prm, Grt. -/
import Derived.Test.YtgnkngkogamjaaaR03
import Derived.Test.YtgnkngkogamjaaaR01
import Derived.Test.YtgnkngkogamjaaaR00
import Derived.Great.Walk
namespace Go.Proofs.Ytgnkngkogamjaaa
open Go.RowKit

theorem window_set (cs : List Value) (o j : Nat) (v : Value) : ((cs.set (o + j) v).drop o).take 11 = ((cs.drop o).take 11).set j v := by
  rw [List.drop_set, if_neg (by omega), List.take_set, show o + j - o = j by omega]
theorem Has.window {w : World} {k o : Nat} {cs : List Value} (h : Has w k cs) : w.rangeAt k o ((cs.drop o).take 11) := fun j v hj => by
  rw [h.cell]
  rw [List.getElem?_take] at hj
  split at hj
  · rw [List.getElem?_drop] at hj; exact hj
  · cases hj
theorem Has.same {w : World} {k : Nat} {cs cs' : List Value} (h : Has w k cs) (h' : Has w k cs') : cs = cs' := by
  obtain ⟨t, h⟩ := h
  obtain ⟨t', h'⟩ := h'
  rw [h] at h'
  injection h' with h'
  injection h' with h1
  simpa using h1
theorem set_out {cs : List Value} {i j : Nat} {v : Value} (h : j ≠ i) : (cs.set j v)[i]? = cs[i]? := List.getElem?_set_ne h

/-- The entries for the kids of a box that has been copied. -/
def kidEntries (k' : Nat) {m : Nat} (kids : List (Bx m)) : List ((Nat × Nat) × Nat) := kids.zipIdx.map fun x => ((k', x.2 * 11), bCount m x.1)
theorem kidEntries_fst (k' : Nat) {m : Nat} (kids : List (Bx m)) : (kidEntries k' kids).map (·.1) = (List.range kids.length).map fun i => (k', i * 11) := by
  unfold kidEntries
  rw [List.map_map]
  apply List.ext_getElem?
  intro i
  simp only [List.getElem?_map, List.getElem?_zipIdx]
  by_cases hi : i < kids.length
  · simp [hi]
  · simp [hi]
theorem kidEntries_snd (k' : Nat) {m : Nat} (kids : List (Bx m)) : (kidEntries k' kids).map (·.2) = kids.map (bCount m) := by
  unfold kidEntries
  rw [List.map_map]
  apply List.ext_getElem?
  intro i
  simp only [List.getElem?_map, List.getElem?_zipIdx]
  cases kids[i]? <;> simp

theorem deep_push {P : Nat → Prop} {W w w2 : World} (hP : ∀ k, P k → k < W.heap.size) {N : Nat} {b : Bx N} {rb rv : Nat} {zs : List Value} {t : Nat} {v v2 : Value} {KL SL X A Xs X2 L2 : List (Nat × List Value)} {rest : List ((Nat × Nat) × Nat)} {k0 o0 wt : Nat}
    {xb c : Nat} {ys cs : List Value} {K1 K2 : List (Nat × List Value)} {m : Nat} {a : Hd} {kids : List (Bx m)} {kx kx' sx sx' : Option Addr} {kc kc' sc sc' k' : Nat}
    (hI : DeepInv P W N b rb rv zs t v w KL SL X (rest ++ [((k0, o0), wt)])) (hT : Top W rv zs v w KL SL rest k0 o0 wt xb c ys cs K1 K2 m a kids kx kc sx sc)
    (hS2 : Own [] W L2 w2) (hp : L2.Perm ((((rv, zs) :: (A ++ (k0, (cs.set (o0 + 10) (.slice sx' a.src.length sc')).set (o0 + 8) (.slice kx' kids.length kc')) :: (K1 ++ K2))) ++ (SL ++ Xs)) ++ X2))
    (hrow : RowAt w2 sx' 1 intCells a.src) (hsb : a.src ≠ [] → ∀ k o, sx' = some ⟨k, o, none⟩ → k ∈ Xs.map (·.1))
    (hA : (kids = [] ∧ A = []) ∨ ∃ arr, A = [(k', arr)] ∧ kx' = some ⟨k', 0, none⟩ ∧ arr.length = kids.length * 11 ∧ ∀ k o, kx = some ⟨k, o, none⟩ → W.rangeAt k o arr)
    (hst : Sl 1 (rest.length + kids.length) v2 ((rest.map (·.1)).flatMap ptr ++ ((List.range kids.length).map fun i => (k', i * 11)).flatMap ptr) X2) :
    ∃ t' KL' SL' ps', t' < t ∧ DeepInv P W N b rb rv zs t' v2 w2 KL' SL' X2 ps' := by
  have hlt : ((rest ++ kidEntries k' kids).map (·.2)).sum < t := by
    rw [← hI.weight, List.map_append, List.map_append, List.sum_append, List.sum_append, kidEntries_snd]
    have := hT.count
    simp only [bCount] at this
    simp
    omega
  have hbd := hI.bound
  obtain ⟨CS, hCS⟩ : ∃ CS, CS = (cs.set (o0 + 10) (.slice sx' a.src.length sc')).set (o0 + 8) (.slice kx' kids.length kc') := ⟨_, rfl⟩
  rw [← hCS] at hp
  have hS3 := hS2.perm hp
  have hCl : CS.length = cs.length := by rw [hCS]; simp
  have hwin : (CS.drop o0).take 11 = a.cells (.slice kx' kids.length kc') (.slice sx' a.src.length sc') := by
    rw [hCS, window_set, window_set, hT.cells]
    rfl
  have hout : ∀ i, ¬ (o0 ≤ i ∧ i < o0 + 11) → CS[i]? = cs[i]? := fun i hi => by
    rw [hCS, set_out (by omega), set_out (by omega)]
  have hH : ∀ x, x ∈ A ∨ x = (k0, CS) ∨ x ∈ K1 ∨ x ∈ K2 ∨ x ∈ SL ∨ x ∈ Xs → Has w2 x.1 x.2 := fun x hx => hS3.has x (by
    simp only [List.mem_append, List.mem_cons]
    rcases hx with h | h | h | h | h | h <;> simp [h])
  have hk0 : Has w2 k0 CS := hH (k0, CS) (.inr (.inl rfl))
  have hwh : ∀ x ∈ KL, Has w x.1 x.2 := fun x hx => hI.own.has x (by simp [hx])
  have hk0w : Has w k0 cs := hT.own.has (k0, cs) (by simp)
  have hKL : ∀ x, x ∈ KL ↔ x = (k0, cs) ∨ x ∈ K1 ∨ x ∈ K2 := fun x => by
    rw [hT.split]; simp only [List.mem_append, List.mem_cons]; constructor
    · rintro (h | h | h) <;> simp [h]
    · rintro (h | h | h) <;> simp [h]
  have hn0 : ∀ x, x ∈ A ∨ x = (k0, CS) ∨ x ∈ K1 ∨ x ∈ K2 ∨ x ∈ SL ∨ x ∈ Xs → W.heap.size ≤ x.1 := fun x hx => by
    have := hS3.ge x (by
      simp only [List.mem_append, List.mem_cons]
      rcases hx with h | h | h | h | h | h <;> simp [h])
    rcases this with h | h
    · cases h
    · exact h
  -- the new blocks
  have hrest := hI.nodup
  rw [List.map_append, List.nodup_append] at hrest
  obtain ⟨hnd1, _, hnd2⟩ := hrest
  have hKL' : ∀ x, x ∈ (A ++ (k0, CS) :: (K1 ++ K2)) ↔ x ∈ A ∨ x = (k0, CS) ∨ x ∈ K1 ∨ x ∈ K2 := fun x => by
    simp only [List.mem_append, List.mem_cons]
  have hcell : ∀ (k i : Nat) (u : Value), (P k ∨ k ∈ KL.map (·.1) ∨ k ∈ SL.map (·.1)) → ¬ (k = k0 ∧ o0 ≤ i ∧ i < o0 + 11) → w.cell? ⟨k, i, none⟩ = some u → w2.cell? ⟨k, i, none⟩ = some u := by
    intro k i u hk hn hu
    rcases hk with hk | hk | hk
    · have h1 : w.heap[k]? = W.heap[k]? := hI.own.block k (hP k hk) (by simp)
      have h2 : w2.heap[k]? = W.heap[k]? := hS3.block k (hP k hk) (by simp)
      rw [← hu]
      exact World.cell?_of_block (w := w) (a := ⟨k, i, none⟩) (by rw [h1, h2])
    · obtain ⟨⟨_, ck⟩, hx, rfl⟩ := List.mem_map.1 hk
      have hw := hwh _ hx
      simp only at hw hn hu ⊢
      rw [hw.cell] at hu
      rcases (hKL _).1 hx with he | he | he
      · obtain ⟨rfl, rfl⟩ := by simpa using he
        rw [hk0.cell, hout i (fun h => hn ⟨rfl, h⟩)]; exact hu
      · rw [(hH _ (.inr (.inr (.inl he)))).cell]; exact hu
      · rw [(hH _ (.inr (.inr (.inr (.inl he))))).cell]; exact hu
    · obtain ⟨⟨_, ck⟩, hx, rfl⟩ := List.mem_map.1 hk
      have hw : Has w _ ck := hI.own.has _ (by simp only [List.mem_append]; exact .inl (.inr hx))
      simp only at hw hu ⊢
      rw [hw.cell] at hu
      rw [(hH _ (.inr (.inr (.inr (.inr (.inl hx)))))).cell]; exact hu
  have hturn := rep_turn (P := P) (K := KL.map (·.1)) (K' := (A ++ (k0, CS) :: (K1 ++ K2)).map (·.1)) (S := SL.map (·.1)) (S' := (SL ++ Xs).map (·.1)) (w := w) (w' := w2) (k0 := k0) (o0 := o0)
    (fun k hk => by
      obtain ⟨x, hx, rfl⟩ := List.mem_map.1 hk
      rcases (hKL x).1 hx with rfl | he | he
      · exact List.mem_map.2 ⟨(k0, CS), by simp, rfl⟩
      · exact List.mem_map.2 ⟨x, by simp [he], rfl⟩
      · exact List.mem_map.2 ⟨x, by simp [he], rfl⟩)
    (fun k hk => by rw [List.map_append]; exact List.mem_append_left _ hk) (fun h => by have h1 := hP _ h; have h2 := hn0 (k0, CS) (.inr (.inl rfl)); simp only at h2; omega)
    (fun hk => by
      have h0 := hI.own.apart
      rw [List.map_append, List.nodup_append, List.map_append, List.nodup_append] at h0
      exact h0.1.2.2 k0 (by rw [hT.split]; simp) k0 hk rfl)
    hT.mod hcell hk0w.window hk0.window (by rw [hT.cells]) hwin (hT.srcs.own (show Own [] W _ w from hI.own)) (fun i hi k o hkx css hcl hrg => by
      rcases hA with ⟨h, _⟩ | ⟨arr, rfl, hk', hal, har⟩
      · subst h; simp at hi
      · have hW := har k o hkx
        have hkn : k < W.heap.size := by
          obtain ⟨z, hz⟩ : ∃ z, arr[0]? = some z := ⟨arr[0]'(by omega), List.getElem?_eq_getElem _⟩
          exact World.block_lt_of_cell? W _ (hW 0 z hz)
        refine ⟨k', hk', by simp, fun j u hj => ?_⟩
        have hj11 : j < 11 := by rw [← hcl]; exact (List.getElem?_eq_some_iff.1 hj).1
        rw [(hH (k', arr) (.inl (by simp))).cell]
        have hu := hrg j u hj
        have hz : arr[i * 11 + j]? = some (arr[i * 11 + j]'(by omega)) := List.getElem?_eq_getElem _
        have h2 := hW _ _ hz
        have h3 := hI.own.cell (a := ⟨k, o + (i * 11 + j), none⟩) (by simp) h2
        rw [← Nat.add_assoc] at h3
        rw [h3] at hu
        rw [Nat.zero_add, hz]; exact hu) hrow (fun hne k o hsx => .inr (by rw [List.map_append]; exact List.mem_append_right _ (hsb hne k o hsx))) 
  obtain ⟨cs0, hrb, hr11, hroot⟩ := hI.root
  refine ⟨((rest ++ kidEntries k' kids).map (·.2)).sum, A ++ (k0, CS) :: (K1 ++ K2), SL ++ Xs, rest ++ kidEntries k' kids, hlt, ?_⟩
  · refine { own := hS3, stack := ?_, nodup := ?_, weight := rfl, bound := by omega, pend := ?_, root := ?_ }
    · rw [List.map_append, List.flatMap_append, kidEntries_fst]
      have : (rest ++ kidEntries k' kids).length = rest.length + kids.length := by simp [kidEntries]
      rw [this]
      exact hst
    · rw [List.map_append, kidEntries_fst, List.nodup_append]
      refine ⟨hnd1, ?_, ?_⟩
      · rw [List.nodup_iff_pairwise_ne, List.pairwise_map]
        exact (List.nodup_iff_pairwise_ne.1 List.nodup_range).imp fun h he => h (by have := (Prod.mk.inj he).2; omega)
      · intro p hp q hq he
        subst he
        obtain ⟨x, hx, rfl⟩ := List.mem_map.1 hp
        obtain ⟨ck, _, _, hxk, _⟩ := hI.pend x (by simp [hx])
        obtain ⟨i, hi, he⟩ := List.mem_map.1 hq
        have hk : x.1.1 = k' := by rw [← he]
        rcases hA with ⟨h, _⟩ | ⟨arr, rfl, _⟩
        · subst h; simp at hi
        · have h0 := hS3.apart
          rw [hk] at hxk
          have hh : ∀ y, y ∈ ((k0, CS) :: (K1 ++ K2)) → y.1 ≠ k' := by
            simp only [List.map_append, List.map_cons, List.nodup_append, List.nodup_cons, List.cons_append, List.nil_append, List.append_assoc] at h0
            intro y hy hyk
            refine h0.2.1 ?_
            rcases List.mem_cons.1 hy with rfl | hy
            · rw [← hyk]; simp
            · rcases List.mem_append.1 hy with hy | hy
              · rw [← hyk]; simp only [List.mem_cons, List.mem_append]; exact .inr (.inl (List.mem_map_of_mem hy))
              · rw [← hyk]; simp only [List.mem_cons, List.mem_append]; exact .inr (.inr (.inl (List.mem_map_of_mem hy)))
          rcases (hKL _).1 hxk with he | he | he
          · exact hh (k0, CS) (by simp) (by simpa using (congrArg Prod.fst he).symm)
          · exact hh _ (by simp only [List.mem_cons, List.mem_append]; exact .inr (.inl he)) rfl
          · exact hh _ (by simp only [List.mem_cons, List.mem_append]; exact .inr (.inr he)) rfl
    · intro p hp
      rcases List.mem_append.1 hp with hp | hp
      · obtain ⟨ck, mp, bp, hpk, hpm, hpl, hpr, hps, hpc⟩ := hI.pend p (by simp [hp])
        have hne : p.1 ≠ (k0, o0) := fun he => hnd2 p.1 (List.mem_map_of_mem hp) (k0, o0) (by simp) he
        rcases (hKL _).1 hpk with he | he | he
        · have hpk0 : p.1.1 = k0 := congrArg Prod.fst he
          have hck : ck = cs := congrArg Prod.snd he
          subst hck
          have hpo : p.1.2 ≠ o0 := fun h => hne (Prod.ext hpk0 h)
          refine ⟨CS, mp, bp, by rw [hpk0]; simp, hpm, by omega, ?_, hps, hpc⟩
          have hm0 := hT.mod
          have : (CS.drop p.1.2).take 11 = (ck.drop p.1.2).take 11 := by
            apply List.ext_getElem?
            intro j
            rw [List.getElem?_take, List.getElem?_take]
            split
            · rw [List.getElem?_drop, List.getElem?_drop, hout _ (by omega)]
            · rfl
          rw [this]; exact hpr
        · exact ⟨ck, mp, bp, by simp [he], hpm, hpl, hpr, hps, hpc⟩
        · exact ⟨ck, mp, bp, by simp [he], hpm, hpl, hpr, hps, hpc⟩
      · unfold kidEntries at hp
        obtain ⟨⟨kid, i⟩, hx, rfl⟩ := List.mem_map.1 hp
        have hki : kids[i]? = some kid := by
          have := List.mem_zipIdx hx
          simp at this
          rw [this.2]; simp [this.1]
        have hil : i < kids.length := (List.getElem?_eq_some_iff.1 hki).1
        rcases hA with ⟨h, _⟩ | ⟨arr, rfl, hk', hal, har⟩
        · subst h; simp at hil
        · obtain ⟨kx2, kc2, sx2, sc2, hcs2, _, _, _, _, hkids⟩ := hT.rep
          obtain ⟨k, o, css, ek, _, hrg, hrep⟩ := hkids i kid hki
          simp only [Hd.cells, List.cons.injEq, Value.slice.injEq, true_and, and_true] at hcs2
          obtain ⟨⟨rfl, -⟩, -⟩ := hcs2
          have hW := har k o ek
          have hce : (arr.drop (i * 11)).take 11 = css := by
            refine rangeAt_eq (w := W) (b := k) (o := o + i * 11) (fun j u hj => ?_) hrg (by rw [hrep.len]; simp; omega)
            rw [List.getElem?_take] at hj
            split at hj
            · rw [List.getElem?_drop] at hj
              rw [Nat.add_assoc]; exact hW _ _ hj
            · cases hj
          exact ⟨arr, m, kid, by simp, by simp, by simp only; omega, by simp only; rw [hce]; exact hrep, hT.small.2.2 kid (List.mem_of_getElem? hki), rfl⟩
    · by_cases hq : rb = k0
      · subst hq
        have hcs0 : cs0 = cs := (hwh _ hrb).same hk0w
        subst hcs0
        have hl := hT.len
        have ho0 : o0 = 0 := by omega
        subst ho0
        have hc0 : cs0 = a.cells (.slice kx kids.length kc) (.slice sx a.src.length sc) := by
          have := hT.cells
          rw [List.drop_zero, List.take_of_length_le (by omega)] at this
          exact this
        have hc1 : CS = a.cells (.slice kx' kids.length kc') (.slice sx' a.src.length sc') := by
          have := hwin
          rw [List.drop_zero, List.take_of_length_le (by omega)] at this
          exact this
        refine ⟨CS, by simp, by omega, ?_⟩
        have := (hturn N b cs0 hroot).2
        rw [List.drop_zero, List.drop_zero, List.take_of_length_le (by omega), List.take_of_length_le (by omega)] at this
        exact this rfl
      · have hrb2 : (rb, cs0) ∈ K1 ∨ (rb, cs0) ∈ K2 := by
          rcases (hKL _).1 hrb with he | he
          · exact absurd (congrArg Prod.fst he) hq
          · exact he
        refine ⟨cs0, ?_, hr11, (hturn N b cs0 hroot).1⟩
        rcases hrb2 with h | h <;> simp [h]

/-- A box stays a box where its blocks stay. -/
theorem rep_keep {P : Nat → Prop} {K S : List Nat} {w w' : World} (h1 : ∀ (k i : Nat) (v : Value), (P k ∨ k ∈ K ∨ k ∈ S) → w.cell? ⟨k, i, none⟩ = some v → w'.cell? ⟨k, i, none⟩ = some v) :
    ∀ (n : Nat) (b : Bx n) (cs : List Value), RepG (koK P K) (soK P S) w n b cs → RepG (koK P K) (soK P S) w' n b cs := by
  intro n
  induction n with
  | zero => intro b cs h; exact h
  | succ n ih =>
    rintro b cs ⟨kx, kc, sx, sc, hcs, hok, hlen, hrow, hso, hkids⟩
    refine ⟨kx, kc, sx, sc, hcs, hok, hlen, ?_, hso, fun i kid hi => ?_⟩
    · rcases hrow with h | ⟨k, o, hx, hr⟩
      · exact .inl h
      · by_cases hne : b.1.src = []
        · exact .inl hne
        · refine .inr ⟨k, o, hx, fun i z hi j v hj => h1 k _ v ?_ (hr i z hi j v hj)⟩
          rcases hso hne k o hx with h | h
          · exact .inl h
          · exact .inr (.inr h)
    · obtain ⟨k, o, css, ek, hko, hr, hrep⟩ := hkids i kid hi
      refine ⟨k, o, css, ek, hko, fun j v hj => h1 k _ v ?_ (hr j v hj), ih kid css hrep⟩
      rcases hko with h | ⟨h, _⟩
      · exact .inl h
      · exact .inr (.inl h)
theorem rep_all {ko : Nat → Nat → Prop} {so : Nat → Prop} {w : World} {n : Nat} {b : Bx n} {cs : List Value} (h : RepG ko so w n b cs) : cs.all (·.oneCell') = true := by
  cases n with
  | zero => exact h.elim
  | succ n => obtain ⟨kx, kc, sx, sc, rfl, _⟩ := h; rfl

/-- The stack is empty: the box has been copied. -/
theorem deep_end {P : Nat → Prop} {W w w' : World} (hP : ∀ k, P k → k < W.heap.size) {N : Nat} {b : Bx N} {rb rv : Nat} {zs zs' : List Value} {t : Nat} {v : Value} {KL SL X : List (Nat × List Value)} {ps : List ((Nat × Nat) × Nat)} {cs0 : List Value} (hI : DeepInv P W N b rb rv zs t v w KL SL X ps)
    (hroot : RepG (koK P (KL.map (·.1))) (soK P (SL.map (·.1))) w N b cs0) (hS : Own [] W ((rv, zs') :: ((KL ++ SL) ++ X)) w') : RepG (fun k _ => P k ∨ W.heap.size ≤ k) (fun k => P k ∨ W.heap.size ≤ k) w' N b cs0 := by
  have hge : ∀ x, x ∈ KL ∨ x ∈ SL → W.heap.size ≤ x.1 := fun x hx => by
    have := hS.ge x (by simp only [List.mem_cons, List.mem_append]; rcases hx with h | h <;> simp [h])
    rcases this with h | h
    · cases h
    · exact h
  refine RepG.mono (fun k o h => ?_) (fun k h => ?_) N b cs0 (rep_keep (fun k i u hk hu => ?_) N b cs0 hroot)
  · rcases h with h | ⟨h, _⟩
    · exact .inl h
    · obtain ⟨x, hx, rfl⟩ := List.mem_map.1 h
      exact .inr (hge x (.inl hx))
  · rcases h with h | h
    · exact .inl h
    · obtain ⟨x, hx, rfl⟩ := List.mem_map.1 h
      exact .inr (hge x (.inr hx))
  rcases hk with hk | hk | hk
  · have h1 : w.heap[k]? = W.heap[k]? := hI.own.block k (hP k hk) (by simp)
    have h2 : w'.heap[k]? = W.heap[k]? := hS.block k (hP k hk) (by simp)
    rw [← hu]
    exact World.cell?_of_block (w := w) (a := ⟨k, i, none⟩) (by rw [h1, h2])
  · obtain ⟨⟨k2, ck⟩, hx, rfl⟩ := List.mem_map.1 hk
    have h1 : Has w k2 ck := hI.own.has (k2, ck) (by simp [hx])
    have h2 : Has w' k2 ck := hS.has (k2, ck) (by simp [hx])
    simp only at h1 h2 hu ⊢
    rw [h1.cell] at hu
    rw [h2.cell]; exact hu
  · obtain ⟨⟨k2, ck⟩, hx, rfl⟩ := List.mem_map.1 hk
    have h1 : Has w k2 ck := hI.own.has (k2, ck) (by simp only [List.mem_append]; exact .inl (.inr hx))
    have h2 : Has w' k2 ck := hS.has (k2, ck) (by simp only [List.mem_append, List.mem_cons]; exact .inr (.inl (.inr hx)))
    simp only at h1 h2 hu ⊢
    rw [h1.cell] at hu
    rw [h2.cell]; exact hu

theorem sl_block {n : Nat} {y : Option Addr} {c : Nat} {l : List Int} {X : List (Nat × List Value)} (h : Sl 1 n (.slice y n c) (l.flatMap intCells) X) (hl : n = l.length) : l ≠ [] → ∀ k o, y = some ⟨k, o, none⟩ → k ∈ X.map (·.1) := by
  intro hne k o hy
  subst hy
  rcases h.2 with ⟨_, _, _, h0, _⟩ | ⟨b, c', junk, hv, _, _, _, rfl⟩
  · exact absurd (List.eq_nil_of_length_eq_zero (by omega)) hne
  · simp at hv
    simp [hv.1.1]
theorem sl_row {D : List Nat} {W w : World} {L X : List (Nat × List Value)} {y : Option Addr} {c : Nat} {l : List Int} (hS : Own D W L w) (hm : ∀ x ∈ X, x ∈ L) (h : Sl 1 l.length (.slice y l.length c) (l.flatMap intCells) X) : RowAt w y 1 intCells l := by
  obtain ⟨y', c', he, hr, _, _⟩ := Sl.rowAt hS hm h (fun _ => rfl) (by decide)
  obtain ⟨rfl, _⟩ : y = y' ∧ c = c' := by simpa using he
  exact hr
/-- The kids of a box, one behind the other. -/
theorem kids_flat {W : World} {m : Nat} {a : Hd} {kids : List (Bx m)} {kx sx : Option Addr} {kc sc : Nat} (h : Rep W (m + 1) (a, kids) (a.cells (.slice kx kids.length kc) (.slice sx a.src.length sc))) (hne : kids ≠ []) :
    ∃ k o news, kx = some ⟨k, o, none⟩ ∧ news.length = kids.length * 11 ∧ W.rangeAt k o news ∧ ∀ v ∈ news, v.oneCell' = true := by
  obtain ⟨kx2, kc2, sx2, sc2, hcs2, _, _, _, _, hkids⟩ := h
  simp only [Hd.cells, List.cons.injEq, Value.slice.injEq, true_and, and_true] at hcs2
  obtain ⟨⟨rfl, -⟩, -⟩ := hcs2
  obtain ⟨kid0, hk0⟩ : ∃ kid, kids[0]? = some kid := by
    cases kids with
    | nil => exact absurd rfl hne
    | cons x l => exact ⟨x, rfl⟩
  obtain ⟨k, o, _, hkx, _⟩ := hkids 0 kid0 hk0
  obtain ⟨l, hll, hr⟩ := list_of (fun i css => W.rangeAt k (o + i * 11) css ∧ css.length = 11 ∧ css.all (·.oneCell') = true) kids.length fun i hi => by
    obtain ⟨k2, o2, css, e, _, hrg, hrep⟩ := hkids i kids[i] (by simp [hi])
    rw [hkx] at e
    have hko : k = k2 ∧ o = o2 := by simpa using e
    obtain ⟨rfl, rfl⟩ := hko
    exact ⟨css, hrg, hrep.len, rep_all hrep⟩
  have hlen : ∀ x ∈ l, x.length = 11 := fun x hx => by
    obtain ⟨i, hi⟩ := List.mem_iff_getElem?.1 hx
    exact (hr i x hi).2.1
  obtain ⟨b, o', hx, hfl⟩ := RowAt.flat (w := W) (x := kx) (size := 11) (f := id) (l := l) (.inr ⟨k, o, hkx, fun i x hi => (hr i x hi).1⟩) hlen (by
    intro h0
    subst h0
    have := (List.getElem?_eq_some_iff.1 hk0).1
    simp at hll
    omega)
  rw [hkx] at hx
  have hko : k = b ∧ o = o' := by simpa using hx
  obtain ⟨rfl, rfl⟩ := hko
  refine ⟨k, o, l.flatMap id, hkx, ?_, hfl, fun v hv => ?_⟩
  · rw [← hll]
    clear hr hll hx hfl
    induction l with
    | nil => simp
    | cons x l ih =>
      rw [List.flatMap_cons, List.length_append, ih fun y hy => hlen y (by simp [hy]), List.length_cons, Nat.succ_mul]
      have : (id x).length = 11 := hlen x (by simp)
      omega
  · obtain ⟨x, hx, hv⟩ := List.mem_flatMap.1 hv
    obtain ⟨i, hi⟩ := List.mem_iff_getElem?.1 hx
    exact List.all_eq_true.1 (hr i x hi).2.2 v hv
theorem setL_all {cur news : List Value} (h : cur.length = news.length) : setL cur 0 news = news := by
  have := setL_app news [] cur (by omega)
  rw [List.nil_append, List.length_nil] at this
  rw [this, List.drop_of_length_le (by omega)]
  simp
theorem deep_perm (x z : Nat × List Value) (A K S Xs X2 : List (Nat × List Value)) : ((A ++ (x :: ((z :: K) ++ S ++ Xs))) ++ X2).Perm ((((z :: (A ++ x :: K)) ++ (S ++ Xs))) ++ X2) := by
  refine List.Perm.append_right X2 ?_
  have h1 : (A ++ (x :: ((z :: K) ++ S ++ Xs))).Perm ((A ++ (x :: (z :: K))) ++ (S ++ Xs)) := by simp
  refine h1.trans (List.Perm.append_right _ ?_)
  have h2 : (A ++ x :: z :: K).Perm (A ++ z :: x :: K) := List.Perm.append_left A (List.Perm.swap _ _ _)
  exact h2.trans List.perm_middle
theorem src_cells {W w : World} {L : List (Nat × List Value)} {b o : Nat} {news : List Value} (hS : Own [] W L w) (h : W.rangeAt b o news) : ∀ j v, news[j]? = some v → w.cell? ((⟨b, o, none⟩ : Addr).add j) = some v := fun j v hj => by
  rw [Addr.add_lit]
  exact hS.cell (by simp) (h j v hj)
theorem two_last (x y : Nat × List Value) (R : List (Nat × List Value)) : (x :: y :: R).Perm ((x :: R) ++ [y]) := List.Perm.cons x (List.perm_append_comm (l₁ := [y]) (l₂ := R))
theorem three_last (x y z : Nat × List Value) (R : List (Nat × List Value)) : (x :: y :: z :: R).Perm ((x :: y :: R) ++ [z]) := List.Perm.cons x (two_last y z R)
theorem range_next {k' j : Nat} {l : List Value} : l ++ ((List.range (j + 1)).map fun i => (k', i * 11)).flatMap ptr = (l ++ ((List.range j).map fun i => (k', i * 11)).flatMap ptr) ++ [.pointer (some ⟨k', j * 11, none⟩)] := by
  rw [List.range_succ, List.map_append, List.flatMap_append]
  simp [ptr]
end Go.Proofs.Ytgnkngkogamjaaa
namespace Go.Proofs.Ytgnkngkogamjaaa
open Go.RowKit

/-- All bytes of a name are from 32 to 126. -/
def bytesOk (l : List UInt8) : Bool := l.all fun c => decide (32 ≤ (c.toNat : Int)) && decide ((c.toNat : Int) ≤ 126)
/-- Is it a name? -/
def nameOk (s : ByteArray) : Bool := bytesOk s.data.toList && decide (1 ≤ (s.size : Int)) && decide ((s.size : Int) ≤ 16)

theorem bytesOk_drop (s : ByteArray) (k : Nat) (h : k < s.size) :
    bytesOk (s.data.toList.drop k) = (decide (32 ≤ (s[k].toNat : Int)) && decide ((s[k].toNat : Int) ≤ 126) && bytesOk (s.data.toList.drop (k + 1))) := by
  have h' : k < s.data.toList.length := by simpa using h
  rw [List.drop_eq_getElem_cons h']
  simp [bytesOk]
  rfl

set_option maxHeartbeats 1000000 in
theorem font_named_calls (s : ByteArray) (w : World) (hs : s.size ≤ 9223372036854775807) :
    Calls Try.prog 56 #[.string s] w fun e w' => e = .returned (.bool (nameOk s)) ∧ w = w' := by
  go_enter Try.func56, Try.ntmps56
  go_wp2
  go_loop [3] (fun i => ∃ k : Nat, k ≤ s.size ∧ i = .int .i64 k ∧ bytesOk s.data.toList = bytesOk (s.data.toList.drop k)) (fun i => s.size - (intOf i).toNat)
  case atStart => exact ⟨0, Nat.zero_le _, rfl, rfl⟩
  case round =>
    obtain ⟨k, hk, rfl, hf⟩ := hrel
    by_cases hlt : k < s.size
    · rw [bytesOk_drop s k hlt] at hf
      have HF := Lib.hid hf
      clear hf
      by_cases h1 : (s[k].toNat : Int) < 32
      · have e1 : bytesOk s.data.toList = false := by rw [HF.out]; simp; omega
        have E1 := Lib.hid e1
        clear e1
        go_wp2
        go_ret
        refine ⟨ret_bool ?_, rfl⟩
        unfold nameOk
        rw [E1.out]; rfl
      · by_cases h2 : 126 < (s[k].toNat : Int)
        · have e1 : bytesOk s.data.toList = false := by rw [HF.out]; simp; omega
          have E1 := Lib.hid e1
          clear e1
          go_wp2
          go_ret
          refine ⟨ret_bool ?_, rfl⟩
          unfold nameOk
          rw [E1.out]; rfl
        · have e1 : bytesOk s.data.toList = bytesOk (s.data.toList.drop (k + 1)) := by rw [HF.out]; simp; omega
          have E1 := Lib.hid e1
          clear e1
          go_wp2
          go_round
          case rel => exact ⟨k + 1, by omega, by go_num, E1.out⟩
          case measure => simp [intOf]; omega
    · have e1 : bytesOk s.data.toList = true := by rw [hf, List.drop_of_length_le (by simp; omega)]; rfl
      have E1 := Lib.hid e1
      clear e1 hf
      go_wp2
      all_goals
        go_ret
        refine ⟨ret_bool ?_, rfl⟩
        unfold nameOk
        rw [E1.out]
        simp
        try omega

set_option maxHeartbeats 1000000 in
theorem ref05_Name_calls (s : ByteArray) (w : World) (hs : s.size ≤ 9223372036854775807) :
    Calls Try.prog 62 #[.string s] w fun e w' => e = .returned (.bool (nameOk s)) ∧ w = w' := by
  go_enter Try.func62, Try.ntmps62
  go_wp2
  go_loop [3] (fun i => ∃ k : Nat, k ≤ s.size ∧ i = .int .i64 k ∧ bytesOk s.data.toList = bytesOk (s.data.toList.drop k)) (fun i => s.size - (intOf i).toNat)
  case atStart => exact ⟨0, Nat.zero_le _, rfl, rfl⟩
  case round =>
    obtain ⟨k, hk, rfl, hf⟩ := hrel
    by_cases hlt : k < s.size
    · rw [bytesOk_drop s k hlt] at hf
      have HF := Lib.hid hf
      clear hf
      by_cases h1 : (s[k].toNat : Int) < 32
      · have e1 : bytesOk s.data.toList = false := by rw [HF.out]; simp; omega
        have E1 := Lib.hid e1
        clear e1
        go_wp2
        go_ret
        refine ⟨ret_bool ?_, rfl⟩
        unfold nameOk
        rw [E1.out]; rfl
      · by_cases h2 : 126 < (s[k].toNat : Int)
        · have e1 : bytesOk s.data.toList = false := by rw [HF.out]; simp; omega
          have E1 := Lib.hid e1
          clear e1
          go_wp2
          go_ret
          refine ⟨ret_bool ?_, rfl⟩
          unfold nameOk
          rw [E1.out]; rfl
        · have e1 : bytesOk s.data.toList = bytesOk (s.data.toList.drop (k + 1)) := by rw [HF.out]; simp; omega
          have E1 := Lib.hid e1
          clear e1
          go_wp2
          go_round
          case rel => exact ⟨k + 1, by omega, by go_num, E1.out⟩
          case measure => simp [intOf]; omega
    · have e1 : bytesOk s.data.toList = true := by rw [hf, List.drop_of_length_le (by simp; omega)]; rfl
      have E1 := Lib.hid e1
      clear e1 hf
      go_wp2
      all_goals
        go_ret
        refine ⟨ret_bool ?_, rfl⟩
        unfold nameOk
        rw [E1.out]
        simp
        try omega

set_option maxHeartbeats 400000 in
theorem ref05_within_calls (n a b : Int) (w : World) :
    Calls Try.prog 64 #[.int .i64 n, .int .i64 a, .int .i64 b] w fun e w' => e = .returned (.bool (decide (a ≤ n) && decide (n ≤ b))) ∧ w = w' := by
  go_enter Try.func64, Try.ntmps64
  go_wp2
  all_goals (go_ret; refine ⟨ret_bool ?_, rfl⟩; simp; omega)

/-- All numbers are in a range. -/
def allIn (a b : Int) (ns : List Int) : Bool := ns.all fun n => decide (a ≤ n) && decide (n ≤ b)
theorem allIn_drop (a b : Int) (ns : List Int) (k : Nat) (n : Int) (h : ns[k]? = some n) : allIn a b (ns.drop k) = (decide (a ≤ n) && decide (n ≤ b) && allIn a b (ns.drop (k + 1))) := by
  obtain ⟨hk, rfl⟩ := List.getElem?_eq_some_iff.1 h
  unfold allIn
  rw [List.drop_eq_getElem_cons hk, List.all_cons]

set_option maxHeartbeats 1000000 in
theorem font_within_calls (lo hi : Int) (ns : List Int) (b o c : Nat) (w : World) (hn : ns.length ≤ 1000000)
    (hc : ∀ i n, ns[i]? = some n → w.cell? ⟨b, o + i, none⟩ = some (.int .i64 n)) :
    Calls Try.prog 57 #[.int .i64 lo, .int .i64 hi, .slice (some ⟨b, o, none⟩) ns.length c] w fun e w' => e = .returned (.bool (allIn lo hi ns)) ∧ w = w' := by
  have HC := Lib.hid hc
  clear hc
  go_enter Try.func57, Try.ntmps57
  go_wp2
  go_loop [11] (fun i => ∃ k : Nat, k ≤ ns.length ∧ i = .int .i64 k ∧ allIn lo hi ns = allIn lo hi (ns.drop k)) (fun i => ns.length - (intOf i).toNat)
  case atStart => exact ⟨0, Nat.zero_le _, rfl, rfl⟩
  case round =>
    obtain ⟨k, hk, rfl, hf⟩ := hrel
    by_cases hlt : k < ns.length
    · obtain ⟨n, hg⟩ : ∃ n, ns[k]? = some n := ⟨ns[k], by simp [hlt]⟩
      have g0 := HC.out k n hg
      rw [allIn_drop lo hi ns k n hg] at hf
      have HF := Lib.hid hf
      clear hf hg
      by_cases h1 : n < lo
      · have E1 := Lib.hid (show allIn lo hi ns = false by rw [HF.out]; simp; omega)
        go_wp2
        go_ret
        exact ⟨ret_bool E1.out.symm, rfl⟩
      · by_cases h2 : hi < n
        · have E1 := Lib.hid (show allIn lo hi ns = false by rw [HF.out]; simp; omega)
          go_wp2
          go_ret
          exact ⟨ret_bool E1.out.symm, rfl⟩
        · have E1 := Lib.hid (show allIn lo hi ns = allIn lo hi (ns.drop (k + 1)) by rw [HF.out]; simp; omega)
          go_wp2
          go_round
          case rel => exact ⟨k + 1, by omega, by go_num, E1.out⟩
          case measure => simp [intOf]; omega
    · have E1 := Lib.hid (show allIn lo hi ns = true by rw [hf, List.drop_of_length_le (by omega)]; rfl)
      clear hf
      go_wp2
      go_ret
      exact ⟨ret_bool E1.out.symm, rfl⟩





end Go.Proofs.Ytgnkngkogamjaaa
namespace Go.Proofs.Ytgnkngkogamjaaa
open Go.RowKit

attribute [local irreducible] wpQuiet wpList Code.wp

instance rt_stretch : RowTy Try.prog 76 4 := ⟨⟨_, Try.underlying76, rfl⟩, by kernel_rfl⟩
instance zt_stretch : ZeroTy Try.prog 76 [.string ⟨#[]⟩, .slice none 0 0, .slice none 0 0, .int .i64 0] := ⟨.agg #[.string ⟨#[]⟩, .slice none 0 0, .slice none 0 0, .int .i64 0], by kernel_rfl, rfl⟩
instance rt_part : RowTy Try.prog 104 2 := ⟨⟨_, Try.underlying104, rfl⟩, by kernel_rfl⟩
instance ot_strings : OneTy Try.prog 73 := ⟨⟨_, Try.underlying73, rfl⟩, by kernel_rfl⟩
instance ot_parts : OneTy Try.prog 74 := ⟨⟨_, Try.underlying74, rfl⟩, by kernel_rfl⟩
instance ot_stretches : OneTy Try.prog 23 := ⟨⟨_, Try.underlying23, rfl⟩, by kernel_rfl⟩
instance ot_glyphs : OneTy Try.prog 22 := ⟨⟨_, Try.underlying22, rfl⟩, by kernel_rfl⟩
theorem loop_meas {k n : Nat} (h : k < n) : n - (intOf (.int .i64 ((k : Int) + 1))).toNat < n - (intOf (.int .i64 (k : Int))).toNat := by
  simp [intOf]; omega
end Go.Proofs.Ytgnkngkogamjaaa
namespace Go.Proofs.Ytgnkngkogamjaaa
open Go.RowKit

attribute [local irreducible] wpQuiet wpList Code.wp

theorem not_lt_dec {a b : Nat} (h : a ≤ b) : decide (b < a) = false ∧ decide ((b : Int) < (a : Int)) = false := by
  constructor <;> simp <;> omega
theorem lt_dec {a b : Nat} (h : ¬ a ≤ b) : decide (b < a) = true ∧ decide ((b : Int) < (a : Int)) = true := by
  constructor <;> simp <;> omega

set_option maxHeartbeats 4000000 in
set_option maxRecDepth 100000 in
theorem ref05_Few_g (F : Fnt) (w : World) (h : ¬ F.gs.length ≤ 500) : Calls Try.prog 17 #[F.val] w (Gives (.bool false) w) := by
  obtain ⟨d1, d2⟩ := lt_dec h
  simp only [Int.cast_ofNat_Int] at d2
  clear h
  go_enter Try.func17, Try.ntmps17
  have hS := own_start w
  go_wp2_with (first | (refine own_unguard (by rfl) ?_) | (refine w_ld rfl _ rfl (by rfl) (by first | exact rd_1 (by repeat constructor) (by first | rfl | assumption) | exact rd_w (by repeat constructor) (by rfl) | exact rd_o (by assumption) (by rfl) (by first | exact nmn | assumption | simp) | exact rd_h (by assumption) (by rfl) (by first | exact nmn | assumption | simp) | exact rd_1o (by assumption) (by first | exact nmn | assumption | simp) | exact rd_1h (by assumption) (by first | rfl | assumption) (by first | exact nmn | assumption | simp)) hS ?_) | (refine own_box rfl _ _ rfl (by rfl) hS ?_; clear hS; (try clear ww); intro bb ww hS) | (refine w_al rfl rfl hS ?_; clear hS; (try clear ww); intro bb ww hS) | (refine w_st rfl _ _ rfl (by rfl) (by rfl) (by repeat constructor) (by rfl) (by rfl) (by first | rfl | assumption) hS ?_; clear hS; (try clear ww); intro ww hS) | (refine w_s1 rfl _ _ rfl (by rfl) (by repeat constructor) (by first | exact .c | exact .t rfl) (by rfl) (by repeat constructor) hS ?_; clear hS; (try clear ww); intro ww hS))
  go_ret
  exact own_gives hS
set_option maxHeartbeats 4000000 in
set_option maxRecDepth 100000 in
theorem ref05_Few_s (F : Fnt) (w : World) (h0 : F.gs.length ≤ 500) (h : ¬ F.ss.length ≤ 50) : Calls Try.prog 17 #[F.val] w (Gives (.bool false) w) := by
  obtain ⟨d1, d2⟩ := lt_dec h
  obtain ⟨d3, d4⟩ := not_lt_dec h0
  simp only [Int.cast_ofNat_Int] at d2 d4
  clear h h0
  go_enter Try.func17, Try.ntmps17
  have hS := own_start w
  go_wp2_with (first | (refine own_unguard (by rfl) ?_) | (refine w_ld rfl _ rfl (by rfl) (by first | exact rd_1 (by repeat constructor) (by first | rfl | assumption) | exact rd_w (by repeat constructor) (by rfl) | exact rd_o (by assumption) (by rfl) (by first | exact nmn | assumption | simp) | exact rd_h (by assumption) (by rfl) (by first | exact nmn | assumption | simp) | exact rd_1o (by assumption) (by first | exact nmn | assumption | simp) | exact rd_1h (by assumption) (by first | rfl | assumption) (by first | exact nmn | assumption | simp)) hS ?_) | (refine own_box rfl _ _ rfl (by rfl) hS ?_; clear hS; (try clear ww); intro bb ww hS) | (refine w_al rfl rfl hS ?_; clear hS; (try clear ww); intro bb ww hS) | (refine w_st rfl _ _ rfl (by rfl) (by rfl) (by repeat constructor) (by rfl) (by rfl) (by first | rfl | assumption) hS ?_; clear hS; (try clear ww); intro ww hS) | (refine w_s1 rfl _ _ rfl (by rfl) (by repeat constructor) (by first | exact .c | exact .t rfl) (by rfl) (by repeat constructor) hS ?_; clear hS; (try clear ww); intro ww hS))
  go_ret
  exact own_gives hS

set_option maxHeartbeats 4000000 in
set_option maxRecDepth 100000 in
theorem ref05_Few_loop (F : Fnt) (w : World) (hF : FntOk w F) (h0 : F.gs.length ≤ 500) (h1 : F.ss.length ≤ 50) : Calls Try.prog 17 #[F.val] w (Gives (.bool (F.ss.all fewS)) w) := by
  obtain ⟨gx, gc, gs, sx, sc, ss, q0, q1, q2, q3, q4, q5, q6, q7, q8, q9, q10, q11, q12, q13, q14, q15, q16, q17, q18, q19⟩ := F
  simp only at h0 h1
  obtain ⟨d1, d2⟩ := not_lt_dec h1
  obtain ⟨d3, d4⟩ := not_lt_dec h0
  simp only [Int.cast_ofNat_Int] at d2 d4
  have HF := Lib.hid hF
  clear hF
  go_enter Try.func17, Try.ntmps17
  have hS := own_start w
  go_wp2_with (first | (refine own_unguard (by rfl) ?_) | (refine w_ld rfl _ rfl (by rfl) (by first | exact rd_1 (by repeat constructor) (by first | rfl | assumption) | exact rd_w (by repeat constructor) (by rfl) | exact rd_o (by assumption) (by rfl) (by first | exact nmn | assumption | simp) | exact rd_h (by assumption) (by rfl) (by first | exact nmn | assumption | simp) | exact rd_1o (by assumption) (by first | exact nmn | assumption | simp) | exact rd_1h (by assumption) (by first | rfl | assumption) (by first | exact nmn | assumption | simp)) hS ?_) | (refine own_box rfl _ _ rfl (by rfl) hS ?_; clear hS; (try clear ww); intro bb ww hS) | (refine w_al rfl rfl hS ?_; clear hS; (try clear ww); intro bb ww hS) | (refine w_st rfl _ _ rfl (by rfl) (by rfl) (by repeat constructor) (by rfl) (by rfl) (by first | rfl | assumption) hS ?_; clear hS; (try clear ww); intro ww hS) | (refine w_s1 rfl _ _ rfl (by rfl) (by repeat constructor) (by first | exact .c | exact .t rfl) (by rfl) (by repeat constructor) hS ?_; clear hS; (try clear ww); intro ww hS))
  obtain ⟨L0, HL, hS⟩ := hS.named
  go_loopw [3] (fun i wr => ∃ k : Nat, k ≤ ss.length ∧ i = .int .i64 k ∧ ss.all fewS = (ss.drop k).all fewS ∧ Own [] w L0 wr) (fun i _ => ss.length - (intOf i).toNat)
  case atStart => exact ⟨0, Nat.zero_le _, rfl, rfl, hS⟩
  case round =>
    clear hS
    obtain ⟨k, hk, rfl, hf, hS⟩ := hrel
    by_cases hlt : k < ss.length
    · obtain ⟨t, ht⟩ : ∃ t, ss[k]? = some t := ⟨ss[k], by simp [hlt]⟩
      obtain ⟨b, o, hx, hr0⟩ := HF.out.strs.get ht
      obtain rfl : sx = some ⟨b, o, none⟩ := hx
      obtain rfl := HL.out
      clear HL
      rw [fewS_drop ht] at hf
      have HE := Lib.hid hf
      clear hf ht
      have c1 : w.cell? ⟨b, o + k * 4 + 1, none⟩ = some (.slice t.sx t.sizes.length t.sc) := hr0 1 _ rfl
      have c2 : w.cell? ⟨b, o + k * 4 + 2, none⟩ = some (.slice t.px t.parts.length t.pc) := hr0 2 _ rfl
      clear hr0
      by_cases hs : t.sizes.length ≤ 50
      · obtain ⟨e1, e2⟩ := not_lt_dec hs
        simp only [Int.cast_ofNat_Int] at e2
        by_cases hp : t.parts.length ≤ 50
        · obtain ⟨e3, e4⟩ := not_lt_dec hp
          simp only [Int.cast_ofNat_Int] at e4
          have E1 := Lib.hid (show ss.all fewS = (ss.drop (k + 1)).all fewS by rw [HE.out]; simp [fewS, hs, hp])
          clear HE hs hp
          go_wp2_with (first | (refine own_unguard (by rfl) ?_) | (refine w_ld rfl _ rfl (by rfl) (by first | exact rd_1 (by repeat constructor) (by first | rfl | assumption) | exact rd_w (by repeat constructor) (by rfl) | exact rd_o (by assumption) (by rfl) (by first | exact nmn | assumption | simp) | exact rd_h (by assumption) (by rfl) (by first | exact nmn | assumption | simp) | exact rd_1o (by assumption) (by first | exact nmn | assumption | simp) | exact rd_1h (by assumption) (by first | rfl | assumption) (by first | exact nmn | assumption | simp)) hS ?_) | (refine own_box rfl _ _ rfl (by rfl) hS ?_; clear hS; (try clear ww); intro bb ww hS) | (refine w_al rfl rfl hS ?_; clear hS; (try clear ww); intro bb ww hS) | (refine w_st rfl _ _ rfl (by rfl) (by rfl) (by repeat constructor) (by rfl) (by rfl) (by first | rfl | assumption) hS ?_; clear hS; (try clear ww); intro ww hS) | (refine w_s1 rfl _ _ rfl (by rfl) (by repeat constructor) (by first | exact .c | exact .t rfl) (by rfl) (by repeat constructor) hS ?_; clear hS; (try clear ww); intro ww hS))
          go_roundw
          case rel => exact ⟨k + 1, hlt, by go_num, E1.out, hS⟩
          case measure => exact loop_meas hlt
        · obtain ⟨e3, e4⟩ := lt_dec hp
          simp only [Int.cast_ofNat_Int] at e4
          have E1 := Lib.hid (show ss.all fewS = false by rw [HE.out]; simp [fewS, hp])
          clear HE hs hp
          go_wp2_with (first | (refine own_unguard (by rfl) ?_) | (refine w_ld rfl _ rfl (by rfl) (by first | exact rd_1 (by repeat constructor) (by first | rfl | assumption) | exact rd_w (by repeat constructor) (by rfl) | exact rd_o (by assumption) (by rfl) (by first | exact nmn | assumption | simp) | exact rd_h (by assumption) (by rfl) (by first | exact nmn | assumption | simp) | exact rd_1o (by assumption) (by first | exact nmn | assumption | simp) | exact rd_1h (by assumption) (by first | rfl | assumption) (by first | exact nmn | assumption | simp)) hS ?_) | (refine own_box rfl _ _ rfl (by rfl) hS ?_; clear hS; (try clear ww); intro bb ww hS) | (refine w_al rfl rfl hS ?_; clear hS; (try clear ww); intro bb ww hS) | (refine w_st rfl _ _ rfl (by rfl) (by rfl) (by repeat constructor) (by rfl) (by rfl) (by first | rfl | assumption) hS ?_; clear hS; (try clear ww); intro ww hS) | (refine w_s1 rfl _ _ rfl (by rfl) (by repeat constructor) (by first | exact .c | exact .t rfl) (by rfl) (by repeat constructor) hS ?_; clear hS; (try clear ww); intro ww hS))
          go_ret
          exact ⟨ret_bool E1.out.symm, hS.below⟩
      · obtain ⟨e1, e2⟩ := lt_dec hs
        simp only [Int.cast_ofNat_Int] at e2
        have E1 := Lib.hid (show ss.all fewS = false by rw [HE.out]; simp [fewS, hs])
        clear HE hs
        go_wp2_with (first | (refine own_unguard (by rfl) ?_) | (refine w_ld rfl _ rfl (by rfl) (by first | exact rd_1 (by repeat constructor) (by first | rfl | assumption) | exact rd_w (by repeat constructor) (by rfl) | exact rd_o (by assumption) (by rfl) (by first | exact nmn | assumption | simp) | exact rd_h (by assumption) (by rfl) (by first | exact nmn | assumption | simp) | exact rd_1o (by assumption) (by first | exact nmn | assumption | simp) | exact rd_1h (by assumption) (by first | rfl | assumption) (by first | exact nmn | assumption | simp)) hS ?_) | (refine own_box rfl _ _ rfl (by rfl) hS ?_; clear hS; (try clear ww); intro bb ww hS) | (refine w_al rfl rfl hS ?_; clear hS; (try clear ww); intro bb ww hS) | (refine w_st rfl _ _ rfl (by rfl) (by rfl) (by repeat constructor) (by rfl) (by rfl) (by first | rfl | assumption) hS ?_; clear hS; (try clear ww); intro ww hS) | (refine w_s1 rfl _ _ rfl (by rfl) (by repeat constructor) (by first | exact .c | exact .t rfl) (by rfl) (by repeat constructor) hS ?_; clear hS; (try clear ww); intro ww hS))
        go_ret
        exact ⟨ret_bool E1.out.symm, hS.below⟩
    · have E1 := Lib.hid (show ss.all fewS = true by rw [hf, List.drop_of_length_le (by omega)]; rfl)
      obtain rfl := HL.out
      clear hf HL
      go_wp2_with (first | (refine own_unguard (by rfl) ?_) | (refine w_ld rfl _ rfl (by rfl) (by first | exact rd_1 (by repeat constructor) (by first | rfl | assumption) | exact rd_w (by repeat constructor) (by rfl) | exact rd_o (by assumption) (by rfl) (by first | exact nmn | assumption | simp) | exact rd_h (by assumption) (by rfl) (by first | exact nmn | assumption | simp) | exact rd_1o (by assumption) (by first | exact nmn | assumption | simp) | exact rd_1h (by assumption) (by first | rfl | assumption) (by first | exact nmn | assumption | simp)) hS ?_) | (refine own_box rfl _ _ rfl (by rfl) hS ?_; clear hS; (try clear ww); intro bb ww hS) | (refine w_al rfl rfl hS ?_; clear hS; (try clear ww); intro bb ww hS) | (refine w_st rfl _ _ rfl (by rfl) (by rfl) (by repeat constructor) (by rfl) (by rfl) (by first | rfl | assumption) hS ?_; clear hS; (try clear ww); intro ww hS) | (refine w_s1 rfl _ _ rfl (by rfl) (by repeat constructor) (by first | exact .c | exact .t rfl) (by rfl) (by repeat constructor) hS ?_; clear hS; (try clear ww); intro ww hS))
      go_ret
      exact ⟨ret_bool E1.out.symm, hS.below⟩

theorem ref05_Few_calls (F : Fnt) (w : World) (hF : FntOk w F) : Calls Try.prog 17 #[F.val] w (Gives (.bool (fewB F)) w) := by
  by_cases h0 : F.gs.length ≤ 500
  · by_cases h1 : F.ss.length ≤ 50
    · have := ref05_Few_loop F w hF h0 h1
      rwa [show fewB F = F.ss.all fewS by simp [fewB, h0, h1]]
    · have := ref05_Few_s F w h0 h1
      rwa [show fewB F = false by simp [fewB, h1]]
  · have := ref05_Few_g F w h0
    rwa [show fewB F = false by simp [fewB, h0]]

end Go.Proofs.Ytgnkngkogamjaaa
namespace Go.Proofs.Ytgnkngkogamjaaa
open Go.RowKit

attribute [local irreducible] wpQuiet wpList Code.wp

/-- A small slice literal. -/
theorem own_buildSlice {P : Program} {rest : List Oper} {ops' : Array Oper} {o : Oper} {a : Act} {Q : Exit → Act → World → Prop} {D : List Nat} {W w : World} {L : List (Nat × List Value)} (hgd : o.guard = none) (t e : TypeId) (len : Nat) (parts : Array (Nat × Operand)) (ho : o.op = .buildSlice t len parts) (cells : List Value) (hS : Own D W L w) (hu : P.underlying t = some (.slice e))
    (hf : P.builtSlice e len (parts.map fun (i, x) => (i, a.eval x)).toList = some cells.toArray)
    (h : ∀ b w', Own D W ((b, cells) :: L) w' → wpList P ops' Q rest (a.put o.dst (.slice (some ⟨b, 0, none⟩) len len)) w') : wpList P ops' Q (o :: rest) a w :=
  Great.wpList_buildSliceTo hgd t e len parts ho w.heap.size rfl o.dst rfl hu cells.toArray hf (h _ _ (hS.new cells e))

theorem font_within_has {lo hi : Int} (ns : List Int) {b c : Nat} {w : World} {v : Bool} (hh : Has w b (ns.map (Value.int .i64))) (hn : ns.length ≤ 1000000) (hv : allIn lo hi ns = v) :
    Calls Try.prog 57 #[.int .i64 lo, .int .i64 hi, .slice (some ⟨b, 0, none⟩) ns.length c] w fun e w' => e = .returned (.bool v) ∧ w = w' := by
  subst hv
  refine font_within_calls lo hi ns b 0 c w hn fun i n hi => ?_
  rw [hh.cell, Nat.zero_add, List.getElem?_map, hi]
  rfl

/-- The lengths among the parameters; the percentages. -/
@[reducible] def Fnt.lens (F : Fnt) : List Int := [F.quad, F.xheight, F.axis, F.rule, F.num1, F.num2, F.den1, F.den2, F.sup1, F.sup2, F.sup3, F.sub1, F.sub2, F.supdrop, F.subdrop, F.dshort, F.acc]
@[reducible] def Fnt.pers (F : Fnt) : List Int := [F.script, F.sscript, F.dpercent]
def prmOk (F : Fnt) : Bool := allIn 1 100 F.pers && allIn 0 20000 F.lens

instance rt_params : RowTy Try.prog 25 20 := ⟨⟨_, Try.underlying25, rfl⟩, by kernel_rfl⟩

set_option maxHeartbeats 4000000 in
set_option maxRecDepth 100000 in
theorem font_validParams_no (F : Fnt) (w : World) (h : allIn 1 100 F.pers = false) : Calls Try.prog 55 #[.agg F.prm.toArray] w (Gives (.bool false) w) := by
  have HV := Lib.hid h
  clear h
  go_enter Try.func55, Try.ntmps55
  have hS := own_start w
  go_wp2_with (first | (refine own_unguard (by rfl) ?_) | (refine own_buildSlice rfl _ _ 3 _ rfl [.int .i64 F.script, .int .i64 F.sscript, .int .i64 F.dpercent] hS Try.underlying35 (by kernel_rfl) ?_; clear hS; (try clear ww); intro bb ww hS) | (go_at_call 57; refine own_callsS hS (font_within_has F.pers (hS.get at0) (by simp) HV.out) ?_) | (refine w_ld rfl _ rfl (by rfl) (by first | exact rd_1 (by repeat constructor) (by first | rfl | assumption) | exact rd_w (by repeat constructor) (by rfl) | exact rd_o (by assumption) (by rfl) (by first | exact nmn | assumption | simp) | exact rd_h (by assumption) (by rfl) (by first | exact nmn | assumption | simp) | exact rd_1o (by assumption) (by first | exact nmn | assumption | simp) | exact rd_1h (by assumption) (by first | rfl | assumption) (by first | exact nmn | assumption | simp)) hS ?_) | (refine own_box rfl _ _ rfl (by rfl) hS ?_; clear hS; (try clear ww); intro bb ww hS) | (refine w_st rfl _ _ rfl (by rfl) (by rfl) (by repeat constructor) (by rfl) (by rfl) (by first | rfl | assumption) hS ?_; clear hS; (try clear ww); intro ww hS) | (refine w_s1 rfl _ _ rfl (by rfl) (by repeat constructor) (by first | exact .c | exact .t rfl) (by rfl) (by repeat constructor) hS ?_; clear hS; (try clear ww); intro ww hS))
  go_ret
  exact own_gives hS

set_option maxHeartbeats 4000000 in
set_option maxRecDepth 100000 in
theorem font_validParams_yes (F : Fnt) (w : World) (v : Bool) (h : allIn 1 100 F.pers = true) (h2 : allIn 0 20000 F.lens = v) : Calls Try.prog 55 #[.agg F.prm.toArray] w (Gives (.bool v) w) := by
  have HV := Lib.hid h
  have HL := Lib.hid h2
  have tok1 : True := trivial
  clear h h2
  go_enter Try.func55, Try.ntmps55
  have hS := own_start w
  go_wp2_with (first | (refine own_unguard (by rfl) ?_) | (refine own_buildSlice rfl _ _ 3 _ rfl [.int .i64 F.script, .int .i64 F.sscript, .int .i64 F.dpercent] hS Try.underlying35 (by kernel_rfl) ?_; clear hS; (try clear ww); intro bb ww hS) | (refine own_buildSlice rfl _ _ 17 _ rfl (F.lens.map (Value.int .i64)) hS Try.underlying35 (by kernel_rfl) ?_; clear hS; (try clear ww); intro bb ww hS) | (go_at_call 57; have _t := tok1; refine own_callsS hS (font_within_has F.pers (hS.get at0) (by simp) HV.out) ?_; clear tok1) | (go_at_call 57; refine own_callsS hS (font_within_has F.lens (hS.get at0) (by simp) HL.out) ?_) | (refine w_ld rfl _ rfl (by rfl) (by first | exact rd_1 (by repeat constructor) (by first | rfl | assumption) | exact rd_w (by repeat constructor) (by rfl) | exact rd_o (by assumption) (by rfl) (by first | exact nmn | assumption | simp) | exact rd_h (by assumption) (by rfl) (by first | exact nmn | assumption | simp) | exact rd_1o (by assumption) (by first | exact nmn | assumption | simp) | exact rd_1h (by assumption) (by first | rfl | assumption) (by first | exact nmn | assumption | simp)) hS ?_) | (refine own_box rfl _ _ rfl (by rfl) hS ?_; clear hS; (try clear ww); intro bb ww hS) | (refine w_st rfl _ _ rfl (by rfl) (by rfl) (by repeat constructor) (by rfl) (by rfl) (by first | rfl | assumption) hS ?_; clear hS; (try clear ww); intro ww hS) | (refine w_s1 rfl _ _ rfl (by rfl) (by repeat constructor) (by first | exact .c | exact .t rfl) (by rfl) (by repeat constructor) hS ?_; clear hS; (try clear ww); intro ww hS))
  go_ret
  exact own_gives hS

theorem font_validParams_calls (F : Fnt) (w : World) : Calls Try.prog 55 #[.agg F.prm.toArray] w (Gives (.bool (prmOk F)) w) := by
  unfold prmOk
  cases h : allIn 1 100 F.pers
  · exact font_validParams_no F w h
  · exact font_validParams_yes F w _ h rfl

end Go.Proofs.Ytgnkngkogamjaaa
namespace Go.Proofs.Ytgnkngkogamjaaa
open Go.RowKit
attribute [local irreducible] wpQuiet wpG wpP wpK wpList Code.wp Calls

/-- The greatest one. -/
def mxs (first : Int) (ns : List Int) : Int := ns.foldl max first
theorem mxs_next {first n : Int} {ns : List Int} : mxs first (ns ++ [n]) = max (mxs first ns) n := by simp [mxs, List.foldl_append]

set_option maxHeartbeats 4000000 in
set_option maxRecDepth 100000 in
theorem greatest_calls (first : Int) (x : Option Addr) (c : Nat) (ns : List Int) (w : World) (hr : RowAt w x 1 intCells ns) (hl : ns.length ≤ 1000000) :
    Calls Try.prog 45 #[.int .i64 first, .slice x ns.length c] w (Gives (.int .i64 (mxs first ns)) w) := by
  have HR := Lib.hid hr
  clear hr
  go_enter Try.func45, Try.ntmps45
  have hS := own_start w
  go_wp2_with (first | (refine own_unguard (by rfl) ?_) | (refine w_ld rfl _ rfl (by rfl) (by first | exact rd_1 (by repeat constructor) (by first | rfl | assumption) | exact rd_w (by repeat constructor) (by rfl) | exact rd_o (by assumption) (by rfl) (by first | exact nmn | assumption | simp) | exact rd_h (by assumption) (by rfl) (by first | exact nmn | assumption | simp) | exact rd_1o (by assumption) (by first | exact nmn | assumption | simp) | exact rd_1h (by assumption) (by first | rfl | assumption) (by first | exact nmn | assumption | simp)) hS ?_) | (refine own_box rfl _ _ rfl (by rfl) hS ?_; clear hS; (try clear ww); intro bb ww hS) | (refine w_s1 rfl _ _ rfl (by rfl) (by repeat constructor) (by first | exact .c | exact .t rfl) (by rfl) (by repeat constructor) hS ?_; clear hS; (try clear ww); intro ww hS))
  go_loopw [0, 9] (fun v i wr => ∃ (k : Nat) (g : Int), k ≤ ns.length ∧ i = .int .i64 k ∧ v = .int .i64 g ∧ g = mxs first (ns.take k) ∧ Own [] w [] wr) (fun _ i _ => ns.length - (intOf i).toNat)
  case atStart => exact ⟨0, _, Nat.zero_le _, rfl, rfl, rfl, hS⟩
  case round =>
    clear hS
    obtain ⟨k, g, hkl, rfl, rfl, hg, hS⟩ := hrel
    have HG := Lib.hid hg
    clear hg
    by_cases hlt : k < ns.length
    · obtain ⟨m, hm⟩ : ∃ q, ns[k]? = some q := ⟨ns[k], by simp [hlt]⟩
      obtain ⟨kb, ko, rfl, hrg⟩ := HR.out.get hm
      rw [Nat.mul_one] at hrg
      have f0 : w.cell? ⟨kb, ko + k, none⟩ = some (.int .i64 m) := hrg 0 _ rfl
      have HN := Lib.hid (show max g m = mxs first (ns.take (k + 1)) by rw [List.take_add_one, hm, HG.out]; exact mxs_next.symm)
      have m5 : ∀ (w : World) (ts : Array TypeId) (t : TypeId), (Builtin.max_ ts t #[.int .i64 g, .int .i64 m]).run Try.prog w = .ok (.int .i64 (max g m)) w := fun w ts t => by rw [run_max_int2]; congr 2; split <;> omega
      clear hrg hm
      go_wp2_with (first | (refine own_unguard (by rfl) ?_) | (refine w_ld rfl _ rfl (by rfl) (by first | exact rd_1 (by repeat constructor) (by first | rfl | assumption) | exact rd_w (by repeat constructor) (by rfl) | exact rd_o (by assumption) (by rfl) (by first | exact nmn | assumption | simp) | exact rd_h (by assumption) (by rfl) (by first | exact nmn | assumption | simp) | exact rd_1o (by assumption) (by first | exact nmn | assumption | simp) | exact rd_1h (by assumption) (by first | rfl | assumption) (by first | exact nmn | assumption | simp)) hS ?_) | (refine own_box rfl _ _ rfl (by rfl) hS ?_; clear hS; (try clear ww); intro bb ww hS) | (refine w_s1 rfl _ _ rfl (by rfl) (by repeat constructor) (by first | exact .c | exact .t rfl) (by rfl) (by repeat constructor) hS ?_; clear hS; (try clear ww); intro ww hS))
      go_roundw
      case rel => exact ⟨k + 1, _, hlt, by go_num, rfl, HN.out, hS.forget (by simp)⟩
      case measure => exact loop_meas hlt
    · obtain rfl : k = ns.length := by omega
      have HN := Lib.hid (show g = mxs first ns by rw [HG.out, List.take_length])
      go_wp2_with (first | (refine own_unguard (by rfl) ?_) | (refine w_ld rfl _ rfl (by rfl) (by first | exact rd_1 (by repeat constructor) (by first | rfl | assumption) | exact rd_w (by repeat constructor) (by rfl) | exact rd_o (by assumption) (by rfl) (by first | exact nmn | assumption | simp) | exact rd_h (by assumption) (by rfl) (by first | exact nmn | assumption | simp) | exact rd_1o (by assumption) (by first | exact nmn | assumption | simp) | exact rd_1h (by assumption) (by first | rfl | assumption) (by first | exact nmn | assumption | simp)) hS ?_) | (refine own_box rfl _ _ rfl (by rfl) hS ?_; clear hS; (try clear ww); intro bb ww hS) | (refine w_s1 rfl _ _ rfl (by rfl) (by repeat constructor) (by first | exact .c | exact .t rfl) (by rfl) (by repeat constructor) hS ?_; clear hS; (try clear ww); intro ww hS))
      go_ret
      exact ⟨by rw [HN.out]; rfl, hS.below⟩

end Go.Proofs.Ytgnkngkogamjaaa
