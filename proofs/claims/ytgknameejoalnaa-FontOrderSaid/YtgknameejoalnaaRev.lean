/- Plain laws on fonts: the order of glyphs and stretches, a glyph more, a glyph less. -/
import Derived.Test.YtgknameejoalnaaVal
import Derived.Test.YtgknameejoalnaaPick
import Derived.Test.YtgknameejoalnaaApn
namespace Go.Proofs.Ytgknameejoalnaa
open Go.RowKit

/-- Two names are not the same. -/
def Apart (a b : ByteArray) : Prop := (a.toList == b.toList) = false
theorem Apart.symm {a b : ByteArray} (h : Apart a b) : Apart b a := by
  unfold Apart at *
  simp only [beq_eq_false_iff_ne, ne_eq] at *
  exact fun e => h e.symm
theorem pairs_iff {α : Type} (f : α → ByteArray) (l : List α) : (∀ (k : Nat) (g : α), l[k]? = some g → ∀ (j : Nat), j < k → ∀ g', l[j]? = some g' → Apart (f g') (f g)) ↔ l.Pairwise fun a b => Apart (f a) (f b) := by
  rw [List.pairwise_iff_getElem]
  constructor
  · intro h i j hi hj hij
    exact h j l[j] (by simp [hj]) i hij l[i] (by simp [hi])
  · intro h k g hk j hj g' hg'
    obtain ⟨h1, rfl⟩ := List.getElem?_eq_some_iff.1 hk
    obtain ⟨h2, rfl⟩ := List.getElem?_eq_some_iff.1 hg'
    exact h j k h2 h1 hj
theorem glysOk_iff {gs : List Gly} : GlysOk gs ↔ (∀ g ∈ gs, gIn g = true) ∧ gs.Pairwise fun a b => Apart a.name b.name := by
  rw [← pairs_iff Gly.name]
  constructor
  · intro h
    refine ⟨fun g hg => ?_, fun k g hk => (h k g hk).2⟩
    obtain ⟨k, hk⟩ := List.mem_iff_getElem?.1 hg
    exact (h k g hk).1
  · rintro ⟨h1, h2⟩ k g hk
    exact ⟨h1 g (List.mem_of_getElem? hk), h2 k g hk⟩
theorem strsReq_iff {gs : List Gly} {ss : List Str} : StrsReq gs ss ↔ (∀ s ∈ ss, StrReq gs s) ∧ ss.Pairwise fun a b => Apart a.name b.name := by
  rw [← pairs_iff Str.name]
  constructor
  · intro h
    refine ⟨fun g hg => ?_, fun k g hk => (h k g hk).2⟩
    obtain ⟨k, hk⟩ := List.mem_iff_getElem?.1 hg
    exact (h k g hk).1
  · rintro ⟨h1, h2⟩ k g hk
    exact ⟨h1 g (List.mem_of_getElem? hk), h2 k g hk⟩

theorem beqS {a b : List UInt8} (h : (a == b) = true) : (b == a) = true := by rw [beq_iff_eq] at *; exact h.symm
theorem apart_same {α : Type} {f : α → ByteArray} {l : List α} (h : l.Pairwise fun a b => Apart (f a) (f b)) {a b : α} (ha : a ∈ l) (hb : b ∈ l) {s : ByteArray} (h1 : ((f a).toList == s.toList) = true) (h2 : ((f b).toList == s.toList) = true) : a = b := by
  induction h with
  | nil => cases ha
  | @cons x l hx _ ih =>
    simp only [beq_iff_eq] at h1 h2
    rcases List.mem_cons.1 ha with ha' | ha' <;> rcases List.mem_cons.1 hb with hb' | hb'
    · rw [ha', hb']
    · subst ha'; have := hx b hb'; unfold Apart at this; rw [h1, h2] at this; simp at this
    · subst hb'; have := hx a ha'; unfold Apart at this; rw [h1, h2] at this; simp at this
    · exact ih ha' hb'
theorem find_members {α : Type} {f : α → ByteArray} {l l' : List α} (h : l.Pairwise fun a b => Apart (f a) (f b)) (hm : ∀ a, a ∈ l' ↔ a ∈ l) (s : ByteArray) : l'.find? (fun a => (f a).toList == s.toList) = l.find? (fun a => (f a).toList == s.toList) := by
  cases hf : l.find? (fun a => (f a).toList == s.toList) with
  | none =>
    rw [List.find?_eq_none] at hf ⊢
    exact fun a ha => hf a ((hm a).1 ha)
  | some a =>
    have h1 := List.mem_of_find?_eq_some hf
    have h2 : ((f a).toList == s.toList) = true := List.find?_some (p := fun a => (f a).toList == s.toList) hf
    cases hf' : l'.find? (fun a => (f a).toList == s.toList) with
    | none =>
      rw [List.find?_eq_none] at hf'
      exact absurd h2 (hf' a ((hm a).2 h1))
    | some b =>
      have h3 := (hm b).1 (List.mem_of_find?_eq_some hf')
      have h4 : ((f b).toList == s.toList) = true := List.find?_some (p := fun a => (f a).toList == s.toList) hf'
      rw [apart_same h h3 h1 h4 h2]

theorem strReq_congr {gs gs' : List Gly} {s : Str} (h : ∀ n, n ∈ s.sizes ∨ (∃ p ∈ s.parts, p.name = n) → findG gs' n = findG gs n) : StrReq gs' s ↔ StrReq gs s := by
  unfold StrReq
  have h1 : (∀ k n, s.sizes[k]? = some n → SizeOk gs' s.sizes k n) ↔ (∀ k n, s.sizes[k]? = some n → SizeOk gs s.sizes k n) := by
    have key : ∀ k n, s.sizes[k]? = some n → (SizeOk gs' s.sizes k n ↔ SizeOk gs s.sizes k n) := by
      intro k n hk
      unfold SizeOk
      rw [h n (.inl (List.mem_of_getElem? hk))]
      constructor
      · rintro ⟨g, hg, h1⟩
        exact ⟨g, hg, fun m n' g' hm hn' hg' => h1 m n' g' hm hn' (by rw [h n' (.inl (List.mem_of_getElem? hn'))]; exact hg')⟩
      · rintro ⟨g, hg, h1⟩
        exact ⟨g, hg, fun m n' g' hm hn' hg' => h1 m n' g' hm hn' (by rw [h n' (.inl (List.mem_of_getElem? hn'))] at hg'; exact hg')⟩
    constructor
    · intro h2 k n hk; exact (key k n hk).1 (h2 k n hk)
    · intro h2 k n hk; exact (key k n hk).2 (h2 k n hk)
  have h2 : (∀ p ∈ s.parts, PartOk gs' s.ov p) ↔ (∀ p ∈ s.parts, PartOk gs s.ov p) := by
    constructor
    · intro h2 p hp; have := h2 p hp; unfold PartOk at this ⊢; rwa [h p.name (.inr ⟨p, hp, rfl⟩)] at this
    · intro h2 p hp; have := h2 p hp; unfold PartOk at this ⊢; rwa [h p.name (.inr ⟨p, hp, rfl⟩)]
  rw [h1, h2]

/-- The order does not matter. -/
theorem findG_rev {gs : List Gly} (h : GlysOk gs) (s : ByteArray) : findG gs.reverse s = findG gs s := find_members (glysOk_iff.1 h).2 (fun _ => List.mem_reverse) s
theorem findS_rev {gs : List Gly} {ss : List Str} (h : StrsReq gs ss) (s : ByteArray) : findS ss.reverse s = findS ss s := find_members (strsReq_iff.1 h).2 (fun _ => List.mem_reverse) s
theorem glysOk_rev {gs : List Gly} (h : GlysOk gs) : GlysOk gs.reverse := by
  rw [glysOk_iff] at h ⊢
  refine ⟨fun g hg => h.1 g (List.mem_reverse.1 hg), ?_⟩
  rw [List.pairwise_reverse]
  exact h.2.imp fun h => h.symm
theorem strsReq_rev {gs : List Gly} {ss : List Str} (hg : GlysOk gs) (h : StrsReq gs ss) : StrsReq gs.reverse ss.reverse := by
  rw [strsReq_iff] at h ⊢
  refine ⟨fun s hs => (strReq_congr fun n _ => findG_rev hg n).2 (h.1 s (List.mem_reverse.1 hs)), ?_⟩
  rw [List.pairwise_reverse]
  exact h.2.imp fun h => h.symm
theorem pickG_rev {gs : List Gly} (h : GlysOk gs) (s : ByteArray) : pickG gs.reverse s = pickG gs s := by
  unfold pickG
  rw [findG_rev h, findG_rev h]

/-- A glyph twice. -/
theorem double_bad {gs : List Gly} {i : Nat} {g : Gly} (hi : gs[i]? = some g) : ¬ GlysOk (gs ++ [g]) := fun h => by
  have h1 := (glysOk_iff.1 h).2
  rw [List.pairwise_append] at h1
  have := h1.2.2 g (List.mem_of_getElem? hi) g (by simp)
  simp [Apart] at this
/-- A glyph that a stretch names. -/
def Needed (ss : List Str) (n : ByteArray) : Prop := ∃ s ∈ ss, (∃ m ∈ s.sizes, (m.toList == n.toList) = true) ∨ ∃ p ∈ s.parts, (p.name.toList == n.toList) = true
theorem less_find {gs : List Gly} {i : Nat} {g : Gly} (hi : gs[i]? = some g) (h : gs.Pairwise fun a b => Apart a.name b.name) (n : ByteArray) : findG (gs.take i ++ gs.drop (i + 1)) n = if (g.name.toList == n.toList) = true then none else findG gs n := by
  obtain ⟨hlt, rfl⟩ := List.getElem?_eq_some_iff.1 hi
  have hsplit : gs = gs.take i ++ gs[i] :: gs.drop (i + 1) := by simp
  have hnot : ∀ a ∈ gs.take i ++ gs.drop (i + 1), Apart a.name gs[i].name := by
    intro a ha
    rw [hsplit] at h
    rw [List.pairwise_append, List.pairwise_cons] at h
    rcases List.mem_append.1 ha with ha | ha
    · exact h.2.2 a ha _ (List.mem_cons_self ..)
    · exact (h.2.1.1 a ha).symm
  split
  · rename_i hn
    unfold findG
    rw [List.find?_eq_none]
    intro a ha hc
    have := hnot a ha
    simp only [beq_iff_eq] at hn hc
    unfold Apart at this
    rw [hc, hn] at this
    simp at this
  · rename_i hn
    have h1 : findG gs n = findG (gs.take i ++ gs[i] :: gs.drop (i + 1)) n := by rw [← hsplit]
    rw [h1]
    unfold findG
    rw [List.find?_append, List.find?_append, List.find?_cons_of_neg (by simpa using hn)]
theorem less_glysOk {gs : List Gly} {i : Nat} (h : GlysOk gs) : GlysOk (gs.take i ++ gs.drop (i + 1)) := by
  rw [glysOk_iff] at h ⊢
  have hs : (gs.take i ++ gs.drop (i + 1)).Sublist gs := by
    have := List.Sublist.append (List.Sublist.refl (gs.take i)) (List.drop_sublist_drop_left gs (Nat.le_succ i))
    rwa [List.take_append_drop] at this
  exact ⟨fun g hg => h.1 g (hs.subset hg), h.2.sublist hs⟩
theorem less_strs {gs : List Gly} {ss : List Str} {i : Nat} {g : Gly} (hi : gs[i]? = some g) (hg : GlysOk gs) (hs : StrsReq gs ss) : StrsReq (gs.take i ++ gs.drop (i + 1)) ss ↔ ¬ Needed ss g.name := by
  have hfind := less_find hi (glysOk_iff.1 hg).2
  rw [strsReq_iff] at hs ⊢
  constructor
  · rintro ⟨h1, _⟩ ⟨s, hsm, h2⟩
    have h3 := h1 s hsm
    unfold StrReq at h3
    rcases h2 with ⟨m, hm, he⟩ | ⟨p, hp, he⟩
    · obtain ⟨k, hk⟩ := List.mem_iff_getElem?.1 hm
      obtain ⟨g', hg', _⟩ := h3.2.2.2.2.1 k m hk
      rw [hfind, if_pos (beqS he)] at hg'
      cases hg'
    · rcases h3.2.2.2.2.2 with ⟨h4, _⟩ | ⟨_, h4, _⟩
      · rw [h4] at hp; cases hp
      · obtain ⟨g', hg', _⟩ := h4 p hp
        rw [hfind, if_pos (beqS he)] at hg'
        cases hg'
  · intro hn
    refine ⟨fun s hsm => (strReq_congr fun n hnm => ?_).2 (hs.1 s hsm), hs.2⟩
    rw [hfind, if_neg]
    intro he
    refine hn ⟨s, hsm, ?_⟩
    rcases hnm with hm | ⟨p, hp, rfl⟩
    · exact .inl ⟨n, hm, beqS he⟩
    · exact .inr ⟨p, hp, beqS he⟩
end Go.Proofs.Ytgknameejoalnaa
