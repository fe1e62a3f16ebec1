/- Texts Clo, Mak, Dpl, Din, Open, Dps, Str. -/
import Derived.Test.YtgpabckipmhobaaK01
import Derived.Test.YtgpabckipmhobaaK02
import Derived.WalkSpells
import Derived.Test.YtgpabckipmhobaaK00
import Derived.Laws.MakeOwn
import Derived.ProofKit
import Derived.Deep.Slices
namespace Go.Proofs.Ytgpabckipmhobaa
open Go.RowKit

attribute [local irreducible] wpQuiet wpList Code.wp Calls

instance ot_ints : OneTy Try.prog 31 := ⟨⟨_, Try.underlying31, rfl⟩, by kernel_rfl⟩
theorem el_int : ElTy Try.prog 31 3 1 8 := ElTy.mk' (.int .i64 0) Try.underlying31 (by kernel_rfl) rfl

/-- The call gives a slice of these numbers, in new memory. -/
def GivesInts (src : List Int) (w : World) (e : Ending) (w' : World) : Prop :=
  ∃ v X, e = .returned v ∧ Sl 1 src.length v (src.flatMap intCells) X ∧ Own [] w X w'
theorem own_ints {P : Program} {D : List Nat} {W w : World} {L : List (Nat × List Value)} {f : FuncId} {args : Array Value} {src : List Int} {R : Ending → World → Prop} (hS : Own D W L w) (hc : Calls P f args w (GivesInts src w))
    (h : ∀ y c X w', Sl 1 src.length (.slice y src.length c) (src.flatMap intCells) X → RowAt w' y 1 intCells src → Own D W (X ++ L) w' → R (.returned (.slice y src.length c)) w') : Calls P f args w R :=
  hc.mono fun _ _ ⟨v, X, he, hX, hO⟩ => by
    obtain ⟨y, c, rfl, hr, _, _⟩ := Sl.rowAt hO (fun x hx => hx) hX (fun _ => rfl) (by decide)
    rw [he]
    exact h y c X _ hX hr (hS.join hO)

set_option maxHeartbeats 4000000 in
set_option maxRecDepth 100000 in
theorem clone_nil (c : Nat) (w : World) : Calls Try.prog 50 #[.slice none 0 c] w (GivesInts [] w) := by
  have hnil := fun (w : World) (a : Option Addr) (n c : Nat) => Lib.run_eql_slice_nil (P := Try.prog) w 31 3 a n c 0 0 Try.underlying31
  go_enter Try.func50, Try.ntmps50
  have hS := own_start w
  go_wp2_with (first | (refine own_unguard (by rfl) ?_) | (refine w_ld rfl _ rfl (by rfl) (by first | exact rd_1 (by repeat constructor) (by first | rfl | assumption) | exact rd_w (by repeat constructor) (by rfl) | exact rd_o (by assumption) (by rfl) (by first | exact nmn | assumption | simp) | exact rd_h (by assumption) (by rfl) (by first | exact nmn | assumption | simp) | exact rd_1o (by assumption) (by first | exact nmn | assumption | simp) | exact rd_1h (by assumption) (by first | rfl | assumption) (by first | exact nmn | assumption | simp)) hS ?_) | (refine own_box rfl _ _ rfl (by rfl) hS ?_; clear hS; (try clear ww); intro bb ww hS) | (refine w_s1 rfl _ _ rfl (by rfl) (by repeat constructor) (by first | exact .c | exact .t rfl) (by rfl) (by repeat constructor) hS ?_; clear hS; (try clear ww); intro ww hS))
  go_ret
  exact ⟨_, [], rfl, sl_nil 1, hS⟩

theorem clone_cells {W w : World} {L : List (Nat × List Value)} {a : Addr} {src : List Int} (hS : Own [] W L w) (hr : RowAt W (some a) 1 intCells src) : ∀ j u, (src.flatMap intCells)[j]? = some u → w.cell? (a.add j) = some u := by
  intro j u hj
  by_cases h : src = []
  · subst h; simp at hj
  · obtain ⟨b, o, hx, hr2⟩ := (hr.own hS).flat (fun _ _ => rfl) h
    obtain rfl : a = ⟨b, o, none⟩ := by simpa using hx
    rw [Addr.add_lit]
    exact hr2 j u hj
theorem clone_one (src : List Int) : ∀ u ∈ src.flatMap intCells, u.oneCell' = true := by
  intro u hu
  obtain ⟨n, _, h⟩ := List.mem_flatMap.1 hu
  simp [intCells] at h
  subst h; rfl

set_option maxHeartbeats 4000000 in
set_option maxRecDepth 100000 in
theorem clone_some (a : Addr) (src : List Int) (c : Nat) (w : World) (hr : RowAt w (some a) 1 intCells src) (hl : src.length ≤ 17592186044416) : Calls Try.prog 50 #[.slice (some a) src.length c] w (GivesInts src w) := by
  have HR := Lib.hid hr
  clear hr
  have hnil := fun (w : World) (a : Option Addr) (n c : Nat) => Lib.run_eql_slice_nil (P := Try.prog) w 31 3 a n c 0 0 Try.underlying31
  go_enter Try.func50, Try.ntmps50
  have hS := own_start w
  go_wp2_with (first | (refine own_unguard (by rfl) ?_) | (refine own_buildEmpty rfl 31 3 rfl hS Try.underlying31 (by kernel_rfl) ?_; clear hS; (try clear ww); intro bb ww hS) | (refine own_append rfl _ _ _ rfl (size := 1) (n := 0) (xs := []) (X := []) ⟨rfl, .inl ⟨_, .inr ⟨bb, 0, rfl⟩, rfl, rfl, rfl⟩⟩ rfl (news := src.flatMap intCells) rfl (show Own [] w ([(bb, [])] ++ []) ww from hS) (clone_cells hS HR.out) (flat_len (f := intCells) (size := 1) (fun _ => rfl) src) (clone_one src) el_int (by decide) (by simp only [maxLen]; omega) (by omega) ?_; clear hS; intro v1 X1 ww hS hX) | (refine w_ld rfl _ rfl (by rfl) (by first | exact rd_1 (by repeat constructor) (by first | rfl | assumption) | exact rd_w (by repeat constructor) (by rfl) | exact rd_o (by assumption) (by rfl) (by first | exact nmn | assumption | simp) | exact rd_h (by assumption) (by rfl) (by first | exact nmn | assumption | simp) | exact rd_1o (by assumption) (by first | exact nmn | assumption | simp) | exact rd_1h (by assumption) (by first | rfl | assumption) (by first | exact nmn | assumption | simp)) hS ?_) | (refine own_box rfl _ _ rfl (by rfl) hS ?_; clear hS; (try clear ww); intro bb ww hS) | (refine w_s1 rfl _ _ rfl (by rfl) (by repeat constructor) (by first | exact .c | exact .t rfl) (by rfl) (by repeat constructor) hS ?_; clear hS; (try clear ww); intro ww hS))
  go_ret
  exact ⟨_, _, rfl, by simpa using hX, hS.forget (by simp)⟩

theorem clone_calls (x : Option Addr) (src : List Int) (c : Nat) (w : World) (hr : RowAt w x 1 intCells src) (hl : src.length ≤ 17592186044416) : Calls Try.prog 50 #[.slice x src.length c] w (GivesInts src w) := by
  cases x with
  | some a => exact clone_some a src c w hr hl
  | none =>
    rcases hr with rfl | ⟨_, _, h, _⟩
    · exact clone_nil c w
    · cases h

end Go.Proofs.Ytgpabckipmhobaa
namespace Go.Proofs.Ytgpabckipmhobaa
open Go.RowKit

section
variable {P : Program} {rest : List Oper} {ops' : Array Oper} {o : Oper} {a : Act} {Q : Exit → Act → World → Prop} {D : List Nat} {W w : World} {L : List (Nat × List Value)}

/-- A new slice of n elements. -/
theorem own_make (hgd : o.guard = none) (l c : Operand) (t : TypeId) (ho : o.op = .makeSlice t l c) {e : TypeId} {size bytes n : Nat} (T : ElTy P t e size bytes) (hl : a.eval l = .int .i64 (n : Int)) (hc : a.eval c = .int .i64 (n : Int)) (hS : Own D W L w)
    (hb : n * bytes ≤ 140737488355328) (hn : n ≤ 140737488355328)
    (h : ∀ b cs w', Own D W ((b, cs) :: L) w' → cs.length = n * size → wpList P ops' Q rest (a.put o.dst (.slice (some ⟨b, 0, none⟩) n n)) w') : wpList P ops' Q (o :: rest) a w := by
  obtain ⟨i, z, hi, hz, hsz, hby, hzz⟩ := T.inf
  subst hsz hby
  have hmul : (i.bytes : Int) * (n : Int) ≤ 281474976710656 := by
    have h1 : i.bytes * n ≤ 281474976710656 := by rw [Nat.mul_comm]; omega
    rw [← Int.natCast_mul]
    omega
  have hrun := run_make (P := P) (w := w) t e i z T.und hi hz .i64 .i64 (n : Int) (n : Int) (by omega) (Int.le_refl _) hmul (by omega)
  simp only [Int.toNat_natCast] at hrun
  refine wpList_plain hgd fun K hK => ?_
  unfold Oper.wp execOp
  simp only [ho, hl, hc, Sem.run_bind, hrun, Sem.run_pure, Result.andThen_ok]
  exact hK _ _ (h w.heap.size (madeCells z.cells (n * i.size)).toList _ (by simpa using hS.new (madeCells z.cells (n * i.size)).toList e) (by simp [size_madeCells]))

/-- All elements go over. -/
theorem own_copy (hgd : o.guard = none) (d s : Operand) (dT sT : TypeId) (ho : o.op = .call { callee := .builtin .copy, args := #[d, s], argTypes := #[dT, sT] }) {e : TypeId} {size bytes n c1 c2 k b : Nat} (T : ElTy P dT e size bytes)
    {ad : Addr} {cur news : List Value} (hd : a.eval d = .slice (some ⟨b, 0, none⟩) n c1) (hs : a.eval s = .slice (some ad) n c2) (hS : Own D W L w) (hm : At k L b cur) (hn : news.length = n * size)
    (hsrc : ∀ j v, news[j]? = some v → w.cell? (ad.add j) = some v) (hfit : news.length ≤ cur.length) (h1 : ∀ v ∈ news, v.oneCell' = true)
    (h : ∀ w', Own D W (L.set k (b, setL cur 0 news)) w' → wpList P ops' Q rest (a.put o.dst (.int .i64 (n : Int))) w') : wpList P ops' Q (o :: rest) a w := by
  obtain ⟨i, z, hi, hz, hsz, hby, hzz⟩ := T.inf
  subst hsz
  have hb := hS.get hm
  have hl := run_loadCells_list (P := P) w ad news hsrc
  have hst := run_storeCells_cells (P := P) b 0 news 0 w (fun j hj => by
    rw [hb.cell, List.getElem?_eq_getElem (by omega)]; rfl) (fun j _ => hb.frozen _) h1
  rw [hn] at hl
  have hrun : (Builtin.copy_ #[dT, sT] o.type #[.slice (some ⟨b, 0, none⟩) n c1, .slice (some ad) n c2]).run P w = .ok (goInt n) (w.setCells b 0 news) := by
    simp [Builtin.copy_, run_underlying T.und, Builtin.lenOf, Builtin.firstCells, sizeOf, typeInfo, hi, hl, hst]
  refine wpList_plain hgd fun K hK => ?_
  unfold Oper.wp
  simp [execOp, ho, resolve, invoke, builtin, hd, hs, hrun, Result.andThen]
  exact hK _ _ (h _ (hS.setCells hm 0 news))
theorem own_copy0 (hgd : o.guard = none) (d s : Operand) (dT sT : TypeId) (ho : o.op = .call { callee := .builtin .copy, args := #[d, s], argTypes := #[dT, sT] }) {e : TypeId} {size bytes c1 c2 : Nat} (T : ElTy P dT e size bytes)
    {x y : Option Addr} (hd : a.eval d = .slice x 0 c1) (hs : a.eval s = .slice y 0 c2)
    (h : wpList P ops' Q rest (a.put o.dst (.int .i64 0)) w) : wpList P ops' Q (o :: rest) a w := by
  obtain ⟨i, z, hi, hz, hsz, hby, hzz⟩ := T.inf
  have hrun : (Builtin.copy_ #[dT, sT] o.type #[.slice x 0 c1, .slice y 0 c2]).run P w = .ok (goInt 0) w := by
    cases x <;> cases y <;> simp [Builtin.copy_, run_underlying T.und, Builtin.lenOf, Builtin.firstCells, sizeOf, typeInfo, hi, loadCells, loadCellsFrom, storeCells]
  refine wpList_plain hgd fun K hK => ?_
  unfold Oper.wp
  simp [execOp, ho, resolve, invoke, builtin, hd, hs, hrun, Result.andThen]
  exact hK _ _ h
end
end Go.Proofs.Ytgpabckipmhobaa
namespace Go.Proofs.Ytgpabckipmhobaa
open Go.RowKit

/-- Lists of kids lie where P says or at the head of a block of K; sources in old memory or in a block of S. -/
def koK (P : Nat → Prop) (K : List Nat) (k o : Nat) : Prop := P k ∨ (k ∈ K ∧ o = 0)
def soK (P : Nat → Prop) (S : List Nat) (k : Nat) : Prop := P k ∨ k ∈ S

theorem rangeAt_eq {w : World} {b o : Nat} {cs cs' : List Value} (h : w.rangeAt b o cs) (h' : w.rangeAt b o cs') (hl : cs.length = cs'.length) : cs = cs' := by
  apply List.ext_getElem hl
  intro i h1 h2
  have e1 := h i _ (List.getElem?_eq_getElem h1)
  have e2 := h' i _ (List.getElem?_eq_getElem h2)
  rw [e1] at e2
  exact Option.some.inj e2
theorem rowInts_eq {w : World} {x : Option Addr} {l l' : List Int} (h : RowAt w x 1 intCells l) (h' : RowAt w x 1 intCells l') (hl : l.length = l'.length) : l = l' := by
  apply List.ext_getElem hl
  intro i h1 h2
  obtain ⟨b, o, hx, e1⟩ := h.get (List.getElem?_eq_getElem h1)
  obtain ⟨b', o', hx', e2⟩ := h'.get (List.getElem?_eq_getElem h2)
  rw [hx] at hx'
  have hbo : b = b' ∧ o = o' := by simpa using hx'
  obtain ⟨rfl, rfl⟩ := hbo
  have := rangeAt_eq e1 e2 rfl
  simpa [intCells] using this

theorem rep_turn {P : Nat → Prop} {K K' S S' : List Nat} {w w' : World} {k0 o0 : Nat} {c0 c1 : List Value} (hK : ∀ k ∈ K, k ∈ K') (hS : ∀ k ∈ S, k ∈ S') (hk0 : ¬ P k0) (hk0S : k0 ∉ S) (ho : o0 % 11 = 0)
    (h1 : ∀ (k i : Nat) (v : Value), (P k ∨ k ∈ K ∨ k ∈ S) → ¬ (k = k0 ∧ o0 ≤ i ∧ i < o0 + 11) → w.cell? ⟨k, i, none⟩ = some v → w'.cell? ⟨k, i, none⟩ = some v)
    (h2 : w.rangeAt k0 o0 c0) (h2' : w'.rangeAt k0 o0 c1) {a : Hd} {kx kx' sx sx' : Option Addr} {kc kc' sc sc' len : Nat}
    (e0 : c0 = a.cells (.slice kx len kc) (.slice sx a.src.length sc)) (e1 : c1 = a.cells (.slice kx' len kc') (.slice sx' a.src.length sc')) (hsrc : RowAt w sx 1 intCells a.src)
    (h3 : ∀ i, i < len → ∀ k o, kx = some ⟨k, o, none⟩ → ∀ css : List Value, css.length = 11 → w.rangeAt k (o + i * 11) css → ∃ k', kx' = some ⟨k', 0, none⟩ ∧ k' ∈ K' ∧ w'.rangeAt k' (0 + i * 11) css)
    (h4 : RowAt w' sx' 1 intCells a.src) (h5 : a.src ≠ [] → ∀ k o, sx' = some ⟨k, o, none⟩ → soK P S' k) :
    ∀ (n : Nat) (b : Bx n) (cs : List Value), RepG (koK P K) (soK P S) w n b cs → RepG (koK P K') (soK P S') w' n b cs ∧ (cs = c0 → RepG (koK P K') (soK P S') w' n b c1) := by
  intro n
  induction n with
  | zero => intro b cs h; exact h.elim
  | succ n ih =>
    rintro b cs ⟨kx2, kc2, sx2, sc2, hcs, hok, hlen, hrow, hso, hkids⟩
    have hrow' : RowAt w' sx2 1 intCells b.1.src := by
      rcases hrow with h | ⟨k, o, hx, hr⟩
      · exact .inl h
      · by_cases hne : b.1.src = []
        · exact .inl hne
        · have hk := hso hne k o hx
          refine .inr ⟨k, o, hx, fun i z hi j v hj => h1 k _ v ?_ ?_ (hr i z hi j v hj)⟩
          · rcases hk with h | h
            · exact .inl h
            · exact .inr (.inr h)
          · rintro ⟨rfl, _⟩
            rcases hk with h | h
            · exact hk0 h
            · exact hk0S h
    refine ⟨⟨kx2, kc2, sx2, sc2, hcs, hok, hlen, hrow', fun hne k o hx => ?_, fun i kid hi => ?_⟩, fun he => ?_⟩
    · rcases hso hne k o hx with h | h
      · exact .inl h
      · exact .inr (hS _ h)
    · obtain ⟨k, o, css, ek, hko, hr, hrep⟩ := hkids i kid hi
      have hko' : koK P K' k o := by
        rcases hko with h | ⟨h, h'⟩
        · exact .inl h
        · exact .inr ⟨hK _ h, h'⟩
      have hcl := hrep.len
      by_cases hP : k = k0 ∧ o + i * 11 = o0
      · obtain ⟨rfl, rfl⟩ := hP
        have hc : css = c0 := rangeAt_eq hr h2 (by rw [hcl, e0]; rfl)
        exact ⟨k, o, c1, ek, hko', h2', (ih kid css hrep).2 hc⟩
      · refine ⟨k, o, css, ek, hko', fun j v hj => h1 k _ v ?_ ?_ (hr j v hj), (ih kid css hrep).1⟩
        · rcases hko with h | ⟨h, _⟩
          · exact .inl h
          · exact .inr (.inl h)
        · rintro ⟨rfl, h6, h7⟩
          have hj11 : j < 11 := by rw [← hcl]; exact (List.getElem?_eq_some_iff.1 hj).1
          rcases hko with h | ⟨_, h⟩
          · exact absurd h hk0
          · exact hP ⟨rfl, by omega⟩
    · obtain ⟨⟨kind, name, size, bw, bh, bd, bx, by_, of, src⟩, kids⟩ := b
      obtain ⟨kind', name', size', bw', bh', bd', bx', by', of', src'⟩ := a
      have hq := hcs.symm.trans (he.trans e0)
      simp only [Hd.cells, List.cons.injEq, Value.int.injEq, Value.string.injEq, Value.slice.injEq, true_and, and_true] at hq
      obtain ⟨rfl, rfl, rfl, rfl, rfl, rfl, rfl, rfl, ⟨rfl, hl, rfl⟩, rfl, ⟨rfl, hsl, rfl⟩⟩ := hq
      have hsq : src = src' := rowInts_eq hrow hsrc hsl
      subst hsq
      refine ⟨kx', kc', sx', sc', ?_, hok, hlen, h4, h5, fun i kid hi => ?_⟩
      · rw [e1]; simp only [hl]
      · obtain ⟨k, o, css, ek, hko, hr, hrep⟩ := hkids i kid hi
        have hil : i < len := by rw [← hl]; exact (List.getElem?_eq_some_iff.1 hi).1
        obtain ⟨k', ek', hk', hr'⟩ := h3 i hil k o ek css hrep.len hr
        exact ⟨k', 0, css, ek', .inr ⟨hk', rfl⟩, hr', (ih kid css hrep).1⟩

/-- What was there when the call began lies in old memory. -/
theorem rep_old {W : World} : ∀ (n : Nat) (b : Bx n) (cs : List Value), Rep W n b cs → RepG (fun k _ => k < W.heap.size) (fun k => k < W.heap.size) W n b cs := by
  intro n
  induction n with
  | zero => intro b cs h; exact h
  | succ n ih =>
    rintro b cs ⟨kx, kc, sx, sc, hcs, hok, hlen, hrow, _, hkids⟩
    refine ⟨kx, kc, sx, sc, hcs, hok, hlen, hrow, fun hne k o hx => ?_, fun i kid hi => ?_⟩
    · obtain ⟨z, hz⟩ : ∃ z, b.1.src[0]? = some z := by
        cases hb : b.1.src with
        | nil => exact absurd hb hne
        | cons z l => exact ⟨z, rfl⟩
      obtain ⟨b', o', hx', hr⟩ := hrow.get hz
      rw [hx] at hx'
      have hbo : k = b' ∧ o = o' := by simpa using hx'
      obtain ⟨rfl, rfl⟩ := hbo
      exact World.block_lt_of_cell? W _ (hr 0 _ rfl)
    · obtain ⟨k, o, css, ek, _, hr, hrep⟩ := hkids i kid hi
      obtain ⟨v, hv⟩ : ∃ v, css[0]? = some v := ⟨css[0]'(by rw [hrep.len]; omega), List.getElem?_eq_getElem _⟩
      exact ⟨k, o, css, ek, World.block_lt_of_cell? W _ (hr 0 v hv), hr, ih kid css hrep⟩
end Go.Proofs.Ytgpabckipmhobaa
namespace Go.Proofs.Ytgpabckipmhobaa
open Go.RowKit

/-- No list is too long. -/
def Small : (n : Nat) → Bx n → Prop
  | 0, _ => True
  | n + 1, b => b.1.src.length ≤ 17592186044416 ∧ b.2.length ≤ 1000000 ∧ ∀ k ∈ b.2, Small n k
def ptr (p : Nat × Nat) : List Value := [.pointer (some ⟨p.1, p.2, none⟩)]
/-- An entry of the stack: a place among the blocks K that holds a box as it was; what it weighs. -/
def Pend (W : World) (KL : List (Nat × List Value)) (p : (Nat × Nat) × Nat) : Prop :=
  ∃ cs m b, (p.1.1, cs) ∈ KL ∧ p.1.2 % 11 = 0 ∧ p.1.2 + 11 ≤ cs.length ∧ Rep W m b ((cs.drop p.1.2).take 11) ∧ Small m b ∧ bCount m b = p.2
/-- Where the loop stands: the blocks K of boxes, the blocks S of sources, the stack. -/
structure DeepInv (P : Nat → Prop) (W : World) (N : Nat) (b : Bx N) (rb rv : Nat) (zs : List Value) (t : Nat) (v : Value) (w : World) (KL SL X : List (Nat × List Value)) (ps : List ((Nat × Nat) × Nat)) : Prop where
  own : Own [] W ((((rv, zs) :: KL) ++ SL) ++ X) w
  stack : Sl 1 ps.length v ((ps.map (·.1)).flatMap ptr) X
  nodup : (ps.map (·.1)).Nodup
  weight : (ps.map (·.2)).sum = t
  bound : t ≤ 1000000
  pend : ∀ p ∈ ps, Pend W KL p
  root : ∃ cs0, (rb, cs0) ∈ KL ∧ cs0.length = 11 ∧ RepG (koK P (KL.map (·.1))) (soK P (SL.map (·.1))) w N b cs0

/-- The least number of which something is so. -/
theorem least_ex {R : Nat → Prop} (h : ∃ k, R k) : ∃ k, R k ∧ ∀ j, R j → k ≤ j := by
  obtain ⟨k, hk⟩ := h
  induction k using Nat.strongRecOn with
  | _ k ih =>
    by_cases hj : ∃ j, j < k ∧ R j
    · obtain ⟨j, hlt, hr⟩ := hj
      exact ih j hlt hr
    · exact ⟨k, hk, fun j hr => by
        by_cases hlt : j < k
        · exact absurd ⟨j, hlt, hr⟩ hj
        · omega⟩
open Classical in
noncomputable def least (R : Nat → Prop) : Nat := if h : ∃ k, R k then (least_ex h).choose else 0
theorem least_spec {R : Nat → Prop} (h : ∃ k, R k) : R (least R) := by
  unfold least
  rw [dif_pos h]
  exact (least_ex h).choose_spec.1
theorem least_le {R : Nat → Prop} {j : Nat} (h : R j) : least R ≤ j := by
  unfold least
  rw [dif_pos ⟨j, h⟩]
  exact (least_ex ⟨j, h⟩).choose_spec.2 j h

theorem deep_start {P : Nat → Prop} {W w : World} {N : Nat} {b : Bx N} {rb rv bb : Nat} {zs cs : List Value} (hr0 : RepG (fun k _ => P k) P W N b cs) (hs : Small N b) (hc : bCount N b ≤ 1000000) (hS : Own [] W [(bb, [.pointer (some ⟨rb, 0, none⟩)]), (rv, zs), (rb, cs)] w) :
    DeepInv P W N b rb rv zs (bCount N b) (.slice (some ⟨bb, 0, none⟩) 1 1) w [(rb, cs)] [] [(bb, [.pointer (some ⟨rb, 0, none⟩)])] [((rb, 0), bCount N b)] where
  own := by
    refine hS.perm ?_
    simpa using (List.perm_append_comm (l₁ := [(bb, [.pointer (some ⟨rb, 0, none⟩)])]) (l₂ := [(rv, zs), (rb, cs)]))
  stack := ⟨rfl, .inr ⟨bb, 1, [], rfl, Nat.le_refl _, by simp [maxLen], rfl, rfl⟩⟩
  nodup := by simp
  weight := by simp
  bound := hc
  pend := fun p hp => by
    have hr : Rep W N b cs := hr0.mono (fun _ _ _ => trivial) (fun _ _ => trivial)
    obtain rfl : p = ((rb, 0), bCount N b) := by simpa using hp
    have hl := hr.len
    refine ⟨cs, N, b, by simp, rfl, by simp; omega, ?_, hs, rfl⟩
    rw [List.drop_zero, List.take_of_length_le (by omega)]
    exact hr
  root := ⟨cs, by simp, hr0.len, RepG.step hS.below N b cs (hr0.mono (fun _ _ h => .inl h) (fun _ h => .inl h))⟩

/-- The top of the stack. -/
structure Top (W : World) (rv : Nat) (zs : List Value) (v : Value) (w : World) (KL SL : List (Nat × List Value)) (rest : List ((Nat × Nat) × Nat)) (k0 o0 wt : Nat) (xb c : Nat) (ys cs : List Value) (K1 K2 : List (Nat × List Value)) (m : Nat) (a : Hd) (kids : List (Bx m)) (kx : Option Addr) (kc : Nat) (sx : Option Addr) (sc : Nat) : Prop where
  v : v = .slice (some ⟨xb, 0, none⟩) (rest.length + 1) c
  room : rest.length + 1 ≤ c
  cmax : c ≤ maxLen
  top : ys[rest.length]? = some (.pointer (some ⟨k0, o0, none⟩))
  split : KL = K1 ++ (k0, cs) :: K2
  own : Own [] W ((k0, cs) :: (xb, ys) :: (((rv, zs) :: (K1 ++ K2)) ++ SL)) w
  len : o0 + 11 ≤ cs.length
  mod : o0 % 11 = 0
  cells : (cs.drop o0).take 11 = a.cells (.slice kx kids.length kc) (.slice sx a.src.length sc)
  rep : Rep W (m + 1) (a, kids) (a.cells (.slice kx kids.length kc) (.slice sx a.src.length sc))
  srcs : RowAt W sx 1 intCells a.src
  small : Small (m + 1) (a, kids)
  count : bCount (m + 1) (a, kids) = wt
  stack : Sl 1 rest.length (.slice (some ⟨xb, 0, none⟩) rest.length c) ((rest.map (·.1)).flatMap ptr) [(xb, ys)]

theorem deep_pop {P : Nat → Prop} {W w : World} {N : Nat} {b : Bx N} {rb rv : Nat} {zs : List Value} {t : Nat} {v : Value} {KL SL X : List (Nat × List Value)} {rest : List ((Nat × Nat) × Nat)} {k0 o0 wt : Nat} (h : DeepInv P W N b rb rv zs t v w KL SL X (rest ++ [((k0, o0), wt)])) :
    ∃ xb c ys cs K1 K2 m a kids kx kc sx sc, X = [(xb, ys)] ∧ Top W rv zs v w KL SL rest k0 o0 wt xb c ys cs K1 K2 m a kids kx kc sx sc := by
  obtain ⟨hxl, hst⟩ := h.stack
  rcases hst with ⟨_, _, _, h0, _⟩ | ⟨xb, c, junk, rfl, hnc, hcm, hjl, rfl⟩
  · simp at h0
  obtain ⟨cs, m, bp, hmem, hmod, hlen, hrep, hsm, hct⟩ := h.pend ((k0, o0), wt) (by simp)
  obtain ⟨K1, K2, hsplit⟩ := List.append_of_mem hmem
  cases m with
  | zero => exact hrep.elim
  | succ m =>
    obtain ⟨a, kids⟩ := bp
    have hrep0 := hrep
    obtain ⟨kx, kc, sx, sc, hcs, hok, hkl, hrow, hso, hkids⟩ := hrep
    simp only at hcs
    have hn : (rest ++ [((k0, o0), wt)]).length = rest.length + 1 := by simp
    rw [hn] at hnc
    have hpt : ((rest ++ [((k0, o0), wt)]).map (·.1)).flatMap ptr = (rest.map (·.1)).flatMap ptr ++ [.pointer (some ⟨k0, o0, none⟩)] := by simp [ptr]
    have hrl : ((rest.map (·.1)).flatMap ptr).length = rest.length := by
      rw [flat_len (f := ptr) (size := 1) (fun _ => rfl)]; simp
    refine ⟨xb, c, _, cs, K1, K2, m, a, kids, kx, kc, sx, sc, rfl, ?_⟩
    refine { v := by rw [hn], room := hnc, cmax := hcm, top := ?_, split := hsplit, own := ?_, len := hlen, mod := hmod, cells := hcs, rep := by rw [← hcs]; exact hrep0, srcs := hrow, small := hsm, count := hct, stack := ?_ }
    · rw [hpt, List.append_assoc, List.getElem?_append_right (by omega), hrl, Nat.sub_self]; rfl
    · refine h.own.perm ?_
      rw [hsplit]
      have e1 : ((rv, zs) :: (K1 ++ (k0, cs) :: K2)).Perm ((k0, cs) :: ((rv, zs) :: (K1 ++ K2))) := by
        have h1 : ((rv, zs) :: (K1 ++ (k0, cs) :: K2)).Perm ((rv, zs) :: ((k0, cs) :: (K1 ++ K2))) := List.Perm.cons _ List.perm_middle
        exact h1.trans (List.Perm.swap _ _ _)
      have e2 := (e1.append_right SL).append_right [(xb, ((rest ++ [((k0, o0), wt)]).map (·.1)).flatMap ptr ++ junk)]
      refine e2.trans ?_
      simp only [List.cons_append]
      refine List.Perm.cons _ ?_
      have := List.perm_append_comm (l₁ := ((rv, zs) :: (K1 ++ K2 ++ SL))) (l₂ := [(xb, ((rest ++ [((k0, o0), wt)]).map (·.1)).flatMap ptr ++ junk)])
      simpa using this
    · refine ⟨by rw [hrl]; omega, .inr ⟨xb, c, [.pointer (some ⟨k0, o0, none⟩)] ++ junk, rfl, by omega, hcm, ?_, ?_⟩⟩
      · rw [← hjl, hpt]; simp
      · rw [hpt]; simp

theorem deep_len {P : Nat → Prop} {W w : World} {N : Nat} {b : Bx N} {rb rv : Nat} {zs : List Value} {t : Nat} {v : Value} {KL SL X : List (Nat × List Value)} {ps : List ((Nat × Nat) × Nat)} (h : DeepInv P W N b rb rv zs t v w KL SL X ps) : ps.length ≤ 1000000 := by
  have key : ∀ l : List ((Nat × Nat) × Nat), (∀ p ∈ l, 1 ≤ p.2) → l.length ≤ (l.map (·.2)).sum := by
    intro l
    induction l with
    | nil => intro _; simp
    | cons p l ih =>
      intro hp
      have h1 := hp p (by simp)
      have h2 := ih fun q hq => hp q (by simp [hq])
      simp only [List.length_cons, List.map_cons, List.sum_cons]
      omega
  have h1 := key ps fun p hp => by
    obtain ⟨cs, m, b, _, _, _, hr, _, hc⟩ := h.pend p hp
    cases m with
    | zero => exact hr.elim
    | succ m => rw [← hc]; simp [bCount]
  rw [h.weight] at h1
  exact Nat.le_trans h1 h.bound
theorem top_cell {cs : List Value} {o0 j : Nat} {a : Hd} {k s v : Value} (h : (cs.drop o0).take 11 = a.cells k s) (hj : (a.cells k s)[j]? = some v) : cs[o0 + j]? = some v := by
  rw [← h, List.getElem?_take] at hj
  split at hj
  · rw [List.getElem?_drop] at hj; exact hj
  · cases hj
end Go.Proofs.Ytgpabckipmhobaa
namespace Go.Proofs.Ytgpabckipmhobaa
open Go.RowKit Go.ChangeShapes Go.WideShapes Go.Deep

section
variable {H : Type} {enc : TypeId × Value → H} {P : Program} {w : World}

/-- A list of things of which each place has one. -/
theorem list_of {α : Type} (R : Nat → α → Prop) (n : Nat) (h : ∀ i, i < n → ∃ x, R i x) : ∃ l : List α, l.length = n ∧ ∀ i x, l[i]? = some x → R i x := by
  induction n with
  | zero => exact ⟨[], rfl, fun i x hx => by simp at hx⟩
  | succ n ih =>
    obtain ⟨l, hl, hr⟩ := ih fun i hi => h i (by omega)
    obtain ⟨x, hx⟩ := h n (by omega)
    refine ⟨l ++ [x], by simp [hl], fun i y hy => ?_⟩
    by_cases hi : i < n
    · rw [List.getElem?_append_left (by omega)] at hy; exact hr i y hy
    · have hin : i = n := by
        have : i < (l ++ [x]).length := (List.getElem?_eq_some_iff.1 hy).1
        simp at this; omega
      subst hin
      rw [List.getElem?_append_right (by omega), hl] at hy
      simp at hy
      subst hy; exact hx

theorem add_plain (b o z : Nat) : (⟨b, o, none⟩ : Addr).add z = ⟨b, o + z, none⟩ := by
  unfold Addr.add
  split
  · rename_i h; subst h; rfl
  · rfl

/-- A slice that reads: empty, or a row of elements each of which reads. -/
theorem read_slice {t e : TypeId} {fuel : Nat} {cs : List Value} {x : DataW H × List MemPlace} (ht : P.underlying t = some (.slice e)) (hC : 0 < P.cellsOf e)
    (h : DataW.trod enc P w 0 (fun _ => true) true fuel t cs = some x) :
    (∃ y c, cs = [.slice y 0 c]) ∨ ∃ (b o len c n : Nat), 0 < len ∧ cs = [.slice (some ⟨b, o, none⟩) len c] ∧ len ≤ c ∧ c ≤ maxLen ∧
      ∀ i, i < len → ∃ cs' y, cs'.length = P.cellsOf e ∧ (∀ j, j < P.cellsOf e → w.cell? ⟨b, o + i * P.cellsOf e + j, none⟩ = cs'[j]?) ∧ DataW.trod enc P w 0 (fun _ => true) true n e cs' = some y := by
  rcases open_slice ht h with ⟨rfl, _⟩ | ⟨a, len, cap, m, n, D, Pl, rfl, _, hl, hm, hmm, _, hi⟩
  · exact .inl ⟨_, _, rfl⟩
  · by_cases h0 : len = 0
    · subst h0; exact .inl ⟨_, _, rfl⟩
    · have hlm : len ≤ m := by rw [hmm]; simp; omega
      obtain ⟨cs0, hc0, _⟩ := hi 0 (by omega)
      obtain ⟨_, hl0, hat0⟩ := World.cells?_some hc0
      obtain ⟨b, o, s⟩ := a
      have hs : s = none := by
        have h1 := hat0 0 hC
        rw [List.getElem?_eq_getElem (by omega)] at h1
        cases s with
        | none => rfl
        | some z => simp [World.cell?, Addr.add] at h1; split at h1 <;> simp at h1
      subst hs
      refine .inr ⟨b, o, len, cap, n, by omega, rfl, hl, hm, fun i hlt => ?_⟩
      obtain ⟨cs', hc', ht'⟩ := hi i (by omega)
      obtain ⟨_, hl', hat'⟩ := World.cells?_some hc'
      exact ⟨cs', _, hl', fun j hj => by have := hat' j hj; rw [add_plain, add_plain] at this; exact this, ht'⟩

/-- The fields of a struct that reads. -/
theorem read_struct {t : TypeId} {fs : Array Field} {fuel : Nat} {cs : List Value} {x : DataW H × List MemPlace} (ht : P.underlying t = some (.struct fs)) (h : DataW.trod enc P w 0 (fun _ => true) true fuel t cs = some x) :
    cs.length = P.cellsOf t ∧ ∃ n, ∀ (i : Nat) (f : Field), fs[i]? = some f → ∃ y, DataW.trod enc P w 0 (fun _ => true) true n f.type ((cs.drop f.offset).take (P.cellsOf f.type)) = some y := by
  obtain ⟨xs, n, _, _, hl, hx, hf⟩ := DataW.trod_struct ht h
  refine ⟨hl, n, fun i f hi => ?_⟩
  have hlt : i < xs.length := by rw [hx]; exact (Array.getElem?_eq_some_iff.1 hi).1
  exact ⟨xs[i], by rw [hf i f hi, List.getElem?_eq_getElem hlt]⟩

/-- A field of one cell. -/
theorem take_one {cs : List Value} {o : Nat} {v : Value} (h : (cs.drop o).take 1 = [v]) : cs[o]? = some v := by
  have h1 : ((cs.drop o).take 1)[0]? = some v := by rw [h]; rfl
  rw [List.getElem?_take] at h1
  simpa using h1

theorem i64_of {n : Int} (h : (Lit.int .i64 n).wf = true) : I64 n := by
  simp [Lit.wf, IntKind.min, IntKind.max, IntKind.signed, IntKind.bits] at h
  unfold I64; omega
end
end Go.Proofs.Ytgpabckipmhobaa
namespace Go.Proofs.Ytgpabckipmhobaa
open Go.RowKit

theorem window_set (cs : List Value) (o j : Nat) (v : Value) : ((cs.set (o + j) v).drop o).take 11 = ((cs.drop o).take 11).set j v := by
  rw [List.drop_set, if_neg (by omega), List.take_set, show o + j - o = j by omega]
theorem Has.window {w : World} {k o : Nat} {cs : List Value} (h : Has w k cs) : w.rangeAt k o ((cs.drop o).take 11) := fun j v hj => by
  rw [h.cell]
  rw [List.getElem?_take] at hj
  split at hj
  · rw [List.getElem?_drop] at hj; exact hj
  · cases hj
theorem Has.same {w : World} {k : Nat} {cs cs' : List Value} (h : Has w k cs) (h' : Has w k cs') : cs = cs' := by
  obtain ⟨t, h⟩ := h
  obtain ⟨t', h'⟩ := h'
  rw [h] at h'
  injection h' with h'
  injection h' with h1
  simpa using h1
theorem set_out {cs : List Value} {i j : Nat} {v : Value} (h : j ≠ i) : (cs.set j v)[i]? = cs[i]? := List.getElem?_set_ne h

/-- The entries for the kids of a box that has been copied. -/
def kidEntries (k' : Nat) {m : Nat} (kids : List (Bx m)) : List ((Nat × Nat) × Nat) := kids.zipIdx.map fun x => ((k', x.2 * 11), bCount m x.1)
theorem kidEntries_fst (k' : Nat) {m : Nat} (kids : List (Bx m)) : (kidEntries k' kids).map (·.1) = (List.range kids.length).map fun i => (k', i * 11) := by
  unfold kidEntries
  rw [List.map_map]
  apply List.ext_getElem?
  intro i
  simp only [List.getElem?_map, List.getElem?_zipIdx]
  by_cases hi : i < kids.length
  · simp [hi]
  · simp [hi]
theorem kidEntries_snd (k' : Nat) {m : Nat} (kids : List (Bx m)) : (kidEntries k' kids).map (·.2) = kids.map (bCount m) := by
  unfold kidEntries
  rw [List.map_map]
  apply List.ext_getElem?
  intro i
  simp only [List.getElem?_map, List.getElem?_zipIdx]
  cases kids[i]? <;> simp

theorem deep_push {P : Nat → Prop} {W w w2 : World} (hP : ∀ k, P k → k < W.heap.size) {N : Nat} {b : Bx N} {rb rv : Nat} {zs : List Value} {t : Nat} {v v2 : Value} {KL SL X A Xs X2 L2 : List (Nat × List Value)} {rest : List ((Nat × Nat) × Nat)} {k0 o0 wt : Nat}
    {xb c : Nat} {ys cs : List Value} {K1 K2 : List (Nat × List Value)} {m : Nat} {a : Hd} {kids : List (Bx m)} {kx kx' sx sx' : Option Addr} {kc kc' sc sc' k' : Nat}
    (hI : DeepInv P W N b rb rv zs t v w KL SL X (rest ++ [((k0, o0), wt)])) (hT : Top W rv zs v w KL SL rest k0 o0 wt xb c ys cs K1 K2 m a kids kx kc sx sc)
    (hS2 : Own [] W L2 w2) (hp : L2.Perm ((((rv, zs) :: (A ++ (k0, (cs.set (o0 + 10) (.slice sx' a.src.length sc')).set (o0 + 8) (.slice kx' kids.length kc')) :: (K1 ++ K2))) ++ (SL ++ Xs)) ++ X2))
    (hrow : RowAt w2 sx' 1 intCells a.src) (hsb : a.src ≠ [] → ∀ k o, sx' = some ⟨k, o, none⟩ → k ∈ Xs.map (·.1))
    (hA : (kids = [] ∧ A = []) ∨ ∃ arr, A = [(k', arr)] ∧ kx' = some ⟨k', 0, none⟩ ∧ arr.length = kids.length * 11 ∧ ∀ k o, kx = some ⟨k, o, none⟩ → W.rangeAt k o arr)
    (hst : Sl 1 (rest.length + kids.length) v2 ((rest.map (·.1)).flatMap ptr ++ ((List.range kids.length).map fun i => (k', i * 11)).flatMap ptr) X2) :
    ∃ t' KL' SL' ps', t' < t ∧ DeepInv P W N b rb rv zs t' v2 w2 KL' SL' X2 ps' := by
  have hlt : ((rest ++ kidEntries k' kids).map (·.2)).sum < t := by
    rw [← hI.weight, List.map_append, List.map_append, List.sum_append, List.sum_append, kidEntries_snd]
    have := hT.count
    simp only [bCount] at this
    simp
    omega
  have hbd := hI.bound
  obtain ⟨CS, hCS⟩ : ∃ CS, CS = (cs.set (o0 + 10) (.slice sx' a.src.length sc')).set (o0 + 8) (.slice kx' kids.length kc') := ⟨_, rfl⟩
  rw [← hCS] at hp
  have hS3 := hS2.perm hp
  have hCl : CS.length = cs.length := by rw [hCS]; simp
  have hwin : (CS.drop o0).take 11 = a.cells (.slice kx' kids.length kc') (.slice sx' a.src.length sc') := by
    rw [hCS, window_set, window_set, hT.cells]
    rfl
  have hout : ∀ i, ¬ (o0 ≤ i ∧ i < o0 + 11) → CS[i]? = cs[i]? := fun i hi => by
    rw [hCS, set_out (by omega), set_out (by omega)]
  have hH : ∀ x, x ∈ A ∨ x = (k0, CS) ∨ x ∈ K1 ∨ x ∈ K2 ∨ x ∈ SL ∨ x ∈ Xs → Has w2 x.1 x.2 := fun x hx => hS3.has x (by
    simp only [List.mem_append, List.mem_cons]
    rcases hx with h | h | h | h | h | h <;> simp [h])
  have hk0 : Has w2 k0 CS := hH (k0, CS) (.inr (.inl rfl))
  have hwh : ∀ x ∈ KL, Has w x.1 x.2 := fun x hx => hI.own.has x (by simp [hx])
  have hk0w : Has w k0 cs := hT.own.has (k0, cs) (by simp)
  have hKL : ∀ x, x ∈ KL ↔ x = (k0, cs) ∨ x ∈ K1 ∨ x ∈ K2 := fun x => by
    rw [hT.split]; simp only [List.mem_append, List.mem_cons]; constructor
    · rintro (h | h | h) <;> simp [h]
    · rintro (h | h | h) <;> simp [h]
  have hn0 : ∀ x, x ∈ A ∨ x = (k0, CS) ∨ x ∈ K1 ∨ x ∈ K2 ∨ x ∈ SL ∨ x ∈ Xs → W.heap.size ≤ x.1 := fun x hx => by
    have := hS3.ge x (by
      simp only [List.mem_append, List.mem_cons]
      rcases hx with h | h | h | h | h | h <;> simp [h])
    rcases this with h | h
    · cases h
    · exact h
  -- the new blocks
  have hrest := hI.nodup
  rw [List.map_append, List.nodup_append] at hrest
  obtain ⟨hnd1, _, hnd2⟩ := hrest
  have hKL' : ∀ x, x ∈ (A ++ (k0, CS) :: (K1 ++ K2)) ↔ x ∈ A ∨ x = (k0, CS) ∨ x ∈ K1 ∨ x ∈ K2 := fun x => by
    simp only [List.mem_append, List.mem_cons]
  have hcell : ∀ (k i : Nat) (u : Value), (P k ∨ k ∈ KL.map (·.1) ∨ k ∈ SL.map (·.1)) → ¬ (k = k0 ∧ o0 ≤ i ∧ i < o0 + 11) → w.cell? ⟨k, i, none⟩ = some u → w2.cell? ⟨k, i, none⟩ = some u := by
    intro k i u hk hn hu
    rcases hk with hk | hk | hk
    · have h1 : w.heap[k]? = W.heap[k]? := hI.own.block k (hP k hk) (by simp)
      have h2 : w2.heap[k]? = W.heap[k]? := hS3.block k (hP k hk) (by simp)
      rw [← hu]
      exact World.cell?_of_block (w := w) (a := ⟨k, i, none⟩) (by rw [h1, h2])
    · obtain ⟨⟨_, ck⟩, hx, rfl⟩ := List.mem_map.1 hk
      have hw := hwh _ hx
      simp only at hw hn hu ⊢
      rw [hw.cell] at hu
      rcases (hKL _).1 hx with he | he | he
      · obtain ⟨rfl, rfl⟩ := by simpa using he
        rw [hk0.cell, hout i (fun h => hn ⟨rfl, h⟩)]; exact hu
      · rw [(hH _ (.inr (.inr (.inl he)))).cell]; exact hu
      · rw [(hH _ (.inr (.inr (.inr (.inl he))))).cell]; exact hu
    · obtain ⟨⟨_, ck⟩, hx, rfl⟩ := List.mem_map.1 hk
      have hw : Has w _ ck := hI.own.has _ (by simp only [List.mem_append]; exact .inl (.inr hx))
      simp only at hw hu ⊢
      rw [hw.cell] at hu
      rw [(hH _ (.inr (.inr (.inr (.inr (.inl hx)))))).cell]; exact hu
  have hturn := rep_turn (P := P) (K := KL.map (·.1)) (K' := (A ++ (k0, CS) :: (K1 ++ K2)).map (·.1)) (S := SL.map (·.1)) (S' := (SL ++ Xs).map (·.1)) (w := w) (w' := w2) (k0 := k0) (o0 := o0)
    (fun k hk => by
      obtain ⟨x, hx, rfl⟩ := List.mem_map.1 hk
      rcases (hKL x).1 hx with rfl | he | he
      · exact List.mem_map.2 ⟨(k0, CS), by simp, rfl⟩
      · exact List.mem_map.2 ⟨x, by simp [he], rfl⟩
      · exact List.mem_map.2 ⟨x, by simp [he], rfl⟩)
    (fun k hk => by rw [List.map_append]; exact List.mem_append_left _ hk) (fun h => by have h1 := hP _ h; have h2 := hn0 (k0, CS) (.inr (.inl rfl)); simp only at h2; omega)
    (fun hk => by
      have h0 := hI.own.apart
      rw [List.map_append, List.nodup_append, List.map_append, List.nodup_append] at h0
      exact h0.1.2.2 k0 (by rw [hT.split]; simp) k0 hk rfl)
    hT.mod hcell hk0w.window hk0.window (by rw [hT.cells]) hwin (hT.srcs.own (show Own [] W _ w from hI.own)) (fun i hi k o hkx css hcl hrg => by
      rcases hA with ⟨h, _⟩ | ⟨arr, rfl, hk', hal, har⟩
      · subst h; simp at hi
      · have hW := har k o hkx
        have hkn : k < W.heap.size := by
          obtain ⟨z, hz⟩ : ∃ z, arr[0]? = some z := ⟨arr[0]'(by omega), List.getElem?_eq_getElem _⟩
          exact World.block_lt_of_cell? W _ (hW 0 z hz)
        refine ⟨k', hk', by simp, fun j u hj => ?_⟩
        have hj11 : j < 11 := by rw [← hcl]; exact (List.getElem?_eq_some_iff.1 hj).1
        rw [(hH (k', arr) (.inl (by simp))).cell]
        have hu := hrg j u hj
        have hz : arr[i * 11 + j]? = some (arr[i * 11 + j]'(by omega)) := List.getElem?_eq_getElem _
        have h2 := hW _ _ hz
        have h3 := hI.own.cell (a := ⟨k, o + (i * 11 + j), none⟩) (by simp) h2
        rw [← Nat.add_assoc] at h3
        rw [h3] at hu
        rw [Nat.zero_add, hz]; exact hu) hrow (fun hne k o hsx => .inr (by rw [List.map_append]; exact List.mem_append_right _ (hsb hne k o hsx))) 
  obtain ⟨cs0, hrb, hr11, hroot⟩ := hI.root
  refine ⟨((rest ++ kidEntries k' kids).map (·.2)).sum, A ++ (k0, CS) :: (K1 ++ K2), SL ++ Xs, rest ++ kidEntries k' kids, hlt, ?_⟩
  · refine { own := hS3, stack := ?_, nodup := ?_, weight := rfl, bound := by omega, pend := ?_, root := ?_ }
    · rw [List.map_append, List.flatMap_append, kidEntries_fst]
      have : (rest ++ kidEntries k' kids).length = rest.length + kids.length := by simp [kidEntries]
      rw [this]
      exact hst
    · rw [List.map_append, kidEntries_fst, List.nodup_append]
      refine ⟨hnd1, ?_, ?_⟩
      · rw [List.nodup_iff_pairwise_ne, List.pairwise_map]
        exact (List.nodup_iff_pairwise_ne.1 List.nodup_range).imp fun h he => h (by have := (Prod.mk.inj he).2; omega)
      · intro p hp q hq he
        subst he
        obtain ⟨x, hx, rfl⟩ := List.mem_map.1 hp
        obtain ⟨ck, _, _, hxk, _⟩ := hI.pend x (by simp [hx])
        obtain ⟨i, hi, he⟩ := List.mem_map.1 hq
        have hk : x.1.1 = k' := by rw [← he]
        rcases hA with ⟨h, _⟩ | ⟨arr, rfl, _⟩
        · subst h; simp at hi
        · have h0 := hS3.apart
          rw [hk] at hxk
          have hh : ∀ y, y ∈ ((k0, CS) :: (K1 ++ K2)) → y.1 ≠ k' := by
            simp only [List.map_append, List.map_cons, List.nodup_append, List.nodup_cons, List.cons_append, List.nil_append, List.append_assoc] at h0
            intro y hy hyk
            refine h0.2.1 ?_
            rcases List.mem_cons.1 hy with rfl | hy
            · rw [← hyk]; simp
            · rcases List.mem_append.1 hy with hy | hy
              · rw [← hyk]; simp only [List.mem_cons, List.mem_append]; exact .inr (.inl (List.mem_map_of_mem hy))
              · rw [← hyk]; simp only [List.mem_cons, List.mem_append]; exact .inr (.inr (.inl (List.mem_map_of_mem hy)))
          rcases (hKL _).1 hxk with he | he | he
          · exact hh (k0, CS) (by simp) (by simpa using (congrArg Prod.fst he).symm)
          · exact hh _ (by simp only [List.mem_cons, List.mem_append]; exact .inr (.inl he)) rfl
          · exact hh _ (by simp only [List.mem_cons, List.mem_append]; exact .inr (.inr he)) rfl
    · intro p hp
      rcases List.mem_append.1 hp with hp | hp
      · obtain ⟨ck, mp, bp, hpk, hpm, hpl, hpr, hps, hpc⟩ := hI.pend p (by simp [hp])
        have hne : p.1 ≠ (k0, o0) := fun he => hnd2 p.1 (List.mem_map_of_mem hp) (k0, o0) (by simp) he
        rcases (hKL _).1 hpk with he | he | he
        · have hpk0 : p.1.1 = k0 := congrArg Prod.fst he
          have hck : ck = cs := congrArg Prod.snd he
          subst hck
          have hpo : p.1.2 ≠ o0 := fun h => hne (Prod.ext hpk0 h)
          refine ⟨CS, mp, bp, by rw [hpk0]; simp, hpm, by omega, ?_, hps, hpc⟩
          have hm0 := hT.mod
          have : (CS.drop p.1.2).take 11 = (ck.drop p.1.2).take 11 := by
            apply List.ext_getElem?
            intro j
            rw [List.getElem?_take, List.getElem?_take]
            split
            · rw [List.getElem?_drop, List.getElem?_drop, hout _ (by omega)]
            · rfl
          rw [this]; exact hpr
        · exact ⟨ck, mp, bp, by simp [he], hpm, hpl, hpr, hps, hpc⟩
        · exact ⟨ck, mp, bp, by simp [he], hpm, hpl, hpr, hps, hpc⟩
      · unfold kidEntries at hp
        obtain ⟨⟨kid, i⟩, hx, rfl⟩ := List.mem_map.1 hp
        have hki : kids[i]? = some kid := by
          have := List.mem_zipIdx hx
          simp at this
          rw [this.2]; simp [this.1]
        have hil : i < kids.length := (List.getElem?_eq_some_iff.1 hki).1
        rcases hA with ⟨h, _⟩ | ⟨arr, rfl, hk', hal, har⟩
        · subst h; simp at hil
        · obtain ⟨kx2, kc2, sx2, sc2, hcs2, _, _, _, _, hkids⟩ := hT.rep
          obtain ⟨k, o, css, ek, _, hrg, hrep⟩ := hkids i kid hki
          simp only [Hd.cells, List.cons.injEq, Value.slice.injEq, true_and, and_true] at hcs2
          obtain ⟨⟨rfl, -⟩, -⟩ := hcs2
          have hW := har k o ek
          have hce : (arr.drop (i * 11)).take 11 = css := by
            refine rangeAt_eq (w := W) (b := k) (o := o + i * 11) (fun j u hj => ?_) hrg (by rw [hrep.len]; simp; omega)
            rw [List.getElem?_take] at hj
            split at hj
            · rw [List.getElem?_drop] at hj
              rw [Nat.add_assoc]; exact hW _ _ hj
            · cases hj
          exact ⟨arr, m, kid, by simp, by simp, by simp only; omega, by simp only; rw [hce]; exact hrep, hT.small.2.2 kid (List.mem_of_getElem? hki), rfl⟩
    · by_cases hq : rb = k0
      · subst hq
        have hcs0 : cs0 = cs := (hwh _ hrb).same hk0w
        subst hcs0
        have hl := hT.len
        have ho0 : o0 = 0 := by omega
        subst ho0
        have hc0 : cs0 = a.cells (.slice kx kids.length kc) (.slice sx a.src.length sc) := by
          have := hT.cells
          rw [List.drop_zero, List.take_of_length_le (by omega)] at this
          exact this
        have hc1 : CS = a.cells (.slice kx' kids.length kc') (.slice sx' a.src.length sc') := by
          have := hwin
          rw [List.drop_zero, List.take_of_length_le (by omega)] at this
          exact this
        refine ⟨CS, by simp, by omega, ?_⟩
        have := (hturn N b cs0 hroot).2
        rw [List.drop_zero, List.drop_zero, List.take_of_length_le (by omega), List.take_of_length_le (by omega)] at this
        exact this rfl
      · have hrb2 : (rb, cs0) ∈ K1 ∨ (rb, cs0) ∈ K2 := by
          rcases (hKL _).1 hrb with he | he
          · exact absurd (congrArg Prod.fst he) hq
          · exact he
        refine ⟨cs0, ?_, hr11, (hturn N b cs0 hroot).1⟩
        rcases hrb2 with h | h <;> simp [h]

/-- A box stays a box where its blocks stay. -/
theorem rep_keep {P : Nat → Prop} {K S : List Nat} {w w' : World} (h1 : ∀ (k i : Nat) (v : Value), (P k ∨ k ∈ K ∨ k ∈ S) → w.cell? ⟨k, i, none⟩ = some v → w'.cell? ⟨k, i, none⟩ = some v) :
    ∀ (n : Nat) (b : Bx n) (cs : List Value), RepG (koK P K) (soK P S) w n b cs → RepG (koK P K) (soK P S) w' n b cs := by
  intro n
  induction n with
  | zero => intro b cs h; exact h
  | succ n ih =>
    rintro b cs ⟨kx, kc, sx, sc, hcs, hok, hlen, hrow, hso, hkids⟩
    refine ⟨kx, kc, sx, sc, hcs, hok, hlen, ?_, hso, fun i kid hi => ?_⟩
    · rcases hrow with h | ⟨k, o, hx, hr⟩
      · exact .inl h
      · by_cases hne : b.1.src = []
        · exact .inl hne
        · refine .inr ⟨k, o, hx, fun i z hi j v hj => h1 k _ v ?_ (hr i z hi j v hj)⟩
          rcases hso hne k o hx with h | h
          · exact .inl h
          · exact .inr (.inr h)
    · obtain ⟨k, o, css, ek, hko, hr, hrep⟩ := hkids i kid hi
      refine ⟨k, o, css, ek, hko, fun j v hj => h1 k _ v ?_ (hr j v hj), ih kid css hrep⟩
      rcases hko with h | ⟨h, _⟩
      · exact .inl h
      · exact .inr (.inl h)
theorem rep_all {ko : Nat → Nat → Prop} {so : Nat → Prop} {w : World} {n : Nat} {b : Bx n} {cs : List Value} (h : RepG ko so w n b cs) : cs.all (·.oneCell') = true := by
  cases n with
  | zero => exact h.elim
  | succ n => obtain ⟨kx, kc, sx, sc, rfl, _⟩ := h; rfl

/-- The stack is empty: the box has been copied. -/
theorem deep_end {P : Nat → Prop} {W w w' : World} (hP : ∀ k, P k → k < W.heap.size) {N : Nat} {b : Bx N} {rb rv : Nat} {zs zs' : List Value} {t : Nat} {v : Value} {KL SL X : List (Nat × List Value)} {ps : List ((Nat × Nat) × Nat)} {cs0 : List Value} (hI : DeepInv P W N b rb rv zs t v w KL SL X ps)
    (hroot : RepG (koK P (KL.map (·.1))) (soK P (SL.map (·.1))) w N b cs0) (hS : Own [] W ((rv, zs') :: ((KL ++ SL) ++ X)) w') : RepG (fun k _ => P k ∨ W.heap.size ≤ k) (fun k => P k ∨ W.heap.size ≤ k) w' N b cs0 := by
  have hge : ∀ x, x ∈ KL ∨ x ∈ SL → W.heap.size ≤ x.1 := fun x hx => by
    have := hS.ge x (by simp only [List.mem_cons, List.mem_append]; rcases hx with h | h <;> simp [h])
    rcases this with h | h
    · cases h
    · exact h
  refine RepG.mono (fun k o h => ?_) (fun k h => ?_) N b cs0 (rep_keep (fun k i u hk hu => ?_) N b cs0 hroot)
  · rcases h with h | ⟨h, _⟩
    · exact .inl h
    · obtain ⟨x, hx, rfl⟩ := List.mem_map.1 h
      exact .inr (hge x (.inl hx))
  · rcases h with h | h
    · exact .inl h
    · obtain ⟨x, hx, rfl⟩ := List.mem_map.1 h
      exact .inr (hge x (.inr hx))
  rcases hk with hk | hk | hk
  · have h1 : w.heap[k]? = W.heap[k]? := hI.own.block k (hP k hk) (by simp)
    have h2 : w'.heap[k]? = W.heap[k]? := hS.block k (hP k hk) (by simp)
    rw [← hu]
    exact World.cell?_of_block (w := w) (a := ⟨k, i, none⟩) (by rw [h1, h2])
  · obtain ⟨⟨k2, ck⟩, hx, rfl⟩ := List.mem_map.1 hk
    have h1 : Has w k2 ck := hI.own.has (k2, ck) (by simp [hx])
    have h2 : Has w' k2 ck := hS.has (k2, ck) (by simp [hx])
    simp only at h1 h2 hu ⊢
    rw [h1.cell] at hu
    rw [h2.cell]; exact hu
  · obtain ⟨⟨k2, ck⟩, hx, rfl⟩ := List.mem_map.1 hk
    have h1 : Has w k2 ck := hI.own.has (k2, ck) (by simp only [List.mem_append]; exact .inl (.inr hx))
    have h2 : Has w' k2 ck := hS.has (k2, ck) (by simp only [List.mem_append, List.mem_cons]; exact .inr (.inl (.inr hx)))
    simp only at h1 h2 hu ⊢
    rw [h1.cell] at hu
    rw [h2.cell]; exact hu

theorem sl_block {n : Nat} {y : Option Addr} {c : Nat} {l : List Int} {X : List (Nat × List Value)} (h : Sl 1 n (.slice y n c) (l.flatMap intCells) X) (hl : n = l.length) : l ≠ [] → ∀ k o, y = some ⟨k, o, none⟩ → k ∈ X.map (·.1) := by
  intro hne k o hy
  subst hy
  rcases h.2 with ⟨_, _, _, h0, _⟩ | ⟨b, c', junk, hv, _, _, _, rfl⟩
  · exact absurd (List.eq_nil_of_length_eq_zero (by omega)) hne
  · simp at hv
    simp [hv.1.1]
theorem sl_row {D : List Nat} {W w : World} {L X : List (Nat × List Value)} {y : Option Addr} {c : Nat} {l : List Int} (hS : Own D W L w) (hm : ∀ x ∈ X, x ∈ L) (h : Sl 1 l.length (.slice y l.length c) (l.flatMap intCells) X) : RowAt w y 1 intCells l := by
  obtain ⟨y', c', he, hr, _, _⟩ := Sl.rowAt hS hm h (fun _ => rfl) (by decide)
  obtain ⟨rfl, _⟩ : y = y' ∧ c = c' := by simpa using he
  exact hr
/-- The kids of a box, one behind the other. -/
theorem kids_flat {W : World} {m : Nat} {a : Hd} {kids : List (Bx m)} {kx sx : Option Addr} {kc sc : Nat} (h : Rep W (m + 1) (a, kids) (a.cells (.slice kx kids.length kc) (.slice sx a.src.length sc))) (hne : kids ≠ []) :
    ∃ k o news, kx = some ⟨k, o, none⟩ ∧ news.length = kids.length * 11 ∧ W.rangeAt k o news ∧ ∀ v ∈ news, v.oneCell' = true := by
  obtain ⟨kx2, kc2, sx2, sc2, hcs2, _, _, _, _, hkids⟩ := h
  simp only [Hd.cells, List.cons.injEq, Value.slice.injEq, true_and, and_true] at hcs2
  obtain ⟨⟨rfl, -⟩, -⟩ := hcs2
  obtain ⟨kid0, hk0⟩ : ∃ kid, kids[0]? = some kid := by
    cases kids with
    | nil => exact absurd rfl hne
    | cons x l => exact ⟨x, rfl⟩
  obtain ⟨k, o, _, hkx, _⟩ := hkids 0 kid0 hk0
  obtain ⟨l, hll, hr⟩ := list_of (fun i css => W.rangeAt k (o + i * 11) css ∧ css.length = 11 ∧ css.all (·.oneCell') = true) kids.length fun i hi => by
    obtain ⟨k2, o2, css, e, _, hrg, hrep⟩ := hkids i kids[i] (by simp [hi])
    rw [hkx] at e
    have hko : k = k2 ∧ o = o2 := by simpa using e
    obtain ⟨rfl, rfl⟩ := hko
    exact ⟨css, hrg, hrep.len, rep_all hrep⟩
  have hlen : ∀ x ∈ l, x.length = 11 := fun x hx => by
    obtain ⟨i, hi⟩ := List.mem_iff_getElem?.1 hx
    exact (hr i x hi).2.1
  obtain ⟨b, o', hx, hfl⟩ := RowAt.flat (w := W) (x := kx) (size := 11) (f := id) (l := l) (.inr ⟨k, o, hkx, fun i x hi => (hr i x hi).1⟩) hlen (by
    intro h0
    subst h0
    have := (List.getElem?_eq_some_iff.1 hk0).1
    simp at hll
    omega)
  rw [hkx] at hx
  have hko : k = b ∧ o = o' := by simpa using hx
  obtain ⟨rfl, rfl⟩ := hko
  refine ⟨k, o, l.flatMap id, hkx, ?_, hfl, fun v hv => ?_⟩
  · rw [← hll]
    clear hr hll hx hfl
    induction l with
    | nil => simp
    | cons x l ih =>
      rw [List.flatMap_cons, List.length_append, ih fun y hy => hlen y (by simp [hy]), List.length_cons, Nat.succ_mul]
      have : (id x).length = 11 := hlen x (by simp)
      omega
  · obtain ⟨x, hx, hv⟩ := List.mem_flatMap.1 hv
    obtain ⟨i, hi⟩ := List.mem_iff_getElem?.1 hx
    exact List.all_eq_true.1 (hr i x hi).2.2 v hv
theorem setL_all {cur news : List Value} (h : cur.length = news.length) : setL cur 0 news = news := by
  have := setL_app news [] cur (by omega)
  rw [List.nil_append, List.length_nil] at this
  rw [this, List.drop_of_length_le (by omega)]
  simp
theorem deep_perm (x z : Nat × List Value) (A K S Xs X2 : List (Nat × List Value)) : ((A ++ (x :: ((z :: K) ++ S ++ Xs))) ++ X2).Perm ((((z :: (A ++ x :: K)) ++ (S ++ Xs))) ++ X2) := by
  refine List.Perm.append_right X2 ?_
  have h1 : (A ++ (x :: ((z :: K) ++ S ++ Xs))).Perm ((A ++ (x :: (z :: K))) ++ (S ++ Xs)) := by simp
  refine h1.trans (List.Perm.append_right _ ?_)
  have h2 : (A ++ x :: z :: K).Perm (A ++ z :: x :: K) := List.Perm.append_left A (List.Perm.swap _ _ _)
  exact h2.trans List.perm_middle
theorem src_cells {W w : World} {L : List (Nat × List Value)} {b o : Nat} {news : List Value} (hS : Own [] W L w) (h : W.rangeAt b o news) : ∀ j v, news[j]? = some v → w.cell? ((⟨b, o, none⟩ : Addr).add j) = some v := fun j v hj => by
  rw [Addr.add_lit]
  exact hS.cell (by simp) (h j v hj)
theorem two_last (x y : Nat × List Value) (R : List (Nat × List Value)) : (x :: y :: R).Perm ((x :: R) ++ [y]) := List.Perm.cons x (List.perm_append_comm (l₁ := [y]) (l₂ := R))
theorem three_last (x y z : Nat × List Value) (R : List (Nat × List Value)) : (x :: y :: z :: R).Perm ((x :: y :: R) ++ [z]) := List.Perm.cons x (two_last y z R)
theorem range_next {k' j : Nat} {l : List Value} : l ++ ((List.range (j + 1)).map fun i => (k', i * 11)).flatMap ptr = (l ++ ((List.range j).map fun i => (k', i * 11)).flatMap ptr) ++ [.pointer (some ⟨k', j * 11, none⟩)] := by
  rw [List.range_succ, List.map_append, List.flatMap_append]
  simp [ptr]
end Go.Proofs.Ytgpabckipmhobaa
namespace Go.Proofs.Ytgpabckipmhobaa
open Go.RowKit

attribute [local irreducible] wpQuiet wpList Code.wp

instance rt_stretch : RowTy Try.prog 60 4 := ⟨⟨_, Try.underlying60, rfl⟩, by kernel_rfl⟩
instance zt_stretch : ZeroTy Try.prog 60 [.string ⟨#[]⟩, .slice none 0 0, .slice none 0 0, .int .i64 0] := ⟨.agg #[.string ⟨#[]⟩, .slice none 0 0, .slice none 0 0, .int .i64 0], by kernel_rfl, rfl⟩
instance rt_part : RowTy Try.prog 91 2 := ⟨⟨_, Try.underlying91, rfl⟩, by kernel_rfl⟩
instance ot_strings : OneTy Try.prog 57 := ⟨⟨_, Try.underlying57, rfl⟩, by kernel_rfl⟩
instance ot_parts : OneTy Try.prog 58 := ⟨⟨_, Try.underlying58, rfl⟩, by kernel_rfl⟩
instance ot_stretches : OneTy Try.prog 23 := ⟨⟨_, Try.underlying23, rfl⟩, by kernel_rfl⟩
instance ot_glyphs : OneTy Try.prog 22 := ⟨⟨_, Try.underlying22, rfl⟩, by kernel_rfl⟩
theorem loop_meas {k n : Nat} (h : k < n) : n - (intOf (.int .i64 ((k : Int) + 1))).toNat < n - (intOf (.int .i64 (k : Int))).toNat := by
  simp [intOf]; omega
end Go.Proofs.Ytgpabckipmhobaa
