/- Chapter 34: how long the lists of sources of a box can be that is an argument. -/
import Derived.Test.YtgpabckipmhobaaK22
import Derived.Test.YtgpabckipmhobaaK03
namespace Go.Proofs.Ytgpabckipmhobaa
open Go.RowKit Go.ChangeShapes Go.WideShapes Go.Deep

/-- No list of sources is too long. -/
def SrcIn : (n : Nat) → Bx n → Prop
  | 0, _ => True
  | n + 1, b => b.1.src.length ≤ 17592186044416 ∧ ∀ k ∈ b.2, SrcIn n k

theorem sum_part {l : List Nat} {x : Nat} (h : x ∈ l) : x ≤ l.sum := by
  induction l with
  | nil => cases h
  | cons y l ih =>
    rw [List.sum_cons]
    rcases List.mem_cons.1 h with rfl | h
    · omega
    · have := ih h
      omega
theorem sum_long {l : List Nat} (h : ∀ x ∈ l, 1 ≤ x) : l.length ≤ l.sum := by
  induction l with
  | nil => simp
  | cons y l ih =>
    rw [List.sum_cons, List.length_cons]
    have := h y List.mem_cons_self
    have := ih fun x hx => h x (List.mem_cons_of_mem _ hx)
    omega
theorem count_one : ∀ (n : Nat) (b : Bx n), 1 ≤ bCount n b := by
  intro n
  cases n with
  | zero => intro b; exact b.elim
  | succ n => intro b; unfold bCount; omega
theorem src_small : ∀ (n : Nat) (b : Bx n), SrcIn n b → bCount n b ≤ 1000000 → Small n b := by
  intro n
  induction n with
  | zero => intro b _ _; trivial
  | succ n ih =>
    intro b h hc
    unfold bCount at hc
    refine ⟨h.1, ?_, fun k hk => ih k (h.2 k hk) ?_⟩
    · have := sum_long (l := b.2.map (bCount n)) (fun x hx => by
        obtain ⟨k, _, rfl⟩ := List.mem_map.1 hx
        exact count_one n k)
      rw [List.length_map] at this
      omega
    · have := sum_part (List.mem_map_of_mem (f := bCount n) hk)
      omega

section
variable {H : Type} {enc : TypeId × Value → H} {w : World}

theorem wts_each {P : Program} : ∀ (ts : List TypeId) (ds : List (DataW H)) (i : Nat) {t : TypeId} {d : DataW H} {v : Nat}, ts[i]? = some t → ds[i]? = some d → v ∈ d.weights P t → v ∈ DataW.weightsEach P ts ds := by
  intro ts
  induction ts with
  | nil => intro ds i t d v h; simp at h
  | cons t0 ts ih =>
    intro ds i t d v h1 h2 h3
    cases ds with
    | nil => simp at h2
    | cons d0 ds =>
      rw [DataW.weightsEach]
      cases i with
      | zero =>
        simp only [List.getElem?_cons_zero, Option.some.injEq] at h1 h2
        subst h1
        subst h2
        exact List.mem_append_left _ h3
      | succ i => exact List.mem_append_right _ (ih ds i (by simpa using h1) (by simpa using h2) h3)
theorem wts_all {P : Program} {e : TypeId} {d : DataW H} {v : Nat} : ∀ (l : List (DataW H)), d ∈ l → v ∈ d.weights P e → v ∈ DataW.weightsAll P e l := by
  intro l
  induction l with
  | nil => intro h; cases h
  | cons d0 l ih =>
    intro h hv
    rw [DataW.weightsAll]
    rcases List.mem_cons.1 h with rfl | h
    · exact List.mem_append_left _ hv
    · exact List.mem_append_right _ (ih h hv)
/-- What the parts of a slice weigh. -/
theorem wts_slice {P : Program} {t e : TypeId} {fuel : Nat} {c : Nat} {y : Option Addr} {len : Nat} {x : DataW H × List MemPlace} (ht : P.underlying t = some (.slice e)) (h : DataW.trod enc P w 0 (fun _ => true) true fuel t [.slice y len c] = some x) (hw : ∀ v ∈ x.1.weights P t, v ≤ reachBytes) (h0 : len ≠ 0) :
    len * P.bytesOf e ≤ reachBytes ∧ ∃ (a : Addr) (n : Nat), y = some a ∧ ∀ i, i < len → ∃ cs' z, w.cells? 0 (a.add (i * P.cellsOf e)) (P.cellsOf e) = some cs' ∧ DataW.trod enc P w 0 (fun _ => true) true n e cs' = some z ∧ ∀ v ∈ z.1.weights P e, v ≤ reachBytes := by
  rcases DataW.trod_slice ht h with ⟨h1, _⟩ | ⟨a, len', cap, elems, rest, n, _, h1, rfl, _, _, _, hlen, hel, _, _⟩
  · simp at h1
    omega
  · simp only [List.cons.injEq, Value.slice.injEq, and_true] at h1
    obtain ⟨rfl, rfl, rfl⟩ := h1
    simp only [DataW.weights, ht] at hw
    refine ⟨?_, a, n, rfl, fun i hi => ?_⟩
    · have := hw _ List.mem_cons_self
      rw [List.length_map, hlen] at this
      exact Nat.le_trans (Nat.mul_le_mul_right _ (Nat.le_add_right _ _)) this
    · have h2 := hel i hi
      rw [List.getElem?_eq_getElem (by omega)] at h2
      obtain ⟨cs', hc, hy⟩ := Option.bind_eq_some_iff.1 h2
      refine ⟨cs', _, hc, hy, fun v hv => hw v (List.mem_cons_of_mem _ (List.mem_append_left _ (wts_all _ (List.mem_map.2 ⟨_, List.getElem_mem _, rfl⟩) hv)))⟩

set_option maxRecDepth 100000 in
theorem Try.bytesInt : Try.prog.bytesOf 3 = 8 := by kernel_rfl
theorem cells_rep {css cs' : List Value} {k o : Nat} (h1 : w.rangeAt k o css) (hl : css.length = 11) (h2 : w.cells? 0 ⟨k, o, none⟩ 11 = some cs') : cs' = css := by
  obtain ⟨_, h3, h4⟩ := World.cells?_some h2
  apply List.ext_getElem?
  intro j
  by_cases hj : j < 11
  · have h5 := h4 j hj
    rw [add_plain] at h5
    rw [← h5]
    have := h1 j css[j] (by simp [hl, hj])
    rw [this]
    simp [hl, hj]
  · rw [List.getElem?_eq_none (by omega), List.getElem?_eq_none (by omega)]

set_option maxRecDepth 100000 in
theorem src_of : ∀ (n fuel : Nat) (b : Bx n) (cs : List Value) (x : DataW H × List MemPlace), Rep w n b cs → DataW.trod enc Try.prog w 0 (fun _ => true) true fuel 33 cs = some x → (∀ v ∈ x.1.weights Try.prog 33, v ≤ reachBytes) → SrcIn n b := by
  intro n
  induction n with
  | zero => intro fuel b cs x hr; exact hr.elim
  | succ n ih =>
    intro fuel b cs x hr h hw
    obtain ⟨xs, m, _, hd, hl, hx, hf0⟩ := DataW.trod_struct Try.underlying33 h
    have e : x.1 = .agg (xs.map (·.1)) := by rw [hd]
    rw [e] at hw
    simp only [DataW.weights, Try.underlying33] at hw
    have hf : ∀ (i : Nat) (f : Field), _ → ∃ y, xs[i]? = some y ∧ DataW.trod enc Try.prog w 0 (fun _ => true) true m f.type ((cs.drop f.offset).take (Try.prog.cellsOf f.type)) = some y := fun i f hi => by
      have h1 := hf0 i f hi
      have hlt : i < xs.length := by rw [hx]; exact (Array.getElem?_eq_some_iff.1 hi).1
      exact ⟨xs[i], List.getElem?_eq_getElem hlt, by rw [h1, List.getElem?_eq_getElem hlt]⟩
    obtain ⟨kx, kc, sx, sc, rfl, _, _, _, _, hk⟩ := hr
    obtain ⟨y8, m8, f8⟩ := hf 8 _ rfl
    obtain ⟨y10, m10, f10⟩ := hf 10 _ rfl
    replace f8 : DataW.trod enc Try.prog w 0 (fun _ => true) true m 30 ((Hd.cells b.1 (.slice kx b.2.length kc) (.slice sx b.1.src.length sc)).drop 8 |>.take (Try.prog.cellsOf 30)) = some y8 := f8
    replace f10 : DataW.trod enc Try.prog w 0 (fun _ => true) true m 31 ((Hd.cells b.1 (.slice kx b.2.length kc) (.slice sx b.1.src.length sc)).drop 10 |>.take (Try.prog.cellsOf 31)) = some y10 := f10
    rw [Try.cellsBoxs] at f8
    rw [Try.cellsInts] at f10
    replace f8 : DataW.trod enc Try.prog w 0 (fun _ => true) true m 30 [.slice kx b.2.length kc] = some y8 := f8
    replace f10 : DataW.trod enc Try.prog w 0 (fun _ => true) true m 31 [.slice sx b.1.src.length sc] = some y10 := f10
    have w8 : ∀ v ∈ y8.1.weights Try.prog 30, v ≤ reachBytes := fun v hv => hw v (wts_each _ _ 8 rfl (by rw [List.getElem?_map, m8]; rfl) hv)
    have w10 : ∀ v ∈ y10.1.weights Try.prog 31, v ≤ reachBytes := fun v hv => hw v (wts_each _ _ 10 rfl (by rw [List.getElem?_map, m10]; rfl) hv)
    refine ⟨?_, fun kid hkid => ?_⟩
    · by_cases h0 : b.1.src.length = 0
      · omega
      · have h1 := (wts_slice Try.underlying31 f10 w10 h0).1
        rw [Try.bytesInt] at h1
        have : reachBytes = 140737488351232 := rfl
        omega
    · obtain ⟨i, hi⟩ := List.mem_iff_getElem?.1 hkid
      have hil : i < b.2.length := (List.getElem?_eq_some_iff.1 hi).1
      obtain ⟨_, a, m', ea, hel⟩ := wts_slice Try.underlying30 f8 w8 (by omega)
      obtain ⟨cs', z, hc, ht, hz⟩ := hel i hil
      obtain ⟨k, o, css, ek, _, hrg, hrep⟩ := hk i kid hi
      rw [ea] at ek
      obtain rfl : a = ⟨k, o, none⟩ := by simpa using ek
      rw [Try.cellsBox, add_plain] at hc
      obtain rfl := cells_rep hrg hrep.len hc
      exact ih m' kid _ z hrep ht hz
set_option maxRecDepth 100000 in
/-- A box as an argument: no list of sources is too long. -/
theorem open_boxS {r : Reach} {b0 : Nat} {v : Value} {d : DataW H} {p : List MemPlace} (hv : Value.okWide Try.prog w r b0 33 v) (h : DataW.Trod enc Try.prog w 0 (fun _ => true) true 33 v d p) (hw : ∀ z ∈ d.weights Try.prog 33, z ≤ reachBytes) :
    ∃ (n : Nat) (b : Bx (n + 1)) (cs : List Value), v = .agg cs.toArray ∧ Rep w (n + 1) b cs ∧ SrcIn (n + 1) b := by
  obtain ⟨cs, rfl, _⟩ := okWide_struct Try.underlying33 hv
  obtain ⟨fuel, hf⟩ := h
  obtain ⟨n, b, hr⟩ := read_box hf
  cases n with
  | zero => exact hr.elim
  | succ n => exact ⟨n, b, cs.toList, by simp, hr, src_of _ _ _ _ _ hr hf hw⟩
end
end Go.Proofs.Ytgpabckipmhobaa
