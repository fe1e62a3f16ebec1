/- Texts Clo, Mak, Deep, Prr, Scal, ScalR. -/
import Derived.Test.YtgnkngkogamjaaaJ01
import Derived.Test.YtgnkngkogamjaaaJ02
import Derived.WalkSpells
import Derived.Test.YtgnkngkogamjaaaJ00
import Derived.Laws.MakeOwn
import Derived.Test.YtgnkngkogamjaaaJ03
import Derived.Test.YtgnkngkogamjaaaJ04
namespace Go.Proofs.Ytgnkngkogamjaaa
open Go.RowKit

attribute [local irreducible] wpQuiet wpList Code.wp Calls

instance ot_ints : OneTy Try.prog 35 := ⟨⟨_, Try.underlying35, rfl⟩, by kernel_rfl⟩
theorem el_int : ElTy Try.prog 35 3 1 8 := ElTy.mk' (.int .i64 0) Try.underlying35 (by kernel_rfl) rfl

/-- The call gives a slice of these numbers, in new memory. -/
def GivesInts (src : List Int) (w : World) (e : Ending) (w' : World) : Prop :=
  ∃ v X, e = .returned v ∧ Sl 1 src.length v (src.flatMap intCells) X ∧ Own [] w X w'
theorem own_ints {P : Program} {D : List Nat} {W w : World} {L : List (Nat × List Value)} {f : FuncId} {args : Array Value} {src : List Int} {R : Ending → World → Prop} (hS : Own D W L w) (hc : Calls P f args w (GivesInts src w))
    (h : ∀ y c X w', Sl 1 src.length (.slice y src.length c) (src.flatMap intCells) X → RowAt w' y 1 intCells src → Own D W (X ++ L) w' → R (.returned (.slice y src.length c)) w') : Calls P f args w R :=
  hc.mono fun _ _ ⟨v, X, he, hX, hO⟩ => by
    obtain ⟨y, c, rfl, hr, _, _⟩ := Sl.rowAt hO (fun x hx => hx) hX (fun _ => rfl) (by decide)
    rw [he]
    exact h y c X _ hX hr (hS.join hO)

set_option maxHeartbeats 4000000 in
set_option maxRecDepth 100000 in
theorem clone_nil (c : Nat) (w : World) : Calls Try.prog 61 #[.slice none 0 c] w (GivesInts [] w) := by
  have hnil := fun (w : World) (a : Option Addr) (n c : Nat) => Lib.run_eql_slice_nil (P := Try.prog) w 35 3 a n c 0 0 Try.underlying35
  go_enter Try.func61, Try.ntmps61
  have hS := own_start w
  go_wp2_with (first | (refine own_unguard (by rfl) ?_) | (refine w_ld rfl _ rfl (by rfl) (by first | exact rd_1 (by repeat constructor) (by first | rfl | assumption) | exact rd_w (by repeat constructor) (by rfl) | exact rd_o (by assumption) (by rfl) (by first | exact nmn | assumption | simp) | exact rd_h (by assumption) (by rfl) (by first | exact nmn | assumption | simp) | exact rd_1o (by assumption) (by first | exact nmn | assumption | simp) | exact rd_1h (by assumption) (by first | rfl | assumption) (by first | exact nmn | assumption | simp)) hS ?_) | (refine own_box rfl _ _ rfl (by rfl) hS ?_; clear hS; (try clear ww); intro bb ww hS) | (refine w_s1 rfl _ _ rfl (by rfl) (by repeat constructor) (by first | exact .c | exact .t rfl) (by rfl) (by repeat constructor) hS ?_; clear hS; (try clear ww); intro ww hS))
  go_ret
  exact ⟨_, [], rfl, sl_nil 1, hS⟩

theorem clone_cells {W w : World} {L : List (Nat × List Value)} {a : Addr} {src : List Int} (hS : Own [] W L w) (hr : RowAt W (some a) 1 intCells src) : ∀ j u, (src.flatMap intCells)[j]? = some u → w.cell? (a.add j) = some u := by
  intro j u hj
  by_cases h : src = []
  · subst h; simp at hj
  · obtain ⟨b, o, hx, hr2⟩ := (hr.own hS).flat (fun _ _ => rfl) h
    obtain rfl : a = ⟨b, o, none⟩ := by simpa using hx
    rw [Addr.add_lit]
    exact hr2 j u hj
theorem clone_one (src : List Int) : ∀ u ∈ src.flatMap intCells, u.oneCell' = true := by
  intro u hu
  obtain ⟨n, _, h⟩ := List.mem_flatMap.1 hu
  simp [intCells] at h
  subst h; rfl

set_option maxHeartbeats 4000000 in
set_option maxRecDepth 100000 in
theorem clone_some (a : Addr) (src : List Int) (c : Nat) (w : World) (hr : RowAt w (some a) 1 intCells src) (hl : src.length ≤ 17592186044416) : Calls Try.prog 61 #[.slice (some a) src.length c] w (GivesInts src w) := by
  have HR := Lib.hid hr
  clear hr
  have hnil := fun (w : World) (a : Option Addr) (n c : Nat) => Lib.run_eql_slice_nil (P := Try.prog) w 35 3 a n c 0 0 Try.underlying35
  go_enter Try.func61, Try.ntmps61
  have hS := own_start w
  go_wp2_with (first | (refine own_unguard (by rfl) ?_) | (refine own_buildEmpty rfl 35 3 rfl hS Try.underlying35 (by kernel_rfl) ?_; clear hS; (try clear ww); intro bb ww hS) | (refine own_append rfl _ _ _ rfl (size := 1) (n := 0) (xs := []) (X := []) ⟨rfl, .inl ⟨_, .inr ⟨bb, 0, rfl⟩, rfl, rfl, rfl⟩⟩ rfl (news := src.flatMap intCells) rfl (show Own [] w ([(bb, [])] ++ []) ww from hS) (clone_cells hS HR.out) (flat_len (f := intCells) (size := 1) (fun _ => rfl) src) (clone_one src) el_int (by decide) (by simp only [maxLen]; omega) (by omega) ?_; clear hS; intro v1 X1 ww hS hX) | (refine w_ld rfl _ rfl (by rfl) (by first | exact rd_1 (by repeat constructor) (by first | rfl | assumption) | exact rd_w (by repeat constructor) (by rfl) | exact rd_o (by assumption) (by rfl) (by first | exact nmn | assumption | simp) | exact rd_h (by assumption) (by rfl) (by first | exact nmn | assumption | simp) | exact rd_1o (by assumption) (by first | exact nmn | assumption | simp) | exact rd_1h (by assumption) (by first | rfl | assumption) (by first | exact nmn | assumption | simp)) hS ?_) | (refine own_box rfl _ _ rfl (by rfl) hS ?_; clear hS; (try clear ww); intro bb ww hS) | (refine w_s1 rfl _ _ rfl (by rfl) (by repeat constructor) (by first | exact .c | exact .t rfl) (by rfl) (by repeat constructor) hS ?_; clear hS; (try clear ww); intro ww hS))
  go_ret
  exact ⟨_, _, rfl, by simpa using hX, hS.forget (by simp)⟩

theorem clone_calls (x : Option Addr) (src : List Int) (c : Nat) (w : World) (hr : RowAt w x 1 intCells src) (hl : src.length ≤ 17592186044416) : Calls Try.prog 61 #[.slice x src.length c] w (GivesInts src w) := by
  cases x with
  | some a => exact clone_some a src c w hr hl
  | none =>
    rcases hr with rfl | ⟨_, _, h, _⟩
    · exact clone_nil c w
    · cases h

end Go.Proofs.Ytgnkngkogamjaaa
namespace Go.Proofs.Ytgnkngkogamjaaa
open Go.RowKit

section
variable {P : Program} {rest : List Oper} {ops' : Array Oper} {o : Oper} {a : Act} {Q : Exit → Act → World → Prop} {D : List Nat} {W w : World} {L : List (Nat × List Value)}

/-- A new slice of n elements. -/
theorem own_make (hgd : o.guard = none) (l c : Operand) (t : TypeId) (ho : o.op = .makeSlice t l c) {e : TypeId} {size bytes n : Nat} (T : ElTy P t e size bytes) (hl : a.eval l = .int .i64 (n : Int)) (hc : a.eval c = .int .i64 (n : Int)) (hS : Own D W L w)
    (hb : n * bytes ≤ 140737488355328) (hn : n ≤ 140737488355328)
    (h : ∀ b cs w', Own D W ((b, cs) :: L) w' → cs.length = n * size → wpList P ops' Q rest (a.put o.dst (.slice (some ⟨b, 0, none⟩) n n)) w') : wpList P ops' Q (o :: rest) a w := by
  obtain ⟨i, z, hi, hz, hsz, hby, hzz⟩ := T.inf
  subst hsz hby
  have hmul : (i.bytes : Int) * (n : Int) ≤ 281474976710656 := by
    have h1 : i.bytes * n ≤ 281474976710656 := by rw [Nat.mul_comm]; omega
    rw [← Int.natCast_mul]
    omega
  have hrun := run_make (P := P) (w := w) t e i z T.und hi hz .i64 .i64 (n : Int) (n : Int) (by omega) (Int.le_refl _) hmul (by omega)
  simp only [Int.toNat_natCast] at hrun
  refine wpList_plain hgd fun K hK => ?_
  unfold Oper.wp execOp
  simp only [ho, hl, hc, Sem.run_bind, hrun, Sem.run_pure, Result.andThen_ok]
  exact hK _ _ (h w.heap.size (madeCells z.cells (n * i.size)).toList _ (by simpa using hS.new (madeCells z.cells (n * i.size)).toList e) (by simp [size_madeCells]))

/-- All elements go over. -/
theorem own_copy (hgd : o.guard = none) (d s : Operand) (dT sT : TypeId) (ho : o.op = .call { callee := .builtin .copy, args := #[d, s], argTypes := #[dT, sT] }) {e : TypeId} {size bytes n c1 c2 k b : Nat} (T : ElTy P dT e size bytes)
    {ad : Addr} {cur news : List Value} (hd : a.eval d = .slice (some ⟨b, 0, none⟩) n c1) (hs : a.eval s = .slice (some ad) n c2) (hS : Own D W L w) (hm : At k L b cur) (hn : news.length = n * size)
    (hsrc : ∀ j v, news[j]? = some v → w.cell? (ad.add j) = some v) (hfit : news.length ≤ cur.length) (h1 : ∀ v ∈ news, v.oneCell' = true)
    (h : ∀ w', Own D W (L.set k (b, setL cur 0 news)) w' → wpList P ops' Q rest (a.put o.dst (.int .i64 (n : Int))) w') : wpList P ops' Q (o :: rest) a w := by
  obtain ⟨i, z, hi, hz, hsz, hby, hzz⟩ := T.inf
  subst hsz
  have hb := hS.get hm
  have hl := run_loadCells_list (P := P) w ad news hsrc
  have hst := run_storeCells_cells (P := P) b 0 news 0 w (fun j hj => by
    rw [hb.cell, List.getElem?_eq_getElem (by omega)]; rfl) (fun j _ => hb.frozen _) h1
  rw [hn] at hl
  have hrun : (Builtin.copy_ #[dT, sT] o.type #[.slice (some ⟨b, 0, none⟩) n c1, .slice (some ad) n c2]).run P w = .ok (goInt n) (w.setCells b 0 news) := by
    simp [Builtin.copy_, run_underlying T.und, Builtin.lenOf, Builtin.firstCells, sizeOf, typeInfo, hi, hl, hst]
  refine wpList_plain hgd fun K hK => ?_
  unfold Oper.wp
  simp [execOp, ho, resolve, invoke, builtin, hd, hs, hrun, Result.andThen]
  exact hK _ _ (h _ (hS.setCells hm 0 news))
theorem own_copy0 (hgd : o.guard = none) (d s : Operand) (dT sT : TypeId) (ho : o.op = .call { callee := .builtin .copy, args := #[d, s], argTypes := #[dT, sT] }) {e : TypeId} {size bytes c1 c2 : Nat} (T : ElTy P dT e size bytes)
    {x y : Option Addr} (hd : a.eval d = .slice x 0 c1) (hs : a.eval s = .slice y 0 c2)
    (h : wpList P ops' Q rest (a.put o.dst (.int .i64 0)) w) : wpList P ops' Q (o :: rest) a w := by
  obtain ⟨i, z, hi, hz, hsz, hby, hzz⟩ := T.inf
  have hrun : (Builtin.copy_ #[dT, sT] o.type #[.slice x 0 c1, .slice y 0 c2]).run P w = .ok (goInt 0) w := by
    cases x <;> cases y <;> simp [Builtin.copy_, run_underlying T.und, Builtin.lenOf, Builtin.firstCells, sizeOf, typeInfo, hi, loadCells, loadCellsFrom, storeCells]
  refine wpList_plain hgd fun K hK => ?_
  unfold Oper.wp
  simp [execOp, ho, resolve, invoke, builtin, hd, hs, hrun, Result.andThen]
  exact hK _ _ h
end
end Go.Proofs.Ytgnkngkogamjaaa
namespace Go.Proofs.Ytgnkngkogamjaaa
open Go.RowKit

attribute [local irreducible] wpQuiet wpList Code.wp Calls

instance rt_box : RowTy Try.prog 37 11 := ⟨⟨_, Try.underlying37, rfl⟩, by kernel_rfl⟩
instance zt_box : ZeroTy Try.prog 37 [.int .i64 0, .string ⟨#[]⟩, .int .i64 0, .int .i64 0, .int .i64 0, .int .i64 0, .int .i64 0, .int .i64 0, .slice none 0 0, .int .i64 0, .slice none 0 0] := ⟨.agg #[.int .i64 0, .string ⟨#[]⟩, .int .i64 0, .int .i64 0, .int .i64 0, .int .i64 0, .int .i64 0, .int .i64 0, .slice none 0 0, .int .i64 0, .slice none 0 0], by kernel_rfl, rfl⟩
instance ot_boxs : OneTy Try.prog 32 := ⟨⟨_, Try.underlying32, rfl⟩, by kernel_rfl⟩
instance ot_ptr : OneTy Try.prog 79 := ⟨⟨_, Try.underlying79, rfl⟩, by kernel_rfl⟩
theorem el_ptr : ElTy Try.prog 96 79 1 8 := ElTy.mk' (.pointer none) Try.underlying96 (by kernel_rfl) rfl
theorem el_box : ElTy Try.prog 32 37 11 128 := ElTy.mk' (.agg #[.int .i64 0, .string ⟨#[]⟩, .int .i64 0, .int .i64 0, .int .i64 0, .int .i64 0, .int .i64 0, .int .i64 0, .slice none 0 0, .int .i64 0, .slice none 0 0]) Try.underlying32 (by kernel_rfl) rfl

theorem front_back (Xs : List (Nat × List Value)) (x y : Nat × List Value) (R : List (Nat × List Value)) : (Xs ++ x :: y :: R).Perm (x :: y :: (R ++ Xs)) := List.perm_append_comm (l₁ := Xs) (l₂ := x :: y :: R)
theorem eleven {α : Type} {l : List α} (h : l.length = 11) : ∃ c0 c1 c2 c3 c4 c5 c6 c7 c8 c9 c10, l = [c0, c1, c2, c3, c4, c5, c6, c7, c8, c9, c10] := by
  match l, h with
  | [c0, c1, c2, c3, c4, c5, c6, c7, c8, c9, c10], _ => exact ⟨c0, c1, c2, c3, c4, c5, c6, c7, c8, c9, c10, rfl⟩

set_option maxHeartbeats 8000000 in
set_option maxRecDepth 100000 in
theorem deep_Box_calls (P : Nat → Prop) (N : Nat) (b : Bx N) (cs : List Value) (w : World) (hP : ∀ k, P k → k < w.heap.size) (hr : RepG (fun k _ => P k) P w N b cs) (hs : Small N b) (hc : bCount N b ≤ 1000000) : Calls Try.prog 47 #[.agg cs.toArray] w (fun e w' => ∃ cs', e = .returned (.agg cs'.toArray) ∧ RepG (fun k _ => P k ∨ w.heap.size ≤ k) (fun k => P k ∨ w.heap.size ≤ k) w' N b cs' ∧ Below w.heap.size w w') := by
  have hl := hr.len
  have HR := Lib.hid hr
  have HP := Lib.hid hP
  have HS := Lib.hid hs
  have HC := Lib.hid hc
  have HL := Lib.hid hl
  clear hr hs hc hl hP
  go_enter Try.func47, Try.ntmps47
  have hS := own_start w
  go_wp2_with (first | (refine own_unguard (by rfl) ?_) | (refine own_box rfl _ _ rfl rfl hS ?_; clear hS; (try clear ww); intro rb ww hS) | (refine own_alloc rfl _ rfl hS zt_box ?_; clear hS; (try clear ww); intro rv ww hS) | (refine own_buildSlice rfl _ _ 1 _ rfl [.pointer (some ⟨rb, 0, none⟩)] hS Try.underlying96 (by kernel_rfl) ?_; clear hS; (try clear ww); intro bb ww hS) | (refine w_ld rfl _ rfl (by rfl) (by first | exact rd_1 (by repeat constructor) (by first | rfl | assumption) | exact rd_w (by repeat constructor) (by rfl) | exact rd_o (by assumption) (by rfl) (by first | exact nmn | assumption | simp) | exact rd_h (by assumption) (by rfl) (by first | exact nmn | assumption | simp) | exact rd_1o (by assumption) (by first | exact nmn | assumption | simp) | exact rd_1h (by assumption) (by first | rfl | assumption) (by first | exact nmn | assumption | simp)) hS ?_) | (refine own_box rfl _ _ rfl (by rfl) hS ?_; clear hS; (try clear ww); intro bb ww hS) | (refine w_al rfl rfl hS ?_; clear hS; (try clear ww); intro bb ww hS) | (refine w_st rfl _ _ rfl (by rfl) (by rfl) (by repeat constructor) (by rfl) (by rfl) (by first | rfl | assumption) hS ?_; clear hS; (try clear ww); intro ww hS) | (refine w_s1 rfl _ _ rfl (by rfl) (by repeat constructor) (by first | exact .c | exact .t rfl) (by rfl) (by repeat constructor) hS ?_; clear hS; (try clear ww); intro ww hS))
  obtain ⟨zs, hzs, hS0⟩ : ∃ zs, Hid (zs = [Value.int .i64 0, .string ⟨#[]⟩, .int .i64 0, .int .i64 0, .int .i64 0, .int .i64 0, .int .i64 0, .int .i64 0, .slice none 0 0, .int .i64 0, .slice none 0 0]) ∧ Own [] w [(bb, [.pointer (some ⟨rb, 0, none⟩)]), (rv, zs), (rb, cs)] ww := ⟨_, rfl, hS⟩
  clear hS
  have hS := hS0
  clear hS0
  go_loopw [3] (fun v wr => ∃ t KL SL X ps, DeepInv P w N b rb rv zs t v wr KL SL X ps) (fun v wr => least (fun t => ∃ KL SL X ps, DeepInv P w N b rb rv zs t v wr KL SL X ps))
  case atStart => exact ⟨_, _, _, _, _, deep_start HR.out HS.out HC.out hS⟩
  case round =>
    clear hS
    have hspec := least_spec hrel
    clear hrel
    obtain ⟨T, hT⟩ : ∃ T, Hid (T = least (fun k => ∃ KL SL X ps, DeepInv P w N b rb rv zs k u3 wr KL SL X ps)) := ⟨_, rfl⟩
    rw [← hT.out] at hspec
    obtain ⟨KL, SL, X, ps, hI⟩ := hspec
    rcases List.eq_nil_or_concat ps with rfl | ⟨rest, ⟨⟨k0, o0⟩, wt⟩, rfl⟩
    · obtain ⟨y, c, hv⟩ := hI.stack.slice
      simp only [List.length_nil] at hv
      subst hv
      obtain ⟨cs0, hm, h11, hroot⟩ := hI.root
      obtain ⟨c0, c1, c2, c3, c4, c5, c6, c7, c8, c9, c10, rfl⟩ := eleven h11
      have hrt : RowTy Try.prog 37 ([c0, c1, c2, c3, c4, c5, c6, c7, c8, c9, c10] : List Value).length := rt_box
      have hall := rep_all hroot
      have hS : Own [] w ((rv, zs) :: ((KL ++ SL) ++ X)) wr := hI.own
      obtain ⟨n0, hat⟩ : ∃ n, At n ((rv, zs) :: ((KL ++ SL) ++ X)) rb [c0, c1, c2, c3, c4, c5, c6, c7, c8, c9, c10] := List.mem_iff_getElem?.1 (by simp [hm])
      have hzl : zs.length = ([c0, c1, c2, c3, c4, c5, c6, c7, c8, c9, c10] : List Value).length := by rw [hzs.out]; rfl
      have HI := Lib.hid hI
      have HRt := Lib.hid hroot
      clear hI hroot hm h11 hT
      go_wp2_with (first | (refine own_unguard (by rfl) ?_) | (refine own_load rfl _ _ rfl rfl hS hat hrt ?_) | (refine own_store rfl _ _ _ rfl rfl rfl hS at0 hrt hzl hall ?_; clear hS; intro ww hS) | (refine w_ld rfl _ rfl (by rfl) (by first | exact rd_1 (by repeat constructor) (by first | rfl | assumption) | exact rd_w (by repeat constructor) (by rfl) | exact rd_o (by assumption) (by rfl) (by first | exact nmn | assumption | simp) | exact rd_h (by assumption) (by rfl) (by first | exact nmn | assumption | simp) | exact rd_1o (by assumption) (by first | exact nmn | assumption | simp) | exact rd_1h (by assumption) (by first | rfl | assumption) (by first | exact nmn | assumption | simp)) hS ?_) | (refine own_box rfl _ _ rfl (by rfl) hS ?_; clear hS; (try clear ww); intro bb ww hS) | (refine w_al rfl rfl hS ?_; clear hS; (try clear ww); intro bb ww hS) | (refine w_st rfl _ _ rfl (by rfl) (by rfl) (by repeat constructor) (by rfl) (by rfl) (by first | rfl | assumption) hS ?_; clear hS; (try clear ww); intro ww hS) | (refine w_s1 rfl _ _ rfl (by rfl) (by repeat constructor) (by first | exact .c | exact .t rfl) (by rfl) (by repeat constructor) hS ?_; clear hS; (try clear ww); intro ww hS))
      have hc := (hS.get at0).cell
      refine bodyPost_ret (v := .agg #[c0, c1, c2, c3, c4, c5, c6, c7, c8, c9, c10]) (by simp [results, Try.results47, go_sem, hc]) rfl ⟨[c0, c1, c2, c3, c4, c5, c6, c7, c8, c9, c10], rfl, deep_end HP.out HI.out HRt.out hS, hS.below⟩
    · rw [List.concat_eq_append] at hI
      obtain ⟨xb, c, ys, ks, K1, K2, m, a, kids, kx, kc, sx, sc, rfl, hTop⟩ := deep_pop hI
      have hv := hTop.v
      subst hv
      have hlen := deep_len hI
      simp only [List.length_append, List.length_cons, List.length_nil] at hlen
      have h8 : ks[o0 + 8]? = some (.slice kx kids.length kc) := top_cell hTop.cells rfl
      have h10 : ks[o0 + 10]? = some (.slice sx a.src.length sc) := top_cell hTop.cells rfl
      have g8 : ∀ s v, ((ks.set (o0 + 10) s).set (o0 + 8) v)[o0 + 8]? = some v := fun s v => by
        have := hTop.len
        rw [List.getElem?_set_self (by simp; omega)]
      have hkl := hTop.small.2.1
      have hsl := hTop.small.1
      have hol := hTop.len
      have hroom := hTop.room
      have htop := hTop.top
      simp only at hkl hsl
      have HSr := Lib.hid hTop.srcs
      obtain ⟨R, hR, hS⟩ : ∃ R, Hid (R = ((rv, zs) :: (K1 ++ K2)) ++ SL) ∧ Own [] w ((k0, ks) :: (xb, ys) :: R) wr := ⟨_, rfl, hTop.own⟩
      have HI := Lib.hid hI
      have HTop := Lib.hid hTop
      clear hI hTop
      by_cases hk0 : kids.length = 0
      · obtain rfl : kids = [] := List.eq_nil_of_length_eq_zero hk0
        simp only [List.length_nil] at h8
        clear hk0
        go_wp2_with (first | (refine own_unguard (by rfl) ?_) | (refine own_load1 rfl _ _ rfl rfl hS at1 ot_ptr htop ?_) | (refine own_load1 rfl _ _ rfl rfl hS at0 ot_boxs h8 ?_) | (refine own_load1 rfl _ _ rfl rfl hS at0 ot_boxs (g8 _ _) ?_) | (refine own_load1 rfl _ _ rfl rfl hS at0 ot_ints h10 ?_) | (go_at_call 61; refine own_ints hS (clone_calls _ _ _ _ (HSr.out.own hS) hsl) ?_; clear hS; intro y2 c2 Xs ww hXs hrow hS1; have hS := hS1.perm (front_back Xs (k0, ks) (xb, ys) R); clear hS1) | (refine own_store1 (i := o0 + 10) (v := .slice y2 a.src.length c2) rfl _ _ _ rfl rfl rfl rfl hS at0 ot_ints (by omega) ?_; clear hS; intro ww hS; simp only [List.set_cons_zero] at hS) | (refine own_store1 (i := o0 + 8) (v := .slice none 0 0) rfl _ _ _ rfl rfl rfl rfl hS at0 ot_boxs (by simp; omega) ?_; clear hS; intro ww hS; simp only [List.set_cons_zero] at hS) | (refine own_copy0 rfl _ _ _ _ rfl el_box rfl rfl ?_) | (refine w_ld rfl _ rfl (by rfl) (by first | exact rd_1 (by repeat constructor) (by first | rfl | assumption) | exact rd_w (by repeat constructor) (by rfl) | exact rd_o (by assumption) (by rfl) (by first | exact nmn | assumption | simp) | exact rd_h (by assumption) (by rfl) (by first | exact nmn | assumption | simp) | exact rd_1o (by assumption) (by first | exact nmn | assumption | simp) | exact rd_1h (by assumption) (by first | rfl | assumption) (by first | exact nmn | assumption | simp)) hS ?_) | (refine own_box rfl _ _ rfl (by rfl) hS ?_; clear hS; (try clear ww); intro bb ww hS) | (refine w_al rfl rfl hS ?_; clear hS; (try clear ww); intro bb ww hS) | (refine w_st rfl _ _ rfl (by rfl) (by rfl) (by repeat constructor) (by rfl) (by rfl) (by first | rfl | assumption) hS ?_; clear hS; (try clear ww); intro ww hS) | (refine w_s1 rfl _ _ rfl (by rfl) (by repeat constructor) (by first | exact .c | exact .t rfl) (by rfl) (by repeat constructor) hS ?_; clear hS; (try clear ww); intro ww hS))
        refine wp_loop_once ?_
        go_wp2_with (first | (refine own_unguard (by rfl) ?_) | (refine w_ld rfl _ rfl (by rfl) (by first | exact rd_1 (by repeat constructor) (by first | rfl | assumption) | exact rd_w (by repeat constructor) (by rfl) | exact rd_o (by assumption) (by rfl) (by first | exact nmn | assumption | simp) | exact rd_h (by assumption) (by rfl) (by first | exact nmn | assumption | simp) | exact rd_1o (by assumption) (by first | exact nmn | assumption | simp) | exact rd_1h (by assumption) (by first | rfl | assumption) (by first | exact nmn | assumption | simp)) hS ?_) | (refine own_box rfl _ _ rfl (by rfl) hS ?_; clear hS; (try clear ww); intro bb ww hS) | (refine w_al rfl rfl hS ?_; clear hS; (try clear ww); intro bb ww hS) | (refine w_st rfl _ _ rfl (by rfl) (by rfl) (by repeat constructor) (by rfl) (by rfl) (by first | rfl | assumption) hS ?_; clear hS; (try clear ww); intro ww hS) | (refine w_s1 rfl _ _ rfl (by rfl) (by repeat constructor) (by first | exact .c | exact .t rfl) (by rfl) (by repeat constructor) hS ?_; clear hS; (try clear ww); intro ww hS))
        obtain rfl := hR.out
        obtain ⟨t', KL', SL', ps', hlt', hI'⟩ := deep_push HP.out (A := []) (Xs := Xs) (X2 := [(xb, ys)]) (k' := 0) HI.out HTop.out hS ((two_last _ _ _).trans (deep_perm (k0, _) (rv, zs) [] (K1 ++ K2) SL Xs [(xb, ys)])) (sl_row hS (fun x hx => by simp [hx]) hXs) (sl_block hXs rfl) (.inl ⟨rfl, rfl⟩) (by simpa using HTop.out.stack)
        have HI' := Lib.hid hI'
        clear hI'
        go_roundw
        case rel => exact ⟨t', KL', SL', _, ps', HI'.out⟩
        case measure => exact Nat.lt_of_le_of_lt (least_le ⟨KL', SL', _, ps', HI'.out⟩) (by rw [← hT.out]; exact hlt')
      · obtain ⟨kb, ko, news, hkx, hnl, hnr, hn1⟩ := kids_flat HTop.out.rep (by intro h; subst h; simp at hk0)
        subst hkx
        have HNr := Lib.hid hnr
        clear hnr
        go_wp2_with (first | (refine own_unguard (by rfl) ?_) | (refine own_load1 rfl _ _ rfl rfl hS at1 ot_ptr htop ?_) | (refine own_load1 rfl _ _ rfl rfl hS at0 ot_boxs h8 ?_) | (refine own_load1 rfl _ _ rfl rfl hS at0 ot_boxs (g8 _ _) ?_) | (refine own_load1 rfl _ _ rfl rfl hS at0 ot_ints h10 ?_) | (go_at_call 61; refine own_ints hS (clone_calls _ _ _ _ (HSr.out.own hS) hsl) ?_; clear hS; intro y2 c2 Xs ww hXs hrow hS1; have hS := hS1.perm (front_back Xs (k0, ks) (xb, ys) R); clear hS1) | (refine own_store1 (i := o0 + 10) (v := .slice y2 a.src.length c2) rfl _ _ _ rfl rfl rfl rfl hS at0 ot_ints (by omega) ?_; clear hS; intro ww hS; simp only [List.set_cons_zero] at hS) | (refine own_store1 (i := o0 + 8) (v := .slice none 0 0) rfl _ _ _ rfl rfl rfl rfl hS at0 ot_boxs (by simp; omega) ?_; clear hS; intro ww hS; simp only [List.set_cons_zero] at hS) | (refine own_make (n := kids.length) rfl _ _ _ rfl el_box rfl rfl hS (by omega) (by omega) ?_; clear hS; intro k' arr0 ww hS harr) | (refine own_store1 (i := o0 + 8) (v := .slice (some ⟨k', 0, none⟩) kids.length kids.length) rfl _ _ _ rfl rfl rfl rfl hS at1 ot_boxs (by simp; omega) ?_; clear hS; intro ww hS; simp only [List.set_cons_zero, List.set_cons_succ, List.set_set] at hS) | (refine own_load1 rfl _ _ rfl rfl hS at1 ot_boxs (g8 _ _) ?_) | (refine own_copy (n := kids.length) rfl _ _ _ _ rfl el_box rfl rfl hS at0 hnl (src_cells hS HNr.out) (by omega) hn1 ?_; clear hS; intro ww hS; simp only [List.set_cons_zero] at hS; rw [setL_all (by omega)] at hS) | (refine w_ld rfl _ rfl (by rfl) (by first | exact rd_1 (by repeat constructor) (by first | rfl | assumption) | exact rd_w (by repeat constructor) (by rfl) | exact rd_o (by assumption) (by rfl) (by first | exact nmn | assumption | simp) | exact rd_h (by assumption) (by rfl) (by first | exact nmn | assumption | simp) | exact rd_1o (by assumption) (by first | exact nmn | assumption | simp) | exact rd_1h (by assumption) (by first | rfl | assumption) (by first | exact nmn | assumption | simp)) hS ?_) | (refine own_box rfl _ _ rfl (by rfl) hS ?_; clear hS; (try clear ww); intro bb ww hS) | (refine w_al rfl rfl hS ?_; clear hS; (try clear ww); intro bb ww hS) | (refine w_st rfl _ _ rfl (by rfl) (by rfl) (by repeat constructor) (by rfl) (by rfl) (by first | rfl | assumption) hS ?_; clear hS; (try clear ww); intro ww hS) | (refine w_s1 rfl _ _ rfl (by rfl) (by repeat constructor) (by first | exact .c | exact .t rfl) (by rfl) (by repeat constructor) hS ?_; clear hS; (try clear ww); intro ww hS))
        have hS1 := hS.perm (three_last _ _ _ _)
        clear hS
        have hS := hS1
        clear hS1
        go_loopw [3, 57] (fun v i wr2 => ∃ (j : Nat) (X2 : List (Nat × List Value)), j ≤ kids.length ∧ i = .int .i64 j ∧ Sl 1 (rest.length + j) v ((rest.map (·.1)).flatMap ptr ++ ((List.range j).map fun i => (k', i * 11)).flatMap ptr) X2 ∧ Own [] w (((k', news) :: (k0, (ks.set (o0 + 10) (.slice y2 a.src.length c2)).set (o0 + 8) (.slice (some ⟨k', 0, none⟩) kids.length kids.length)) :: (R ++ Xs)) ++ X2) wr2) (fun _ i _ => kids.length - (intOf i).toNat)
        case atStart => exact ⟨0, [(xb, ys)], Nat.zero_le _, rfl, by simpa using HTop.out.stack, hS⟩
        case round =>
          clear hS
          obtain ⟨j, X2, hj, rfl, hX2, hS⟩ := hrel
          by_cases hjl : j < kids.length
          · skip
            go_wp2_with (first | (refine own_unguard (by rfl) ?_) | (refine own_load1 rfl _ _ rfl rfl hS at1 ot_boxs (g8 _ _) ?_) | (refine own_buildSlice rfl _ _ 1 _ rfl [.pointer (some ⟨k', j * 11, none⟩)] hS Try.underlying96 (by kernel_rfl) ?_; clear hS; intro b1 ww hS) | (refine own_append_new (b := b1) rfl _ _ _ rfl hX2 rfl rfl (show Own [] w (((b1, [.pointer (some ⟨k', j * 11, none⟩)]) :: (_ :: _ :: _)) ++ X2) ww from hS) rfl rfl el_ptr (by decide) (by simp only [maxLen]; omega) (by omega) ?_; clear hS hX2; intro v' X' ww hS hX2) | (refine w_ld rfl _ rfl (by rfl) (by first | exact rd_1 (by repeat constructor) (by first | rfl | assumption) | exact rd_w (by repeat constructor) (by rfl) | exact rd_o (by assumption) (by rfl) (by first | exact nmn | assumption | simp) | exact rd_h (by assumption) (by rfl) (by first | exact nmn | assumption | simp) | exact rd_1o (by assumption) (by first | exact nmn | assumption | simp) | exact rd_1h (by assumption) (by first | rfl | assumption) (by first | exact nmn | assumption | simp)) hS ?_) | (refine own_box rfl _ _ rfl (by rfl) hS ?_; clear hS; (try clear ww); intro bb ww hS) | (refine w_al rfl rfl hS ?_; clear hS; (try clear ww); intro bb ww hS) | (refine w_st rfl _ _ rfl (by rfl) (by rfl) (by repeat constructor) (by rfl) (by rfl) (by first | rfl | assumption) hS ?_; clear hS; (try clear ww); intro ww hS) | (refine w_s1 rfl _ _ rfl (by rfl) (by repeat constructor) (by first | exact .c | exact .t rfl) (by rfl) (by repeat constructor) hS ?_; clear hS; (try clear ww); intro ww hS))
            have HX2 := Lib.hid (show Sl 1 (rest.length + (j + 1)) v' ((rest.map (·.1)).flatMap ptr ++ ((List.range (j + 1)).map fun i => (k', i * 11)).flatMap ptr) X' by rw [range_next, ← Nat.add_assoc]; exact hX2)
            clear hX2
            go_roundw
            case rel => exact ⟨j + 1, X', hjl, by go_num, HX2.out, hS⟩
            case measure => exact loop_meas hjl
          · obtain rfl : j = kids.length := by omega
            go_wp2_with (first | (refine own_unguard (by rfl) ?_) | (refine w_ld rfl _ rfl (by rfl) (by first | exact rd_1 (by repeat constructor) (by first | rfl | assumption) | exact rd_w (by repeat constructor) (by rfl) | exact rd_o (by assumption) (by rfl) (by first | exact nmn | assumption | simp) | exact rd_h (by assumption) (by rfl) (by first | exact nmn | assumption | simp) | exact rd_1o (by assumption) (by first | exact nmn | assumption | simp) | exact rd_1h (by assumption) (by first | rfl | assumption) (by first | exact nmn | assumption | simp)) hS ?_) | (refine own_box rfl _ _ rfl (by rfl) hS ?_; clear hS; (try clear ww); intro bb ww hS) | (refine w_al rfl rfl hS ?_; clear hS; (try clear ww); intro bb ww hS) | (refine w_st rfl _ _ rfl (by rfl) (by rfl) (by repeat constructor) (by rfl) (by rfl) (by first | rfl | assumption) hS ?_; clear hS; (try clear ww); intro ww hS) | (refine w_s1 rfl _ _ rfl (by rfl) (by repeat constructor) (by first | exact .c | exact .t rfl) (by rfl) (by repeat constructor) hS ?_; clear hS; (try clear ww); intro ww hS))
            obtain rfl := hR.out
            obtain ⟨t', KL', SL', ps', hlt', hI'⟩ := deep_push HP.out (A := [(k', news)]) (Xs := Xs) (X2 := X2) (k' := k') HI.out HTop.out hS (deep_perm (k0, _) (rv, zs) [(k', news)] (K1 ++ K2) SL Xs X2) (sl_row hS (fun x hx => by simp [hx]) hXs) (sl_block hXs rfl) (.inr ⟨news, rfl, rfl, hnl, fun k o he => by obtain ⟨rfl, rfl⟩ : kb = k ∧ ko = o := (by simpa using he); exact HNr.out⟩) hX2
            have HI' := Lib.hid hI'
            clear hI'
            go_roundw
            case rel => exact ⟨t', KL', SL', _, ps', HI'.out⟩
            case measure => exact Nat.lt_of_le_of_lt (least_le ⟨KL', SL', _, ps', HI'.out⟩) (by rw [← hT.out]; exact hlt')

end Go.Proofs.Ytgnkngkogamjaaa
namespace Go.Proofs.Ytgnkngkogamjaaa
open Go.RowKit

attribute [local irreducible] wpQuiet wpList Code.wp

theorem ref05_within_v {n a b : Int} {v : Bool} {w : World} (hv : Hid ((decide (a ≤ n) && decide (n ≤ b)) = v)) :
    Calls Try.prog 64 #[.int .i64 n, .int .i64 a, .int .i64 b] w fun e w' => e = .returned (.bool v) ∧ w = w' := by
  have := ref05_within_calls n a b w
  rwa [hv.out] at this

theorem allIn_three (a b c : Int) : allIn 1 100 [a, b, c] = ((decide (1 ≤ a) && decide (a ≤ 100)) && ((decide (1 ≤ b) && decide (b ≤ 100)) && (decide (1 ≤ c) && decide (c ≤ 100)))) := by
  simp [allIn]

set_option maxHeartbeats 4000000 in
set_option maxRecDepth 100000 in
theorem ref05_Params_calls (F : Fnt) (w : World) : Calls Try.prog 50 #[.agg F.prm.toArray] w (Gives (.bool (prmOk F)) w) := by
  have HN := Lib.hid (show F.lens.length = 17 from rfl)
  obtain ⟨lens, HLe⟩ : ∃ l, Hid (l = F.lens) := ⟨_, rfl⟩
  have hlen : lens.length ≤ 17 ∧ 17 ≤ lens.length := by rw [HLe.out]; exact ⟨Nat.le_refl _, Nat.le_refl _⟩
  go_enter Try.func50, Try.ntmps50
  have hS := own_start w
  go_wp2_with (first | (refine own_unguard (by rfl) ?_) | (refine own_buildSlice rfl _ _ 17 _ rfl (F.lens.map (Value.int .i64)) hS Try.underlying35 (by kernel_rfl) ?_; rw [← HLe.out]; clear hS; (try clear ww); intro bb ww hS) | (refine w_ld rfl _ rfl (by rfl) (by first | exact rd_1 (by repeat constructor) (by first | rfl | assumption) | exact rd_w (by repeat constructor) (by rfl) | exact rd_o (by assumption) (by rfl) (by first | exact nmn | assumption | simp) | exact rd_h (by assumption) (by rfl) (by first | exact nmn | assumption | simp) | exact rd_1o (by assumption) (by first | exact nmn | assumption | simp) | exact rd_1h (by assumption) (by first | rfl | assumption) (by first | exact nmn | assumption | simp)) hS ?_) | (refine own_box rfl _ _ rfl (by rfl) hS ?_; clear hS; (try clear ww); intro bb ww hS) | (refine w_st rfl _ _ rfl (by rfl) (by rfl) (by repeat constructor) (by rfl) (by rfl) (by first | rfl | assumption) hS ?_; clear hS; (try clear ww); intro ww hS) | (refine w_s1 rfl _ _ rfl (by rfl) (by repeat constructor) (by first | exact .c | exact .t rfl) (by rfl) (by repeat constructor) hS ?_; clear hS; (try clear ww); intro ww hS))
  obtain ⟨L0, HL, hS⟩ := hS.named
  go_loopw [4] (fun i wr => ∃ k : Nat, k ≤ 17 ∧ i = .int .i64 k ∧ allIn 0 20000 lens = allIn 0 20000 (lens.drop k) ∧ Own [] w L0 wr) (fun i _ => 17 - (intOf i).toNat)
  case atStart => exact ⟨0, Nat.zero_le _, rfl, rfl, hS⟩
  case round =>
    clear hS
    obtain ⟨k, hk, rfl, hf, hS⟩ := hrel
    obtain rfl := HL.out
    clear HL
    by_cases hlt : k < 17
    · obtain ⟨n, hn⟩ : ∃ n, lens[k]? = some n := ⟨lens[k], by simp⟩
      rw [allIn_drop 0 20000 lens k n hn] at hf
      have HE := Lib.hid hf
      have hcell : (lens.map (Value.int .i64))[k]? = some (.int .i64 n) := by rw [List.getElem?_map, hn]; rfl
      clear hf hn
      cases hb : (decide (0 ≤ n) && decide (n ≤ 20000))
      · have HB := Lib.hid hb
        have E1 := Lib.hid (show prmOk F = false by unfold prmOk; rw [← HLe.out, HE.out, hb]; simp)
        clear hb HE
        go_wp2_with (first | (refine own_unguard (by rfl) ?_) | (go_at_call 64; refine own_callsS hS (ref05_within_v HB) ?_) | (refine w_ld rfl _ rfl (by rfl) (by first | exact rd_1 (by repeat constructor) (by first | rfl | assumption) | exact rd_w (by repeat constructor) (by rfl) | exact rd_o (by assumption) (by rfl) (by first | exact nmn | assumption | simp) | exact rd_h (by assumption) (by rfl) (by first | exact nmn | assumption | simp) | exact rd_1o (by assumption) (by first | exact nmn | assumption | simp) | exact rd_1h (by assumption) (by first | rfl | assumption) (by first | exact nmn | assumption | simp)) hS ?_) | (refine own_box rfl _ _ rfl (by rfl) hS ?_; clear hS; (try clear ww); intro bb ww hS) | (refine w_st rfl _ _ rfl (by rfl) (by rfl) (by repeat constructor) (by rfl) (by rfl) (by first | rfl | assumption) hS ?_; clear hS; (try clear ww); intro ww hS) | (refine w_s1 rfl _ _ rfl (by rfl) (by repeat constructor) (by first | exact .c | exact .t rfl) (by rfl) (by repeat constructor) hS ?_; clear hS; (try clear ww); intro ww hS))
        go_ret
        exact ⟨ret_bool E1.out.symm, hS.below⟩
      · have HB := Lib.hid hb
        have E1 := Lib.hid (show allIn 0 20000 lens = allIn 0 20000 (lens.drop (k + 1)) by rw [HE.out, hb]; simp)
        clear hb HE
        go_wp2_with (first | (refine own_unguard (by rfl) ?_) | (go_at_call 64; refine own_callsS hS (ref05_within_v HB) ?_) | (refine w_ld rfl _ rfl (by rfl) (by first | exact rd_1 (by repeat constructor) (by first | rfl | assumption) | exact rd_w (by repeat constructor) (by rfl) | exact rd_o (by assumption) (by rfl) (by first | exact nmn | assumption | simp) | exact rd_h (by assumption) (by rfl) (by first | exact nmn | assumption | simp) | exact rd_1o (by assumption) (by first | exact nmn | assumption | simp) | exact rd_1h (by assumption) (by first | rfl | assumption) (by first | exact nmn | assumption | simp)) hS ?_) | (refine own_box rfl _ _ rfl (by rfl) hS ?_; clear hS; (try clear ww); intro bb ww hS) | (refine w_st rfl _ _ rfl (by rfl) (by rfl) (by repeat constructor) (by rfl) (by rfl) (by first | rfl | assumption) hS ?_; clear hS; (try clear ww); intro ww hS) | (refine w_s1 rfl _ _ rfl (by rfl) (by repeat constructor) (by first | exact .c | exact .t rfl) (by rfl) (by repeat constructor) hS ?_; clear hS; (try clear ww); intro ww hS))
        go_roundw
        case rel => exact ⟨k + 1, hlt, by go_num, E1.out, hS⟩
        case measure => exact loop_meas hlt
    · have E0 := Lib.hid (show prmOk F = allIn 1 100 [F.script, F.sscript, F.dpercent] by
        unfold prmOk
        rw [← HLe.out, hf, List.drop_of_length_le (by omega)]
        exact Bool.and_true _)
      clear hf
      rw [allIn_three] at E0
      cases hb1 : (decide (1 ≤ F.script) && decide (F.script ≤ 100)) <;> cases hb2 : (decide (1 ≤ F.sscript) && decide (F.sscript ≤ 100)) <;> cases hb3 : (decide (1 ≤ F.dpercent) && decide (F.dpercent ≤ 100))
      all_goals
        rw [hb1, hb2, hb3] at E0
        have B1 := Lib.hid hb1
        have B2 := Lib.hid hb2
        have B3 := Lib.hid hb3
        clear hb1 hb2 hb3
        go_wp2_with (first | (refine own_unguard (by rfl) ?_) | (go_at_call 64; refine own_callsS hS (ref05_within_v B1) ?_) | (go_at_call 64; refine own_callsS hS (ref05_within_v B2) ?_) | (go_at_call 64; refine own_callsS hS (ref05_within_v B3) ?_) | (refine w_ld rfl _ rfl (by rfl) (by first | exact rd_1 (by repeat constructor) (by first | rfl | assumption) | exact rd_w (by repeat constructor) (by rfl) | exact rd_o (by assumption) (by rfl) (by first | exact nmn | assumption | simp) | exact rd_h (by assumption) (by rfl) (by first | exact nmn | assumption | simp) | exact rd_1o (by assumption) (by first | exact nmn | assumption | simp) | exact rd_1h (by assumption) (by first | rfl | assumption) (by first | exact nmn | assumption | simp)) hS ?_) | (refine own_box rfl _ _ rfl (by rfl) hS ?_; clear hS; (try clear ww); intro bb ww hS) | (refine w_st rfl _ _ rfl (by rfl) (by rfl) (by repeat constructor) (by rfl) (by rfl) (by first | rfl | assumption) hS ?_; clear hS; (try clear ww); intro ww hS) | (refine w_s1 rfl _ _ rfl (by rfl) (by repeat constructor) (by first | exact .c | exact .t rfl) (by rfl) (by repeat constructor) hS ?_; clear hS; (try clear ww); intro ww hS))
        go_ret
        exact ⟨ret_bool E0.out.symm, hS.below⟩

end Go.Proofs.Ytgnkngkogamjaaa
namespace Go.Proofs.Ytgnkngkogamjaaa
open Go.RowKit

/-- The metrics of a glyph. -/
def Gly.nums (g : Gly) : List Int := [g.w, g.h, g.d, g.it, g.at_]
/-- All metrics are at most 20000. -/
def metricsOk (g : Gly) : Bool := allIn (-20000) 20000 g.nums
theorem metricsOk_bd {g : Gly} (h : metricsOk g = true) : (-20000 ≤ g.w ∧ g.w ≤ 20000) ∧ (-20000 ≤ g.h ∧ g.h ≤ 20000) ∧ (-20000 ≤ g.d ∧ g.d ≤ 20000) ∧ (-20000 ≤ g.it ∧ g.it ≤ 20000) ∧ (-20000 ≤ g.at_ ∧ g.at_ ≤ 20000) := by
  simp [metricsOk, allIn, Gly.nums] at h
  omega





end Go.Proofs.Ytgnkngkogamjaaa
namespace Go.Proofs.Ytgnkngkogamjaaa
open Go.RowKit



set_option maxHeartbeats 2000000 in
theorem ref05_metrics_calls (g : Gly) (w : World) :
    Calls Try.prog 65 #[.agg #[.string g.name, .int .i64 g.w, .int .i64 g.h, .int .i64 g.d, .int .i64 g.it, .int .i64 g.at_]] w (Gives (.bool (metricsOk g)) w) := by
  obtain ⟨ns, hns⟩ : ∃ ns, ns = g.nums := ⟨_, rfl⟩
  have hm := Lib.hid (show metricsOk g = allIn (-20000) 20000 ns by rw [hns]; rfl)
  have hlen : ns.length = 5 := by rw [hns]; rfl
  have hat : ∀ k n, ns[k]? = some n → ((w.alloc (.cells #[.string g.name, .int .i64 g.w, .int .i64 g.h, .int .i64 g.d, .int .i64 g.it, .int .i64 g.at_] 90)).alloc (.cells #[.int .i64 g.w, .int .i64 g.h, .int .i64 g.d, .int .i64 g.it, .int .i64 g.at_] 3)).cell? ⟨w.heap.size + 1, k, none⟩ = some (.int .i64 n) := by
    intro k n hk
    rw [hns] at hk
    simp only [Gly.nums] at hk
    rcases k with _ | _ | _ | _ | _ | k <;> simp at hk <;> subst hk <;> simp [go_sem]
  have HAT := Lib.hid hat
  have HLEN := Lib.hid hlen
  clear hat hns hlen
  go_enter Try.func65, Try.ntmps65
  go_wp2_with fail
  generalize hW : (w.alloc (.cells #[.string g.name, .int .i64 g.w, .int .i64 g.h, .int .i64 g.d, .int .i64 g.it, .int .i64 g.at_] 90)).alloc (.cells #[.int .i64 g.w, .int .i64 g.h, .int .i64 g.d, .int .i64 g.it, .int .i64 g.at_] 3) = W at *
  have hb : Below w.heap.size w W := by rw [← hW]; exact bnew (bnew (bself w) _) _
  clear hW
  go_loop [4] (fun i => ∃ k : Nat, k ≤ 5 ∧ i = .int .i64 k ∧ allIn (-20000) 20000 ns = allIn (-20000) 20000 (ns.drop k)) (fun i => 5 - (intOf i).toNat)
  case atStart => exact ⟨0, Nat.zero_le _, rfl, rfl⟩
  case round =>
    obtain ⟨k, hk, rfl, hf⟩ := hrel
    by_cases hlt : k < 5
    · obtain ⟨n, hg⟩ : ∃ n, ns[k]? = some n := ⟨ns[k]'(by rw [HLEN.out]; omega), by simp [HLEN.out, hlt]⟩
      have g0 := HAT.out k n hg
      rw [allIn_drop _ _ ns k n hg] at hf
      have HF := Lib.hid hf
      clear hf hg
      by_cases h1 : (decide (-20000 ≤ n) && decide (n ≤ 20000)) = true
      · have E1 := Lib.hid (show allIn (-20000) 20000 ns = allIn (-20000) 20000 (ns.drop (k + 1)) by rw [HF.out, h1, Bool.true_and])
        go_wp2_with fail
        refine (ref05_within_calls _ _ _ _).mono ?_
        rintro e w' ⟨rfl, rfl⟩
        go_wp2_with fail
        go_round
        case rel => exact ⟨k + 1, by omega, by go_num, E1.out⟩
        case measure => simp [intOf]; omega
      · have h1' : (decide (-20000 ≤ n) && decide (n ≤ 20000)) = false := by simpa using h1
        have E1 := Lib.hid (show allIn (-20000) 20000 ns = false by rw [HF.out, h1', Bool.false_and])
        clear h1
        go_wp2_with fail
        refine (ref05_within_calls _ _ _ _).mono ?_
        rintro e w' ⟨rfl, rfl⟩
        go_wp2_with fail
        go_ret
        refine ⟨ret_bool ?_, hb⟩
        rw [hm.out, E1.out]
    · have E1 := Lib.hid (show allIn (-20000) 20000 ns = true by rw [hf, List.drop_of_length_le (by rw [HLEN.out]; omega)]; rfl)
      clear hf
      go_wp2_with fail
      go_ret
      refine ⟨ret_bool ?_, hb⟩
      rw [hm.out, E1.out]











end Go.Proofs.Ytgnkngkogamjaaa
