/- Texts Req, Law. -/
import Derived.Test.YtgnkngkogamjaaaJ17
import Derived.Test.YtgnkngkogamjaaaJ00
import Derived.ProofKit
import Derived.Lib.SmallJoins
namespace Go.Proofs.Ytgnkngkogamjaaa
open Go.RowKit

attribute [local irreducible] wpQuiet wpG wpP wpK wpList Code.wp Calls

set_option maxHeartbeats 8000000 in
set_option maxRecDepth 100000 in
theorem ref28_SameInts_same (l : List Int) (x y : Option Addr) (c d : Nat) (w : World) (hx : RowAt w x 1 intCells l) (hy : RowAt w y 1 intCells l) (hl : l.length ≤ 17592186044416) : Calls Try.prog 34 #[.slice x l.length c, .slice y l.length d] w (Gives (.bool true) w) := by
  have HX := Lib.hid hx
  have HY := Lib.hid hy
  clear hx hy
  go_enter Try.func34, Try.ntmps34
  have hS := own_start w
  go_wp2_with (first | (refine own_unguard (by rfl) ?_) | (refine w_ld rfl _ rfl (by rfl) (by first | exact rd_1 (by repeat constructor) (by first | rfl | assumption) | exact rd_w (by repeat constructor) (by rfl) | exact rd_o (by assumption) (by rfl) (by first | exact nmn | assumption | simp) | exact rd_h (by assumption) (by rfl) (by first | exact nmn | assumption | simp) | exact rd_1o (by assumption) (by first | exact nmn | assumption | simp) | exact rd_1h (by assumption) (by first | rfl | assumption) (by first | exact nmn | assumption | simp)) hS ?_) | (refine own_box rfl _ _ rfl (by rfl) hS ?_; clear hS; (try clear ww); intro bb ww hS) | (refine w_st rfl _ _ rfl (by rfl) (by rfl) (by repeat constructor) (by rfl) (by rfl) (by first | rfl | assumption) hS ?_; clear hS; (try clear ww); intro ww hS) | (refine w_s1 rfl _ _ rfl (by rfl) (by repeat constructor) (by first | exact .c | exact .t rfl) (by rfl) (by repeat constructor) hS ?_; clear hS; (try clear ww); intro ww hS))
  go_loopw [5] (fun i wr => ∃ j : Nat, j ≤ l.length ∧ i = .int .i64 j ∧ Own [] w [] wr) (fun i _ => l.length - (intOf i).toNat)
  case atStart => exact ⟨0, Nat.zero_le _, rfl, hS⟩
  case round =>
    clear hS
    obtain ⟨j, hj, rfl, hS⟩ := hrel
    by_cases hlt : j < l.length
    · obtain ⟨n, hn⟩ : ∃ n, l[j]? = some n := ⟨l[j], by simp [hlt]⟩
      obtain ⟨b1, o1, hx1, hr1⟩ := HX.out.get hn
      obtain ⟨b2, o2, hx2, hr2⟩ := HY.out.get hn
      obtain rfl : x = some ⟨b1, o1, none⟩ := hx1
      obtain rfl : y = some ⟨b2, o2, none⟩ := hx2
      have hc1 : w.cell? ⟨b1, o1 + j * 1, none⟩ = some (.int .i64 n) := hr1 0 _ rfl
      have hc2 : w.cell? ⟨b2, o2 + j * 1, none⟩ = some (.int .i64 n) := hr2 0 _ rfl
      rw [Nat.mul_one] at hc1 hc2
      clear hr1 hr2 hn
      go_wp2_with (first | (refine own_unguard (by rfl) ?_) | (refine w_ld rfl _ rfl (by rfl) (by first | exact rd_1 (by repeat constructor) (by first | rfl | assumption) | exact rd_w (by repeat constructor) (by rfl) | exact rd_o (by assumption) (by rfl) (by first | exact nmn | assumption | simp) | exact rd_h (by assumption) (by rfl) (by first | exact nmn | assumption | simp) | exact rd_1o (by assumption) (by first | exact nmn | assumption | simp) | exact rd_1h (by assumption) (by first | rfl | assumption) (by first | exact nmn | assumption | simp)) hS ?_) | (refine own_box rfl _ _ rfl (by rfl) hS ?_; clear hS; (try clear ww); intro bb ww hS) | (refine w_st rfl _ _ rfl (by rfl) (by rfl) (by repeat constructor) (by rfl) (by rfl) (by first | rfl | assumption) hS ?_; clear hS; (try clear ww); intro ww hS) | (refine w_s1 rfl _ _ rfl (by rfl) (by repeat constructor) (by first | exact .c | exact .t rfl) (by rfl) (by repeat constructor) hS ?_; clear hS; (try clear ww); intro ww hS))
      refine own_region hS (by kernel_rfl) (by kernel_rfl) ?_
      (try simp only); (try simp only [List.drop_succ_cons]); (try simp only [List.drop_zero]); (try simp only [List.take_succ_cons]); (try simp only [List.take_zero])
      repeat (first
          | (first | (refine quiet_plain rfl ?_) | (refine quiet_yes rfl rfl rfl (by simp only [List.getElem?_toArray, List.getElem?_cons_succ, List.getElem?_cons_zero]; rfl) (by with_reducible constructor) ?_)
             apply Exists.intro; refine ⟨?_, ?_⟩
             focus (intro wq hq0; have hq : Own _ _ _ wq := hq0; first | (exact quietAt_rd rfl (by rfl) (by first | exact rd_1 (by repeat constructor) (by first | rfl | assumption) | exact rd_w (by repeat constructor) (by rfl) | exact rd_o (by assumption) (by rfl) (by first | exact nmn | assumption | simp) | exact rd_h (by assumption) (by rfl) (by first | exact nmn | assumption | simp) | exact rd_1o (by assumption) (by first | exact nmn | assumption | simp) | exact rd_1h (by assumption) (by first | rfl | assumption) (by first | exact nmn | assumption | simp)) hq) | (go_simp; first | (with_reducible rfl)))
             simp only [Act.put, List.setIfInBounds_toArray, List.set_cons_zero, List.set_cons_succ])
          | (refine quiet_no rfl rfl rfl (by simp only [List.getElem?_toArray, List.getElem?_cons_succ, List.getElem?_cons_zero]; rfl) (by with_reducible constructor) ?_; simp only [Act.put, List.setIfInBounds_toArray, List.set_cons_zero, List.set_cons_succ]))
      refine wpQuiet_nil ?_
      clear hS
      intro ww hS
      go_wp2_with (first | (refine own_unguard (by rfl) ?_) | (refine w_ld rfl _ rfl (by rfl) (by first | exact rd_1 (by repeat constructor) (by first | rfl | assumption) | exact rd_w (by repeat constructor) (by rfl) | exact rd_o (by assumption) (by rfl) (by first | exact nmn | assumption | simp) | exact rd_h (by assumption) (by rfl) (by first | exact nmn | assumption | simp) | exact rd_1o (by assumption) (by first | exact nmn | assumption | simp) | exact rd_1h (by assumption) (by first | rfl | assumption) (by first | exact nmn | assumption | simp)) hS ?_) | (refine own_box rfl _ _ rfl (by rfl) hS ?_; clear hS; (try clear ww); intro bb ww hS) | (refine w_st rfl _ _ rfl (by rfl) (by rfl) (by repeat constructor) (by rfl) (by rfl) (by first | rfl | assumption) hS ?_; clear hS; (try clear ww); intro ww hS) | (refine w_s1 rfl _ _ rfl (by rfl) (by repeat constructor) (by first | exact .c | exact .t rfl) (by rfl) (by repeat constructor) hS ?_; clear hS; (try clear ww); intro ww hS))
      go_roundw
      case rel => exact ⟨j + 1, hlt, by go_num, hS⟩
      case measure => exact loop_meas hlt
    · obtain rfl : j = l.length := by omega
      go_wp2_with (first | (refine own_unguard (by rfl) ?_) | (refine w_ld rfl _ rfl (by rfl) (by first | exact rd_1 (by repeat constructor) (by first | rfl | assumption) | exact rd_w (by repeat constructor) (by rfl) | exact rd_o (by assumption) (by rfl) (by first | exact nmn | assumption | simp) | exact rd_h (by assumption) (by rfl) (by first | exact nmn | assumption | simp) | exact rd_1o (by assumption) (by first | exact nmn | assumption | simp) | exact rd_1h (by assumption) (by first | rfl | assumption) (by first | exact nmn | assumption | simp)) hS ?_) | (refine own_box rfl _ _ rfl (by rfl) hS ?_; clear hS; (try clear ww); intro bb ww hS) | (refine w_st rfl _ _ rfl (by rfl) (by rfl) (by repeat constructor) (by rfl) (by rfl) (by first | rfl | assumption) hS ?_; clear hS; (try clear ww); intro ww hS) | (refine w_s1 rfl _ _ rfl (by rfl) (by repeat constructor) (by first | exact .c | exact .t rfl) (by rfl) (by repeat constructor) hS ?_; clear hS; (try clear ww); intro ww hS))
      go_ret
      exact own_gives hS

set_option maxHeartbeats 16000000 in
set_option maxRecDepth 100000 in
theorem ref28_Equal_step (n : Nat) (ih : ∀ (b : Bx n) (cs ds : List Value) (w : World), Rep w n b cs → Rep w n b ds → Small n b → Calls Try.prog 12 #[.agg cs.toArray, .agg ds.toArray] w (Gives (.bool true) w))
    (b : Bx (n + 1)) (cs ds : List Value) (w : World) (hr : Rep w (n + 1) b cs) (hr2 : Rep w (n + 1) b ds) (hsm : Small (n + 1) b) : Calls Try.prog 12 #[.agg cs.toArray, .agg ds.toArray] w (Gives (.bool true) w) := by
  obtain ⟨⟨kind, name, size, bw, bh, bd, bx, by_, of, src⟩, kids⟩ := b
  obtain ⟨kx, kc, sx, sc, rfl, ha, hkl, hrow0, hkids⟩ := rep_out hr
  obtain ⟨kx2, kc2, sx2, sc2, rfl, _, _, hrow2, hkids2⟩ := rep_out hr2
  have hkl2 : kids.length ≤ 1000000 := hsm.2.1
  have hsl : src.length ≤ 17592186044416 := hsm.1
  have IH := Lib.hid ih
  have HK := Lib.hid hkids
  have HK2 := Lib.hid hkids2
  have HSm := Lib.hid hsm.2.2
  have HRow := Lib.hid hrow0
  have HRow2 := Lib.hid hrow2
  simp only at HRow HRow2
  clear ih hr hr2 ha hkl hrow0 hkids hsm hrow2 hkids2
  go_enter Try.func12, Try.ntmps12
  try simp only [List.append]
  have hS := own_start w
  go_wp2_with (first | (refine own_unguard (by rfl) ?_) | (go_at_call 34; refine own_calls hS (ref28_SameInts_same src sx sx2 sc sc2 _ (HRow.out.own hS) (HRow2.out.own hS) hsl) ?_; clear hS; (try clear ww); intro ww hS) | (refine w_ld rfl _ rfl (by rfl) (by first | exact rd_1 (by repeat constructor) (by first | rfl | assumption) | exact rd_w (by repeat constructor) (by rfl) | exact rd_o (by assumption) (by rfl) (by first | exact nmn | assumption | simp) | exact rd_h (by assumption) (by rfl) (by first | exact nmn | assumption | simp) | exact rd_1o (by assumption) (by first | exact nmn | assumption | simp) | exact rd_1h (by assumption) (by first | rfl | assumption) (by first | exact nmn | assumption | simp)) hS ?_) | (refine own_box rfl _ _ rfl (by rfl) hS ?_; clear hS; (try clear ww); intro bb ww hS) | (refine w_st rfl _ _ rfl (by rfl) (by rfl) (by repeat constructor) (by rfl) (by rfl) (by first | rfl | assumption) hS ?_; clear hS; (try clear ww); intro ww hS) | (refine w_s1 rfl _ _ rfl (by rfl) (by repeat constructor) (by first | exact .c | exact .t rfl) (by rfl) (by repeat constructor) hS ?_; clear hS; (try clear ww); intro ww hS))
  obtain ⟨L0, HL, hS0⟩ := hS.named
  clear hS
  have hS := hS0
  clear hS0
  go_loopw [5] (fun i wr => ∃ j : Nat, j ≤ kids.length ∧ i = .int .i64 j ∧ Own [] w L0 wr) (fun i _ => kids.length - (intOf i).toNat)
  case atStart => exact ⟨0, Nat.zero_le _, rfl, hS⟩
  case round =>
    clear hS
    obtain ⟨j, hj, rfl, hS⟩ := hrel
    obtain rfl := HL.out
    clear HL
    by_cases hlt : j < kids.length
    · obtain ⟨kid, hkid⟩ : ∃ kid, kids[j]? = some kid := ⟨kids[j], by simp [hlt]⟩
      obtain ⟨kb, ko, css, hkx, hrg, hrep⟩ := HK.out j kid hkid
      obtain ⟨kb2, ko2, css2, hkx2, hrg2, hrep2⟩ := HK2.out j kid hkid
      obtain rfl : kx = some ⟨kb, ko, none⟩ := hkx
      obtain rfl : kx2 = some ⟨kb2, ko2, none⟩ := hkx2
      obtain ⟨c0, c1, c2, c3, c4, c5, c6, c7, c8, c9, c10, rfl⟩ := eleven hrep.len
      obtain ⟨d0, d1, d2, d3, d4, d5, d6, d7, d8, d9, d10, rfl⟩ := eleven hrep2.len
      have HE := Lib.hid (fun wq (h : Below w.heap.size w wq) => IH.out kid _ _ wq (hrep.step h) (hrep2.step h) (HSm.out kid (List.mem_of_getElem? hkid)))
      clear hrep hrep2 hkid
      go_wp2_with (first | (refine own_unguard (by rfl) ?_) | (refine w_ld rfl _ rfl (by rfl) (by first | exact rd_1 (by repeat constructor) (by first | rfl | assumption) | exact rd_w (by repeat constructor) (by rfl) | exact rd_o (by assumption) (by rfl) (by first | exact nmn | assumption | simp) | exact rd_h (by assumption) (by rfl) (by first | exact nmn | assumption | simp) | exact rd_1o (by assumption) (by first | exact nmn | assumption | simp) | exact rd_1h (by assumption) (by first | rfl | assumption) (by first | exact nmn | assumption | simp)) hS ?_) | (refine own_box rfl _ _ rfl (by rfl) hS ?_; clear hS; (try clear ww); intro bb ww hS) | (refine w_st rfl _ _ rfl (by rfl) (by rfl) (by repeat constructor) (by rfl) (by rfl) (by first | rfl | assumption) hS ?_; clear hS; (try clear ww); intro ww hS) | (refine w_s1 rfl _ _ rfl (by rfl) (by repeat constructor) (by first | exact .c | exact .t rfl) (by rfl) (by repeat constructor) hS ?_; clear hS; (try clear ww); intro ww hS))
      refine own_region hS (by kernel_rfl) (by kernel_rfl) ?_
      (try simp only); (try simp only [List.drop_succ_cons]); (try simp only [List.drop_zero]); (try simp only [List.take_succ_cons]); (try simp only [List.take_zero])
      repeat (first
          | (first | (refine quiet_plain rfl ?_) | (refine quiet_yes rfl rfl rfl (by simp only [List.getElem?_toArray, List.getElem?_cons_succ, List.getElem?_cons_zero]; rfl) (by with_reducible constructor) ?_)
             apply Exists.intro; refine ⟨?_, ?_⟩
             focus (intro wq hq0; have hq : Own _ _ _ wq := hq0; first | (exact quietAt_rd rfl (by rfl) (by first | exact rd_1 (by repeat constructor) (by first | rfl | assumption) | exact rd_w (by repeat constructor) (by rfl) | exact rd_o (by assumption) (by rfl) (by first | exact nmn | assumption | simp) | exact rd_h (by assumption) (by rfl) (by first | exact nmn | assumption | simp) | exact rd_1o (by assumption) (by first | exact nmn | assumption | simp) | exact rd_1h (by assumption) (by first | rfl | assumption) (by first | exact nmn | assumption | simp)) hq) | (go_simp; first | (go_at_call 12; exact quietG hq (HE.out _ hq.below)) | (with_reducible rfl)))
             simp only [Act.put, List.setIfInBounds_toArray, List.set_cons_zero, List.set_cons_succ])
          | (refine quiet_no rfl rfl rfl (by simp only [List.getElem?_toArray, List.getElem?_cons_succ, List.getElem?_cons_zero]; rfl) (by with_reducible constructor) ?_; simp only [Act.put, List.setIfInBounds_toArray, List.set_cons_zero, List.set_cons_succ]))
      refine wpQuiet_nil ?_
      clear hS
      intro ww hS
      go_wp2_with (first | (refine own_unguard (by rfl) ?_) | (refine w_ld rfl _ rfl (by rfl) (by first | exact rd_1 (by repeat constructor) (by first | rfl | assumption) | exact rd_w (by repeat constructor) (by rfl) | exact rd_o (by assumption) (by rfl) (by first | exact nmn | assumption | simp) | exact rd_h (by assumption) (by rfl) (by first | exact nmn | assumption | simp) | exact rd_1o (by assumption) (by first | exact nmn | assumption | simp) | exact rd_1h (by assumption) (by first | rfl | assumption) (by first | exact nmn | assumption | simp)) hS ?_) | (refine own_box rfl _ _ rfl (by rfl) hS ?_; clear hS; (try clear ww); intro bb ww hS) | (refine w_st rfl _ _ rfl (by rfl) (by rfl) (by repeat constructor) (by rfl) (by rfl) (by first | rfl | assumption) hS ?_; clear hS; (try clear ww); intro ww hS) | (refine w_s1 rfl _ _ rfl (by rfl) (by repeat constructor) (by first | exact .c | exact .t rfl) (by rfl) (by repeat constructor) hS ?_; clear hS; (try clear ww); intro ww hS))
      go_roundw
      case rel => exact ⟨j + 1, hlt, by go_num, hS⟩
      case measure => exact loop_meas hlt
    · obtain rfl : j = kids.length := by omega
      go_wp2_with (first | (refine own_unguard (by rfl) ?_) | (refine w_ld rfl _ rfl (by rfl) (by first | exact rd_1 (by repeat constructor) (by first | rfl | assumption) | exact rd_w (by repeat constructor) (by rfl) | exact rd_o (by assumption) (by rfl) (by first | exact nmn | assumption | simp) | exact rd_h (by assumption) (by rfl) (by first | exact nmn | assumption | simp) | exact rd_1o (by assumption) (by first | exact nmn | assumption | simp) | exact rd_1h (by assumption) (by first | rfl | assumption) (by first | exact nmn | assumption | simp)) hS ?_) | (refine own_box rfl _ _ rfl (by rfl) hS ?_; clear hS; (try clear ww); intro bb ww hS) | (refine w_st rfl _ _ rfl (by rfl) (by rfl) (by repeat constructor) (by rfl) (by rfl) (by first | rfl | assumption) hS ?_; clear hS; (try clear ww); intro ww hS) | (refine w_s1 rfl _ _ rfl (by rfl) (by repeat constructor) (by first | exact .c | exact .t rfl) (by rfl) (by repeat constructor) hS ?_; clear hS; (try clear ww); intro ww hS))
      go_ret
      exact own_gives hS

theorem ref28_Equal_calls : ∀ (n : Nat) (b : Bx n) (cs ds : List Value) (w : World), Rep w n b cs → Rep w n b ds → Small n b → Calls Try.prog 12 #[.agg cs.toArray, .agg ds.toArray] w (Gives (.bool true) w) := by
  intro n
  induction n with
  | zero => intro b cs ds w h; exact h.elim
  | succ n ih => intro b cs ds w h1 h2 h3; exact ref28_Equal_step n ih b cs ds w h1 h2 h3

end Go.Proofs.Ytgnkngkogamjaaa
namespace Go.Proofs.Ytgnkngkogamjaaa
open Go.RowKit Go.ChangeShapes Go.WideShapes Go.ChangeAt

theorem Try.own : ownKnob Try.prog.godebug = none := by kernel_rfl
theorem Try.laidOut : laidOutB Try.prog = true := by kernel_rfl

/-- All arguments read as before. -/
theorem below_trodAll {H : Type} {enc : TypeId × Value → H} {P : Program} (hl : laidOutB P = true) {W W' : World} (hb : Below W.heap.size W W') (ts : List TypeId) :
    ∀ (vs : List Value) (ds : List (DataW H)) (ps : List MemPlace), (∀ t ∈ ts, P.readableRec t = true ∧ t < P.types.size) → DataW.TrodAll enc P W 0 (fun _ => true) true ts vs ds ps →
    (∀ x ∈ ps, x.block < W.heap.size) → DataW.TrodAll enc P W' 0 (fun b => decide (b < W.heap.size)) true ts vs ds ps := by
  induction ts with
  | nil => intro vs ds ps _ h _; obtain ⟨rfl, rfl, rfl⟩ := trodAll_nil h; exact rfl
  | cons t ts ih =>
    intro vs ds ps hr h hlt
    obtain ⟨v, vs', d, ds', p, q, rfl, rfl, rfl, h1, h2⟩ := trodAll_cons h
    exact ⟨p, q, Below.trod hl (hr t (by simp)).1 (hr t (by simp)).2 h1 hb (fun x hx => hlt x (by simp [hx])),
      ih vs' ds' q (fun u hu => hr u (by simp [hu])) h2 (fun x hx => hlt x (by simp [hx])), rfl⟩

/-- What the row asks behind the call of a law. -/
theorem law_post {H : Type} {enc : TypeId × Value → H} {P : Program} (hl : laidOutB P = true) {f : Func} {s : ChangeSpec} {tb : TypeId} {W W' : World} {args : Array Value} {ds gs : List (DataW H)} {before : List MemPlace}
    (hvars : s.vars = []) (hres : f.resultTypes = #[tb]) (hbool : P.underlying tb = some .bool) (hread : ∀ t ∈ f.params.toList, P.readableRec t = true ∧ t < P.types.size)
    (hspec : s.fn H (ds ++ gs) = { results := [.lit (.bool true)], args := ds }) (hW : DataW.Whole enc P f.params.toList s.vars false W args.toList ds gs before) (hb : Below W.heap.size W W') :
    s.post enc P f false true false false W args (.bool true) W' := by
  obtain ⟨p, q, hA, hV, rfl, hfz, hnd⟩ := id hW
  refine ⟨ds, gs, p ++ q, [], p, [], hW, ?_, ?_, ?_, Below.frame hb _, fun h => by cases h⟩
  · rw [hspec, hres]
    exact trodAll_mk1 (shut_bool hbool true)
  · rw [hspec]
    exact below_trodAll hl hb _ _ _ _ hread hA (fun x hx => hW.lt x (by simp [hx]))
  · rw [hspec, hvars]
    exact rfl
end Go.Proofs.Ytgnkngkogamjaaa
