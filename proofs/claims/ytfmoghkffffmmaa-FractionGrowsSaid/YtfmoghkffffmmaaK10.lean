/- Texts Avl, Frk, Avi, Fmk. -/
import Derived.Test.YtfmoghkffffmmaaK09
namespace Go.Proofs.Ytfmoghkffffmmaa
open Go.RowKit

attribute [local irreducible] wpQuiet wpG wpP wpK wpList Code.wp Calls

theorem repLA_of {w : World} {n : Nat} {kids : List (Bx n)} {B : List Nat} {l : List { c : List Value // c.length = 11 }} {y : Option Addr} (hr : RowAt w y 11 Subtype.val l) (h : Done w n kids B l) (hl : l.length = kids.length) (hy : l ≠ [] → ∀ k o, y = some ⟨k, o, none⟩ → k ∉ B) : RepLA (fun k => k ∉ B) B w n y kids := fun i kid hi => by
  have hlt : i < l.length := by rw [hl]; exact (List.getElem?_eq_some_iff.1 hi).1
  obtain ⟨b, o, hx, hrg⟩ := hr.get (List.getElem?_eq_getElem hlt)
  exact ⟨b, o, _, hx, hy (by intro h0; subst h0; simp at hlt) b o hx, hrg, h i _ kid (List.getElem?_eq_getElem hlt) hi⟩

set_option maxHeartbeats 8000000 in
set_option maxRecDepth 100000 in
theorem box_List_A (B : List Nat) (n : Nat) (kids : List (Bx n)) (kx : Option Addr) (kc : Nat) (bw bh bd : Int) (w : World) (hk : RepLA (fun _ => True) B w n kx kids) (hB : ∀ k ∈ B, k < w.heap.size) (hsm : ∀ k ∈ kids, Small n k ∧ bCount n k ≤ 1000000) (hl : kids.length ≤ 1000000) (h1 : I64 bw) (h2 : I64 bh) (h3 : I64 bd) :
    Calls Try.prog 27 #[.int .i64 bw, .int .i64 bh, .int .i64 bd, .slice kx kids.length kc] w (GivesA B (n + 1) (listB n bw bh bd kids) w) := by
  have HK := Lib.hid hk
  have HB := Lib.hid hB
  have HM := Lib.hid hsm
  have HH := Lib.hid (hdOk_new (k := 3) (by unfold I64; omega) h1 h2 h3)
  have tok1 : True := trivial
  clear hk hsm h1 h2 h3 hB
  go_enter Try.func27, Try.ntmps27
  have hS := own_start w
  go_wp2_with (first | (refine own_unguard (by rfl) ?_) | (have _t := tok1; refine own_alloc rfl _ rfl hS zt_box ?_; clear hS tok1; (try clear ww); intro b8 ww hS) | (refine own_alloc rfl _ rfl hS zt_box ?_; clear hS; (try clear ww); intro b9 ww hS) | (refine w_ld rfl _ rfl (by rfl) (by first | exact rd_1 (by repeat constructor) (by first | rfl | assumption) | exact rd_w (by repeat constructor) (by rfl) | exact rd_o (by assumption) (by rfl) (by first | exact nmn | assumption | simp) | exact rd_h (by assumption) (by rfl) (by first | exact nmn | assumption | simp) | exact rd_1o (by assumption) (by first | exact nmn | assumption | simp) | exact rd_1h (by assumption) (by first | rfl | assumption) (by first | exact nmn | assumption | simp)) hS ?_) | (refine own_box rfl _ _ rfl (by rfl) hS ?_; clear hS; (try clear ww); intro bb ww hS) | (refine w_al rfl rfl hS ?_; clear hS; (try clear ww); intro bb ww hS) | (refine w_st rfl _ _ rfl (by rfl) (by rfl) (by repeat constructor) (by rfl) (by rfl) (by first | rfl | assumption) hS ?_; clear hS; (try clear ww); intro ww hS) | (refine w_s1 rfl _ _ rfl (by rfl) (by repeat constructor) (by first | exact .c | exact .t rfl) (by rfl) (by repeat constructor) hS ?_; clear hS; (try clear ww); intro ww hS))
  go_loopw [18] (fun i wr => ∃ (j : Nat) (v : Value) (X : List (Nat × List Value)) (l : List { c : List Value // c.length = 11 }), j ≤ kids.length ∧ i = .int .i64 j ∧ l.length = j ∧ Sl 11 j v (l.flatMap Subtype.val) X ∧ Done wr n kids ((b9 :: b8 :: X.map (·.1)) ++ B) l ∧ Own [] w ([(b9, [.int .i64 3, .string ⟨#[]⟩, .int .i64 0, .int .i64 bw, .int .i64 bh, .int .i64 bd, .int .i64 0, .int .i64 0, v, .int .i64 0, .slice none 0 0]), (b8, [.int .i64 0, .string ⟨#[]⟩, .int .i64 0, .int .i64 0, .int .i64 0, .int .i64 0, .int .i64 0, .int .i64 0, .slice none 0 0, .int .i64 0, .slice none 0 0])] ++ X) wr) (fun i _ => kids.length - (intOf i).toNat)
  case atStart => exact ⟨0, _, [], [], Nat.zero_le _, rfl, rfl, sl_nil 11, (fun q css kid hq _ => by simp at hq), by simpa using hS⟩
  case round =>
    clear hS
    obtain ⟨j, v, X, l, hj, rfl, hlj, hX, hD, hA⟩ := hrel
    have hS := hA.rebase
    by_cases hlt : j < kids.length
    · obtain ⟨kid, hkid⟩ : ∃ kid, kids[j]? = some kid := ⟨kids[j], by simp [hlt]⟩
      obtain ⟨kb, ko, css, hkx, _, hrg, hrep⟩ := HK.out j kid hkid
      obtain rfl : kx = some ⟨kb, ko, none⟩ := hkx
      obtain ⟨c0, c1, c2, c3, c4, c5, c6, c7, c8, c9, c10, rfl⟩ := eleven hrep.len
      have hkb : kb < w.heap.size := World.block_lt_of_cell? w _ (hrg 0 c0 rfl)
      have hge : ∀ x, x ∈ ([(b9, [.int .i64 3, .string ⟨#[]⟩, .int .i64 0, .int .i64 bw, .int .i64 bh, .int .i64 bd, .int .i64 0, .int .i64 0, v, .int .i64 0, .slice none 0 0]), (b8, [.int .i64 0, .string ⟨#[]⟩, .int .i64 0, .int .i64 0, .int .i64 0, .int .i64 0, .int .i64 0, .int .i64 0, .slice none 0 0, .int .i64 0, .slice none 0 0])] ++ X) → w.heap.size ≤ x.1 := fun x hx => by
        rcases hA.ge x hx with h | h
        · cases h
        · exact h
      have hnk : kb ∉ (([(b9, [.int .i64 3, .string ⟨#[]⟩, .int .i64 0, .int .i64 bw, .int .i64 bh, .int .i64 bd, .int .i64 0, .int .i64 0, v, .int .i64 0, .slice none 0 0]), (b8, [.int .i64 0, .string ⟨#[]⟩, .int .i64 0, .int .i64 0, .int .i64 0, .int .i64 0, .int .i64 0, .int .i64 0, .slice none 0 0, .int .i64 0, .slice none 0 0])] ++ X).map (·.1)) := fun h => by
        obtain ⟨x, hx, he⟩ := List.mem_map.1 h
        have := hge x hx
        omega
      have hrg2 : wr.rangeAt kb (ko + j * 11) [c0, c1, c2, c3, c4, c5, c6, c7, c8, c9, c10] := Own.range hA (by simp) hrg
      have HA := Lib.hid hA
      have HX := Lib.hid hX
      have HDn := Lib.hid hD
      have HRp := Lib.hid hrep
      have HKid := Lib.hid hkid
      have hall := rep_all hrep
      clear hA hX hD hrep hrg hkid hge
      go_wp2_with (first | (refine own_unguard (by rfl) ?_) | (refine own_load_old rfl _ _ rfl rfl hS hrg2 hnk rt_box ?_) | (refine own_store rfl _ _ _ rfl rfl rfl hS at0 rt_box (by rfl) hall ?_; clear hS; intro ww hS; simp only [List.set_cons_zero] at hS) | (refine w_ld rfl _ rfl (by rfl) (by first | exact rd_1 (by repeat constructor) (by first | rfl | assumption) | exact rd_w (by repeat constructor) (by rfl) | exact rd_o (by assumption) (by rfl) (by first | exact nmn | assumption | simp) | exact rd_h (by assumption) (by rfl) (by first | exact nmn | assumption | simp) | exact rd_1o (by assumption) (by first | exact nmn | assumption | simp) | exact rd_1h (by assumption) (by first | rfl | assumption) (by first | exact nmn | assumption | simp)) hS ?_) | (refine own_box rfl _ _ rfl (by rfl) hS ?_; clear hS; (try clear ww); intro bb ww hS) | (refine w_al rfl rfl hS ?_; clear hS; (try clear ww); intro bb ww hS) | (refine w_st rfl _ _ rfl (by rfl) (by rfl) (by repeat constructor) (by rfl) (by rfl) (by first | rfl | assumption) hS ?_; clear hS; (try clear ww); intro ww hS) | (refine w_s1 rfl _ _ rfl (by rfl) (by repeat constructor) (by first | exact .c | exact .t rfl) (by rfl) (by repeat constructor) hS ?_; clear hS; (try clear ww); intro ww hS))
      try simp only [Act.put, List.setIfInBounds_toArray, List.set_cons_zero, List.set_cons_succ]
      refine own_any hS [5, 7] 8 (by kernel_rfl) (by kernel_rfl) ?_
      clear hS
      intro hcl ww hS
      refine own_batch hS [0, 1, 2] 5 rfl hcl (by kernel_rfl) ?_
      (try simp only); repeat (first | (simp only [List.filterMap_cons]) | (simp only [List.filterMap_nil]) | (simp only [List.getElem?_toArray]) | (simp only [List.getElem?_cons_succ]) | (simp only [List.getElem?_cons_zero]) | (simp only [List.reverse_cons]) | (simp only [List.reverse_nil]) | (simp only [List.nil_append]) | (simp only [List.cons_append]))
      repeat (first
          | (first | (refine g_plain rfl ?_) | (refine g_yes rfl rfl rfl (by simp only [List.getElem?_toArray, List.getElem?_cons_succ, List.getElem?_cons_zero]; rfl) (by with_reducible constructor) ?_)
             apply Exists.intro; refine ⟨?_, ?_⟩
             focus (intro wq hq0; (first | have hq : Own _ _ _ wq := hq0 | have hq : Own _ _ _ wq := hq0.1 | skip); first | ((with_reducible show givesAt _ ({ dst := _, op := Op.load _ _, type := _, pos := _, after := _, guard := _ } : Oper) _ _ _); first | (exact givesAt_rd rfl (by rfl) (by first | exact rd_1 (by repeat constructor) (by first | rfl | assumption) | exact rd_w (by repeat constructor) (by rfl) | exact rd_o (by assumption) (by rfl) (by first | exact nmn | assumption | simp) | exact rd_h (by assumption) (by rfl) (by first | exact nmn | assumption | simp) | exact rd_1o (by assumption) (by first | exact nmn | assumption | simp) | exact rd_1h (by assumption) (by first | rfl | assumption) (by first | exact nmn | assumption | simp)) hq)) | (go_simp; first | (with_reducible rfl)))
             simp only [Act.put, List.setIfInBounds_toArray]; (try simp only [List.set_cons_succ]); (try simp only [List.set_cons_zero]))
          | (refine g_no rfl rfl rfl (by simp only [List.getElem?_toArray, List.getElem?_cons_succ, List.getElem?_cons_zero]; rfl) (by with_reducible constructor) ?_; simp only [Act.put, List.setIfInBounds_toArray]; (try simp only [List.set_cons_succ]); (try simp only [List.set_cons_zero])))
      refine g_nil ?_
      clear hS hcl
      intro hcl ww hS
      have hA2 := HA.out.chain hS
      refine own_softB hS 3 hcl rfl (by kernel_rfl) ?_
      have hO := hS
      clear hS
      intro hS
      go_wp2_with (first | (go_at_call 46; refine Calls.mono (deep_Box_calls (fun k => k ∉ B ∧ k < w.heap.size) n kid _ ww (fun k hk => Nat.lt_of_lt_of_le hk.2 hA2.size) (RepG.step hA2.below n kid _ (rep_keep2 (Q := fun k => k ∉ B) (fun _ _ _ => rfl) n kid _ HRp.out)) (HM.out kid (List.mem_of_getElem? HKid.out)).1 (HM.out kid (List.mem_of_getElem? HKid.out)).2) ?_; rintro e w1 ⟨cs', rfl, hr', hb'⟩))
      refine ⟨[], hS.step hb', ?_⟩
      clear hS
      intro hcl w3 hS hb3
      have hA3 := HA.out.chain hS
      have hm2 : ∀ k ∈ (bb :: b9 :: b8 :: X.map (·.1)), w.heap.size ≤ k ∧ k < ww.heap.size := fun k hk => by
        obtain ⟨x, hx, rfl⟩ : ∃ x, x ∈ ((bb, [c0, c1, c2, c3, c4, c5, c6, c7, c8, c9, c10] ) :: ([(b9, [.int .i64 3, .string ⟨#[]⟩, .int .i64 0, .int .i64 bw, .int .i64 bh, .int .i64 bd, .int .i64 0, .int .i64 0, v, .int .i64 0, .slice none 0 0]), (b8, [.int .i64 0, .string ⟨#[]⟩, .int .i64 0, .int .i64 0, .int .i64 0, .int .i64 0, .int .i64 0, .int .i64 0, .slice none 0 0, .int .i64 0, .slice none 0 0])] ++ X)) ∧ x.1 = k := by
          obtain ⟨x, hx, he⟩ := List.mem_map.1 (show k ∈ (((bb, [c0, c1, c2, c3, c4, c5, c6, c7, c8, c9, c10]) :: ([(b9, [.int .i64 3, .string ⟨#[]⟩, .int .i64 0, .int .i64 bw, .int .i64 bh, .int .i64 bd, .int .i64 0, .int .i64 0, v, .int .i64 0, .slice none 0 0]), (b8, [.int .i64 0, .string ⟨#[]⟩, .int .i64 0, .int .i64 0, .int .i64 0, .int .i64 0, .int .i64 0, .int .i64 0, .slice none 0 0, .int .i64 0, .slice none 0 0])] ++ X)).map (·.1)) from hk)
          exact ⟨x, hx, he⟩
        refine ⟨?_, (hA2.has x hx).lt⟩
        rcases hA2.ge x hx with h | h
        · cases h
        · exact h
      have hD3 : Done w3 n kids ((bb :: b9 :: b8 :: X.map (·.1)) ++ B) l := HDn.out.turn hS (fun k h => List.mem_append_left _ h) (fun k hk => by
        rcases List.mem_append.1 hk with hk | hk
        case inr => exact .inl (List.mem_append_right _ hk)
        obtain ⟨x, hx, he⟩ := List.mem_map.1 (show k ∈ (((bb, [c0, c1, c2, c3, c4, c5, c6, c7, c8, c9, c10]) :: ([(b9, [.int .i64 3, .string ⟨#[]⟩, .int .i64 0, .int .i64 bw, .int .i64 bh, .int .i64 bd, .int .i64 0, .int .i64 0, v, .int .i64 0, .slice none 0 0]), (b8, [.int .i64 0, .string ⟨#[]⟩, .int .i64 0, .int .i64 0, .int .i64 0, .int .i64 0, .int .i64 0, .int .i64 0, .slice none 0 0, .int .i64 0, .slice none 0 0])] ++ X)).map (·.1)) from hk)
        rw [← he]
        rcases hS.ge x hx with h | h
        · exact .inl (List.mem_append_left _ h)
        · exact .inr h)
      have hno : ∀ k, ((k ∉ B ∧ k < w.heap.size) ∨ ww.heap.size ≤ k) → k ∉ ((bb :: b9 :: b8 :: X.map (·.1)) ++ B) := fun k hk hm => by
        rcases List.mem_append.1 hm with hm | hm
        · have := hm2 k hm; rcases hk with ⟨_, h⟩ | h <;> omega
        · have := HB.out k hm; have := hA2.size; rcases hk with ⟨h, _⟩ | h
          · exact h hm
          · omega
      have hr3 : RepG (fun k _ => k ∉ ((bb :: b9 :: b8 :: X.map (·.1)) ++ B)) (fun k => k ∉ ((bb :: b9 :: b8 :: X.map (·.1)) ++ B)) w3 n kid cs' := RepG.step hb3 n kid cs' (hr'.mono (fun k _ hk => hno k hk) (fun k hk => hno k hk))
      have h11 := hr3.len
      have hall3 := rep_all hr3
      obtain ⟨e0, e1, e2, e3, e4, e5, e6, e7, e8, e9, e10, rfl⟩ := eleven h11
      obtain ⟨DD, hDD, hS4⟩ : ∃ DD, Hid (DD = bb :: b9 :: b8 :: X.map (·.1)) ∧ Own DD w3 ((bb, [c0, c1, c2, c3, c4, c5, c6, c7, c8, c9, c10]) :: ([(b9, [.int .i64 3, .string ⟨#[]⟩, .int .i64 0, .int .i64 bw, .int .i64 bh, .int .i64 bd, .int .i64 0, .int .i64 0, v, .int .i64 0, .slice none 0 0]), (b8, [.int .i64 0, .string ⟨#[]⟩, .int .i64 0, .int .i64 0, .int .i64 0, .int .i64 0, .int .i64 0, .int .i64 0, .slice none 0 0, .int .i64 0, .slice none 0 0])] ++ X)) w3 := ⟨_, rfl, hA3.rebase⟩
      clear hS
      have hS := hS4
      have HA3 := Lib.hid hA3
      have HD3 := Lib.hid hD3
      have HR3 := Lib.hid hr3
      clear hS4 hA3 hD3 hr3 hO hr' hb' hb3 hm2 hno hA2
      refine own_soft hS 4 hcl rfl (by kernel_rfl) ?_
      have hO := hS
      clear hS
      intro hS
      refine own_buildSlice rfl _ _ 1 _ rfl [e0, e1, e2, e3, e4, e5, e6, e7, e8, e9, e10] hS Try.underlying30 (by kernel_rfl) ?_
      clear hS
      intro b1 w4 hS
      refine wpList_nil ⟨rfl, _, hS, ?_⟩
      clear hS hO hcl
      intro hcl w5 hS
      refine own_hard (D := DD) (W := w3) 5 hcl rfl (by kernel_rfl) (by kernel_rfl) ?_
      refine own_append_new (b := b1) rfl _ _ _ rfl HX.out rfl rfl (show Own DD w3 (((b1, [e0, e1, e2, e3, e4, e5, e6, e7, e8, e9, e10]) :: [_, _, _]) ++ X) w5 from hS) rfl hall3 el_box (by decide) (by simp only [maxLen]; omega) (by omega) ?_
      clear hS
      intro v' X' w6 hS hX'
      refine wpList_nil ⟨rfl, _, hS, ?_⟩
      clear hS hcl
      intro hcl w7 hS
      refine own_batch hS [6] 1 rfl hcl (by kernel_rfl) ?_
      (try simp only); repeat (first | (simp only [List.filterMap_cons]) | (simp only [List.filterMap_nil]) | (simp only [List.getElem?_toArray]) | (simp only [List.getElem?_cons_succ]) | (simp only [List.getElem?_cons_zero]) | (simp only [List.reverse_cons]) | (simp only [List.reverse_nil]) | (simp only [List.nil_append]) | (simp only [List.cons_append]))
      repeat (first
          | (first | (refine g_plain rfl ?_) | (refine g_yes rfl rfl rfl (by simp only [List.getElem?_toArray, List.getElem?_cons_succ, List.getElem?_cons_zero]; rfl) (by with_reducible constructor) ?_)
             apply Exists.intro; refine ⟨?_, ?_⟩
             focus (intro wq hq0; (first | have hq : Own _ _ _ wq := hq0 | have hq : Own _ _ _ wq := hq0.1 | skip); first | ((with_reducible show givesAt _ ({ dst := _, op := Op.load _ _, type := _, pos := _, after := _, guard := _ } : Oper) _ _ _); first | (exact givesAt_rd rfl (by rfl) (by first | exact rd_1 (by repeat constructor) (by first | rfl | assumption) | exact rd_w (by repeat constructor) (by rfl) | exact rd_o (by assumption) (by rfl) (by first | exact nmn | assumption | simp) | exact rd_h (by assumption) (by rfl) (by first | exact nmn | assumption | simp) | exact rd_1o (by assumption) (by first | exact nmn | assumption | simp) | exact rd_1h (by assumption) (by first | rfl | assumption) (by first | exact nmn | assumption | simp)) hq)) | (go_simp; first | (with_reducible rfl)))
             simp only [Act.put, List.setIfInBounds_toArray]; (try simp only [List.set_cons_succ]); (try simp only [List.set_cons_zero]))
          | (refine g_no rfl rfl rfl (by simp only [List.getElem?_toArray, List.getElem?_cons_succ, List.getElem?_cons_zero]; rfl) (by with_reducible constructor) ?_; simp only [Act.put, List.setIfInBounds_toArray]; (try simp only [List.set_cons_succ]); (try simp only [List.set_cons_zero])))
      refine g_nil ?_
      clear hS hcl
      intro hcl ww hS
      refine own_hard (D := DD) (W := w3) 7 hcl rfl (by kernel_rfl) (by kernel_rfl) ?_
      refine own_store1 (v := v') rfl _ _ _ rfl rfl rfl hX'.one hS at1 ot_boxs (by simp) ?_
      clear hS
      intro w8 hS
      refine wpList_nil ⟨rfl, _, hS, ?_⟩
      clear hS hcl
      intro hcl w9 hS
      refine own_done (by kernel_rfl) ?_
      have HX' := Lib.hid hX'
      clear hX'
      go_wp2_with (first | (refine own_unguard (by rfl) ?_) | (refine w_ld rfl _ rfl (by rfl) (by first | exact rd_1 (by repeat constructor) (by first | rfl | assumption) | exact rd_w (by repeat constructor) (by rfl) | exact rd_o (by assumption) (by rfl) (by first | exact nmn | assumption | simp) | exact rd_h (by assumption) (by rfl) (by first | exact nmn | assumption | simp) | exact rd_1o (by assumption) (by first | exact nmn | assumption | simp) | exact rd_1h (by assumption) (by first | rfl | assumption) (by first | exact nmn | assumption | simp)) hS ?_) | (refine own_box rfl _ _ rfl (by rfl) hS ?_; clear hS; (try clear ww); intro bb ww hS) | (refine w_al rfl rfl hS ?_; clear hS; (try clear ww); intro bb ww hS) | (refine w_st rfl _ _ rfl (by rfl) (by rfl) (by repeat constructor) (by rfl) (by rfl) (by first | rfl | assumption) hS ?_; clear hS; (try clear ww); intro ww hS) | (refine w_s1 rfl _ _ rfl (by rfl) (by repeat constructor) (by first | exact .c | exact .t rfl) (by rfl) (by repeat constructor) hS ?_; clear hS; (try clear ww); intro ww hS))
      obtain rfl := hDD.out
      have hD9 := (HD3.out.next (css := ⟨[e0, e1, e2, e3, e4, e5, e6, e7, e8, e9, e10], rfl⟩) (by rw [hlj]; exact HKid.out) HR3.out).turn (B' := (b9 :: b8 :: X'.map (·.1)) ++ B) hS (fun k h => List.mem_append_left _ h) (fun k hk => by
        rcases List.mem_append.1 hk with hk | hk
        case inr => exact .inl (List.mem_append_right _ hk)
        obtain ⟨x, hx, he⟩ := List.mem_map.1 (show k ∈ (([(b9, [.int .i64 3, .string ⟨#[]⟩, .int .i64 0, .int .i64 bw, .int .i64 bh, .int .i64 bd, .int .i64 0, .int .i64 0, v', .int .i64 0, .slice none 0 0]), (b8, [.int .i64 0, .string ⟨#[]⟩, .int .i64 0, .int .i64 0, .int .i64 0, .int .i64 0, .int .i64 0, .int .i64 0, .slice none 0 0, .int .i64 0, .slice none 0 0])] ++ X').map (·.1)) from hk)
        rw [← he]
        rcases hS.ge x (List.mem_cons_of_mem _ hx) with h | h
        · exact .inl (List.mem_append_left _ h)
        · exact .inr h)
      have HD9 := Lib.hid hD9
      have HA9 := Lib.hid ((HA3.out.chain hS).forget (List.sublist_cons_self _ _))
      clear hD9
      go_roundw
      case rel => exact ⟨j + 1, v', X', l ++ [⟨[e0, e1, e2, e3, e4, e5, e6, e7, e8, e9, e10], rfl⟩], hlt, by go_num, by simp [hlj], by simpa using HX'.out, HD9.out, HA9.out⟩
      case measure => exact loop_meas hlt
    · obtain rfl : j = kids.length := by omega
      obtain ⟨y, c, hv⟩ := hX.slice
      subst hv
      have HA := Lib.hid hA
      have HX := Lib.hid hX
      have HDn := Lib.hid hD
      clear hA hX hD
      go_wp2_with (first | (refine own_unguard (by rfl) ?_) | (refine own_load rfl _ _ rfl rfl hS at0 rt_box ?_) | (refine own_store rfl _ _ _ rfl rfl rfl hS at1 rt_box (by rfl) (by rfl) ?_; clear hS; intro ww hS; simp only [List.set_cons_zero, List.set_cons_succ] at hS) | (refine w_ld rfl _ rfl (by rfl) (by first | exact rd_1 (by repeat constructor) (by first | rfl | assumption) | exact rd_w (by repeat constructor) (by rfl) | exact rd_o (by assumption) (by rfl) (by first | exact nmn | assumption | simp) | exact rd_h (by assumption) (by rfl) (by first | exact nmn | assumption | simp) | exact rd_1o (by assumption) (by first | exact nmn | assumption | simp) | exact rd_1h (by assumption) (by first | rfl | assumption) (by first | exact nmn | assumption | simp)) hS ?_) | (refine own_box rfl _ _ rfl (by rfl) hS ?_; clear hS; (try clear ww); intro bb ww hS) | (refine w_al rfl rfl hS ?_; clear hS; (try clear ww); intro bb ww hS) | (refine w_st rfl _ _ rfl (by rfl) (by rfl) (by repeat constructor) (by rfl) (by rfl) (by first | rfl | assumption) hS ?_; clear hS; (try clear ww); intro ww hS) | (refine w_s1 rfl _ _ rfl (by rfl) (by repeat constructor) (by first | exact .c | exact .t rfl) (by rfl) (by repeat constructor) hS ?_; clear hS; (try clear ww); intro ww hS))
      have hc := (hS.get at1).cell
      obtain ⟨y', c', he, hrow, _, _⟩ := Sl.rowAt hS (fun x hx => by simp [hx]) HX.out (fun a => a.2) (by decide)
      obtain ⟨rfl, _, rfl⟩ : y = y' ∧ kids.length = l.length ∧ c = c' := by simpa using he
      have hDf := HDn.out.turn (B' := B) hS (fun k h => List.mem_append_left _ h) (fun k hk => .inl (List.mem_append_right _ hk))
      have hyB : l ≠ [] → ∀ k o, y = some ⟨k, o, none⟩ → k ∉ B := fun hne k o hx hm => by
        obtain ⟨z, hz⟩ := sl_where HX.out (by rw [← hlj]; intro h0; exact hne (List.eq_nil_of_length_eq_zero h0)) hx
        have h1 := HB.out k hm
        rcases HA.out.ge (k, z) (by simp [hz]) with h2 | h2
        · cases h2
        · simp only at h2; omega
      refine bodyPost_ret (v := .agg #[.int .i64 3, .string ⟨#[]⟩, .int .i64 0, .int .i64 bw, .int .i64 bh, .int .i64 bd, .int .i64 0, .int .i64 0, .slice y kids.length c, .int .i64 0, .slice none 0 0]) (by simp [results, Try.results27, go_sem, hc]) rfl ⟨_, rfl, rep_mkA (sx := none) (sc := 0) HH.out (by simp only [maxLen]; omega) (.inl rfl) (fun h => absurd rfl h) (repLA_of hrow hDf hlj hyB), (HA.out.chain hS).below⟩

end Go.Proofs.Ytfmoghkffffmmaa
namespace Go.Proofs.Ytfmoghkffffmmaa
open Go.RowKit

attribute [local irreducible] wpQuiet wpG wpP wpK wpList Code.wp Calls

theorem hlf_bd (n : Int) : -536870912 ≤ hlf n ∧ hlf n ≤ 536870912 := by
  unfold hlf
  split
  · rename_i h
    have := lenOk_iff.1 h
    unfold rdiv
    split <;> omega
  · omega
theorem hlf_i64 (n : Int) : I64 (hlf n) := by
  have := hlf_bd n
  unfold I64
  omega

/-- A box that a call has given, when the call's own blocks have turned. -/
theorem done_A {B : List Nat} {w w3 w4 : World} {n : Nat} {b : Bx n} {cs : List Value} {L L' : List (Nat × List Value)} (hA : Own [] w L w3) (hr : RepA (L.map (·.1) ++ B) w3 n b cs) (hS : Own (L.map (·.1)) w3 L' w4) : RepA B w4 n b cs ∧ Below w.heap.size w w4 :=
  ⟨repA_less (repA_turn hr hS (fun _ hk => List.mem_append_left _ hk)) (fun _ hk => .inl (List.mem_append_right _ hk)), (hA.chain hS).below⟩
theorem own_again {w w3 : World} {L : List (Nat × List Value)} (hA : Own [] w L w3) : ∃ DD, Hid (DD = L.map (·.1)) ∧ Own DD w3 L w3 := ⟨_, rfl, hA.rebase⟩
theorem own_lt {B : List Nat} {w w' : World} {L : List (Nat × List Value)} (hS : Own [] w L w') (hB : ∀ k ∈ B, k < w.heap.size) : ∀ k ∈ L.map (·.1) ++ B, k < w'.heap.size := fun k hk => by
  rcases List.mem_append.1 hk with hk | hk
  · obtain ⟨x, hx, rfl⟩ := List.mem_map.1 hk
    exact (hS.has x hx).lt
  · exact Nat.lt_of_lt_of_le (hB k hk) hS.size
theorem own_away {B : List Nat} {w w' : World} {L : List (Nat × List Value)} (hS : Own [] w L w') : ∀ k ∈ L.map (·.1) ++ B, k ∈ B ∨ w.heap.size ≤ k := fun k hk => by
  rcases List.mem_append.1 hk with hk | hk
  · obtain ⟨x, hx, rfl⟩ := List.mem_map.1 hk
    rcases hS.ge x hx with h | h
    · cases h
    · exact .inr h
  · exact .inl hk

set_option maxHeartbeats 8000000 in
set_option maxRecDepth 100000 in
theorem place_A (B : List Nat) (n : Nat) (b : Bx (n + 1)) (cs : List Value) (y W : Int) (a : Nat) (w : World) (hr : RepA B w (n + 1) b cs) (hB : ∀ k ∈ B, k < w.heap.size) (hy : I64 y) (hsl : b.1.src.length ≤ 1000000) (hW : w.cell? ⟨a, 0, none⟩ = some (.int .i64 W)) (bW : 0 ≤ W ∧ W ≤ 1073741824) (bw : -1073741824 ≤ b.1.w ∧ b.1.w ≤ 1073741824) :
    Calls Try.prog 23 #[.agg cs.toArray, .int .i64 y, .pointer (some ⟨a, 0, none⟩)] w (GivesA B (n + 1) (atXY (n + 1) b (hlf (W - b.1.w)) y) w) := by
  have HA := Lib.hid (fun w' B' (h : Below w.heap.size w w') (h1 : ∀ k ∈ B', k < w'.heap.size) (h2 : ∀ k ∈ B', k ∈ B ∨ w.heap.size ≤ k) => box_At_A B' n b cs (hlf (W - b.1.w)) y w' (repA_step (repA_less hr h2) h) h1 (hlf_i64 _) hy hsl)
  have HH := Lib.hid (fun w' => length_Half_gives (W - b.1.w) w')
  have HB := Lib.hid hB
  have hall := rep_all hr
  obtain ⟨⟨kind, name, size, bw', bh, bd, bx, by_, of, src⟩, kids⟩ := b
  obtain ⟨kx, kc, sx, sc, rfl, _, _, _, _⟩ := rep_outA hr
  simp only at HA HH bw hall
  generalize atXY (n + 1) (⟨kind, name, size, bw', bh, bd, bx, by_, of, src⟩, kids) (hlf (W - bw')) y = R at *
  generalize hlf (W - bw') = H at *
  have ws : IntKind.i64.wrap (W - bw') = W - bw' := IntWalk.i64_in _ (by omega)
  clear hr bW bw hy hsl hB
  go_enter Try.func23, Try.ntmps23
  have hS := own_start w
  go_wp2_with (first | (refine own_unguard (by rfl) ?_) | (refine w_ld rfl _ rfl (by rfl) (by first | exact rd_1 (by repeat constructor) (by first | rfl | assumption) | exact rd_w (by repeat constructor) (by rfl) | exact rd_o (by assumption) (by rfl) (by first | exact nmn | assumption | simp) | exact rd_h (by assumption) (by rfl) (by first | exact nmn | assumption | simp) | exact rd_1o (by assumption) (by first | exact nmn | assumption | simp) | exact rd_1h (by assumption) (by first | rfl | assumption) (by first | exact nmn | assumption | simp)) hS ?_) | (refine own_box rfl _ _ rfl (by rfl) hS ?_; clear hS; (try clear ww); intro bb ww hS) | (refine w_al rfl rfl hS ?_; clear hS; (try clear ww); intro bb ww hS) | (refine w_st rfl _ _ rfl (by rfl) (by rfl) (by repeat constructor) (by rfl) (by rfl) (by first | rfl | assumption) hS ?_; clear hS; (try clear ww); intro ww hS) | (refine w_s1 rfl _ _ rfl (by rfl) (by repeat constructor) (by first | exact .c | exact .t rfl) (by rfl) (by repeat constructor) hS ?_; clear hS; (try clear ww); intro ww hS))
  (try simp only [Act.put]); (try simp only [List.setIfInBounds_toArray]); (try simp only [List.set_cons_succ]); (try simp only [List.set_cons_zero])
  refine own_any hS [8] 9 (by kernel_rfl) (by kernel_rfl) ?_
  clear hS
  intro hcl ww hS
  refine own_batch hS [0, 1, 2, 3, 4, 5, 6] 2 rfl hcl (by kernel_rfl) ?_
  (try simp only); repeat (first | (simp only [List.filterMap_cons]) | (simp only [List.filterMap_nil]) | (simp only [List.getElem?_toArray]) | (simp only [List.getElem?_cons_succ]) | (simp only [List.getElem?_cons_zero]) | (simp only [List.reverse_cons]) | (simp only [List.reverse_nil]) | (simp only [List.nil_append]) | (simp only [List.cons_append]))
  repeat (first
      | (first | (refine g_plain rfl ?_) | (refine g_yes rfl rfl rfl (by simp only [List.getElem?_toArray, List.getElem?_cons_succ, List.getElem?_cons_zero]; rfl) (by with_reducible constructor) ?_)
         apply Exists.intro; refine ⟨?_, ?_⟩
         focus (intro wq hq0; (first | have hq : Own _ _ _ wq := hq0 | have hq : Own _ _ _ wq := hq0.1 | skip); first | ((with_reducible show givesAt _ ({ dst := _, op := Op.load _ _, type := _, pos := _, after := _, guard := _ } : Oper) _ _ _); first | (exact givesAt_rd rfl (by rfl) (by first | exact rd_1 (by repeat constructor) (by first | rfl | assumption) | exact rd_w (by repeat constructor) (by rfl) | exact rd_o (by assumption) (by rfl) (by first | exact nmn | assumption | simp) | exact rd_h (by assumption) (by rfl) (by first | exact nmn | assumption | simp) | exact rd_1o (by assumption) (by first | exact nmn | assumption | simp) | exact rd_1h (by assumption) (by first | rfl | assumption) (by first | exact nmn | assumption | simp)) hq)) | (go_simp; first | (go_at_call 25; exact HH.out _) | (with_reducible rfl)))
         simp only [Act.put, List.setIfInBounds_toArray]; (try simp only [List.set_cons_succ]); (try simp only [List.set_cons_zero]))
      | (refine g_no rfl rfl rfl (by simp only [List.getElem?_toArray, List.getElem?_cons_succ, List.getElem?_cons_zero]; rfl) (by with_reducible constructor) ?_; simp only [Act.put, List.setIfInBounds_toArray]; (try simp only [List.set_cons_succ]); (try simp only [List.set_cons_zero])))
  refine g_nil ?_
  clear hS hcl
  intro hcl ww hS
  refine own_softB hS 7 hcl (by simp only [List.getElem?_toArray, List.getElem?_cons_succ, List.getElem?_cons_zero]; rfl) (by kernel_rfl) ?_
  have hO := hS
  clear hS
  intro hS
  go_wp2_with (first | (go_at_call 24; refine Calls.mono (HA.out _ _ hO.below (own_lt hO HB.out) (own_away hO)) ?_; rintro e w1 ⟨cs', rfl, hr', hb'⟩))
  refine ⟨[], hS.step hb', ?_⟩
  clear hS
  intro hcl w3 hA hb3
  have hr3 := repA_step hr' hb3
  have h11 := hr'.len
  have hall3 := rep_all hr3
  obtain ⟨e0, e1, e2, e3, e4, e5, e6, e7, e8, e9, e10, rfl⟩ := eleven h11
  have HR3 := Lib.hid hr3
  have HA3 := Lib.hid hA
  obtain ⟨DD, hDD, hS⟩ := own_again hA
  clear hr' hr3 hb' hb3 hO h11 hA
  (try simp only [Act.put]); (try simp only [List.setIfInBounds_toArray]); (try simp only [List.set_cons_succ]); (try simp only [List.set_cons_zero])
  refine own_hard (D := DD) (W := w3) 8 hcl (by simp only [List.getElem?_toArray, List.getElem?_cons_succ, List.getElem?_cons_zero]; rfl) (by kernel_rfl) (by kernel_rfl) ?_
  refine own_store rfl _ _ _ rfl rfl rfl hS at0 rt_box (by rfl) hall3 ?_
  clear hS
  intro w4 hS
  refine wpList_nil ⟨rfl, _, hS, ?_⟩
  clear hS hcl
  intro hcl w5 hS
  refine own_done (by kernel_rfl) ?_
  go_wp2_with (first | (refine own_unguard (by rfl) ?_) | (refine w_ld rfl _ rfl (by rfl) (by first | exact rd_1 (by repeat constructor) (by first | rfl | assumption) | exact rd_w (by repeat constructor) (by rfl) | exact rd_o (by assumption) (by rfl) (by first | exact nmn | assumption | simp) | exact rd_h (by assumption) (by rfl) (by first | exact nmn | assumption | simp) | exact rd_1o (by assumption) (by first | exact nmn | assumption | simp) | exact rd_1h (by assumption) (by first | rfl | assumption) (by first | exact nmn | assumption | simp)) hS ?_) | (refine own_box rfl _ _ rfl (by rfl) hS ?_; clear hS; (try clear ww); intro bb ww hS) | (refine w_al rfl rfl hS ?_; clear hS; (try clear ww); intro bb ww hS) | (refine w_st rfl _ _ rfl (by rfl) (by rfl) (by repeat constructor) (by rfl) (by rfl) (by first | rfl | assumption) hS ?_; clear hS; (try clear ww); intro ww hS) | (refine w_s1 rfl _ _ rfl (by rfl) (by repeat constructor) (by first | exact .c | exact .t rfl) (by rfl) (by repeat constructor) hS ?_; clear hS; (try clear ww); intro ww hS))
  (try simp only [List.set_cons_zero] at hS)
  obtain rfl := hDD.out
  have hc := (hS.get at0).cell
  refine bodyPost_ret (v := .agg #[e0, e1, e2, e3, e4, e5, e6, e7, e8, e9, e10]) (by simp [results, Try.results23, go_sem, hc]) rfl ⟨_, rfl, done_A HA3.out HR3.out hS⟩

end Go.Proofs.Ytfmoghkffffmmaa
namespace Go.Proofs.Ytfmoghkffffmmaa
open Go.RowKit

attribute [local irreducible] wpQuiet wpG wpP wpK wpList Code.wp Calls

/-- The cells are the box, whose lists lie where P says. -/
@[reducible] def RepP (P : Nat → Prop) (w : World) (n : Nat) (b : Bx n) (cs : List Value) : Prop := RepG (fun k _ => P k) P w n b cs
/-- The call gives a box whose lists lie where P says, or in blocks that it has made. -/
def GivesI (P : Nat → Prop) (n : Nat) (b : Bx n) (w : World) (e : Ending) (w' : World) : Prop :=
  ∃ cs, e = .returned (.agg cs.toArray) ∧ RepP (fun k => P k ∨ (w.heap.size ≤ k ∧ k < w'.heap.size)) w' n b cs ∧ Below w.heap.size w w'
theorem givesI_of {P : Nat → Prop} {Pr : Program} {f : FuncId} {args : Array Value} {n : Nat} {b : Bx n} {w : World} (h : ∀ B : List Nat, (∀ k ∈ B, k < w.heap.size) → (∀ k, P k → k ∉ B) → Calls Pr f args w (GivesA B n b w)) : Calls Pr f args w (GivesI P n b w) := by
  classical
  have hm : ∀ k, k ∈ (List.range w.heap.size).filter (fun k => decide (¬ P k)) ↔ k < w.heap.size ∧ ¬ P k := fun k => by simp
  refine (h ((List.range w.heap.size).filter fun k => decide (¬ P k)) (fun k hk => ((hm k).1 hk).1) (fun k hp hk => ((hm k).1 hk).2 hp)).mono ?_
  rintro e w' ⟨cs, he, hr, hb⟩
  have key : ∀ k, (k ∉ (List.range w.heap.size).filter fun k => decide (¬ P k)) ∧ k < w'.heap.size → P k ∨ (w.heap.size ≤ k ∧ k < w'.heap.size) := fun k hk => by
    by_cases h1 : P k
    · exact .inl h1
    · by_cases h2 : k < w.heap.size
      · exact absurd ((hm k).2 ⟨h2, h1⟩) hk.1
      · exact .inr ⟨by omega, hk.2⟩
  exact ⟨cs, he, (rep_keep2 (w := w') (w' := w') (fun _ _ _ => rfl) n b cs hr).mono (fun k _ hk => key k hk) (fun k hk => key k hk), hb⟩
theorem repP_A {P : Nat → Prop} {B : List Nat} {w : World} {n : Nat} {b : Bx n} {cs : List Value} (h : RepP P w n b cs) (hB : ∀ k, P k → k ∉ B) : RepA B w n b cs := h.mono (fun k _ hk => hB k hk) hB
theorem repP_old {w : World} {n : Nat} {b : Bx n} {cs : List Value} (h : Rep w n b cs) : RepP (fun k => k < w.heap.size) w n b cs := rep_old n b cs h
theorem repP_step {P : Nat → Prop} {w w' : World} {n : Nat} {b : Bx n} {cs : List Value} (h : RepP P w n b cs) (hb : Below w.heap.size w w') : RepP P w' n b cs := RepG.step hb n b cs h
theorem repP_mono {P P' : Nat → Prop} {w : World} {n : Nat} {b : Bx n} {cs : List Value} (h : RepP P w n b cs) (hP : ∀ k, P k → P' k) : RepP P' w n b cs := h.mono (fun k _ hk => hP k hk) hP
theorem rep_bare {ko : Nat → Nat → Prop} {so : Nat → Prop} {w : World} {n : Nat} {a : Hd} {cs : List Value} (h : Rep w (n + 1) (a, []) cs) (hs : a.src = []) : RepG ko so w (n + 1) (a, []) cs := by
  obtain ⟨kx, kc, sx, sc, h1, h2, h3, h4, h5, h6⟩ := h
  exact ⟨kx, kc, sx, sc, h1, h2, h3, h4, fun h0 => absurd hs h0, fun i kid hi => by simp at hi⟩
/-- A list of boxes, whose lists lie where P says. -/
def RepLP (P : Nat → Prop) (w : World) (n : Nat) (x : Option Addr) (kids : List (Bx n)) : Prop := ∀ i kid, kids[i]? = some kid → ∃ k o css, x = some ⟨k, o, none⟩ ∧ w.rangeAt k (o + i * 11) css ∧ RepP P w n kid css
theorem repLP_A {P : Nat → Prop} {B : List Nat} {w : World} {n : Nat} {x : Option Addr} {kids : List (Bx n)} (h : RepLP P w n x kids) (hB : ∀ k, P k → k ∉ B) : RepLA (fun _ => True) B w n x kids := fun i kid hi => by
  obtain ⟨k, o, css, e, hr, hp⟩ := h i kid hi
  exact ⟨k, o, css, e, trivial, hr, repP_A hp hB⟩
theorem box_Rule_I (P : Nat → Prop) (n : Nat) (bw bh bd : Int) (w : World) (h1 : I64 bw) (h2 : I64 bh) (h3 : I64 bd) : Calls Try.prog 26 #[.int .i64 bw, .int .i64 bh, .int .i64 bd] w (GivesI P (n + 1) (ruleB n bw bh bd) w) :=
  (box_Rule_calls n bw bh bd w h1 h2 h3).mono fun _ _ ⟨cs, he, hr, hb⟩ => ⟨cs, he, rep_bare hr rfl, hb⟩
theorem box_At_I (P : Nat → Prop) (n : Nat) (b : Bx (n + 1)) (cs : List Value) (x y : Int) (w : World) (hr : RepP P w (n + 1) b cs) (hx : I64 x) (hy : I64 y) (hsl : b.1.src.length ≤ 1000000) : Calls Try.prog 24 #[.agg cs.toArray, .int .i64 x, .int .i64 y] w (GivesI P (n + 1) (atXY (n + 1) b x y) w) :=
  givesI_of fun B hB hP => box_At_A B n b cs x y w (repP_A hr hP) hB hx hy hsl
theorem box_List_I (P : Nat → Prop) (n : Nat) (kids : List (Bx n)) (kx : Option Addr) (kc : Nat) (bw bh bd : Int) (w : World) (hk : RepLP P w n kx kids) (hsm : ∀ k ∈ kids, Small n k ∧ bCount n k ≤ 1000000) (hl : kids.length ≤ 1000000) (h1 : I64 bw) (h2 : I64 bh) (h3 : I64 bd) :
    Calls Try.prog 27 #[.int .i64 bw, .int .i64 bh, .int .i64 bd, .slice kx kids.length kc] w (GivesI P (n + 1) (listB n bw bh bd kids) w) :=
  givesI_of fun B hB hP => box_List_A B n kids kx kc bw bh bd w (repLP_A hk hP) hB hsm hl h1 h2 h3
end Go.Proofs.Ytfmoghkffffmmaa
namespace Go.Proofs.Ytfmoghkffffmmaa
open Go.RowKit

attribute [local irreducible] wpQuiet wpG wpP wpK wpList Code.wp Calls

theorem place_I (P : Nat → Prop) (n : Nat) (b : Bx (n + 1)) (cs : List Value) (y W : Int) (a : Nat) (w : World) (hr : RepP P w (n + 1) b cs) (hy : I64 y) (hsl : b.1.src.length ≤ 1000000) (hW : w.cell? ⟨a, 0, none⟩ = some (.int .i64 W)) (bW : 0 ≤ W ∧ W ≤ 1073741824) (bw : -1073741824 ≤ b.1.w ∧ b.1.w ≤ 1073741824) :
    Calls Try.prog 23 #[.agg cs.toArray, .int .i64 y, .pointer (some ⟨a, 0, none⟩)] w (GivesI P (n + 1) (atXY (n + 1) b (hlf (W - b.1.w)) y) w) :=
  givesI_of fun B hB hP => place_A B n b cs y W a w (repP_A hr hP) hB hy hsl hW bW bw

/-- How high the numerator is, how low the denominator is, how wide the fraction is. -/
def fracUpY (F : Fnt) (l nd : Int) : Int := max (fracUp F l) (fracY F l + par F l F.rule + fracGap l (par F l F.rule) + nd)
def fracDnY (F : Fnt) (l dh : Int) : Int := max (fracDown F l) (dh + fracGap l (par F l F.rule) - fracY F l)
def fracW (nw dw : Int) : Int := max (max 0 nw) dw
/-- The fraction, if it is a box. -/
def fracB (F : Fnt) (l : Int) (n : Nat) (num den : Bx (n + 1)) : Bx (n + 2) :=
  listB (n + 1) (fracW num.1.w den.1.w) (max (fracUpY F l num.1.d + num.1.h) (fracY F l + par F l F.rule)) (max (den.1.d + fracDnY F l den.1.h) (-(fracY F l)))
    [atXY (n + 1) num (hlf (fracW num.1.w den.1.w - num.1.w)) (fracUpY F l num.1.d), atXY (n + 1) (ruleB n (fracW num.1.w den.1.w) (par F l F.rule) 0) 0 (fracY F l), atXY (n + 1) den (hlf (fracW num.1.w den.1.w - den.1.w)) (-(fracDnY F l den.1.h))]

set_option maxHeartbeats 8000000 in
set_option maxRecDepth 100000 in
theorem fracMake_bad1 (F : Fnt) (l : Int) (c : Bool) (n m : Nat) (num den : Bx (n + 1)) (cs ds : List Value) (w : World) (hF : FntOk w F)  (hx : PctOk F l 0 1) (hr : Rep w (n + 1) num cs) (hs : Rep w (n + 1) den ds)  :
    Calls Try.prog 11 #[F.val, .agg #[.int .i64 l, .bool c], .agg cs.toArray, .agg ds.toArray] w (GivesBE (m + 1) (zeroB m) 1 w) := by
  have HPc := Lib.hid (fun w' (h : Below w.heap.size w w') => style_Percent_calls F l 0 1 c w' (hF.below h) hx)
  have h11 := hr.len
  have h12 := hs.len
  obtain ⟨c0, c1, c2, c3, c4, c5, c6, c7, c8, c9, c10, rfl⟩ := eleven h11
  obtain ⟨d0, d1, d2, d3, d4, d5, d6, d7, d8, d9, d10, rfl⟩ := eleven h12
  clear hr hs hF hx h11 h12
  go_enter Try.func11, Try.ntmps11
  have hS := own_start w
  go_wp2_with (first | (refine own_unguard (by rfl) ?_) | (go_at_call 21; refine own_calls hS (HPc.out _ hS.below) ?_; clear hS; (try clear ww); intro ww hS) | (refine w_ld rfl _ rfl (by rfl) (by first | exact rd_1 (by repeat constructor) (by first | rfl | assumption) | exact rd_w (by repeat constructor) (by rfl) | exact rd_o (by assumption) (by rfl) (by first | exact nmn | assumption | simp) | exact rd_h (by assumption) (by rfl) (by first | exact nmn | assumption | simp) | exact rd_1o (by assumption) (by first | exact nmn | assumption | simp) | exact rd_1h (by assumption) (by first | rfl | assumption) (by first | exact nmn | assumption | simp)) hS ?_) | (refine own_box rfl _ _ rfl (by rfl) hS ?_; clear hS; (try clear ww); intro bb ww hS) | (refine w_al rfl rfl hS ?_; clear hS; (try clear ww); intro bb ww hS) | (refine w_st rfl _ _ rfl (by rfl) (by rfl) (by repeat constructor) (by rfl) (by rfl) (by first | rfl | assumption) hS ?_; clear hS; (try clear ww); intro ww hS) | (refine w_s1 rfl _ _ rfl (by rfl) (by repeat constructor) (by first | exact .c | exact .t rfl) (by rfl) (by repeat constructor) hS ?_; clear hS; (try clear ww); intro ww hS))
  have hc := (hS.get at0).cell
  refine bodyPost_ret (v := .tuple #[.agg #[.int .i64 0, .string ⟨#[]⟩, .int .i64 0, .int .i64 0, .int .i64 0, .int .i64 0, .int .i64 0, .int .i64 0, .slice none 0 0, .int .i64 0, .slice none 0 0], .int .i64 1]) (by simp [results, Try.results11, go_sem, hc]) rfl ⟨_, rfl, rep_zero m _, hS.below⟩

set_option maxHeartbeats 8000000 in
set_option maxRecDepth 100000 in
theorem fracMake_bad2 (F : Fnt) (l : Int) (c : Bool) (n m : Nat) (num den : Bx (n + 1)) (cs ds : List Value) (w : World) (hF : FntOk w F) (p : Int) (hx : PctOk F l p 0) (hr : Rep w (n + 1) num cs) (hs : Rep w (n + 1) den ds) (hn : ¬ validB (n + 1) num) :
    Calls Try.prog 11 #[F.val, .agg #[.int .i64 l, .bool c], .agg cs.toArray, .agg ds.toArray] w (GivesBE (m + 1) (zeroB m) 1 w) := by
  have HPc := Lib.hid (fun w' (h : Below w.heap.size w w') => style_Percent_calls F l p 0 c w' (hF.below h) hx)
  have HVn := Lib.hid (fun w' (h : Below w.heap.size w w') => box_Valid_calls (n + 1) num cs w' (hr.step h) hr.wide _ (iff_f hn))
  clear hn
  have h11 := hr.len
  have h12 := hs.len
  obtain ⟨c0, c1, c2, c3, c4, c5, c6, c7, c8, c9, c10, rfl⟩ := eleven h11
  obtain ⟨d0, d1, d2, d3, d4, d5, d6, d7, d8, d9, d10, rfl⟩ := eleven h12
  clear hr hs hF hx h11 h12
  go_enter Try.func11, Try.ntmps11
  have hS := own_start w
  go_wp2_with (first | (refine own_unguard (by rfl) ?_) | (go_at_call 21; refine own_calls hS (HPc.out _ hS.below) ?_; clear hS; (try clear ww); intro ww hS) | (go_at_call 17; refine own_calls hS (by first | exact HVn.out _ hS.below) ?_; clear hS; (try clear ww); intro ww hS) | (refine w_ld rfl _ rfl (by rfl) (by first | exact rd_1 (by repeat constructor) (by first | rfl | assumption) | exact rd_w (by repeat constructor) (by rfl) | exact rd_o (by assumption) (by rfl) (by first | exact nmn | assumption | simp) | exact rd_h (by assumption) (by rfl) (by first | exact nmn | assumption | simp) | exact rd_1o (by assumption) (by first | exact nmn | assumption | simp) | exact rd_1h (by assumption) (by first | rfl | assumption) (by first | exact nmn | assumption | simp)) hS ?_) | (refine own_box rfl _ _ rfl (by rfl) hS ?_; clear hS; (try clear ww); intro bb ww hS) | (refine w_al rfl rfl hS ?_; clear hS; (try clear ww); intro bb ww hS) | (refine w_st rfl _ _ rfl (by rfl) (by rfl) (by repeat constructor) (by rfl) (by rfl) (by first | rfl | assumption) hS ?_; clear hS; (try clear ww); intro ww hS) | (refine w_s1 rfl _ _ rfl (by rfl) (by repeat constructor) (by first | exact .c | exact .t rfl) (by rfl) (by repeat constructor) hS ?_; clear hS; (try clear ww); intro ww hS))
  have hc := (hS.get at0).cell
  refine bodyPost_ret (v := .tuple #[.agg #[.int .i64 0, .string ⟨#[]⟩, .int .i64 0, .int .i64 0, .int .i64 0, .int .i64 0, .int .i64 0, .int .i64 0, .slice none 0 0, .int .i64 0, .slice none 0 0], .int .i64 1]) (by simp [results, Try.results11, go_sem, hc]) rfl ⟨_, rfl, rep_zero m _, hS.below⟩

set_option maxHeartbeats 8000000 in
set_option maxRecDepth 100000 in
theorem fracMake_bad3 (F : Fnt) (l : Int) (c : Bool) (n m : Nat) (num den : Bx (n + 1)) (cs ds : List Value) (w : World) (hF : FntOk w F) (p : Int) (hx : PctOk F l p 0) (hr : Rep w (n + 1) num cs) (hs : Rep w (n + 1) den ds) (hn : validB (n + 1) num) (hd : ¬ validB (n + 1) den) :
    Calls Try.prog 11 #[F.val, .agg #[.int .i64 l, .bool c], .agg cs.toArray, .agg ds.toArray] w (GivesBE (m + 1) (zeroB m) 1 w) := by
  have HPc := Lib.hid (fun w' (h : Below w.heap.size w w') => style_Percent_calls F l p 0 c w' (hF.below h) hx)
  have HVn := Lib.hid (fun w' (h : Below w.heap.size w w') => box_Valid_calls (n + 1) num cs w' (hr.step h) hr.wide _ (iff_t hn))
  have HVd := Lib.hid (fun w' (h : Below w.heap.size w w') => box_Valid_calls (n + 1) den ds w' (hs.step h) hs.wide _ (iff_f hd))
  clear hn hd
  have h11 := hr.len
  have h12 := hs.len
  obtain ⟨c0, c1, c2, c3, c4, c5, c6, c7, c8, c9, c10, rfl⟩ := eleven h11
  obtain ⟨d0, d1, d2, d3, d4, d5, d6, d7, d8, d9, d10, rfl⟩ := eleven h12
  clear hr hs hF hx h11 h12
  go_enter Try.func11, Try.ntmps11
  have hS := own_start w
  go_wp2_with (first | (refine own_unguard (by rfl) ?_) | (go_at_call 21; refine own_calls hS (HPc.out _ hS.below) ?_; clear hS; (try clear ww); intro ww hS) | (go_at_call 17; refine own_calls hS (by first | exact HVn.out _ hS.below | exact HVd.out _ hS.below) ?_; clear hS; (try clear ww); intro ww hS) | (refine w_ld rfl _ rfl (by rfl) (by first | exact rd_1 (by repeat constructor) (by first | rfl | assumption) | exact rd_w (by repeat constructor) (by rfl) | exact rd_o (by assumption) (by rfl) (by first | exact nmn | assumption | simp) | exact rd_h (by assumption) (by rfl) (by first | exact nmn | assumption | simp) | exact rd_1o (by assumption) (by first | exact nmn | assumption | simp) | exact rd_1h (by assumption) (by first | rfl | assumption) (by first | exact nmn | assumption | simp)) hS ?_) | (refine own_box rfl _ _ rfl (by rfl) hS ?_; clear hS; (try clear ww); intro bb ww hS) | (refine w_al rfl rfl hS ?_; clear hS; (try clear ww); intro bb ww hS) | (refine w_st rfl _ _ rfl (by rfl) (by rfl) (by repeat constructor) (by rfl) (by rfl) (by first | rfl | assumption) hS ?_; clear hS; (try clear ww); intro ww hS) | (refine w_s1 rfl _ _ rfl (by rfl) (by repeat constructor) (by first | exact .c | exact .t rfl) (by rfl) (by repeat constructor) hS ?_; clear hS; (try clear ww); intro ww hS))
  have hc := (hS.get at0).cell
  refine bodyPost_ret (v := .tuple #[.agg #[.int .i64 0, .string ⟨#[]⟩, .int .i64 0, .int .i64 0, .int .i64 0, .int .i64 0, .int .i64 0, .int .i64 0, .slice none 0 0, .int .i64 0, .slice none 0 0], .int .i64 1]) (by simp [results, Try.results11, go_sem, hc]) rfl ⟨_, rfl, rep_zero m _, hS.below⟩

end Go.Proofs.Ytfmoghkffffmmaa
