/- Texts Avl, Frk, Avi, Fmk, Fgd, Fgp, Fre, Ant, Anm, Off. -/
import Derived.Test.YtdbcdjiclkmknaaK14
import Derived.Test.YtdbcdjiclkmknaaK10
namespace Go.Proofs.Ytdbcdjiclkmknaa
open Go.RowKit

attribute [local irreducible] wpQuiet wpG wpP wpK wpList Code.wp Calls

theorem repLA_of {w : World} {n : Nat} {kids : List (Bx n)} {B : List Nat} {l : List { c : List Value // c.length = 11 }} {y : Option Addr} (hr : RowAt w y 11 Subtype.val l) (h : Done w n kids B l) (hl : l.length = kids.length) (hy : l ≠ [] → ∀ k o, y = some ⟨k, o, none⟩ → k ∉ B) : RepLA (fun k => k ∉ B) B w n y kids := fun i kid hi => by
  have hlt : i < l.length := by rw [hl]; exact (List.getElem?_eq_some_iff.1 hi).1
  obtain ⟨b, o, hx, hrg⟩ := hr.get (List.getElem?_eq_getElem hlt)
  exact ⟨b, o, _, hx, hy (by intro h0; subst h0; simp at hlt) b o hx, hrg, h i _ kid (List.getElem?_eq_getElem hlt) hi⟩

set_option maxHeartbeats 8000000 in
set_option maxRecDepth 100000 in
theorem box_List_A (B : List Nat) (n : Nat) (kids : List (Bx n)) (kx : Option Addr) (kc : Nat) (bw bh bd : Int) (w : World) (hk : RepLA (fun _ => True) B w n kx kids) (hB : ∀ k ∈ B, k < w.heap.size) (hsm : ∀ k ∈ kids, Small n k ∧ bCount n k ≤ 1000000) (hl : kids.length ≤ 1000000) (h1 : I64 bw) (h2 : I64 bh) (h3 : I64 bd) :
    Calls Try.prog 26 #[.int .i64 bw, .int .i64 bh, .int .i64 bd, .slice kx kids.length kc] w (GivesA B (n + 1) (listB n bw bh bd kids) w) := by
  have HK := Lib.hid hk
  have HB := Lib.hid hB
  have HM := Lib.hid hsm
  have HH := Lib.hid (hdOk_new (k := 3) (by unfold I64; omega) h1 h2 h3)
  have tok1 : True := trivial
  clear hk hsm h1 h2 h3 hB
  go_enter Try.func26, Try.ntmps26
  have hS := own_start w
  go_wp2_with (first|(refine own_unguard (by rfl) ?_)|(have _t := tok1;refine own_alloc rfl _ rfl hS zt_box ?_;clear hS tok1;(try clear ww);intro b8 ww hS)|(refine own_alloc rfl _ rfl hS zt_box ?_;clear hS;(try clear ww);intro b9 ww hS)|(refine w_ld rfl _ rfl (by rfl) (by first|exact rd_1 (by repeat constructor) (by first|rfl|assumption)|exact rd_w (by repeat constructor) (by rfl)|((first|refine rd_o ‹_› (by rfl) ?_|refine rd_h ‹_› (by rfl) ?_|refine rd_1o ‹_› ?_|refine rd_1h ‹_› (by first|rfl|assumption) ?_);first|exact nmn|assumption|simp)) hS ?_)|((first|refine own_box rfl _ _ rfl (by rfl) hS ?_|refine w_al rfl rfl hS ?_);clear hS;(try clear ww);intro bb ww hS)|((first|refine w_st rfl _ _ rfl (by rfl) (by rfl) (by repeat constructor) (by rfl) (by rfl) (by first|rfl|assumption) hS ?_|refine w_s1 rfl _ _ rfl (by rfl) (by repeat constructor) (by first|exact .c|exact .t rfl) (by rfl) (by repeat constructor) hS ?_);clear hS;(try clear ww);intro ww hS))
  go_loopw [18] (fun i wr => ∃ (j : Nat) (v : Value) (X : List (Nat × List Value)) (l : List { c : List Value // c.length = 11 }), j ≤ kids.length ∧ i = .int .i64 j ∧ l.length = j ∧ Sl 11 j v (l.flatMap Subtype.val) X ∧ Done wr n kids ((b9 :: b8 :: X.map (·.1)) ++ B) l ∧ Own [] w ([(b9, [.int .i64 3, .string ⟨#[]⟩, .int .i64 0, .int .i64 bw, .int .i64 bh, .int .i64 bd, .int .i64 0, .int .i64 0, v, .int .i64 0, .slice none 0 0]), (b8, [.int .i64 0, .string ⟨#[]⟩, .int .i64 0, .int .i64 0, .int .i64 0, .int .i64 0, .int .i64 0, .int .i64 0, .slice none 0 0, .int .i64 0, .slice none 0 0])] ++ X) wr) (fun i _ => kids.length - (intOf i).toNat)
  case atStart => exact ⟨0, _, [], [], Nat.zero_le _, rfl, rfl, sl_nil 11, (fun q css kid hq _ => by simp at hq), by simpa using hS⟩
  case round =>
    clear hS
    obtain ⟨j, v, X, l, hj, rfl, hlj, hX, hD, hA⟩ := hrel
    have hS := hA.rebase
    by_cases hlt : j < kids.length
    · obtain ⟨kid, hkid⟩ : ∃ kid, kids[j]? = some kid := ⟨kids[j], by simp [hlt]⟩
      obtain ⟨kb, ko, css, hkx, _, hrg, hrep⟩ := HK.out j kid hkid
      obtain rfl : kx = some ⟨kb, ko, none⟩ := hkx
      obtain ⟨c0, c1, c2, c3, c4, c5, c6, c7, c8, c9, c10, rfl⟩ := eleven hrep.len
      have hkb : kb < w.heap.size := World.block_lt_of_cell? w _ (hrg 0 c0 rfl)
      have hge : ∀ x, x ∈ ([(b9, [.int .i64 3, .string ⟨#[]⟩, .int .i64 0, .int .i64 bw, .int .i64 bh, .int .i64 bd, .int .i64 0, .int .i64 0, v, .int .i64 0, .slice none 0 0]), (b8, [.int .i64 0, .string ⟨#[]⟩, .int .i64 0, .int .i64 0, .int .i64 0, .int .i64 0, .int .i64 0, .int .i64 0, .slice none 0 0, .int .i64 0, .slice none 0 0])] ++ X) → w.heap.size ≤ x.1 := fun x hx => by
        rcases hA.ge x hx with h | h
        · cases h
        · exact h
      have hnk : kb ∉ (([(b9, [.int .i64 3, .string ⟨#[]⟩, .int .i64 0, .int .i64 bw, .int .i64 bh, .int .i64 bd, .int .i64 0, .int .i64 0, v, .int .i64 0, .slice none 0 0]), (b8, [.int .i64 0, .string ⟨#[]⟩, .int .i64 0, .int .i64 0, .int .i64 0, .int .i64 0, .int .i64 0, .int .i64 0, .slice none 0 0, .int .i64 0, .slice none 0 0])] ++ X).map (·.1)) := fun h => by
        obtain ⟨x, hx, he⟩ := List.mem_map.1 h
        have := hge x hx
        omega
      have hrg2 : wr.rangeAt kb (ko + j * 11) [c0, c1, c2, c3, c4, c5, c6, c7, c8, c9, c10] := Own.range hA (by simp) hrg
      have HA := Lib.hid hA
      have HX := Lib.hid hX
      have HDn := Lib.hid hD
      have HRp := Lib.hid hrep
      have HKid := Lib.hid hkid
      have hall := rep_all hrep
      clear hA hX hD hrep hrg hkid hge
      go_wp2_with (first|(refine own_unguard (by rfl) ?_)|(refine own_load_old rfl _ _ rfl rfl hS hrg2 hnk rt_box ?_)|(refine own_store rfl _ _ _ rfl rfl rfl hS at0 rt_box (by rfl) hall ?_;clear hS;intro ww hS;simp only [List.set_cons_zero] at hS)|(refine w_ld rfl _ rfl (by rfl) (by first|exact rd_1 (by repeat constructor) (by first|rfl|assumption)|exact rd_w (by repeat constructor) (by rfl)|((first|refine rd_o ‹_› (by rfl) ?_|refine rd_h ‹_› (by rfl) ?_|refine rd_1o ‹_› ?_|refine rd_1h ‹_› (by first|rfl|assumption) ?_);first|exact nmn|assumption|simp)) hS ?_)|((first|refine own_box rfl _ _ rfl (by rfl) hS ?_|refine w_al rfl rfl hS ?_);clear hS;(try clear ww);intro bb ww hS)|((first|refine w_st rfl _ _ rfl (by rfl) (by rfl) (by repeat constructor) (by rfl) (by rfl) (by first|rfl|assumption) hS ?_|refine w_s1 rfl _ _ rfl (by rfl) (by repeat constructor) (by first|exact .c|exact .t rfl) (by rfl) (by repeat constructor) hS ?_);clear hS;(try clear ww);intro ww hS))
      try simp only [Act.put, List.setIfInBounds_toArray, List.set_cons_zero, List.set_cons_succ]
      refine own_any hS [5, 7] 8 (by kernel_rfl) (by kernel_rfl) ?_
      clear hS
      intro hcl ww hS
      refine own_batch hS [0, 1, 2] 5 rfl hcl (by kernel_rfl) ?_
      (try simp only);repeat (first|(simp only [List.filterMap_cons])|(simp only [List.filterMap_nil])|(simp only [List.getElem?_toArray])|(simp only [List.getElem?_cons_succ])|(simp only [List.getElem?_cons_zero])|(simp only [List.reverse_cons])|(simp only [List.reverse_nil])|(simp only [List.nil_append])|(simp only [List.cons_append]))
      repeat (first
          | (first|(refine g_plain rfl ?_)|(refine g_yes rfl rfl rfl (by simp only [List.getElem?_toArray, List.getElem?_cons_succ, List.getElem?_cons_zero];rfl) (by with_reducible constructor) ?_)
             apply Exists.intro; refine ⟨?_, ?_⟩
             focus (intro wq hq0;(first|have hq : Own _ _ _ wq := hq0|have hq : Own _ _ _ wq := hq0.1|skip);first|((with_reducible show givesAt _ ({ dst := _, op := Op.load _ _, type := _, pos := _, after := _, guard := _ } : Oper) _ _ _);first|(exact givesAt_rd rfl (by rfl) (by first|exact rd_1 (by repeat constructor) (by first|rfl|assumption)|exact rd_w (by repeat constructor) (by rfl)|((first|refine rd_o ‹_› (by rfl) ?_|refine rd_h ‹_› (by rfl) ?_|refine rd_1o ‹_› ?_|refine rd_1h ‹_› (by first|rfl|assumption) ?_);first|exact nmn|assumption|simp)) hq))|(go_simp;first|(with_reducible rfl)))
             simp only [Act.put, List.setIfInBounds_toArray];(try simp only [List.set_cons_succ]);(try simp only [List.set_cons_zero]))
          | (refine g_no rfl rfl rfl (by simp only [List.getElem?_toArray, List.getElem?_cons_succ, List.getElem?_cons_zero];rfl) (by with_reducible constructor) ?_;simp only [Act.put, List.setIfInBounds_toArray];(try simp only [List.set_cons_succ]);(try simp only [List.set_cons_zero])))
      refine g_nil ?_
      clear hS hcl
      intro hcl ww hS
      have hA2 := HA.out.chain hS
      refine own_softB hS 3 hcl rfl (by kernel_rfl) ?_
      have hO := hS
      clear hS
      intro hS
      go_wp2_with (first|(go_at_call 47;refine Calls.mono (deep_Box_calls (fun k => k ∉ B ∧ k < w.heap.size) n kid _ ww (fun k hk => Nat.lt_of_lt_of_le hk.2 hA2.size) (RepG.step hA2.below n kid _ (rep_keep2 (Q := fun k => k ∉ B) (fun _ _ _ => rfl) n kid _ HRp.out)) (HM.out kid (List.mem_of_getElem? HKid.out)).1 (HM.out kid (List.mem_of_getElem? HKid.out)).2) ?_;rintro e w1 ⟨cs', rfl, hr', hb'⟩))
      refine ⟨[], hS.step hb', ?_⟩
      clear hS
      intro hcl w3 hS hb3
      have hA3 := HA.out.chain hS
      have hm2 : ∀ k ∈ (bb :: b9 :: b8 :: X.map (·.1)), w.heap.size ≤ k ∧ k < ww.heap.size := fun k hk => by
        obtain ⟨x, hx, rfl⟩ : ∃ x, x ∈ ((bb, [c0, c1, c2, c3, c4, c5, c6, c7, c8, c9, c10] ) :: ([(b9, [.int .i64 3, .string ⟨#[]⟩, .int .i64 0, .int .i64 bw, .int .i64 bh, .int .i64 bd, .int .i64 0, .int .i64 0, v, .int .i64 0, .slice none 0 0]), (b8, [.int .i64 0, .string ⟨#[]⟩, .int .i64 0, .int .i64 0, .int .i64 0, .int .i64 0, .int .i64 0, .int .i64 0, .slice none 0 0, .int .i64 0, .slice none 0 0])] ++ X)) ∧ x.1 = k := by
          obtain ⟨x, hx, he⟩ := List.mem_map.1 (show k ∈ (((bb, [c0, c1, c2, c3, c4, c5, c6, c7, c8, c9, c10]) :: ([(b9, [.int .i64 3, .string ⟨#[]⟩, .int .i64 0, .int .i64 bw, .int .i64 bh, .int .i64 bd, .int .i64 0, .int .i64 0, v, .int .i64 0, .slice none 0 0]), (b8, [.int .i64 0, .string ⟨#[]⟩, .int .i64 0, .int .i64 0, .int .i64 0, .int .i64 0, .int .i64 0, .int .i64 0, .slice none 0 0, .int .i64 0, .slice none 0 0])] ++ X)).map (·.1)) from hk)
          exact ⟨x, hx, he⟩
        refine ⟨?_, (hA2.has x hx).lt⟩
        rcases hA2.ge x hx with h | h
        · cases h
        · exact h
      have hD3 : Done w3 n kids ((bb :: b9 :: b8 :: X.map (·.1)) ++ B) l := HDn.out.turn hS (fun k h => List.mem_append_left _ h) (fun k hk => by
        rcases List.mem_append.1 hk with hk | hk
        case inr => exact .inl (List.mem_append_right _ hk)
        obtain ⟨x, hx, he⟩ := List.mem_map.1 (show k ∈ (((bb, [c0, c1, c2, c3, c4, c5, c6, c7, c8, c9, c10]) :: ([(b9, [.int .i64 3, .string ⟨#[]⟩, .int .i64 0, .int .i64 bw, .int .i64 bh, .int .i64 bd, .int .i64 0, .int .i64 0, v, .int .i64 0, .slice none 0 0]), (b8, [.int .i64 0, .string ⟨#[]⟩, .int .i64 0, .int .i64 0, .int .i64 0, .int .i64 0, .int .i64 0, .int .i64 0, .slice none 0 0, .int .i64 0, .slice none 0 0])] ++ X)).map (·.1)) from hk)
        rw [← he]
        rcases hS.ge x hx with h | h
        · exact .inl (List.mem_append_left _ h)
        · exact .inr h)
      have hno : ∀ k, ((k ∉ B ∧ k < w.heap.size) ∨ ww.heap.size ≤ k) → k ∉ ((bb :: b9 :: b8 :: X.map (·.1)) ++ B) := fun k hk hm => by
        rcases List.mem_append.1 hm with hm | hm
        · have := hm2 k hm; rcases hk with ⟨_, h⟩ | h <;> omega
        · have := HB.out k hm; have := hA2.size; rcases hk with ⟨h, _⟩ | h
          · exact h hm
          · omega
      have hr3 : RepG (fun k _ => k ∉ ((bb :: b9 :: b8 :: X.map (·.1)) ++ B)) (fun k => k ∉ ((bb :: b9 :: b8 :: X.map (·.1)) ++ B)) w3 n kid cs' := RepG.step hb3 n kid cs' (hr'.mono (fun k _ hk => hno k hk) (fun k hk => hno k hk))
      have h11 := hr3.len
      have hall3 := rep_all hr3
      obtain ⟨e0, e1, e2, e3, e4, e5, e6, e7, e8, e9, e10, rfl⟩ := eleven h11
      obtain ⟨DD, hDD, hS4⟩ : ∃ DD, Hid (DD = bb :: b9 :: b8 :: X.map (·.1)) ∧ Own DD w3 ((bb, [c0, c1, c2, c3, c4, c5, c6, c7, c8, c9, c10]) :: ([(b9, [.int .i64 3, .string ⟨#[]⟩, .int .i64 0, .int .i64 bw, .int .i64 bh, .int .i64 bd, .int .i64 0, .int .i64 0, v, .int .i64 0, .slice none 0 0]), (b8, [.int .i64 0, .string ⟨#[]⟩, .int .i64 0, .int .i64 0, .int .i64 0, .int .i64 0, .int .i64 0, .int .i64 0, .slice none 0 0, .int .i64 0, .slice none 0 0])] ++ X)) w3 := ⟨_, rfl, hA3.rebase⟩
      clear hS
      have hS := hS4
      have HA3 := Lib.hid hA3
      have HD3 := Lib.hid hD3
      have HR3 := Lib.hid hr3
      clear hS4 hA3 hD3 hr3 hO hr' hb' hb3 hm2 hno hA2
      refine own_soft hS 4 hcl rfl (by kernel_rfl) ?_
      have hO := hS
      clear hS
      intro hS
      refine own_buildSlice rfl _ _ 1 _ rfl [e0, e1, e2, e3, e4, e5, e6, e7, e8, e9, e10] hS Try.underlying30 (by kernel_rfl) ?_
      clear hS
      intro b1 w4 hS
      refine wpList_nil ⟨rfl, _, hS, ?_⟩
      clear hS hO hcl
      intro hcl w5 hS
      refine own_hard (D := DD) (W := w3) 5 hcl rfl (by kernel_rfl) (by kernel_rfl) ?_
      refine own_append_new (b := b1) rfl _ _ _ rfl HX.out rfl rfl (show Own DD w3 (((b1, [e0, e1, e2, e3, e4, e5, e6, e7, e8, e9, e10]) :: [_, _, _]) ++ X) w5 from hS) rfl hall3 el_box (by decide) (by simp only [maxLen]; omega) (by omega) ?_
      clear hS
      intro v' X' w6 hS hX'
      refine wpList_nil ⟨rfl, _, hS, ?_⟩
      clear hS hcl
      intro hcl w7 hS
      refine own_batch hS [6] 1 rfl hcl (by kernel_rfl) ?_
      (try simp only);repeat (first|(simp only [List.filterMap_cons])|(simp only [List.filterMap_nil])|(simp only [List.getElem?_toArray])|(simp only [List.getElem?_cons_succ])|(simp only [List.getElem?_cons_zero])|(simp only [List.reverse_cons])|(simp only [List.reverse_nil])|(simp only [List.nil_append])|(simp only [List.cons_append]))
      repeat (first
          | (first|(refine g_plain rfl ?_)|(refine g_yes rfl rfl rfl (by simp only [List.getElem?_toArray, List.getElem?_cons_succ, List.getElem?_cons_zero];rfl) (by with_reducible constructor) ?_)
             apply Exists.intro; refine ⟨?_, ?_⟩
             focus (intro wq hq0;(first|have hq : Own _ _ _ wq := hq0|have hq : Own _ _ _ wq := hq0.1|skip);first|((with_reducible show givesAt _ ({ dst := _, op := Op.load _ _, type := _, pos := _, after := _, guard := _ } : Oper) _ _ _);first|(exact givesAt_rd rfl (by rfl) (by first|exact rd_1 (by repeat constructor) (by first|rfl|assumption)|exact rd_w (by repeat constructor) (by rfl)|((first|refine rd_o ‹_› (by rfl) ?_|refine rd_h ‹_› (by rfl) ?_|refine rd_1o ‹_› ?_|refine rd_1h ‹_› (by first|rfl|assumption) ?_);first|exact nmn|assumption|simp)) hq))|(go_simp;first|(with_reducible rfl)))
             simp only [Act.put, List.setIfInBounds_toArray];(try simp only [List.set_cons_succ]);(try simp only [List.set_cons_zero]))
          | (refine g_no rfl rfl rfl (by simp only [List.getElem?_toArray, List.getElem?_cons_succ, List.getElem?_cons_zero];rfl) (by with_reducible constructor) ?_;simp only [Act.put, List.setIfInBounds_toArray];(try simp only [List.set_cons_succ]);(try simp only [List.set_cons_zero])))
      refine g_nil ?_
      clear hS hcl
      intro hcl ww hS
      refine own_hard (D := DD) (W := w3) 7 hcl rfl (by kernel_rfl) (by kernel_rfl) ?_
      refine own_store1 (v := v') rfl _ _ _ rfl rfl rfl hX'.one hS at1 ot_boxs (by simp) ?_
      clear hS
      intro w8 hS
      refine wpList_nil ⟨rfl, _, hS, ?_⟩
      clear hS hcl
      intro hcl w9 hS
      refine own_done (by kernel_rfl) ?_
      have HX' := Lib.hid hX'
      clear hX'
      go_wp2_with (first|(refine own_unguard (by rfl) ?_)|(refine w_ld rfl _ rfl (by rfl) (by first|exact rd_1 (by repeat constructor) (by first|rfl|assumption)|exact rd_w (by repeat constructor) (by rfl)|((first|refine rd_o ‹_› (by rfl) ?_|refine rd_h ‹_› (by rfl) ?_|refine rd_1o ‹_› ?_|refine rd_1h ‹_› (by first|rfl|assumption) ?_);first|exact nmn|assumption|simp)) hS ?_)|((first|refine own_box rfl _ _ rfl (by rfl) hS ?_|refine w_al rfl rfl hS ?_);clear hS;(try clear ww);intro bb ww hS)|((first|refine w_st rfl _ _ rfl (by rfl) (by rfl) (by repeat constructor) (by rfl) (by rfl) (by first|rfl|assumption) hS ?_|refine w_s1 rfl _ _ rfl (by rfl) (by repeat constructor) (by first|exact .c|exact .t rfl) (by rfl) (by repeat constructor) hS ?_);clear hS;(try clear ww);intro ww hS))
      obtain rfl := hDD.out
      have hD9 := (HD3.out.next (css := ⟨[e0, e1, e2, e3, e4, e5, e6, e7, e8, e9, e10], rfl⟩) (by rw [hlj]; exact HKid.out) HR3.out).turn (B' := (b9 :: b8 :: X'.map (·.1)) ++ B) hS (fun k h => List.mem_append_left _ h) (fun k hk => by
        rcases List.mem_append.1 hk with hk | hk
        case inr => exact .inl (List.mem_append_right _ hk)
        obtain ⟨x, hx, he⟩ := List.mem_map.1 (show k ∈ (([(b9, [.int .i64 3, .string ⟨#[]⟩, .int .i64 0, .int .i64 bw, .int .i64 bh, .int .i64 bd, .int .i64 0, .int .i64 0, v', .int .i64 0, .slice none 0 0]), (b8, [.int .i64 0, .string ⟨#[]⟩, .int .i64 0, .int .i64 0, .int .i64 0, .int .i64 0, .int .i64 0, .int .i64 0, .slice none 0 0, .int .i64 0, .slice none 0 0])] ++ X').map (·.1)) from hk)
        rw [← he]
        rcases hS.ge x (List.mem_cons_of_mem _ hx) with h | h
        · exact .inl (List.mem_append_left _ h)
        · exact .inr h)
      have HD9 := Lib.hid hD9
      have HA9 := Lib.hid ((HA3.out.chain hS).forget (List.sublist_cons_self _ _))
      clear hD9
      go_roundw
      case rel => exact ⟨j + 1, v', X', l ++ [⟨[e0, e1, e2, e3, e4, e5, e6, e7, e8, e9, e10], rfl⟩], hlt, by go_num, by simp [hlj], by simpa using HX'.out, HD9.out, HA9.out⟩
      case measure => exact loop_meas hlt
    · obtain rfl : j = kids.length := by omega
      obtain ⟨y, c, hv⟩ := hX.slice
      subst hv
      have HA := Lib.hid hA
      have HX := Lib.hid hX
      have HDn := Lib.hid hD
      clear hA hX hD
      go_wp2_with (first|(refine own_unguard (by rfl) ?_)|(refine own_load rfl _ _ rfl rfl hS at0 rt_box ?_)|(refine own_store rfl _ _ _ rfl rfl rfl hS at1 rt_box (by rfl) (by rfl) ?_;clear hS;intro ww hS;simp only [List.set_cons_zero, List.set_cons_succ] at hS)|(refine w_ld rfl _ rfl (by rfl) (by first|exact rd_1 (by repeat constructor) (by first|rfl|assumption)|exact rd_w (by repeat constructor) (by rfl)|((first|refine rd_o ‹_› (by rfl) ?_|refine rd_h ‹_› (by rfl) ?_|refine rd_1o ‹_› ?_|refine rd_1h ‹_› (by first|rfl|assumption) ?_);first|exact nmn|assumption|simp)) hS ?_)|((first|refine own_box rfl _ _ rfl (by rfl) hS ?_|refine w_al rfl rfl hS ?_);clear hS;(try clear ww);intro bb ww hS)|((first|refine w_st rfl _ _ rfl (by rfl) (by rfl) (by repeat constructor) (by rfl) (by rfl) (by first|rfl|assumption) hS ?_|refine w_s1 rfl _ _ rfl (by rfl) (by repeat constructor) (by first|exact .c|exact .t rfl) (by rfl) (by repeat constructor) hS ?_);clear hS;(try clear ww);intro ww hS))
      have hc := (hS.get at1).cell
      obtain ⟨y', c', he, hrow, _, _⟩ := Sl.rowAt hS (fun x hx => by simp [hx]) HX.out (fun a => a.2) (by decide)
      obtain ⟨rfl, _, rfl⟩ : y = y' ∧ kids.length = l.length ∧ c = c' := by simpa using he
      have hDf := HDn.out.turn (B' := B) hS (fun k h => List.mem_append_left _ h) (fun k hk => .inl (List.mem_append_right _ hk))
      have hyB : l ≠ [] → ∀ k o, y = some ⟨k, o, none⟩ → k ∉ B := fun hne k o hx hm => by
        obtain ⟨z, hz⟩ := sl_where HX.out (by rw [← hlj]; intro h0; exact hne (List.eq_nil_of_length_eq_zero h0)) hx
        have h1 := HB.out k hm
        rcases HA.out.ge (k, z) (by simp [hz]) with h2 | h2
        · cases h2
        · simp only at h2; omega
      refine bodyPost_ret (v := .agg #[.int .i64 3, .string ⟨#[]⟩, .int .i64 0, .int .i64 bw, .int .i64 bh, .int .i64 bd, .int .i64 0, .int .i64 0, .slice y kids.length c, .int .i64 0, .slice none 0 0]) (by simp [results, Try.results26, go_sem, hc]) rfl ⟨_, rfl, rep_mkA (sx := none) (sc := 0) HH.out (by simp only [maxLen]; omega) (.inl rfl) (fun h => absurd rfl h) (repLA_of hrow hDf hlj hyB), (HA.out.chain hS).below⟩

theorem repLA_flat {B : List Nat} {w : World} {n : Nat} {kids : List (Bx n)} {kx : Option Addr} (h : RepLA (fun _ => True) B w n kx kids) (hne : kids ≠ []) : ∃ k o, ∃ l : List { c : List Value // c.length = 11 }, kx = some ⟨k, o, none⟩ ∧ l.length = kids.length ∧ w.rangeAt k o (l.flatMap Subtype.val) ∧ (∀ v ∈ l.flatMap Subtype.val, v.oneCell' = true) ∧ ∀ (q : Nat) (css : { c : List Value // c.length = 11 }) (kid : Bx n), l[q]? = some css → kids[q]? = some kid → RepA B w n kid css.1 := by
  obtain ⟨kid0, hk0⟩ : ∃ kid, kids[0]? = some kid := by
    cases kids with
    | nil => exact absurd rfl hne
    | cons x l => exact ⟨x, rfl⟩
  obtain ⟨k, o, _, hkx, _, _⟩ := h 0 kid0 hk0
  obtain ⟨l, hll, hr⟩ := list_of (α := { c : List Value // c.length = 11 }) (fun i css => w.rangeAt k (o + i * 11) css.1 ∧ css.1.all (·.oneCell') = true ∧ ∀ kid, kids[i]? = some kid → RepA B w n kid css.1) kids.length fun i hi => by
    obtain ⟨k2, o2, css, e, _, hrg, hrep⟩ := h i kids[i] (by simp [hi])
    rw [hkx] at e
    obtain ⟨rfl, rfl⟩ : k = k2 ∧ o = o2 := by simpa using e
    exact ⟨⟨css, hrep.len⟩, hrg, rep_all hrep, fun kid hk => by
      obtain rfl : kids[i] = kid := by simpa [hi] using hk
      exact hrep⟩
  obtain ⟨b, o', hx, hfl⟩ := RowAt.flat (w := w) (x := kx) (size := 11) (f := Subtype.val) (l := l) (.inr ⟨k, o, hkx, fun i x hi => (hr i x hi).1⟩) (fun a _ => a.2) (by
    intro h0
    subst h0
    have := (List.getElem?_eq_some_iff.1 hk0).1
    simp at hll
    omega)
  rw [hkx] at hx
  obtain ⟨rfl, rfl⟩ : k = b ∧ o = o' := by simpa using hx
  refine ⟨k, o, l, hkx, hll, hfl, fun v hv => ?_, fun q css kid hq hk => (hr q css hq).2.2 kid hk⟩
  obtain ⟨x, hx, hv⟩ := List.mem_flatMap.1 hv
  obtain ⟨i, hi⟩ := List.mem_iff_getElem?.1 hx
  exact List.all_eq_true.1 (hr i x hi).2.1 v hv

set_option maxHeartbeats 8000000 in
set_option maxRecDepth 100000 in
theorem ref28_List_A (B : List Nat) (n : Nat) (kids : List (Bx n)) (kx : Option Addr) (kc : Nat) (bw bh bd : Int) (w : World) (hk : RepLA (fun _ => True) B w n kx kids) (hB : ∀ k ∈ B, k < w.heap.size) (hne : kids ≠ []) (hl : kids.length ≤ 1000000) (h1 : I64 bw) (h2 : I64 bh) (h3 : I64 bd) :
    Calls Try.prog 30 #[.int .i64 bw, .int .i64 bh, .int .i64 bd, .slice kx kids.length kc] w (GivesA B (n + 1) (listB n bw bh bd kids) w) := by
  obtain ⟨kb, ko, l, rfl, hll, hfl, hone, hrp⟩ := repLA_flat hk hne
  have HF := Lib.hid hfl
  have HO := Lib.hid hone
  have HR := Lib.hid hrp
  have HH := Lib.hid (hdOk_new (k := 3) (by unfold I64; omega) h1 h2 h3)
  have hfl2 : (l.flatMap Subtype.val).length = kids.length * 11 := by rw [← hll]; exact flat_len (f := Subtype.val) (size := 11) (fun a => a.2) l
  clear hk hne h1 h2 h3 hfl hone hrp
  go_enter Try.func30, Try.ntmps30
  have hS := own_start w
  go_wp2_with (first|(refine own_unguard (by rfl) ?_)|(refine own_alloc rfl _ rfl hS zt_box ?_;clear hS;(try clear ww);intro b8 ww hS)|(refine own_buildEmpty rfl 30 33 rfl hS Try.underlying30 (by kernel_rfl) ?_;clear hS;(try clear ww);intro b0 ww hS)|(refine own_append rfl _ _ _ rfl (size := 11) (n := 0) (xs := []) (X := []) ⟨rfl, .inl ⟨_, .inr ⟨b0, 0, rfl⟩, rfl, rfl, rfl⟩⟩ rfl (news := l.flatMap Subtype.val) rfl (show Own [] w ([(b0, []), (b8, _)] ++ []) ww from hS) (src_cells hS HF.out) hfl2 HO.out el_box (by decide) (by simp only [maxLen];omega) (by omega) ?_;clear hS;intro v1 X1 ww hS hX;obtain ⟨y1, c1, rfl⟩ := hX.slice)|(refine w_ld rfl _ rfl (by rfl) (by first|exact rd_1 (by repeat constructor) (by first|rfl|assumption)|exact rd_w (by repeat constructor) (by rfl)|((first|refine rd_o ‹_› (by rfl) ?_|refine rd_h ‹_› (by rfl) ?_|refine rd_1o ‹_› ?_|refine rd_1h ‹_› (by first|rfl|assumption) ?_);first|exact nmn|assumption|simp)) hS ?_)|((first|refine own_box rfl _ _ rfl (by rfl) hS ?_|refine w_al rfl rfl hS ?_);clear hS;(try clear ww);intro bb ww hS)|((first|refine w_st rfl _ _ rfl (by rfl) (by rfl) (by repeat constructor) (by rfl) (by rfl) (by first|rfl|assumption) hS ?_|refine w_s1 rfl _ _ rfl (by rfl) (by repeat constructor) (by first|exact .c|exact .t rfl) (by rfl) (by repeat constructor) hS ?_);clear hS;(try clear ww);intro ww hS))
  simp only [Act.put]
  have hc := (hS.get at1).cell
  have hX2 : Sl 11 kids.length (.slice y1 kids.length c1) (l.flatMap Subtype.val) X1 := by simpa using hX
  obtain ⟨y', c', he, hrow, _, _⟩ := Sl.rowAt hS (fun x hx => by simp [hx]) hX2 (fun a => a.2) (by decide)
  obtain ⟨rfl, _, rfl⟩ : y1 = y' ∧ kids.length = l.length ∧ c1 = c' := by simpa using he
  have hD : Done ww n kids B l := fun q css kid hq hk => repA_step (HR.out q css kid hq hk) hS.below
  have hyB : l ≠ [] → ∀ k o, y1 = some ⟨k, o, none⟩ → k ∉ B := fun hne k o hx hm => by
    obtain ⟨z, hz⟩ := sl_where hX2 (by rw [← hll]; intro h0; exact hne (List.eq_nil_of_length_eq_zero h0)) hx
    have h1 := hB k hm
    rcases hS.ge (k, z) (by simp [hz]) with h2 | h2
    · cases h2
    · simp only at h2; omega
  refine bodyPost_ret (v := .agg #[.int .i64 3, .string ⟨#[]⟩, .int .i64 0, .int .i64 bw, .int .i64 bh, .int .i64 bd, .int .i64 0, .int .i64 0, .slice y1 kids.length c1, .int .i64 0, .slice none 0 0]) (by simp [results, Try.results30, go_sem, hc]) rfl ⟨_, rfl, rep_mkA (sx := none) (sc := 0) HH.out (by simp only [maxLen]; omega) (.inl rfl) (fun h => absurd rfl h) (repLA_of hrow hD hll hyB), hS.below⟩

end Go.Proofs.Ytdbcdjiclkmknaa
namespace Go.Proofs.Ytdbcdjiclkmknaa
open Go.RowKit

attribute [local irreducible] wpQuiet wpG wpP wpK wpList Code.wp Calls

theorem hlf_bd (n : Int) : -536870912 ≤ hlf n ∧ hlf n ≤ 536870912 := by
  unfold hlf
  split
  · rename_i h
    have := lenOk_iff.1 h
    unfold rdiv
    split <;> omega
  · omega
end Go.Proofs.Ytdbcdjiclkmknaa
namespace Go.Proofs.Ytdbcdjiclkmknaa
open Go.RowKit

attribute [local irreducible] wpQuiet wpG wpP wpK wpList Code.wp Calls

/-- The cells are the box, whose lists lie where P says. -/
@[reducible] def RepP (P : Nat → Prop) (w : World) (n : Nat) (b : Bx n) (cs : List Value) : Prop := RepG (fun k _ => P k) P w n b cs
/-- The call gives a box whose lists lie where P says, or in blocks that it has made. -/
def GivesI (P : Nat → Prop) (n : Nat) (b : Bx n) (w : World) (e : Ending) (w' : World) : Prop :=
  ∃ cs, e = .returned (.agg cs.toArray) ∧ RepP (fun k => P k ∨ (w.heap.size ≤ k ∧ k < w'.heap.size)) w' n b cs ∧ Below w.heap.size w w'
theorem givesI_of {P : Nat → Prop} {Pr : Program} {f : FuncId} {args : Array Value} {n : Nat} {b : Bx n} {w : World} (h : ∀ B : List Nat, (∀ k ∈ B, k < w.heap.size) → (∀ k, P k → k ∉ B) → Calls Pr f args w (GivesA B n b w)) : Calls Pr f args w (GivesI P n b w) := by
  classical
  have hm : ∀ k, k ∈ (List.range w.heap.size).filter (fun k => decide (¬ P k)) ↔ k < w.heap.size ∧ ¬ P k := fun k => by simp
  refine (h ((List.range w.heap.size).filter fun k => decide (¬ P k)) (fun k hk => ((hm k).1 hk).1) (fun k hp hk => ((hm k).1 hk).2 hp)).mono ?_
  rintro e w' ⟨cs, he, hr, hb⟩
  have key : ∀ k, (k ∉ (List.range w.heap.size).filter fun k => decide (¬ P k)) ∧ k < w'.heap.size → P k ∨ (w.heap.size ≤ k ∧ k < w'.heap.size) := fun k hk => by
    by_cases h1 : P k
    · exact .inl h1
    · by_cases h2 : k < w.heap.size
      · exact absurd ((hm k).2 ⟨h2, h1⟩) hk.1
      · exact .inr ⟨by omega, hk.2⟩
  exact ⟨cs, he, (rep_keep2 (w := w') (w' := w') (fun _ _ _ => rfl) n b cs hr).mono (fun k _ hk => key k hk) (fun k hk => key k hk), hb⟩
theorem repP_A {P : Nat → Prop} {B : List Nat} {w : World} {n : Nat} {b : Bx n} {cs : List Value} (h : RepP P w n b cs) (hB : ∀ k, P k → k ∉ B) : RepA B w n b cs := h.mono (fun k _ hk => hB k hk) hB
theorem repP_old {w : World} {n : Nat} {b : Bx n} {cs : List Value} (h : Rep w n b cs) : RepP (fun k => k < w.heap.size) w n b cs := rep_old n b cs h
theorem repP_step {P : Nat → Prop} {w w' : World} {n : Nat} {b : Bx n} {cs : List Value} (h : RepP P w n b cs) (hb : Below w.heap.size w w') : RepP P w' n b cs := RepG.step hb n b cs h
theorem repP_mono {P P' : Nat → Prop} {w : World} {n : Nat} {b : Bx n} {cs : List Value} (h : RepP P w n b cs) (hP : ∀ k, P k → P' k) : RepP P' w n b cs := h.mono (fun k _ hk => hP k hk) hP
theorem rep_bare {ko : Nat → Nat → Prop} {so : Nat → Prop} {w : World} {n : Nat} {a : Hd} {cs : List Value} (h : Rep w (n + 1) (a, []) cs) (hs : a.src = []) : RepG ko so w (n + 1) (a, []) cs := by
  obtain ⟨kx, kc, sx, sc, h1, h2, h3, h4, h5, h6⟩ := h
  exact ⟨kx, kc, sx, sc, h1, h2, h3, h4, fun h0 => absurd hs h0, fun i kid hi => by simp at hi⟩
/-- A list of boxes, whose lists lie where P says. -/
def RepLP (P : Nat → Prop) (w : World) (n : Nat) (x : Option Addr) (kids : List (Bx n)) : Prop := ∀ i kid, kids[i]? = some kid → ∃ k o css, x = some ⟨k, o, none⟩ ∧ w.rangeAt k (o + i * 11) css ∧ RepP P w n kid css
theorem repLP_A {P : Nat → Prop} {B : List Nat} {w : World} {n : Nat} {x : Option Addr} {kids : List (Bx n)} (h : RepLP P w n x kids) (hB : ∀ k, P k → k ∉ B) : RepLA (fun _ => True) B w n x kids := fun i kid hi => by
  obtain ⟨k, o, css, e, hr, hp⟩ := h i kid hi
  exact ⟨k, o, css, e, trivial, hr, repP_A hp hB⟩
theorem repLP_L {P : Nat → Prop} {w : World} {n : Nat} {x : Option Addr} {kids : List (Bx n)} (h : RepLP P w n x kids) : RepL w n x kids := fun i kid hi => by
  obtain ⟨k, o, css, e, hr, hp⟩ := h i kid hi
  exact ⟨k, o, css, e, hr, hp.rep⟩

theorem box_At_I (P : Nat → Prop) (n : Nat) (b : Bx (n + 1)) (cs : List Value) (x y : Int) (w : World) (hr : RepP P w (n + 1) b cs) (hx : I64 x) (hy : I64 y) (hsl : b.1.src.length ≤ 17592186044416) : Calls Try.prog 25 #[.agg cs.toArray, .int .i64 x, .int .i64 y] w (GivesI P (n + 1) (atXY (n + 1) b x y) w) :=
  givesI_of fun B hB hP => box_At_A B n b cs x y w (repP_A hr hP) hB hx hy hsl
theorem ref28_At_I (P : Nat → Prop) (n : Nat) (b : Bx (n + 1)) (cs : List Value) (x y : Int) (w : World) (hr : RepP P w (n + 1) b cs) (hx : I64 x) (hy : I64 y) : Calls Try.prog 16 #[.agg cs.toArray, .int .i64 x, .int .i64 y] w (GivesI P (n + 1) (atXY (n + 1) b x y) w) :=
  givesI_of fun B _ hP => ref28_At_A B n b cs x y w (repP_A hr hP) hx hy
theorem box_List_I (P : Nat → Prop) (n : Nat) (kids : List (Bx n)) (kx : Option Addr) (kc : Nat) (bw bh bd : Int) (w : World) (hk : RepLP P w n kx kids) (hsm : ∀ k ∈ kids, Small n k ∧ bCount n k ≤ 1000000) (hl : kids.length ≤ 1000000) (h1 : I64 bw) (h2 : I64 bh) (h3 : I64 bd) :
    Calls Try.prog 26 #[.int .i64 bw, .int .i64 bh, .int .i64 bd, .slice kx kids.length kc] w (GivesI P (n + 1) (listB n bw bh bd kids) w) :=
  givesI_of fun B hB hP => box_List_A B n kids kx kc bw bh bd w (repLP_A hk hP) hB hsm hl h1 h2 h3
theorem ref28_List_I (P : Nat → Prop) (n : Nat) (kids : List (Bx n)) (kx : Option Addr) (kc : Nat) (bw bh bd : Int) (w : World) (hk : RepLP P w n kx kids) (hne : kids ≠ []) (hl : kids.length ≤ 1000000) (h1 : I64 bw) (h2 : I64 bh) (h3 : I64 bd) :
    Calls Try.prog 30 #[.int .i64 bw, .int .i64 bh, .int .i64 bd, .slice kx kids.length kc] w (GivesI P (n + 1) (listB n bw bh bd kids) w) :=
  givesI_of fun B hB hP => ref28_List_A B n kids kx kc bw bh bd w (repLP_A hk hP) hB hne hl h1 h2 h3

end Go.Proofs.Ytdbcdjiclkmknaa
namespace Go.Proofs.Ytdbcdjiclkmknaa
open Go.RowKit

attribute [local irreducible] wpQuiet wpG wpP wpK wpList Code.wp Calls



end Go.Proofs.Ytdbcdjiclkmknaa
namespace Go.Proofs.Ytdbcdjiclkmknaa
open Go.RowKit

attribute [local irreducible] wpQuiet wpG wpP wpK wpList Code.wp Calls

theorem valid_lens {n : Nat} {a : Hd} {kids : List (Bx n)} (h : validB (n + 1) (a, kids)) : (-1073741824 ≤ a.w ∧ a.w ≤ 1073741824) ∧ (-1073741824 ≤ a.h ∧ a.h ≤ 1073741824) ∧ (-1073741824 ≤ a.d ∧ a.d ≤ 1073741824) := by
  have h1 := h.1
  simp only [allOwn, ownOk, Bool.and_eq_true] at h1
  have h2 := h1.1.1.1
  simp [lensOk, Hd.lens] at h2
  omega

theorem small_at {n : Nat} {b : Bx (n + 1)} {x y : Int} (h : Small (n + 1) b) : Small (n + 1) (atXY (n + 1) b x y) := h
theorem count_at {n : Nat} {b : Bx (n + 1)} {x y : Int} : bCount (n + 1) (atXY (n + 1) b x y) = bCount (n + 1) b := rfl





end Go.Proofs.Ytdbcdjiclkmknaa
namespace Go.Proofs.Ytdbcdjiclkmknaa
open Go.RowKit

attribute [local irreducible] wpQuiet wpG wpP wpK wpList Code.wp Calls

/-- The call gives a box and an error; its lists lie where P says, or in new blocks. -/
def GivesBEP (P : Nat → Prop) (n : Nat) (b : Bx n) (err : Int) (w : World) (e : Ending) (w' : World) : Prop := ∃ cs, e = .returned (.tuple #[.agg cs.toArray, .int .i64 err]) ∧ RepP (fun k => P k ∨ w.heap.size ≤ k) w' n b cs ∧ Below w.heap.size w w'
theorem repP_turn {P : Nat → Prop} {D : List Nat} {w w' : World} {n : Nat} {b : Bx n} {cs : List Value} {L : List (Nat × List Value)} (h : RepP P w n b cs) (hS : Own D w L w') (hD : ∀ k, P k → k ∉ D) : RepP P w' n b cs :=
  (rep_keep2 (Q := P) (fun k hk hlt => hS.block k hlt (hD k hk)) n b cs h).mono (fun _ _ hk => hk.1) (fun _ hk => hk.1)
end Go.Proofs.Ytdbcdjiclkmknaa
namespace Go.Proofs.Ytdbcdjiclkmknaa
open Go.RowKit
section
variable {P : Program} {ops : Array Oper} {Q : Exit → Act → World → Prop} {rel : Nat → World → World → Prop} {D : List Nat} {W w : World} {L : List (Nat × List Value)} {a : Act} {done : List Nat}

theorem mk_perm {m : Nat} {l l' : List Nat} (h : l.Perm l') : mk m l = mk m l' := by
  induction h with
  | nil => rfl
  | cons x _ ih => show (mk m _).setIfInBounds x true = (mk m _).setIfInBounds x true; rw [ih]
  | swap x y l => exact mk_swap m y x l
  | trans _ _ ih1 ih2 => exact ih1.trans ih2
/-- Whatever of ks is left may come now, and nothing else. -/
def freesB (ops : Array Oper) : Nat → List Nat → List Nat → Bool
  | 0, _, _ => true
  | f + 1, done, ks => ks.isEmpty || ((Region.ready .any ops (mk ops.size done)).all ks.contains && !(Region.ready .any ops (mk ops.size done)).isEmpty && ks.all fun k => (Region.ready .any ops (mk ops.size done)).contains k && freesB ops f (k :: done) (ks.erase k))
/-- Operation k.1 makes a new variable, which it puts into slot k.2.1, and which holds k.2.2. -/
def FreeAl (P : Program) (ops : Array Oper) (k : Nat × Nat × List Value) : Prop := ∃ ok t, ops[k.1]? = some ok ∧ ok.guard = none ∧ ok.op = .alloc t ∧ ok.dst = some k.2.1 ∧ ZeroTy P t k.2.2
inductive FreesAl (P : Program) (ops : Array Oper) : List (Nat × Nat × List Value) → Prop
  | nil : FreesAl P ops []
  | cons {i d : Nat} {t : TypeId} {z : List Value} {ok : Oper} {ks : List (Nat × Nat × List Value)} : ops[i]? = some ok → ok.guard = none → ok.op = .alloc t → ok.dst = some d → ZeroTy P t z → FreesAl P ops ks → FreesAl P ops ((i, d, z) :: ks)
theorem FreesAl.at {ks : List (Nat × Nat × List Value)} (h : FreesAl P ops ks) : ∀ k ∈ ks, FreeAl P ops k := by
  induction h with
  | nil => intro k hk; cases hk
  | cons h1 h2 h3 h4 h5 _ ih =>
    intro k hk
    rcases List.mem_cons.1 hk with rfl | hk
    · exact ⟨_, _, h1, h2, h3, h4, h5⟩
    · exact ih k hk
/-- The frame, the new variables known: f tells their blocks. -/
def putF (f : Nat → Nat) (ks : List (Nat × Nat × List Value)) (a : Act) : Act := ks.foldr (fun k a => a.put (some k.2.1) (.pointer (some ⟨f k.1, 0, none⟩))) a
def ownF (f : Nat → Nat) (ks : List (Nat × Nat × List Value)) : List (Nat × List Value) := ks.map fun k => (f k.1, k.2.2)
theorem putF_cons (f : Nat → Nat) (k : Nat × Nat × List Value) (ks : List (Nat × Nat × List Value)) (a : Act) : putF f (k :: ks) a = (putF f ks a).put (some k.2.1) (.pointer (some ⟨f k.1, 0, none⟩)) := rfl
theorem ownF_cons (f : Nat → Nat) (k : Nat × Nat × List Value) (ks : List (Nat × Nat × List Value)) : ownF f (k :: ks) = (f k.1, k.2.2) :: ownF f ks := rfl
theorem putF_perm {f : Nat → Nat} {ks js : List (Nat × Nat × List Value)} (h : ks.Perm js) (hd : (ks.map (·.2.1)).Nodup) (a : Act) : putF f ks a = putF f js a := by
  refine List.Perm.foldr_eq' h (fun x hx y hy z => ?_) a
  by_cases he : x = y
  · subst he; rfl
  · refine Act.put_comm z _ _ fun d h1 h2 => he ?_
    injection h1 with h1
    injection h2 with h2
    obtain ⟨i, hi⟩ := List.mem_iff_getElem?.1 hx
    obtain ⟨j, hj⟩ := List.mem_iff_getElem?.1 hy
    have e1 : (ks.map (·.2.1))[i]? = some x.2.1 := by rw [List.getElem?_map, hi]; rfl
    have e2 : (ks.map (·.2.1))[j]? = some x.2.1 := by rw [List.getElem?_map, hj]; simp [h1, h2]
    obtain rfl := (List.getElem?_inj (List.getElem?_eq_some_iff.1 e1).1 hd).1 (e1.trans e2.symm)
    rw [hi] at hj
    exact Option.some.inj hj
theorem ownF_upd {f : Nat → Nat} {i b : Nat} {js : List (Nat × Nat × List Value)} (h : i ∉ js.map (·.1)) : ownF (fun x => if x = i then b else f x) js = ownF f js := by
  unfold ownF
  refine List.map_congr_left fun k hk => ?_
  have : k.1 ≠ i := fun e => h (e ▸ List.mem_map_of_mem hk)
  simp [this]
theorem putF_upd {f : Nat → Nat} {i b : Nat} {a : Act} : ∀ {js : List (Nat × Nat × List Value)}, i ∉ js.map (·.1) → putF (fun x => if x = i then b else f x) js a = putF f js a := by
  intro js
  induction js with
  | nil => intro _; rfl
  | cons k js ih =>
    intro h
    simp only [List.map_cons, List.mem_cons, not_or] at h
    have hk : k.1 ≠ i := fun e => h.1 e.symm
    rw [putF_cons, putF_cons, ih h.2]
    simp [hk]

theorem frees_go {n : Nat} {all : List (Nat × Nat × List Value)} (hal : ∀ k ∈ all, FreeAl P ops k) (hni : (all.map (·.1)).Nodup) (hnd : (all.map (·.2.1)).Nodup) (hrel : ∀ k ∈ all, ∀ w w', Below w.heap.size w w' → rel k.1 w w')
    (hfin : ∀ f w', Closed ops (mk ops.size (all.map (·.1) ++ done)) → Own D W (ownF f all ++ L) w' → wpK P ops Q rel n (mk ops.size (all.map (·.1) ++ done)) (putF f all a) w') :
    ∀ (len : Nat) (ks js : List (Nat × Nat × List Value)) (f : Nat → Nat) (w : World), ks.length = len → (js ++ ks).Perm all → freesB ops len (js.map (·.1) ++ done) (ks.map (·.1)) = true → Closed ops (mk ops.size (js.map (·.1) ++ done)) → Own D W (ownF f js ++ L) w →
      wpK P ops Q rel (n + len) (mk ops.size (js.map (·.1) ++ done)) (putF f js a) w := by
  intro len
  induction len with
  | zero =>
    intro ks js f w hl hp _ hcl hS
    obtain rfl : ks = [] := List.length_eq_zero_iff.1 hl
    rw [List.append_nil] at hp
    have hq : mk ops.size (js.map (·.1) ++ done) = mk ops.size (all.map (·.1) ++ done) := mk_perm ((hp.map _).append_right _)
    rw [hq, putF_perm hp ((hp.map _).nodup_iff.2 hnd)]
    exact hfin f w (hq ▸ hcl) (hS.perm ((hp.map _).append_right _))
  | succ len ih =>
    intro ks js f w hl hp hB hcl hS
    have hne : (ks.map (·.1)).isEmpty = false := by cases ks <;> simp_all
    simp only [freesB, hne, Bool.false_or, Bool.and_eq_true] at hB
    obtain ⟨⟨h1, h2⟩, h3⟩ := hB
    refine ⟨fun h0 => by rw [h0] at h2; simp at h2, fun i hi => ?_⟩
    have h4 := List.all_eq_true.1 h1 i hi
    obtain ⟨k, hk, rfl⟩ := List.mem_map.1 (by simpa using h4 : i ∈ ks.map (·.1))
    have h5 := List.all_eq_true.1 h3 k.1 (List.mem_map_of_mem hk)
    simp only [Bool.and_eq_true] at h5
    obtain ⟨s, t, rfl⟩ := List.append_of_mem hk
    have hka : k ∈ all := hp.subset (by simp)
    obtain ⟨ok, ty, e1, e2, e3, e4, Z⟩ := hal k hka
    have hnp : ((js ++ (s ++ k :: t)).map (·.1)).Nodup := (hp.map _).nodup_iff.2 hni
    have hp' : ((k :: js) ++ (s ++ t)).Perm (js ++ (s ++ k :: t)) := by
      rw [← List.append_assoc, ← List.append_assoc]
      exact (List.perm_middle (a := k) (l₁ := js ++ s) (l₂ := t)).symm
    have hnk : (((k :: js) ++ (s ++ t)).map (·.1)).Nodup := (hp'.map _).nodup_iff.2 hnp
    simp only [List.cons_append, List.map_cons, List.nodup_cons, List.map_append, List.mem_append, not_or] at hnk
    have hjs := hnk.1.1
    have hsn := hnk.1.2.1
    refine point_go k.1 e1 (own_alloc e2 ty e3 (own_start w) Z fun b w' h6 => ?_)
    unfold wpList
    refine ⟨rfl, hrel k hka _ _ h6.below, fun w'' hb => ?_⟩
    have h7 := ih (s ++ t) (k :: js) (fun x => if x = k.1 then b else f x) w'' (by simp at hl ⊢; omega) (hp'.trans hp) (by
      have h8 := h5.2
      rw [List.map_append, List.map_cons, List.erase_append_right _ hsn, List.erase_cons_head] at h8
      rw [List.map_append]
      exact h8) (hcl.set hi) (by
      rw [ownF_cons, ownF_upd hjs]
      simpa using (hS.join h6).step hb)
    have h9 : putF (fun x => if x = k.1 then b else f x) (k :: js) a = (putF f js a).put ok.dst (.pointer (some ⟨b, 0, none⟩)) := by
      rw [putF_cons, putF_upd hjs, e4]
      simp
    rw [h9] at h7
    exact h7
end
section
variable {P : Program} {l : List Oper} {Q : Exit → Act → World → Prop} {D : List Nat} {W w : World} {L : List (Nat × List Value)} {a : Act} {B : Nat} {mid hard : List Nat} {done : List Nat}
/-- What is to be checked. -/
def freeB (ops : Array Oper) (soft : Nat → Bool) (done : List Nat) (ks : List (Nat × Nat)) : Bool := freesB ops ks.length done (ks.map (·.1)) && decide ((ks.map (·.1)).Nodup) && decide ((ks.map (·.2)).Nodup) && ks.all (fun k => soft k.1)
/-- New variables, made in any order; n operations remain behind. -/
theorem own_frees (hS : Own D W L w) (ks : List (Nat × Nat × List Value)) (n : Nat) {m : Nat} (hmn : n + ks.length = m) (hal : FreesAl P l.toArray ks) (hcl : Closed l.toArray (mk l.toArray.size done))
    (hB : freeB l.toArray (fun i => !hard.contains i && !mid.contains i) done (ks.map fun k => (k.1, k.2.1)) = true)
    (h : ∀ f w', Closed l.toArray (mk l.toArray.size (ks.map (·.1) ++ done)) → Own D W (ownF f ks ++ L) w' → wpK P l.toArray Q (relOf B mid hard) n (mk l.toArray.size (ks.map (·.1) ++ done)) (putF f ks a) w') :
    wpK P l.toArray Q (relOf B mid hard) m (mk l.toArray.size done) a w := by
  subst hmn
  simp only [freeB, Bool.and_eq_true, decide_eq_true_eq, List.map_map, List.length_map] at hB
  obtain ⟨⟨⟨h1, h2⟩, h3⟩, h4⟩ := hB
  refine frees_go (P := P) (Q := Q) (D := D) (W := W) (L := L) (a := a) hal.at h2 h3 (fun k hk w w' hb => ?_) (fun f w' hc hO => h f w' hc hO) ks.length ks [] (fun _ => 0) w rfl (List.Perm.refl _) h1 hcl hS
  rw [relOf_soft (List.all_eq_true.1 h4 (k.1, k.2.1) (List.mem_map_of_mem (f := fun k : Nat × Nat × List Value => (k.1, k.2.1)) hk))]
  exact hb
end
end Go.Proofs.Ytdbcdjiclkmknaa
namespace Go.Proofs.Ytdbcdjiclkmknaa
open Go.RowKit
section
variable {P : Program} {l : List Oper} {Q : Exit → Act → World → Prop} {D T : List Nat} {W w : World} {L : List (Nat × List Value)} {a : Act}

section
variable {late : List Nat} {m : Nat} {done : List Nat}
end
end
end Go.Proofs.Ytdbcdjiclkmknaa
namespace Go.Proofs.Ytdbcdjiclkmknaa
open Go.RowKit
section
variable {P : Program} {l : List Oper} {Q : Exit → Act → World → Prop} {D : List Nat} {W w : World} {L K : List (Nat × List Value)} {a : Act} {mid hard : List Nat} {m : Nat} {done : List Nat}

/-- Quiet operations that look at what was there when the region began. -/
theorem own_batchN (hS : Own D w L w) (is : List Nat) (n : Nat) (hmn : n + is.length = m) {w0 : World} (hS0 : Own D w L w0) (hcl : Closed l.toArray (mk l.toArray.size done)) (hB : (Region.noSelect l.toArray && batchB l.toArray (fun i => !hard.contains i && !mid.contains i) (fun i => !hard.contains i) done is) = true)
    (h : wpG P l.toArray (fun w' => Own D w L w') (fun a' => Closed l.toArray (mk l.toArray.size (is.reverse ++ done)) → ∀ w', Own D w L w' → wpK P l.toArray Q (relOf w.heap.size mid hard) n (mk l.toArray.size (is.reverse ++ done)) a' w') (is.filterMap (fun i => l.toArray[i]?)) a) :
    wpK P l.toArray Q (relOf w.heap.size mid hard) m (mk l.toArray.size done) a w0 :=
  own_batchM hS0 (Nat.le_refl _) (fun x hx => (hS.has x hx).lt) is n hmn hcl hB h
/-- What is new is behind the old. -/
theorem Own.newer (hS : Own D W (K ++ L) w) (hD : ∀ k ∈ D, k ∈ L.map (·.1)) : ∀ x ∈ K, W.heap.size ≤ x.1 := fun x hx => by
  rcases hS.ge x (List.mem_append_left _ hx) with h | h
  · have h1 := hD _ h
    have h2 := hS.apart
    rw [List.map_append, List.nodup_append] at h2
    exact absurd rfl (h2.2.2 _ (List.mem_map_of_mem hx) _ h1)
  · exact h
/-- An operation that turns the new blocks K alone. -/
theorem own_mid (hS : Own D W (K ++ L) w) (hK : ∀ x ∈ K, W.heap.size ≤ x.1) (i : Nat) {oi : Oper} (hcl : Closed l.toArray (mk l.toArray.size done)) (hi : l.toArray[i]? = some oi) (hr : (decide (Region.ready .any l.toArray (mk l.toArray.size done) = [i]) && (!hard.contains i && mid.contains i)) = true)
    (h : Own (K.map (·.1)) w K w → wpList P l.toArray (fun e a' w' => e = .normal ∧ ∃ K', Own (K.map (·.1)) w K' w' ∧ (Closed l.toArray (mk l.toArray.size (i :: done)) → ∀ w'', Own D W (K' ++ L) w'' → wpK P l.toArray Q (relOf W.heap.size mid hard) m (mk l.toArray.size (i :: done)) a' w'')) [oi] a w) :
    wpK P l.toArray Q (relOf W.heap.size mid hard) (m + 1) (mk l.toArray.size done) a w := by
  rw [Bool.and_eq_true, decide_eq_true_eq] at hr
  exact wpK_one hr.1 (mid_pt hS hK hS.size i hi hr.2 fun hO => wpList_mono (fun e a' w' ⟨he, L1, h1, h2⟩ => ⟨he, L1, h1, h2 (hcl.next (by rw [hr.1]; simp))⟩) _ _ _ (h hO))
/-- A block that was there before is none of the call's own. -/
theorem Own.oldOff (hS : Own [] W L w) {k : Nat} (h : k < W.heap.size) : k ∉ L.map (·.1) := fun hk => by
  obtain ⟨x, hx, rfl⟩ := List.mem_map.1 hk
  rcases hS.ge x hx with h1 | h1
  · cases h1
  · omega
theorem range_lt {b i : Nat} {v : Value} {cs : List Value} (h : w.rangeAt b i (v :: cs)) : b < w.heap.size := World.block_lt_of_cell? w ⟨b, i + 0, none⟩ (h 0 v rfl)
end
end Go.Proofs.Ytdbcdjiclkmknaa
namespace Go.Proofs.Ytdbcdjiclkmknaa
open Go.RowKit

attribute [local irreducible] wpQuiet wpG wpP wpK wpList Code.wp Calls

/-- What lies where P says is there and stays, where D alone may turn; it is where R says, or not below B; what lies below B stays, too. -/
structure Safe (R : Nat → Prop) (B : Nat) (P : Nat → Prop) (D : List Nat) (W : World) : Prop where
  off : ∀ k, P k → k < W.heap.size ∧ k ∉ D
  low : ∀ k, P k → R k ∨ B ≤ k
  size : B ≤ W.heap.size
  old : ∀ k, k < B → k ∉ D

theorem safe_start {R : Nat → Prop} {w w1 : World} {L : List (Nat × List Value)} (hS : Own [] w L w1) (hP : ∀ k, R k → k < w.heap.size) : ∃ DD, Hid (DD = L.map (·.1)) ∧ Safe R w.heap.size R DD w1 ∧ Own DD w1 L w1 :=
  ⟨_, rfl, ⟨fun k hk => ⟨Nat.lt_of_lt_of_le (hP k hk) hS.size, hS.oldOff (hP k hk)⟩, fun _ hk => .inl hk, hS.size, fun _ hk => hS.oldOff hk⟩, hS.rebase⟩

section
variable {R P : Nat → Prop} {B : Nat} {D : List Nat} {W w w1 w3 : World} {L K : List (Nat × List Value)} {n : Nat} {b : Bx n} {cs : List Value}

theorem own_give (hs : Safe R B P D W) (hS : Own D W L w) (hr : RepP (fun k => P k ∨ (w.heap.size ≤ k ∧ k < w1.heap.size)) w1 n b cs) (hb : Below w.heap.size w w1) (hb3 : Below w1.heap.size w1 w3) :
    ∃ (P' : Nat → Prop) (DD : List Nat), Hid (DD = L.map (·.1)) ∧ (∀ k, P k → P' k) ∧ Safe R B P' DD w3 ∧ RepP P' w3 n b cs ∧ Own DD w3 L w3 ∧ Own D W L w3 := by
  have hS1 := hS.step hb
  have hS3 := hS1.step hb3
  have key : ∀ k ∈ L.map (·.1), k < w.heap.size ∧ (k ∈ D ∨ W.heap.size ≤ k) := fun k hk => by
    obtain ⟨x, hx, rfl⟩ := List.mem_map.1 hk
    exact ⟨(hS.has x hx).lt, hS.ge x hx⟩
  refine ⟨_, _, rfl, fun k hk => .inl hk, ⟨?_, ?_, ?_, ?_⟩, repP_step hr hb3, hS3.rebase, hS3⟩
  · rintro k (hk | hk)
    · have h1 := hs.off k hk
      refine ⟨Nat.lt_of_lt_of_le h1.1 hS3.size, fun hm => ?_⟩
      rcases (key k hm).2 with h2 | h2
      · exact h1.2 h2
      · omega
    · refine ⟨Nat.lt_of_lt_of_le hk.2 hb3.size, fun hm => ?_⟩
      have := (key k hm).1
      omega
  · rintro k (hk | hk)
    · exact hs.low k hk
    · have := hs.size
      have := hS.size
      exact .inr (by omega)
  · have := hs.size
    have := hS3.size
    omega
  · intro k hk hm
    rcases (key k hm).2 with h2 | h2
    · exact hs.old k hk h2
    · have := hs.size
      omega
theorem Safe.turn (hs : Safe R B P D W) (hr : RepP P W n b cs) (hS : Own D W L w) : RepP P w n b cs := repP_turn hr hS (fun k hk => (hs.off k hk).2)
theorem Safe.ends (hs : Safe R B P D W) (hr : RepP P W n b cs) (hS : Own D W L w) : RepP (fun k => R k ∨ B ≤ k) w n b cs := repP_mono (hs.turn hr hS) hs.low
theorem chainH {DD : List Nat} (h0 : Own D W K w) (hD : Hid (DD = K.map (·.1))) (h1 : Own DD w L w1) : Own D W L w1 := h0.chain (hD.out ▸ h1)
theorem Safe.range (hs : Safe R B P D W) (hS : Own D W L w) {k o : Nat} {xs : List Value} (hk : k < B) (h : W.rangeAt k o xs) : w.rangeAt k o xs := hS.range (hs.old k hk) h
end

/-- The cells are those of some boxes, one behind the other. -/
def AllP (P : Nat → Prop) (w : World) (n : Nat) : List (Bx n) → List Value → Prop
  | [], xs => xs = []
  | b :: bs, xs => ∃ c rest, xs = c ++ rest ∧ RepP P w n b c ∧ AllP P w n bs rest
theorem allP_row {P : Nat → Prop} {w : World} {n : Nat} : ∀ (kids : List (Bx n)) (xs : List Value), AllP P w n kids xs → ∃ l : List { c : List Value // c.length = 11 }, l.flatMap Subtype.val = xs ∧ l.length = kids.length ∧ ∀ (i : Nat) (c : { c : List Value // c.length = 11 }) (b : Bx n), l[i]? = some c → kids[i]? = some b → RepP P w n b c.1
  | [], xs, h => ⟨[], by obtain rfl : xs = [] := h; rfl, rfl, fun i c b hc => by simp at hc⟩
  | k :: ks, xs, h => by
    obtain ⟨c, rest, rfl, hr, h2⟩ := h
    obtain ⟨l, e1, e2, e3⟩ := allP_row ks rest h2
    refine ⟨⟨c, hr.len⟩ :: l, by rw [List.flatMap_cons, e1], by simp [e2], fun i c' b hc hb => ?_⟩
    cases i with
    | zero =>
      simp only [List.getElem?_cons_zero, Option.some.injEq] at hc hb
      subst hc hb
      exact hr
    | succ i => exact e3 i c' b (by simpa using hc) (by simpa using hb)
/-- A row of boxes that the call itself has made. -/
theorem sl_kids {P : Nat → Prop} {D : List Nat} {W w : World} {L X : List (Nat × List Value)} {y : Option Addr} {m c n : Nat} {kids : List (Bx n)} {xs : List Value} (hS : Own D W L w) (hm : ∀ x ∈ X, x ∈ L) (h : Sl 11 m (.slice y m c) xs X) (hk : kids.length = m) (ha : AllP P w n kids xs) : RepLP P w n y kids := by
  obtain ⟨l, rfl, e2, e3⟩ := allP_row kids xs ha
  obtain rfl : l.length = m := e2.trans hk
  obtain ⟨y', c', he, hrow, _, _⟩ := Sl.rowAt hS hm h (fun a => a.2) (by decide)
  obtain ⟨rfl, _⟩ : y = y' ∧ c = c' := by simpa using he
  intro i kid hi
  have hlt : i < l.length := by rw [e2]; exact (List.getElem?_eq_some_iff.1 hi).1
  obtain ⟨k, o, hx, hrg⟩ := hrow.get (List.getElem?_eq_getElem hlt)
  exact ⟨k, o, _, hx, hrg, e3 i _ kid (List.getElem?_eq_getElem hlt) hi⟩
/-- .. in a block that is known whole. -/
theorem has_kids {P : Nat → Prop} {w : World} {k n : Nat} {kids : List (Bx n)} {xs : List Value} (h : Has w k xs) (ha : AllP P w n kids xs) : RepLP P w n (some ⟨k, 0, none⟩) kids := by
  obtain ⟨l, rfl, e2, e3⟩ := allP_row kids xs ha
  have hrow : RowAt w (some ⟨k, 0, none⟩) 11 Subtype.val l := RowAt.of_has (junk := []) (fun a _ => a.2) (by simpa using h)
  intro i kid hi
  have hlt : i < l.length := by rw [e2]; exact (List.getElem?_eq_some_iff.1 hi).1
  obtain ⟨k, o, hx, hrg⟩ := hrow.get (List.getElem?_eq_getElem hlt)
  exact ⟨k, o, _, hx, hrg, e3 i _ kid (List.getElem?_eq_getElem hlt) hi⟩

end Go.Proofs.Ytdbcdjiclkmknaa
