/- Texts Asp, Chk, Ma1, Mea, Avo, Avl, Frk, Avi, Fmk, Fgd, Fgp, Anm, Off. -/
import Derived.Test.YtgnkngkogamjaaaR12
import Derived.Test.YtgnkngkogamjaaaR17
import Derived.Test.YtgnkngkogamjaaaR10
import Derived.Test.YtgnkngkogamjaaaR08
namespace Go.Proofs.Ytgnkngkogamjaaa
open Go.RowKit

section
variable {n : Nat}
/-- What the i-th box has. -/
def kW (kids : List (Bx (n + 1))) (i : Nat) : Int := (kids[i]?.map (·.1.w)).getD 0
def kH (kids : List (Bx (n + 1))) (i : Nat) : Int := (kids[i]?.map (·.1.h)).getD 0
def kD (kids : List (Bx (n + 1))) (i : Nat) : Int := (kids[i]?.map (·.1.d)).getD 0
theorem kW_at {kids : List (Bx (n + 1))} {i : Nat} {k : Bx (n + 1)} (h : kids[i]? = some k) : kW kids i = k.1.w := by simp [kW, h]
theorem kH_at {kids : List (Bx (n + 1))} {i : Nat} {k : Bx (n + 1)} (h : kids[i]? = some k) : kH kids i = k.1.h := by simp [kH, h]
theorem kD_at {kids : List (Bx (n + 1))} {i : Nat} {k : Bx (n + 1)} (h : kids[i]? = some k) : kD kids i = k.1.d := by simp [kD, h]
end
/-- A row's height and depth; the sum of the first rows; how far below the top the baseline's row begins. -/
def rowH (q : Int) (C : Nat) (ht : Nat → Int) (r : Nat) : Int := rowM (scl q 70) C ht r
def rowD (q : Int) (C : Nat) (dt : Nat → Int) (r : Nat) : Int := rowM (scl q 30) C dt r
def rowsS (hh dd : Nat → Int) : Nat → Int
  | 0 => 0
  | r + 1 => rowsS hh dd r + (hh r + dd r)
def yAt (top g : Int) (hh dd : Nat → Int) : Nat → Int
  | 0 => top
  | r + 1 => yAt top g hh dd r - (hh r + dd r + g)
/-- The matrix, if it is a box. -/
def arrQ (F : Fnt) (l : Int) : Int := par F l F.quad
section
variable (F : Fnt) (l : Int) (n C : Nat) (kids : List (Bx (n + 1)))
def arrH (r : Nat) : Int := rowH (arrQ F l) C (kH kids) r
def arrD (r : Nat) : Int := rowD (arrQ F l) C (kD kids) r
def arrT : Int := scl (arrQ F l) 20 * ((kids.length / C : Nat) - 1) + rowsS (arrH F l n C kids) (arrD F l n C kids) (kids.length / C)
def arrTop : Int := par F l F.axis + hlf (arrT F l n C kids)
def arrX (i : Nat) : Int := colX (kids.length / C) C (kW kids) (arrQ F l) i
def arrY (i : Nat) : Int := yAt (arrTop F l n C kids) (scl (arrQ F l) 20) (arrH F l n C kids) (arrD F l n C kids) (i / C) - arrH F l n C kids (i / C)
def arrW : Int := colB (kids.length / C) C (kW kids) (arrQ F l) (C - 1) + colW (kids.length / C) C (kW kids) (C - 1)
def arrB : Bx (n + 2) := listB (n + 1) (arrW F l n C kids) (arrTop F l n C kids) (arrT F l n C kids - arrTop F l n C kids) (kids.mapIdx fun i k => atXY (n + 1) k (arrX F l n C kids i) (arrY F l n C kids i))
def ArrFits : Prop := ColsOk (kids.length / C) C (kW kids) ∧ lenOk (arrT F l n C kids) = true
end
theorem prm_quad {F : Fnt} (h : ValidF F) : (0 ≤ F.quad ∧ F.quad ≤ 20000) ∧ (0 ≤ F.axis ∧ F.axis ≤ 20000) := by
  have := h.2.2.1
  simp [prmOk, allIn] at this
  omega
/-- Numbers of a valid box. -/
theorem validB_nums {n : Nat} {b : Bx (n + 1)} (h : validB (n + 1) b) : (-1073741824 ≤ b.1.w ∧ b.1.w ≤ 1073741824) ∧ (-1073741824 ≤ b.1.h ∧ b.1.h ≤ 1073741824) ∧ (-1073741824 ≤ b.1.d ∧ b.1.d ≤ 1073741824) ∧ (-1073741824 ≤ b.1.x ∧ b.1.x ≤ 1073741824) ∧ (-1073741824 ≤ b.1.y ∧ b.1.y ≤ 1073741824) := by
  have h1 := h.1
  unfold allOwn at h1
  simp only [Bool.and_eq_true] at h1
  have h2 := h1.1
  unfold ownOk at h2
  simp only [Bool.and_eq_true] at h2
  have h3 := h2.1.1
  simp [lensOk] at h3
  omega
end Go.Proofs.Ytgnkngkogamjaaa
namespace Go.Proofs.Ytgnkngkogamjaaa
open Go.RowKit

attribute [local irreducible] wpQuiet wpG wpP wpK wpList Code.wp Calls

/-- The call gives a box and an error. -/
def GivesBE (n : Nat) (b : Bx n) (err : Int) (w : World) (e : Ending) (w' : World) : Prop := ∃ cs, e = .returned (.tuple #[.agg cs.toArray, .int .i64 err]) ∧ Rep w' n b cs ∧ Below w.heap.size w w'
theorem own_be {P : Program} {D : List Nat} {W w : World} {L : List (Nat × List Value)} {f : FuncId} {args : Array Value} {n : Nat} {b : Bx n} {err : Int} {R : Ending → World → Prop} (hS : Own D W L w) (hc : Calls P f args w (GivesBE n b err w))
    (h : ∀ cs w', Rep w' n b cs → Own D W L w' → Below w.heap.size w w' → R (.returned (.tuple #[.agg cs.toArray, .int .i64 err])) w') : Calls P f args w R :=
  hc.mono fun _ _ ⟨cs, he, hr, hb⟩ => by rw [he]; exact h cs _ hr (hS.step hb) hb
/-- The empty box. -/
def zeroB (n : Nat) : Bx (n + 1) := (⟨0, ⟨#[]⟩, 0, 0, 0, 0, 0, 0, 0, []⟩, [])
theorem rep_zero (n : Nat) (w : World) : Rep w (n + 1) (zeroB n) [.int .i64 0, .string ⟨#[]⟩, .int .i64 0, .int .i64 0, .int .i64 0, .int .i64 0, .int .i64 0, .int .i64 0, .slice none 0 0, .int .i64 0, .slice none 0 0] :=
  rep_mk (kx := none) (sx := none) (kc := 0) (sc := 0) (hdOk_new i64_0 i64_0 i64_0 i64_0) (by simp) (.inl rfl) (fun i kid hi => by simp at hi)





end Go.Proofs.Ytgnkngkogamjaaa
namespace Go.Proofs.Ytgnkngkogamjaaa
open Go.RowKit
attribute [local irreducible] wpQuiet wpG wpP wpK wpList Code.wp Calls

end Go.Proofs.Ytgnkngkogamjaaa
namespace Go.Proofs.Ytgnkngkogamjaaa
open Go.RowKit

attribute [local irreducible] wpQuiet wpG wpP wpK wpList Code.wp Calls

end Go.Proofs.Ytgnkngkogamjaaa
namespace Go.Proofs.Ytgnkngkogamjaaa
open Go.RowKit

attribute [local irreducible] wpQuiet wpG wpP wpK wpList Code.wp Calls

/-- The cells are the box, none of whose lists lies in the blocks B. -/
@[reducible] def RepA (B : List Nat) (w : World) (n : Nat) (b : Bx n) (cs : List Value) : Prop := RepG (fun k _ => k ∉ B) (fun k => k ∉ B) w n b cs
theorem RepG.rep {ko : Nat → Nat → Prop} {so : Nat → Prop} {w : World} {n : Nat} {b : Bx n} {cs : List Value} (h : RepG ko so w n b cs) : Rep w n b cs := h.mono (fun _ _ _ => trivial) (fun _ _ => trivial)
theorem repA_step {B : List Nat} {w w' : World} {n : Nat} {b : Bx n} {cs : List Value} (h : RepA B w n b cs) (hb : Below w.heap.size w w') : RepA B w' n b cs := RepG.step hb n b cs h
/-- The block of a slice of the call's own. -/
theorem sl_where {size n : Nat} {y : Option Addr} {c : Nat} {xs : List Value} {X : List (Nat × List Value)} (h : Sl size n (.slice y n c) xs X) (hn : n ≠ 0) {k o : Nat} (hx : y = some ⟨k, o, none⟩) : ∃ z, (k, z) ∈ X := by
  rcases h.2 with ⟨_, _, _, h0, _⟩ | ⟨b, c', junk, he, _, _, _, rfl⟩
  · exact absurd h0 hn
  · subst hx
    have hb : k = b := by
      simp at he
      exact he.1.1
    exact ⟨xs ++ junk, by rw [hb]; simp⟩
/-- A list of boxes lies there; K: where. -/
def RepLA (K : Nat → Prop) (B : List Nat) (w : World) (n : Nat) (x : Option Addr) (kids : List (Bx n)) : Prop := ∀ i kid, kids[i]? = some kid → ∃ k o css, x = some ⟨k, o, none⟩ ∧ K k ∧ w.rangeAt k (o + i * 11) css ∧ RepA B w n kid css
theorem rep_mkA {B : List Nat} {w : World} {n : Nat} {a : Hd} {kids : List (Bx n)} {kx sx : Option Addr} {kc sc : Nat} (ha : HdOk a) (hl : kids.length ≤ maxLen) (hs : RowAt w sx 1 intCells a.src) (hso : a.src ≠ [] → ∀ k o, sx = some ⟨k, o, none⟩ → k ∉ B) (hk : RepLA (fun k => k ∉ B) B w n kx kids) : RepA B w (n + 1) (a, kids) (a.cells (.slice kx kids.length kc) (.slice sx a.src.length sc)) :=
  ⟨kx, kc, sx, sc, rfl, ha, hl, hs, hso, hk⟩
theorem RepLA.step {K : Nat → Prop} {B : List Nat} {w w' : World} {n : Nat} {x : Option Addr} {kids : List (Bx n)} (h : RepLA K B w n x kids) (hb : Below w.heap.size w w') : RepLA K B w' n x kids := fun i kid hi => by
  obtain ⟨k, o, css, e, hK, hr, hp⟩ := h i kid hi
  exact ⟨k, o, css, e, hK, rangeAt_below hr hb, repA_step hp hb⟩
/-- The call gives a box away from the blocks B. -/
def GivesA (B : List Nat) (n : Nat) (b : Bx n) (w : World) (e : Ending) (w' : World) : Prop := ∃ cs, e = .returned (.agg cs.toArray) ∧ RepA B w' n b cs ∧ Below w.heap.size w w'





end Go.Proofs.Ytgnkngkogamjaaa
namespace Go.Proofs.Ytgnkngkogamjaaa
open Go.RowKit

attribute [local irreducible] wpQuiet wpG wpP wpK wpList Code.wp Calls

theorem repLA_of {w : World} {n : Nat} {kids : List (Bx n)} {B : List Nat} {l : List { c : List Value // c.length = 11 }} {y : Option Addr} (hr : RowAt w y 11 Subtype.val l) (h : Done w n kids B l) (hl : l.length = kids.length) (hy : l ≠ [] → ∀ k o, y = some ⟨k, o, none⟩ → k ∉ B) : RepLA (fun k => k ∉ B) B w n y kids := fun i kid hi => by
  have hlt : i < l.length := by rw [hl]; exact (List.getElem?_eq_some_iff.1 hi).1
  obtain ⟨b, o, hx, hrg⟩ := hr.get (List.getElem?_eq_getElem hlt)
  exact ⟨b, o, _, hx, hy (by intro h0; subst h0; simp at hlt) b o hx, hrg, h i _ kid (List.getElem?_eq_getElem hlt) hi⟩

set_option maxHeartbeats 8000000 in
set_option maxRecDepth 100000 in
theorem box_List_A (B : List Nat) (n : Nat) (kids : List (Bx n)) (kx : Option Addr) (kc : Nat) (bw bh bd : Int) (w : World) (hk : RepLA (fun _ => True) B w n kx kids) (hB : ∀ k ∈ B, k < w.heap.size) (hsm : ∀ k ∈ kids, Small n k ∧ bCount n k ≤ 1000000) (hl : kids.length ≤ 1000000) (h1 : I64 bw) (h2 : I64 bh) (h3 : I64 bd) :
    Calls Try.prog 27 #[.int .i64 bw, .int .i64 bh, .int .i64 bd, .slice kx kids.length kc] w (GivesA B (n + 1) (listB n bw bh bd kids) w) := by
  have HK := Lib.hid hk
  have HB := Lib.hid hB
  have HM := Lib.hid hsm
  have HH := Lib.hid (hdOk_new (k := 3) (by unfold I64; omega) h1 h2 h3)
  have tok1 : True := trivial
  clear hk hsm h1 h2 h3 hB
  go_enter Try.func27, Try.ntmps27
  have hS := own_start w
  go_wp2_with (first | (refine own_unguard (by rfl) ?_) | (have _t := tok1; refine own_alloc rfl _ rfl hS zt_box ?_; clear hS tok1; (try clear ww); intro b8 ww hS) | (refine own_alloc rfl _ rfl hS zt_box ?_; clear hS; (try clear ww); intro b9 ww hS) | (refine w_ld rfl _ rfl (by rfl) (by first | exact rd_1 (by repeat constructor) (by first | rfl | assumption) | exact rd_w (by repeat constructor) (by rfl) | exact rd_o (by assumption) (by rfl) (by first | exact nmn | assumption | simp) | exact rd_h (by assumption) (by rfl) (by first | exact nmn | assumption | simp) | exact rd_1o (by assumption) (by first | exact nmn | assumption | simp) | exact rd_1h (by assumption) (by first | rfl | assumption) (by first | exact nmn | assumption | simp)) hS ?_) | (refine own_box rfl _ _ rfl (by rfl) hS ?_; clear hS; (try clear ww); intro bb ww hS) | (refine w_al rfl rfl hS ?_; clear hS; (try clear ww); intro bb ww hS) | (refine w_st rfl _ _ rfl (by rfl) (by rfl) (by repeat constructor) (by rfl) (by rfl) (by first | rfl | assumption) hS ?_; clear hS; (try clear ww); intro ww hS) | (refine w_s1 rfl _ _ rfl (by rfl) (by repeat constructor) (by first | exact .c | exact .t rfl) (by rfl) (by repeat constructor) hS ?_; clear hS; (try clear ww); intro ww hS))
  go_loopw [18] (fun i wr => ∃ (j : Nat) (v : Value) (X : List (Nat × List Value)) (l : List { c : List Value // c.length = 11 }), j ≤ kids.length ∧ i = .int .i64 j ∧ l.length = j ∧ Sl 11 j v (l.flatMap Subtype.val) X ∧ Done wr n kids ((b9 :: b8 :: X.map (·.1)) ++ B) l ∧ Own [] w ([(b9, [.int .i64 3, .string ⟨#[]⟩, .int .i64 0, .int .i64 bw, .int .i64 bh, .int .i64 bd, .int .i64 0, .int .i64 0, v, .int .i64 0, .slice none 0 0]), (b8, [.int .i64 0, .string ⟨#[]⟩, .int .i64 0, .int .i64 0, .int .i64 0, .int .i64 0, .int .i64 0, .int .i64 0, .slice none 0 0, .int .i64 0, .slice none 0 0])] ++ X) wr) (fun i _ => kids.length - (intOf i).toNat)
  case atStart => exact ⟨0, _, [], [], Nat.zero_le _, rfl, rfl, sl_nil 11, (fun q css kid hq _ => by simp at hq), by simpa using hS⟩
  case round =>
    clear hS
    obtain ⟨j, v, X, l, hj, rfl, hlj, hX, hD, hA⟩ := hrel
    have hS := hA.rebase
    by_cases hlt : j < kids.length
    · obtain ⟨kid, hkid⟩ : ∃ kid, kids[j]? = some kid := ⟨kids[j], by simp [hlt]⟩
      obtain ⟨kb, ko, css, hkx, _, hrg, hrep⟩ := HK.out j kid hkid
      obtain rfl : kx = some ⟨kb, ko, none⟩ := hkx
      obtain ⟨c0, c1, c2, c3, c4, c5, c6, c7, c8, c9, c10, rfl⟩ := eleven hrep.len
      have hkb : kb < w.heap.size := World.block_lt_of_cell? w _ (hrg 0 c0 rfl)
      have hge : ∀ x, x ∈ ([(b9, [.int .i64 3, .string ⟨#[]⟩, .int .i64 0, .int .i64 bw, .int .i64 bh, .int .i64 bd, .int .i64 0, .int .i64 0, v, .int .i64 0, .slice none 0 0]), (b8, [.int .i64 0, .string ⟨#[]⟩, .int .i64 0, .int .i64 0, .int .i64 0, .int .i64 0, .int .i64 0, .int .i64 0, .slice none 0 0, .int .i64 0, .slice none 0 0])] ++ X) → w.heap.size ≤ x.1 := fun x hx => by
        rcases hA.ge x hx with h | h
        · cases h
        · exact h
      have hnk : kb ∉ (([(b9, [.int .i64 3, .string ⟨#[]⟩, .int .i64 0, .int .i64 bw, .int .i64 bh, .int .i64 bd, .int .i64 0, .int .i64 0, v, .int .i64 0, .slice none 0 0]), (b8, [.int .i64 0, .string ⟨#[]⟩, .int .i64 0, .int .i64 0, .int .i64 0, .int .i64 0, .int .i64 0, .int .i64 0, .slice none 0 0, .int .i64 0, .slice none 0 0])] ++ X).map (·.1)) := fun h => by
        obtain ⟨x, hx, he⟩ := List.mem_map.1 h
        have := hge x hx
        omega
      have hrg2 : wr.rangeAt kb (ko + j * 11) [c0, c1, c2, c3, c4, c5, c6, c7, c8, c9, c10] := Own.range hA (by simp) hrg
      have HA := Lib.hid hA
      have HX := Lib.hid hX
      have HDn := Lib.hid hD
      have HRp := Lib.hid hrep
      have HKid := Lib.hid hkid
      have hall := rep_all hrep
      clear hA hX hD hrep hrg hkid hge
      go_wp2_with (first | (refine own_unguard (by rfl) ?_) | (refine own_load_old rfl _ _ rfl rfl hS hrg2 hnk rt_box ?_) | (refine own_store rfl _ _ _ rfl rfl rfl hS at0 rt_box (by rfl) hall ?_; clear hS; intro ww hS; simp only [List.set_cons_zero] at hS) | (refine w_ld rfl _ rfl (by rfl) (by first | exact rd_1 (by repeat constructor) (by first | rfl | assumption) | exact rd_w (by repeat constructor) (by rfl) | exact rd_o (by assumption) (by rfl) (by first | exact nmn | assumption | simp) | exact rd_h (by assumption) (by rfl) (by first | exact nmn | assumption | simp) | exact rd_1o (by assumption) (by first | exact nmn | assumption | simp) | exact rd_1h (by assumption) (by first | rfl | assumption) (by first | exact nmn | assumption | simp)) hS ?_) | (refine own_box rfl _ _ rfl (by rfl) hS ?_; clear hS; (try clear ww); intro bb ww hS) | (refine w_al rfl rfl hS ?_; clear hS; (try clear ww); intro bb ww hS) | (refine w_st rfl _ _ rfl (by rfl) (by rfl) (by repeat constructor) (by rfl) (by rfl) (by first | rfl | assumption) hS ?_; clear hS; (try clear ww); intro ww hS) | (refine w_s1 rfl _ _ rfl (by rfl) (by repeat constructor) (by first | exact .c | exact .t rfl) (by rfl) (by repeat constructor) hS ?_; clear hS; (try clear ww); intro ww hS))
      try simp only [Act.put, List.setIfInBounds_toArray, List.set_cons_zero, List.set_cons_succ]
      refine own_any hS [5, 7] 8 (by kernel_rfl) (by kernel_rfl) ?_
      clear hS
      intro hcl ww hS
      refine own_batch hS [0, 1, 2] 5 rfl hcl (by kernel_rfl) ?_
      (try simp only); repeat (first | (simp only [List.filterMap_cons]) | (simp only [List.filterMap_nil]) | (simp only [List.getElem?_toArray]) | (simp only [List.getElem?_cons_succ]) | (simp only [List.getElem?_cons_zero]) | (simp only [List.reverse_cons]) | (simp only [List.reverse_nil]) | (simp only [List.nil_append]) | (simp only [List.cons_append]))
      repeat (first
          | (first | (refine g_plain rfl ?_) | (refine g_yes rfl rfl rfl (by simp only [List.getElem?_toArray, List.getElem?_cons_succ, List.getElem?_cons_zero]; rfl) (by with_reducible constructor) ?_)
             apply Exists.intro; refine ⟨?_, ?_⟩
             focus (intro wq hq0; (first | have hq : Own _ _ _ wq := hq0 | have hq : Own _ _ _ wq := hq0.1 | skip); first | ((with_reducible show givesAt _ ({ dst := _, op := Op.load _ _, type := _, pos := _, after := _, guard := _ } : Oper) _ _ _); first | (exact givesAt_rd rfl (by rfl) (by first | exact rd_1 (by repeat constructor) (by first | rfl | assumption) | exact rd_w (by repeat constructor) (by rfl) | exact rd_o (by assumption) (by rfl) (by first | exact nmn | assumption | simp) | exact rd_h (by assumption) (by rfl) (by first | exact nmn | assumption | simp) | exact rd_1o (by assumption) (by first | exact nmn | assumption | simp) | exact rd_1h (by assumption) (by first | rfl | assumption) (by first | exact nmn | assumption | simp)) hq)) | (go_simp; first | (with_reducible rfl)))
             simp only [Act.put, List.setIfInBounds_toArray]; (try simp only [List.set_cons_succ]); (try simp only [List.set_cons_zero]))
          | (refine g_no rfl rfl rfl (by simp only [List.getElem?_toArray, List.getElem?_cons_succ, List.getElem?_cons_zero]; rfl) (by with_reducible constructor) ?_; simp only [Act.put, List.setIfInBounds_toArray]; (try simp only [List.set_cons_succ]); (try simp only [List.set_cons_zero])))
      refine g_nil ?_
      clear hS hcl
      intro hcl ww hS
      have hA2 := HA.out.chain hS
      refine own_softB hS 3 hcl rfl (by kernel_rfl) ?_
      have hO := hS
      clear hS
      intro hS
      go_wp2_with (first | (go_at_call 47; refine Calls.mono (deep_Box_calls (fun k => k ∉ B ∧ k < w.heap.size) n kid _ ww (fun k hk => Nat.lt_of_lt_of_le hk.2 hA2.size) (RepG.step hA2.below n kid _ (rep_keep2 (Q := fun k => k ∉ B) (fun _ _ _ => rfl) n kid _ HRp.out)) (HM.out kid (List.mem_of_getElem? HKid.out)).1 (HM.out kid (List.mem_of_getElem? HKid.out)).2) ?_; rintro e w1 ⟨cs', rfl, hr', hb'⟩))
      refine ⟨[], hS.step hb', ?_⟩
      clear hS
      intro hcl w3 hS hb3
      have hA3 := HA.out.chain hS
      have hm2 : ∀ k ∈ (bb :: b9 :: b8 :: X.map (·.1)), w.heap.size ≤ k ∧ k < ww.heap.size := fun k hk => by
        obtain ⟨x, hx, rfl⟩ : ∃ x, x ∈ ((bb, [c0, c1, c2, c3, c4, c5, c6, c7, c8, c9, c10] ) :: ([(b9, [.int .i64 3, .string ⟨#[]⟩, .int .i64 0, .int .i64 bw, .int .i64 bh, .int .i64 bd, .int .i64 0, .int .i64 0, v, .int .i64 0, .slice none 0 0]), (b8, [.int .i64 0, .string ⟨#[]⟩, .int .i64 0, .int .i64 0, .int .i64 0, .int .i64 0, .int .i64 0, .int .i64 0, .slice none 0 0, .int .i64 0, .slice none 0 0])] ++ X)) ∧ x.1 = k := by
          obtain ⟨x, hx, he⟩ := List.mem_map.1 (show k ∈ (((bb, [c0, c1, c2, c3, c4, c5, c6, c7, c8, c9, c10]) :: ([(b9, [.int .i64 3, .string ⟨#[]⟩, .int .i64 0, .int .i64 bw, .int .i64 bh, .int .i64 bd, .int .i64 0, .int .i64 0, v, .int .i64 0, .slice none 0 0]), (b8, [.int .i64 0, .string ⟨#[]⟩, .int .i64 0, .int .i64 0, .int .i64 0, .int .i64 0, .int .i64 0, .int .i64 0, .slice none 0 0, .int .i64 0, .slice none 0 0])] ++ X)).map (·.1)) from hk)
          exact ⟨x, hx, he⟩
        refine ⟨?_, (hA2.has x hx).lt⟩
        rcases hA2.ge x hx with h | h
        · cases h
        · exact h
      have hD3 : Done w3 n kids ((bb :: b9 :: b8 :: X.map (·.1)) ++ B) l := HDn.out.turn hS (fun k h => List.mem_append_left _ h) (fun k hk => by
        rcases List.mem_append.1 hk with hk | hk
        case inr => exact .inl (List.mem_append_right _ hk)
        obtain ⟨x, hx, he⟩ := List.mem_map.1 (show k ∈ (((bb, [c0, c1, c2, c3, c4, c5, c6, c7, c8, c9, c10]) :: ([(b9, [.int .i64 3, .string ⟨#[]⟩, .int .i64 0, .int .i64 bw, .int .i64 bh, .int .i64 bd, .int .i64 0, .int .i64 0, v, .int .i64 0, .slice none 0 0]), (b8, [.int .i64 0, .string ⟨#[]⟩, .int .i64 0, .int .i64 0, .int .i64 0, .int .i64 0, .int .i64 0, .int .i64 0, .slice none 0 0, .int .i64 0, .slice none 0 0])] ++ X)).map (·.1)) from hk)
        rw [← he]
        rcases hS.ge x hx with h | h
        · exact .inl (List.mem_append_left _ h)
        · exact .inr h)
      have hno : ∀ k, ((k ∉ B ∧ k < w.heap.size) ∨ ww.heap.size ≤ k) → k ∉ ((bb :: b9 :: b8 :: X.map (·.1)) ++ B) := fun k hk hm => by
        rcases List.mem_append.1 hm with hm | hm
        · have := hm2 k hm; rcases hk with ⟨_, h⟩ | h <;> omega
        · have := HB.out k hm; have := hA2.size; rcases hk with ⟨h, _⟩ | h
          · exact h hm
          · omega
      have hr3 : RepG (fun k _ => k ∉ ((bb :: b9 :: b8 :: X.map (·.1)) ++ B)) (fun k => k ∉ ((bb :: b9 :: b8 :: X.map (·.1)) ++ B)) w3 n kid cs' := RepG.step hb3 n kid cs' (hr'.mono (fun k _ hk => hno k hk) (fun k hk => hno k hk))
      have h11 := hr3.len
      have hall3 := rep_all hr3
      obtain ⟨e0, e1, e2, e3, e4, e5, e6, e7, e8, e9, e10, rfl⟩ := eleven h11
      obtain ⟨DD, hDD, hS4⟩ : ∃ DD, Hid (DD = bb :: b9 :: b8 :: X.map (·.1)) ∧ Own DD w3 ((bb, [c0, c1, c2, c3, c4, c5, c6, c7, c8, c9, c10]) :: ([(b9, [.int .i64 3, .string ⟨#[]⟩, .int .i64 0, .int .i64 bw, .int .i64 bh, .int .i64 bd, .int .i64 0, .int .i64 0, v, .int .i64 0, .slice none 0 0]), (b8, [.int .i64 0, .string ⟨#[]⟩, .int .i64 0, .int .i64 0, .int .i64 0, .int .i64 0, .int .i64 0, .int .i64 0, .slice none 0 0, .int .i64 0, .slice none 0 0])] ++ X)) w3 := ⟨_, rfl, hA3.rebase⟩
      clear hS
      have hS := hS4
      have HA3 := Lib.hid hA3
      have HD3 := Lib.hid hD3
      have HR3 := Lib.hid hr3
      clear hS4 hA3 hD3 hr3 hO hr' hb' hb3 hm2 hno hA2
      refine own_soft hS 4 hcl rfl (by kernel_rfl) ?_
      have hO := hS
      clear hS
      intro hS
      refine own_buildSlice rfl _ _ 1 _ rfl [e0, e1, e2, e3, e4, e5, e6, e7, e8, e9, e10] hS Try.underlying32 (by kernel_rfl) ?_
      clear hS
      intro b1 w4 hS
      refine wpList_nil ⟨rfl, _, hS, ?_⟩
      clear hS hO hcl
      intro hcl w5 hS
      refine own_hard (D := DD) (W := w3) 5 hcl rfl (by kernel_rfl) (by kernel_rfl) ?_
      refine own_append_new (b := b1) rfl _ _ _ rfl HX.out rfl rfl (show Own DD w3 (((b1, [e0, e1, e2, e3, e4, e5, e6, e7, e8, e9, e10]) :: [_, _, _]) ++ X) w5 from hS) rfl hall3 el_box (by decide) (by simp only [maxLen]; omega) (by omega) ?_
      clear hS
      intro v' X' w6 hS hX'
      refine wpList_nil ⟨rfl, _, hS, ?_⟩
      clear hS hcl
      intro hcl w7 hS
      refine own_batch hS [6] 1 rfl hcl (by kernel_rfl) ?_
      (try simp only); repeat (first | (simp only [List.filterMap_cons]) | (simp only [List.filterMap_nil]) | (simp only [List.getElem?_toArray]) | (simp only [List.getElem?_cons_succ]) | (simp only [List.getElem?_cons_zero]) | (simp only [List.reverse_cons]) | (simp only [List.reverse_nil]) | (simp only [List.nil_append]) | (simp only [List.cons_append]))
      repeat (first
          | (first | (refine g_plain rfl ?_) | (refine g_yes rfl rfl rfl (by simp only [List.getElem?_toArray, List.getElem?_cons_succ, List.getElem?_cons_zero]; rfl) (by with_reducible constructor) ?_)
             apply Exists.intro; refine ⟨?_, ?_⟩
             focus (intro wq hq0; (first | have hq : Own _ _ _ wq := hq0 | have hq : Own _ _ _ wq := hq0.1 | skip); first | ((with_reducible show givesAt _ ({ dst := _, op := Op.load _ _, type := _, pos := _, after := _, guard := _ } : Oper) _ _ _); first | (exact givesAt_rd rfl (by rfl) (by first | exact rd_1 (by repeat constructor) (by first | rfl | assumption) | exact rd_w (by repeat constructor) (by rfl) | exact rd_o (by assumption) (by rfl) (by first | exact nmn | assumption | simp) | exact rd_h (by assumption) (by rfl) (by first | exact nmn | assumption | simp) | exact rd_1o (by assumption) (by first | exact nmn | assumption | simp) | exact rd_1h (by assumption) (by first | rfl | assumption) (by first | exact nmn | assumption | simp)) hq)) | (go_simp; first | (with_reducible rfl)))
             simp only [Act.put, List.setIfInBounds_toArray]; (try simp only [List.set_cons_succ]); (try simp only [List.set_cons_zero]))
          | (refine g_no rfl rfl rfl (by simp only [List.getElem?_toArray, List.getElem?_cons_succ, List.getElem?_cons_zero]; rfl) (by with_reducible constructor) ?_; simp only [Act.put, List.setIfInBounds_toArray]; (try simp only [List.set_cons_succ]); (try simp only [List.set_cons_zero])))
      refine g_nil ?_
      clear hS hcl
      intro hcl ww hS
      refine own_hard (D := DD) (W := w3) 7 hcl rfl (by kernel_rfl) (by kernel_rfl) ?_
      refine own_store1 (v := v') rfl _ _ _ rfl rfl rfl hX'.one hS at1 ot_boxs (by simp) ?_
      clear hS
      intro w8 hS
      refine wpList_nil ⟨rfl, _, hS, ?_⟩
      clear hS hcl
      intro hcl w9 hS
      refine own_done (by kernel_rfl) ?_
      have HX' := Lib.hid hX'
      clear hX'
      go_wp2_with (first | (refine own_unguard (by rfl) ?_) | (refine w_ld rfl _ rfl (by rfl) (by first | exact rd_1 (by repeat constructor) (by first | rfl | assumption) | exact rd_w (by repeat constructor) (by rfl) | exact rd_o (by assumption) (by rfl) (by first | exact nmn | assumption | simp) | exact rd_h (by assumption) (by rfl) (by first | exact nmn | assumption | simp) | exact rd_1o (by assumption) (by first | exact nmn | assumption | simp) | exact rd_1h (by assumption) (by first | rfl | assumption) (by first | exact nmn | assumption | simp)) hS ?_) | (refine own_box rfl _ _ rfl (by rfl) hS ?_; clear hS; (try clear ww); intro bb ww hS) | (refine w_al rfl rfl hS ?_; clear hS; (try clear ww); intro bb ww hS) | (refine w_st rfl _ _ rfl (by rfl) (by rfl) (by repeat constructor) (by rfl) (by rfl) (by first | rfl | assumption) hS ?_; clear hS; (try clear ww); intro ww hS) | (refine w_s1 rfl _ _ rfl (by rfl) (by repeat constructor) (by first | exact .c | exact .t rfl) (by rfl) (by repeat constructor) hS ?_; clear hS; (try clear ww); intro ww hS))
      obtain rfl := hDD.out
      have hD9 := (HD3.out.next (css := ⟨[e0, e1, e2, e3, e4, e5, e6, e7, e8, e9, e10], rfl⟩) (by rw [hlj]; exact HKid.out) HR3.out).turn (B' := (b9 :: b8 :: X'.map (·.1)) ++ B) hS (fun k h => List.mem_append_left _ h) (fun k hk => by
        rcases List.mem_append.1 hk with hk | hk
        case inr => exact .inl (List.mem_append_right _ hk)
        obtain ⟨x, hx, he⟩ := List.mem_map.1 (show k ∈ (([(b9, [.int .i64 3, .string ⟨#[]⟩, .int .i64 0, .int .i64 bw, .int .i64 bh, .int .i64 bd, .int .i64 0, .int .i64 0, v', .int .i64 0, .slice none 0 0]), (b8, [.int .i64 0, .string ⟨#[]⟩, .int .i64 0, .int .i64 0, .int .i64 0, .int .i64 0, .int .i64 0, .int .i64 0, .slice none 0 0, .int .i64 0, .slice none 0 0])] ++ X').map (·.1)) from hk)
        rw [← he]
        rcases hS.ge x (List.mem_cons_of_mem _ hx) with h | h
        · exact .inl (List.mem_append_left _ h)
        · exact .inr h)
      have HD9 := Lib.hid hD9
      have HA9 := Lib.hid ((HA3.out.chain hS).forget (List.sublist_cons_self _ _))
      clear hD9
      go_roundw
      case rel => exact ⟨j + 1, v', X', l ++ [⟨[e0, e1, e2, e3, e4, e5, e6, e7, e8, e9, e10], rfl⟩], hlt, by go_num, by simp [hlj], by simpa using HX'.out, HD9.out, HA9.out⟩
      case measure => exact loop_meas hlt
    · obtain rfl : j = kids.length := by omega
      obtain ⟨y, c, hv⟩ := hX.slice
      subst hv
      have HA := Lib.hid hA
      have HX := Lib.hid hX
      have HDn := Lib.hid hD
      clear hA hX hD
      go_wp2_with (first | (refine own_unguard (by rfl) ?_) | (refine own_load rfl _ _ rfl rfl hS at0 rt_box ?_) | (refine own_store rfl _ _ _ rfl rfl rfl hS at1 rt_box (by rfl) (by rfl) ?_; clear hS; intro ww hS; simp only [List.set_cons_zero, List.set_cons_succ] at hS) | (refine w_ld rfl _ rfl (by rfl) (by first | exact rd_1 (by repeat constructor) (by first | rfl | assumption) | exact rd_w (by repeat constructor) (by rfl) | exact rd_o (by assumption) (by rfl) (by first | exact nmn | assumption | simp) | exact rd_h (by assumption) (by rfl) (by first | exact nmn | assumption | simp) | exact rd_1o (by assumption) (by first | exact nmn | assumption | simp) | exact rd_1h (by assumption) (by first | rfl | assumption) (by first | exact nmn | assumption | simp)) hS ?_) | (refine own_box rfl _ _ rfl (by rfl) hS ?_; clear hS; (try clear ww); intro bb ww hS) | (refine w_al rfl rfl hS ?_; clear hS; (try clear ww); intro bb ww hS) | (refine w_st rfl _ _ rfl (by rfl) (by rfl) (by repeat constructor) (by rfl) (by rfl) (by first | rfl | assumption) hS ?_; clear hS; (try clear ww); intro ww hS) | (refine w_s1 rfl _ _ rfl (by rfl) (by repeat constructor) (by first | exact .c | exact .t rfl) (by rfl) (by repeat constructor) hS ?_; clear hS; (try clear ww); intro ww hS))
      have hc := (hS.get at1).cell
      obtain ⟨y', c', he, hrow, _, _⟩ := Sl.rowAt hS (fun x hx => by simp [hx]) HX.out (fun a => a.2) (by decide)
      obtain ⟨rfl, _, rfl⟩ : y = y' ∧ kids.length = l.length ∧ c = c' := by simpa using he
      have hDf := HDn.out.turn (B' := B) hS (fun k h => List.mem_append_left _ h) (fun k hk => .inl (List.mem_append_right _ hk))
      have hyB : l ≠ [] → ∀ k o, y = some ⟨k, o, none⟩ → k ∉ B := fun hne k o hx hm => by
        obtain ⟨z, hz⟩ := sl_where HX.out (by rw [← hlj]; intro h0; exact hne (List.eq_nil_of_length_eq_zero h0)) hx
        have h1 := HB.out k hm
        rcases HA.out.ge (k, z) (by simp [hz]) with h2 | h2
        · cases h2
        · simp only at h2; omega
      refine bodyPost_ret (v := .agg #[.int .i64 3, .string ⟨#[]⟩, .int .i64 0, .int .i64 bw, .int .i64 bh, .int .i64 bd, .int .i64 0, .int .i64 0, .slice y kids.length c, .int .i64 0, .slice none 0 0]) (by simp [results, Try.results27, go_sem, hc]) rfl ⟨_, rfl, rep_mkA (sx := none) (sc := 0) HH.out (by simp only [maxLen]; omega) (.inl rfl) (fun h => absurd rfl h) (repLA_of hrow hDf hlj hyB), (HA.out.chain hS).below⟩

end Go.Proofs.Ytgnkngkogamjaaa
namespace Go.Proofs.Ytgnkngkogamjaaa
open Go.RowKit

attribute [local irreducible] wpQuiet wpG wpP wpK wpList Code.wp Calls

end Go.Proofs.Ytgnkngkogamjaaa
namespace Go.Proofs.Ytgnkngkogamjaaa
open Go.RowKit

attribute [local irreducible] wpQuiet wpG wpP wpK wpList Code.wp Calls

/-- The cells are the box, whose lists lie where P says. -/
@[reducible] def RepP (P : Nat → Prop) (w : World) (n : Nat) (b : Bx n) (cs : List Value) : Prop := RepG (fun k _ => P k) P w n b cs
/-- The call gives a box whose lists lie where P says, or in blocks that it has made. -/
def GivesI (P : Nat → Prop) (n : Nat) (b : Bx n) (w : World) (e : Ending) (w' : World) : Prop :=
  ∃ cs, e = .returned (.agg cs.toArray) ∧ RepP (fun k => P k ∨ (w.heap.size ≤ k ∧ k < w'.heap.size)) w' n b cs ∧ Below w.heap.size w w'
theorem givesI_of {P : Nat → Prop} {Pr : Program} {f : FuncId} {args : Array Value} {n : Nat} {b : Bx n} {w : World} (h : ∀ B : List Nat, (∀ k ∈ B, k < w.heap.size) → (∀ k, P k → k ∉ B) → Calls Pr f args w (GivesA B n b w)) : Calls Pr f args w (GivesI P n b w) := by
  classical
  have hm : ∀ k, k ∈ (List.range w.heap.size).filter (fun k => decide (¬ P k)) ↔ k < w.heap.size ∧ ¬ P k := fun k => by simp
  refine (h ((List.range w.heap.size).filter fun k => decide (¬ P k)) (fun k hk => ((hm k).1 hk).1) (fun k hp hk => ((hm k).1 hk).2 hp)).mono ?_
  rintro e w' ⟨cs, he, hr, hb⟩
  have key : ∀ k, (k ∉ (List.range w.heap.size).filter fun k => decide (¬ P k)) ∧ k < w'.heap.size → P k ∨ (w.heap.size ≤ k ∧ k < w'.heap.size) := fun k hk => by
    by_cases h1 : P k
    · exact .inl h1
    · by_cases h2 : k < w.heap.size
      · exact absurd ((hm k).2 ⟨h2, h1⟩) hk.1
      · exact .inr ⟨by omega, hk.2⟩
  exact ⟨cs, he, (rep_keep2 (w := w') (w' := w') (fun _ _ _ => rfl) n b cs hr).mono (fun k _ hk => key k hk) (fun k hk => key k hk), hb⟩
theorem repP_A {P : Nat → Prop} {B : List Nat} {w : World} {n : Nat} {b : Bx n} {cs : List Value} (h : RepP P w n b cs) (hB : ∀ k, P k → k ∉ B) : RepA B w n b cs := h.mono (fun k _ hk => hB k hk) hB
theorem repP_old {w : World} {n : Nat} {b : Bx n} {cs : List Value} (h : Rep w n b cs) : RepP (fun k => k < w.heap.size) w n b cs := rep_old n b cs h
theorem repP_step {P : Nat → Prop} {w w' : World} {n : Nat} {b : Bx n} {cs : List Value} (h : RepP P w n b cs) (hb : Below w.heap.size w w') : RepP P w' n b cs := RepG.step hb n b cs h
theorem repP_mono {P P' : Nat → Prop} {w : World} {n : Nat} {b : Bx n} {cs : List Value} (h : RepP P w n b cs) (hP : ∀ k, P k → P' k) : RepP P' w n b cs := h.mono (fun k _ hk => hP k hk) hP
theorem rep_bare {ko : Nat → Nat → Prop} {so : Nat → Prop} {w : World} {n : Nat} {a : Hd} {cs : List Value} (h : Rep w (n + 1) (a, []) cs) (hs : a.src = []) : RepG ko so w (n + 1) (a, []) cs := by
  obtain ⟨kx, kc, sx, sc, h1, h2, h3, h4, h5, h6⟩ := h
  exact ⟨kx, kc, sx, sc, h1, h2, h3, h4, fun h0 => absurd hs h0, fun i kid hi => by simp at hi⟩
/-- A list of boxes, whose lists lie where P says. -/
def RepLP (P : Nat → Prop) (w : World) (n : Nat) (x : Option Addr) (kids : List (Bx n)) : Prop := ∀ i kid, kids[i]? = some kid → ∃ k o css, x = some ⟨k, o, none⟩ ∧ w.rangeAt k (o + i * 11) css ∧ RepP P w n kid css
theorem repLP_A {P : Nat → Prop} {B : List Nat} {w : World} {n : Nat} {x : Option Addr} {kids : List (Bx n)} (h : RepLP P w n x kids) (hB : ∀ k, P k → k ∉ B) : RepLA (fun _ => True) B w n x kids := fun i kid hi => by
  obtain ⟨k, o, css, e, hr, hp⟩ := h i kid hi
  exact ⟨k, o, css, e, trivial, hr, repP_A hp hB⟩
theorem repLP_L {P : Nat → Prop} {w : World} {n : Nat} {x : Option Addr} {kids : List (Bx n)} (h : RepLP P w n x kids) : RepL w n x kids := fun i kid hi => by
  obtain ⟨k, o, css, e, hr, hp⟩ := h i kid hi
  exact ⟨k, o, css, e, hr, hp.rep⟩

theorem box_List_I (P : Nat → Prop) (n : Nat) (kids : List (Bx n)) (kx : Option Addr) (kc : Nat) (bw bh bd : Int) (w : World) (hk : RepLP P w n kx kids) (hsm : ∀ k ∈ kids, Small n k ∧ bCount n k ≤ 1000000) (hl : kids.length ≤ 1000000) (h1 : I64 bw) (h2 : I64 bh) (h3 : I64 bd) :
    Calls Try.prog 27 #[.int .i64 bw, .int .i64 bh, .int .i64 bd, .slice kx kids.length kc] w (GivesI P (n + 1) (listB n bw bh bd kids) w) :=
  givesI_of fun B hB hP => box_List_A B n kids kx kc bw bh bd w (repLP_A hk hP) hB hsm hl h1 h2 h3

end Go.Proofs.Ytgnkngkogamjaaa
namespace Go.Proofs.Ytgnkngkogamjaaa
open Go.RowKit

attribute [local irreducible] wpQuiet wpG wpP wpK wpList Code.wp Calls



end Go.Proofs.Ytgnkngkogamjaaa
namespace Go.Proofs.Ytgnkngkogamjaaa
open Go.RowKit

attribute [local irreducible] wpQuiet wpG wpP wpK wpList Code.wp Calls

end Go.Proofs.Ytgnkngkogamjaaa
namespace Go.Proofs.Ytgnkngkogamjaaa
open Go.RowKit

attribute [local irreducible] wpQuiet wpG wpP wpK wpList Code.wp Calls

theorem repP_turn {P : Nat → Prop} {D : List Nat} {w w' : World} {n : Nat} {b : Bx n} {cs : List Value} {L : List (Nat × List Value)} (h : RepP P w n b cs) (hS : Own D w L w') (hD : ∀ k, P k → k ∉ D) : RepP P w' n b cs :=
  (rep_keep2 (Q := P) (fun k hk hlt => hS.block k hlt (hD k hk)) n b cs h).mono (fun _ _ hk => hk.1) (fun _ hk => hk.1)
end Go.Proofs.Ytgnkngkogamjaaa
namespace Go.Proofs.Ytgnkngkogamjaaa
open Go.RowKit
section
variable {P : Program} {l : List Oper} {Q : Exit → Act → World → Prop} {D : List Nat} {W w : World} {L K : List (Nat × List Value)} {a : Act} {mid hard : List Nat} {m : Nat} {done : List Nat}

/-- An operation that turns the new blocks K alone. -/
theorem own_mid (hS : Own D W (K ++ L) w) (hK : ∀ x ∈ K, W.heap.size ≤ x.1) (i : Nat) {oi : Oper} (hcl : Closed l.toArray (mk l.toArray.size done)) (hi : l.toArray[i]? = some oi) (hr : (decide (Region.ready .any l.toArray (mk l.toArray.size done) = [i]) && (!hard.contains i && mid.contains i)) = true)
    (h : Own (K.map (·.1)) w K w → wpList P l.toArray (fun e a' w' => e = .normal ∧ ∃ K', Own (K.map (·.1)) w K' w' ∧ (Closed l.toArray (mk l.toArray.size (i :: done)) → ∀ w'', Own D W (K' ++ L) w'' → wpK P l.toArray Q (relOf W.heap.size mid hard) m (mk l.toArray.size (i :: done)) a' w'')) [oi] a w) :
    wpK P l.toArray Q (relOf W.heap.size mid hard) (m + 1) (mk l.toArray.size done) a w := by
  rw [Bool.and_eq_true, decide_eq_true_eq] at hr
  exact wpK_one hr.1 (mid_pt hS hK hS.size i hi hr.2 fun hO => wpList_mono (fun e a' w' ⟨he, L1, h1, h2⟩ => ⟨he, L1, h1, h2 (hcl.next (by rw [hr.1]; simp))⟩) _ _ _ (h hO))
end
end Go.Proofs.Ytgnkngkogamjaaa
namespace Go.Proofs.Ytgnkngkogamjaaa
open Go.RowKit

attribute [local irreducible] wpQuiet wpG wpP wpK wpList Code.wp Calls

/-- What lies where P says is there and stays, where D alone may turn; it is where R says, or not below B; what lies below B stays, too. -/
structure Safe (R : Nat → Prop) (B : Nat) (P : Nat → Prop) (D : List Nat) (W : World) : Prop where
  off : ∀ k, P k → k < W.heap.size ∧ k ∉ D
  low : ∀ k, P k → R k ∨ B ≤ k
  size : B ≤ W.heap.size
  old : ∀ k, k < B → k ∉ D

section
variable {R P : Nat → Prop} {B : Nat} {D : List Nat} {W w w1 w3 : World} {L K : List (Nat × List Value)} {n : Nat} {b : Bx n} {cs : List Value}

theorem Safe.turn (hs : Safe R B P D W) (hr : RepP P W n b cs) (hS : Own D W L w) : RepP P w n b cs := repP_turn hr hS (fun k hk => (hs.off k hk).2)
theorem Safe.ends (hs : Safe R B P D W) (hr : RepP P W n b cs) (hS : Own D W L w) : RepP (fun k => R k ∨ B ≤ k) w n b cs := repP_mono (hs.turn hr hS) hs.low
theorem Safe.range (hs : Safe R B P D W) (hS : Own D W L w) {k o : Nat} {xs : List Value} (hk : k < B) (h : W.rangeAt k o xs) : w.rangeAt k o xs := hS.range (hs.old k hk) h
end

/-- The cells are those of some boxes, one behind the other. -/
def AllP (P : Nat → Prop) (w : World) (n : Nat) : List (Bx n) → List Value → Prop
  | [], xs => xs = []
  | b :: bs, xs => ∃ c rest, xs = c ++ rest ∧ RepP P w n b c ∧ AllP P w n bs rest
theorem allP_row {P : Nat → Prop} {w : World} {n : Nat} : ∀ (kids : List (Bx n)) (xs : List Value), AllP P w n kids xs → ∃ l : List { c : List Value // c.length = 11 }, l.flatMap Subtype.val = xs ∧ l.length = kids.length ∧ ∀ (i : Nat) (c : { c : List Value // c.length = 11 }) (b : Bx n), l[i]? = some c → kids[i]? = some b → RepP P w n b c.1
  | [], xs, h => ⟨[], by obtain rfl : xs = [] := h; rfl, rfl, fun i c b hc => by simp at hc⟩
  | k :: ks, xs, h => by
    obtain ⟨c, rest, rfl, hr, h2⟩ := h
    obtain ⟨l, e1, e2, e3⟩ := allP_row ks rest h2
    refine ⟨⟨c, hr.len⟩ :: l, by rw [List.flatMap_cons, e1], by simp [e2], fun i c' b hc hb => ?_⟩
    cases i with
    | zero =>
      simp only [List.getElem?_cons_zero, Option.some.injEq] at hc hb
      subst hc hb
      exact hr
    | succ i => exact e3 i c' b (by simpa using hc) (by simpa using hb)
/-- .. in a block that is known whole. -/
theorem has_kids {P : Nat → Prop} {w : World} {k n : Nat} {kids : List (Bx n)} {xs : List Value} (h : Has w k xs) (ha : AllP P w n kids xs) : RepLP P w n (some ⟨k, 0, none⟩) kids := by
  obtain ⟨l, rfl, e2, e3⟩ := allP_row kids xs ha
  have hrow : RowAt w (some ⟨k, 0, none⟩) 11 Subtype.val l := RowAt.of_has (junk := []) (fun a _ => a.2) (by simpa using h)
  intro i kid hi
  have hlt : i < l.length := by rw [e2]; exact (List.getElem?_eq_some_iff.1 hi).1
  obtain ⟨k, o, hx, hrg⟩ := hrow.get (List.getElem?_eq_getElem hlt)
  exact ⟨k, o, _, hx, hrg, e3 i _ kid (List.getElem?_eq_getElem hlt) hi⟩

end Go.Proofs.Ytgnkngkogamjaaa
