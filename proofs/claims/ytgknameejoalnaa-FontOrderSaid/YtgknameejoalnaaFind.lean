/- Find and Pick, in package font and in its reference. -/
import Derived.Test.YtgknameejoalnaaDat
namespace Go.Proofs.Ytgknameejoalnaa
open Go.RowKit

theorem findG_drop {gs : List Gly} {s : ByteArray} {k : Nat} {g : Gly} (h : gs[k]? = some g) :
    findG (gs.drop k) s = if (g.name.toList == s.toList) = true then some g else findG (gs.drop (k + 1)) s := by
  obtain ⟨hk, rfl⟩ := List.getElem?_eq_some_iff.1 h
  unfold findG
  rw [List.drop_eq_getElem_cons hk, List.find?_cons]
  split <;> simp_all
theorem findG_end {gs : List Gly} {s : ByteArray} {k : Nat} (h : gs.length ≤ k) : findG (gs.drop k) s = none := by
  rw [List.drop_of_length_le h]; rfl

/-- What Find returns. -/
def findVal : Option Gly → Value
  | some g => .tuple #[.agg #[.string g.name, .int .i64 g.w, .int .i64 g.h, .int .i64 g.d, .int .i64 g.it, .int .i64 g.at_], .bool true]
  | none => .tuple #[.agg #[.string ⟨#[]⟩, .int .i64 0, .int .i64 0, .int .i64 0, .int .i64 0, .int .i64 0], .bool false]

set_option maxHeartbeats 2000000 in
set_option maxRecDepth 100000 in
theorem font_Find_full (sv p0 p1 p2 p3 p4 p5 p6 p7 p8 p9 p10 p11 p12 p13 p14 p15 p16 p17 p18 p19 : Value) (b o c : Nat) (gs : List Gly) (s : ByteArray) (w : World) (hn : gs.length ≤ 1000000)
    (hc : ∀ i g, gs[i]? = some g → GlyAt w b (o + i * 6) g) :
    Calls Try.prog 15 #[.agg #[.slice (some ⟨b, o, none⟩) gs.length c, sv, p0, p1, p2, p3, p4, p5, p6, p7, p8, p9, p10, p11, p12, p13, p14, p15, p16, p17, p18, p19], .string s] w (Gives (findVal (findG gs s)) w) := by
  have HC := Lib.hid hc
  clear hc
  go_enter Try.func15, Try.ntmps15
  go_wp2_with fail
  go_loop [10] (fun i => ∃ k : Nat, k ≤ gs.length ∧ i = .int .i64 k ∧ findG gs s = findG (gs.drop k) s) (fun i => gs.length - (intOf i).toNat)
  case atStart => exact ⟨0, Nat.zero_le _, rfl, rfl⟩
  case round =>
    obtain ⟨k, hk, rfl, hf⟩ := hrel
    by_cases hlt : k < gs.length
    · obtain ⟨g, hg⟩ : ∃ g, gs[k]? = some g := ⟨gs[k], by simp [hlt]⟩
      obtain ⟨g0, g1, g2, g3, g4, g5⟩ := HC.out k g hg
      have hb := lt_more (World.block_lt_of_cell? w _ g0)
      simp only [] at hb
      rw [findG_drop hg] at hf
      have HF := Lib.hid hf
      clear hf hg
      by_cases hs : (g.name.toList == s.toList) = true
      · have E1 := Lib.hid (show findG gs s = some g by rw [HF.out, if_pos hs])
        go_wp2_with fail
        rw [E1.out]
        refine bodyPost_ret (v := findVal (some g)) (by simp [results, Try.results15, findVal, go_sem]) rfl ⟨rfl, bnew (bnew (bself w) _) _⟩
      · have hs' : (g.name.toList == s.toList) = false := by simpa using hs
        have E1 := Lib.hid (show findG gs s = findG (gs.drop (k + 1)) s by rw [HF.out, if_neg hs])
        clear hs
        go_wp2_with fail
        go_round
        case rel => exact ⟨k + 1, by omega, by go_num, E1.out⟩
        case measure => simp [intOf]; omega
    · have E1 := Lib.hid (show findG gs s = none by rw [hf]; exact findG_end (by omega))
      clear hf
      go_wp2_with fail
      rw [E1.out]
      refine bodyPost_ret (v := findVal none) (by simp [results, Try.results15, findVal, go_sem]) rfl ⟨rfl, bnew (bnew (bself w) _) _⟩

set_option maxHeartbeats 2000000 in
set_option maxRecDepth 100000 in
theorem font_Find_nil (sv p0 p1 p2 p3 p4 p5 p6 p7 p8 p9 p10 p11 p12 p13 p14 p15 p16 p17 p18 p19 : Value) (x : Option Addr) (c : Nat) (s : ByteArray) (w : World) :
    Calls Try.prog 15 #[.agg #[.slice x 0 c, sv, p0, p1, p2, p3, p4, p5, p6, p7, p8, p9, p10, p11, p12, p13, p14, p15, p16, p17, p18, p19], .string s] w (Gives (findVal none) w) := by
  go_enter Try.func15, Try.ntmps15
  go_wp2_with fail
  refine wp_loop_once ?_
  go_wp2_with fail
  refine bodyPost_ret (v := findVal none) (by simp [results, Try.results15, findVal, go_sem]) rfl ⟨rfl, bnew (bnew (bself w) _) _⟩

theorem font_Find_calls (gv sv p0 p1 p2 p3 p4 p5 p6 p7 p8 p9 p10 p11 p12 p13 p14 p15 p16 p17 p18 p19 : Value) (gs : List Gly) (s : ByteArray) (w : World) (hn : gs.length ≤ 1000000) (h : GlysAt w gv gs) :
    Calls Try.prog 15 #[.agg #[gv, sv, p0, p1, p2, p3, p4, p5, p6, p7, p8, p9, p10, p11, p12, p13, p14, p15, p16, p17, p18, p19], .string s] w (Gives (findVal (findG gs s)) w) := by
  rcases h with ⟨x, c, rfl, rfl⟩ | ⟨b, o, c, rfl, hc⟩
  · exact font_Find_nil sv p0 p1 p2 p3 p4 p5 p6 p7 p8 p9 p10 p11 p12 p13 p14 p15 p16 p17 p18 p19 x c s w
  · exact font_Find_full sv p0 p1 p2 p3 p4 p5 p6 p7 p8 p9 p10 p11 p12 p13 p14 p15 p16 p17 p18 p19 b o c gs s w hn hc

set_option maxHeartbeats 2000000 in
set_option maxRecDepth 100000 in
theorem ref05_Find_full (sv p0 p1 p2 p3 p4 p5 p6 p7 p8 p9 p10 p11 p12 p13 p14 p15 p16 p17 p18 p19 : Value) (b o c : Nat) (gs : List Gly) (s : ByteArray) (w : World) (hn : gs.length ≤ 1000000)
    (hc : ∀ i g, gs[i]? = some g → GlyAt w b (o + i * 6) g) :
    Calls Try.prog 16 #[.agg #[.slice (some ⟨b, o, none⟩) gs.length c, sv, p0, p1, p2, p3, p4, p5, p6, p7, p8, p9, p10, p11, p12, p13, p14, p15, p16, p17, p18, p19], .string s] w (Gives (findVal (findG gs s)) w) := by
  have HC := Lib.hid hc
  clear hc
  go_enter Try.func16, Try.ntmps16
  go_wp2_with fail
  go_loop [6] (fun i => ∃ k : Nat, k ≤ gs.length ∧ i = .int .i64 k ∧ findG gs s = findG (gs.drop k) s) (fun i => gs.length - (intOf i).toNat)
  case atStart => exact ⟨0, Nat.zero_le _, rfl, rfl⟩
  case round =>
    obtain ⟨k, hk, rfl, hf⟩ := hrel
    by_cases hlt : k < gs.length
    · obtain ⟨g, hg⟩ : ∃ g, gs[k]? = some g := ⟨gs[k], by simp [hlt]⟩
      obtain ⟨g0, g1, g2, g3, g4, g5⟩ := HC.out k g hg
      have hb := lt_more (World.block_lt_of_cell? w _ g0)
      simp only [] at hb
      rw [findG_drop hg] at hf
      have HF := Lib.hid hf
      clear hf hg
      by_cases hs : (g.name.toList == s.toList) = true
      · have E1 := Lib.hid (show findG gs s = some g by rw [HF.out, if_pos hs])
        go_wp2_with fail
        rw [E1.out]
        refine bodyPost_ret (v := findVal (some g)) (by simp [results, Try.results16, findVal, go_sem]) rfl ⟨rfl, bnew (bnew (bself w) _) _⟩
      · have hs' : (g.name.toList == s.toList) = false := by simpa using hs
        have E1 := Lib.hid (show findG gs s = findG (gs.drop (k + 1)) s by rw [HF.out, if_neg hs])
        clear hs
        go_wp2_with fail
        go_round
        case rel => exact ⟨k + 1, by omega, by go_num, E1.out⟩
        case measure => simp [intOf]; omega
    · have E1 := Lib.hid (show findG gs s = none by rw [hf]; exact findG_end (by omega))
      clear hf
      go_wp2_with fail
      rw [E1.out]
      refine bodyPost_ret (v := findVal none) (by simp [results, Try.results16, findVal, go_sem]) rfl ⟨rfl, bnew (bnew (bself w) _) _⟩

set_option maxHeartbeats 2000000 in
set_option maxRecDepth 100000 in
theorem ref05_Find_nil (sv p0 p1 p2 p3 p4 p5 p6 p7 p8 p9 p10 p11 p12 p13 p14 p15 p16 p17 p18 p19 : Value) (x : Option Addr) (c : Nat) (s : ByteArray) (w : World) :
    Calls Try.prog 16 #[.agg #[.slice x 0 c, sv, p0, p1, p2, p3, p4, p5, p6, p7, p8, p9, p10, p11, p12, p13, p14, p15, p16, p17, p18, p19], .string s] w (Gives (findVal none) w) := by
  go_enter Try.func16, Try.ntmps16
  go_wp2_with fail
  refine wp_loop_once ?_
  go_wp2_with fail
  refine bodyPost_ret (v := findVal none) (by simp [results, Try.results16, findVal, go_sem]) rfl ⟨rfl, bnew (bnew (bself w) _) _⟩

theorem ref05_Find_calls (gv sv p0 p1 p2 p3 p4 p5 p6 p7 p8 p9 p10 p11 p12 p13 p14 p15 p16 p17 p18 p19 : Value) (gs : List Gly) (s : ByteArray) (w : World) (hn : gs.length ≤ 1000000) (h : GlysAt w gv gs) :
    Calls Try.prog 16 #[.agg #[gv, sv, p0, p1, p2, p3, p4, p5, p6, p7, p8, p9, p10, p11, p12, p13, p14, p15, p16, p17, p18, p19], .string s] w (Gives (findVal (findG gs s)) w) := by
  rcases h with ⟨x, c, rfl, rfl⟩ | ⟨b, o, c, rfl, hc⟩
  · exact ref05_Find_nil sv p0 p1 p2 p3 p4 p5 p6 p7 p8 p9 p10 p11 p12 p13 p14 p15 p16 p17 p18 p19 x c s w
  · exact ref05_Find_full sv p0 p1 p2 p3 p4 p5 p6 p7 p8 p9 p10 p11 p12 p13 p14 p15 p16 p17 p18 p19 b o c gs s w hn hc

end Go.Proofs.Ytgknameejoalnaa
