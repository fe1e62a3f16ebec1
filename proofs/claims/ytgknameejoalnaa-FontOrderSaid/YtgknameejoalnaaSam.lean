/- SameStretch of the reference: of the same two stretches it says yes. -/
import Derived.Test.YtgknameejoalnaaStr
namespace Go.Proofs.Ytgknameejoalnaa
open Go.RowKit

attribute [local irreducible] wpQuiet wpList Code.wp

set_option maxHeartbeats 4000000 in
set_option maxRecDepth 100000 in
theorem ref05_SameStretch_same (n : ByteArray) (sx tx px qx : Option Addr) (sc tc pc qc : Nat) (sz : List ByteArray) (ps : List Prt) (ov : Int) (w : World) (hs : sz.length ≤ 1000000) (hp : ps.length ≤ 1000000)
    (h1 : RowAt w sx 1 strCells sz) (h2 : RowAt w tx 1 strCells sz) (h3 : RowAt w px 2 Prt.cells ps) (h4 : RowAt w qx 2 Prt.cells ps) :
    Calls Try.prog 21 #[.agg #[.string n, .slice sx sz.length sc, .slice px ps.length pc, .int .i64 ov], .agg #[.string n, .slice tx sz.length tc, .slice qx ps.length qc, .int .i64 ov]] w (Gives (.bool true) w) := by
  have H1 := Lib.hid h1
  have H2 := Lib.hid h2
  have H3 := Lib.hid h3
  have H4 := Lib.hid h4
  clear h1 h2 h3 h4
  go_enter Try.func21, Try.ntmps21
  have hS := own_start w
  go_wp2_with (first
    | (refine own_unguard (by rfl) ?_)
    | (refine own_load1 rfl _ _ rfl rfl hS (by first | exact at0 | exact at1 | exact at2 | exact at3 | exact at4 | exact at5 | exact at6 | exact at7 | exact at8) (by first | exact ot_int | exact ot_string | exact ot_strings | exact ot_parts | exact ot_stretches) (by first | rfl | assumption) ?_)
    | (refine own_load rfl _ _ rfl rfl hS (by first | exact at0 | exact at1 | exact at2 | exact at3 | exact at4 | exact at5 | exact at6 | exact at7 | exact at8) (by first | exact rt_font | exact rt_stretch) ?_)
    | (refine own_load_old rfl _ _ rfl rfl hS (by assumption) (by first | exact List.not_mem_nil | assumption) (by first | exact rt_font | exact rt_stretch) ?_)
    | (refine own_load_has rfl _ _ rfl rfl hS (by assumption) (by first | exact List.not_mem_nil | assumption) (by first | exact rt_font | exact rt_stretch) ?_)
    | (refine own_load1_old rfl _ _ rfl rfl hS (by assumption) (by first | exact List.not_mem_nil | assumption) (by first | exact ot_int | exact ot_string | exact ot_strings | exact ot_parts | exact ot_stretches) ?_)
    | (refine own_load1_has rfl _ _ rfl rfl hS (by assumption) (by first | exact List.not_mem_nil | assumption) (by first | exact ot_int | exact ot_string | exact ot_strings | exact ot_parts | exact ot_stretches) (by first | rfl | assumption) ?_)
    | (refine own_box rfl _ _ rfl rfl hS ?_; clear hS; (try clear ww); intro bb ww hS)
    | (refine own_alloc rfl _ rfl hS (by first | exact zt_stretch) ?_; clear hS; (try clear ww); intro bb ww hS)
    | (refine own_store rfl _ _ _ rfl rfl rfl hS (by first | exact at0 | exact at1 | exact at2 | exact at3 | exact at4 | exact at5 | exact at6 | exact at7 | exact at8) (by first | exact rt_font | exact rt_stretch) (by rfl) (by rfl) ?_; clear hS; (try clear ww); intro ww hS; (try simp only at hS); (try simp only [List.set_cons_succ] at hS); (try simp only [List.set_cons_zero] at hS))
    | (refine own_store1 rfl _ _ _ rfl rfl rfl rfl hS (by first | exact at0 | exact at1 | exact at2 | exact at3 | exact at4 | exact at5 | exact at6 | exact at7 | exact at8) (by first | exact ot_int | exact ot_string | exact ot_strings | exact ot_parts | exact ot_stretches) (by simp) ?_; clear hS; (try clear ww); intro ww hS; (try simp only at hS); (try simp only [List.set_cons_succ] at hS); (try simp only [List.set_cons_zero] at hS); (try simp only [Act.eval] at hS); (try simp only [Array.getD_eq_getD_getElem?] at hS); (try simp only [List.getElem?_toArray] at hS); (try simp only [List.getElem?_cons_succ] at hS); (try simp only [List.getElem?_cons_zero] at hS); (try simp only [Option.getD_some] at hS)))
  obtain ⟨L0, HL, hS⟩ := hS.named
  go_loopw [5] (fun i wr => ∃ k : Nat, k ≤ sz.length ∧ i = .int .i64 k ∧ Own [] w L0 wr) (fun i _ => sz.length - (intOf i).toNat)
  case atStart => exact ⟨0, Nat.zero_le _, rfl, hS⟩
  case round =>
    clear hS
    obtain ⟨k, hk, rfl, hS⟩ := hrel
    obtain rfl := HL.out
    clear HL
    by_cases hlt : k < sz.length
    · obtain ⟨z, hz⟩ : ∃ z, sz[k]? = some z := ⟨sz[k], by simp [hlt]⟩
      obtain ⟨b1, o1, hx, r1⟩ := H1.out.get hz
      obtain rfl : sx = some ⟨b1, o1, none⟩ := hx
      obtain ⟨b2, o2, hx, r2⟩ := H2.out.get hz
      obtain rfl : tx = some ⟨b2, o2, none⟩ := hx
      clear hz
      have c1 : w.cell? ⟨b1, o1 + k, none⟩ = some (.string z) := by have := r1 0 _ rfl; simpa using this
      have c2 : w.cell? ⟨b2, o2 + k, none⟩ = some (.string z) := by have := r2 0 _ rfl; simpa using this
      go_wp2_with (first
        | (refine own_unguard (by rfl) ?_)
        | (refine own_load1 rfl _ _ rfl rfl hS (by first | exact at0 | exact at1 | exact at2 | exact at3 | exact at4 | exact at5 | exact at6 | exact at7 | exact at8) (by first | exact ot_int | exact ot_string | exact ot_strings | exact ot_parts | exact ot_stretches) (by first | rfl | assumption) ?_)
        | (refine own_load rfl _ _ rfl rfl hS (by first | exact at0 | exact at1 | exact at2 | exact at3 | exact at4 | exact at5 | exact at6 | exact at7 | exact at8) (by first | exact rt_font | exact rt_stretch) ?_)
        | (refine own_load_old rfl _ _ rfl rfl hS (by assumption) (by first | exact List.not_mem_nil | assumption) (by first | exact rt_font | exact rt_stretch) ?_)
        | (refine own_load_has rfl _ _ rfl rfl hS (by assumption) (by first | exact List.not_mem_nil | assumption) (by first | exact rt_font | exact rt_stretch) ?_)
        | (refine own_load1_old rfl _ _ rfl rfl hS (by assumption) (by first | exact List.not_mem_nil | assumption) (by first | exact ot_int | exact ot_string | exact ot_strings | exact ot_parts | exact ot_stretches) ?_)
        | (refine own_load1_has rfl _ _ rfl rfl hS (by assumption) (by first | exact List.not_mem_nil | assumption) (by first | exact ot_int | exact ot_string | exact ot_strings | exact ot_parts | exact ot_stretches) (by first | rfl | assumption) ?_)
        | (refine own_box rfl _ _ rfl rfl hS ?_; clear hS; (try clear ww); intro bb ww hS)
        | (refine own_alloc rfl _ rfl hS (by first | exact zt_stretch) ?_; clear hS; (try clear ww); intro bb ww hS)
        | (refine own_store rfl _ _ _ rfl rfl rfl hS (by first | exact at0 | exact at1 | exact at2 | exact at3 | exact at4 | exact at5 | exact at6 | exact at7 | exact at8) (by first | exact rt_font | exact rt_stretch) (by rfl) (by rfl) ?_; clear hS; (try clear ww); intro ww hS; (try simp only at hS); (try simp only [List.set_cons_succ] at hS); (try simp only [List.set_cons_zero] at hS))
        | (refine own_store1 rfl _ _ _ rfl rfl rfl rfl hS (by first | exact at0 | exact at1 | exact at2 | exact at3 | exact at4 | exact at5 | exact at6 | exact at7 | exact at8) (by first | exact ot_int | exact ot_string | exact ot_strings | exact ot_parts | exact ot_stretches) (by simp) ?_; clear hS; (try clear ww); intro ww hS; (try simp only at hS); (try simp only [List.set_cons_succ] at hS); (try simp only [List.set_cons_zero] at hS); (try simp only [Act.eval] at hS); (try simp only [Array.getD_eq_getD_getElem?] at hS); (try simp only [List.getElem?_toArray] at hS); (try simp only [List.getElem?_cons_succ] at hS); (try simp only [List.getElem?_cons_zero] at hS); (try simp only [Option.getD_some] at hS)))
      refine own_region hS (by kernel_rfl) (by kernel_rfl) ?_
      (try simp only); (try simp only [List.drop_succ_cons]); (try simp only [List.drop_zero]); (try simp only [List.take_succ_cons]); (try simp only [List.take_zero])
      repeat (first
          | (refine quiet_plain (by with_reducible rfl) ?_
             apply Exists.intro
             refine ⟨?_, ?_⟩
             focus (intro wq hq0; have hq : Own _ _ _ wq := hq0; first | (exact quietAt_one rfl rfl (Own.get hq at0) (by rfl) (by first | exact ot_string | exact ot_strings | exact ot_parts)) | (exact quietAt_one rfl rfl (Own.get hq at1) (by rfl) (by first | exact ot_string | exact ot_strings | exact ot_parts)) | (exact quietAt_cell rfl rfl (Own.cell hq List.not_mem_nil c1) (by first | exact ot_string | exact ot_strings | exact ot_parts)) | (exact quietAt_cell rfl rfl (Own.cell hq List.not_mem_nil c2) (by first | exact ot_string | exact ot_strings | exact ot_parts)) | (go_simp; first | (with_reducible rfl)))
             simp only [Act.put, List.setIfInBounds_toArray, List.set_cons_zero, List.set_cons_succ])
          | (refine quiet_at (by with_reducible rfl) (by rfl) (by rfl) (by simp only [List.getElem?_toArray, List.getElem?_cons_succ, List.getElem?_cons_zero]; rfl) ?_
             first | (with_reducible refine QG_tt ?_) | (with_reducible refine QG_ff ?_)
             apply Exists.intro
             refine ⟨?_, ?_⟩
             focus (intro wq hq0; have hq : Own _ _ _ wq := hq0; first | (exact quietAt_one rfl rfl (Own.get hq at0) (by rfl) (by first | exact ot_string | exact ot_strings | exact ot_parts)) | (exact quietAt_one rfl rfl (Own.get hq at1) (by rfl) (by first | exact ot_string | exact ot_strings | exact ot_parts)) | (exact quietAt_cell rfl rfl (Own.cell hq List.not_mem_nil c1) (by first | exact ot_string | exact ot_strings | exact ot_parts)) | (exact quietAt_cell rfl rfl (Own.cell hq List.not_mem_nil c2) (by first | exact ot_string | exact ot_strings | exact ot_parts)) | (go_simp; first | (with_reducible rfl)))
             simp only [Act.put, List.setIfInBounds_toArray, List.set_cons_zero, List.set_cons_succ])
          | (refine quiet_at (by with_reducible rfl) (by rfl) (by rfl) (by simp only [List.getElem?_toArray, List.getElem?_cons_succ, List.getElem?_cons_zero]; rfl) ?_
             first | (with_reducible refine QG_tf ?_) | (with_reducible refine QG_ft ?_) | (with_reducible refine QG_u ?_)
             simp only [Act.put, List.setIfInBounds_toArray, List.set_cons_zero, List.set_cons_succ]))
      refine wpQuiet_nil ?_
      clear hS
      intro ww hS
      go_wp2_with (first
        | (refine own_unguard (by rfl) ?_)
        | (refine own_load1 rfl _ _ rfl rfl hS (by first | exact at0 | exact at1 | exact at2 | exact at3 | exact at4 | exact at5 | exact at6 | exact at7 | exact at8) (by first | exact ot_int | exact ot_string | exact ot_strings | exact ot_parts | exact ot_stretches) (by first | rfl | assumption) ?_)
        | (refine own_load rfl _ _ rfl rfl hS (by first | exact at0 | exact at1 | exact at2 | exact at3 | exact at4 | exact at5 | exact at6 | exact at7 | exact at8) (by first | exact rt_font | exact rt_stretch) ?_)
        | (refine own_load_old rfl _ _ rfl rfl hS (by assumption) (by first | exact List.not_mem_nil | assumption) (by first | exact rt_font | exact rt_stretch) ?_)
        | (refine own_load_has rfl _ _ rfl rfl hS (by assumption) (by first | exact List.not_mem_nil | assumption) (by first | exact rt_font | exact rt_stretch) ?_)
        | (refine own_load1_old rfl _ _ rfl rfl hS (by assumption) (by first | exact List.not_mem_nil | assumption) (by first | exact ot_int | exact ot_string | exact ot_strings | exact ot_parts | exact ot_stretches) ?_)
        | (refine own_load1_has rfl _ _ rfl rfl hS (by assumption) (by first | exact List.not_mem_nil | assumption) (by first | exact ot_int | exact ot_string | exact ot_strings | exact ot_parts | exact ot_stretches) (by first | rfl | assumption) ?_)
        | (refine own_box rfl _ _ rfl rfl hS ?_; clear hS; (try clear ww); intro bb ww hS)
        | (refine own_alloc rfl _ rfl hS (by first | exact zt_stretch) ?_; clear hS; (try clear ww); intro bb ww hS)
        | (refine own_store rfl _ _ _ rfl rfl rfl hS (by first | exact at0 | exact at1 | exact at2 | exact at3 | exact at4 | exact at5 | exact at6 | exact at7 | exact at8) (by first | exact rt_font | exact rt_stretch) (by rfl) (by rfl) ?_; clear hS; (try clear ww); intro ww hS; (try simp only at hS); (try simp only [List.set_cons_succ] at hS); (try simp only [List.set_cons_zero] at hS))
        | (refine own_store1 rfl _ _ _ rfl rfl rfl rfl hS (by first | exact at0 | exact at1 | exact at2 | exact at3 | exact at4 | exact at5 | exact at6 | exact at7 | exact at8) (by first | exact ot_int | exact ot_string | exact ot_strings | exact ot_parts | exact ot_stretches) (by simp) ?_; clear hS; (try clear ww); intro ww hS; (try simp only at hS); (try simp only [List.set_cons_succ] at hS); (try simp only [List.set_cons_zero] at hS); (try simp only [Act.eval] at hS); (try simp only [Array.getD_eq_getD_getElem?] at hS); (try simp only [List.getElem?_toArray] at hS); (try simp only [List.getElem?_cons_succ] at hS); (try simp only [List.getElem?_cons_zero] at hS); (try simp only [Option.getD_some] at hS)))
      go_roundw
      case rel => exact ⟨k + 1, hlt, by go_num, hS⟩
      case measure => exact loop_meas hlt
    · skip
      go_wp2_with (first
        | (refine own_unguard (by rfl) ?_)
        | (refine own_load1 rfl _ _ rfl rfl hS (by first | exact at0 | exact at1 | exact at2 | exact at3 | exact at4 | exact at5 | exact at6 | exact at7 | exact at8) (by first | exact ot_int | exact ot_string | exact ot_strings | exact ot_parts | exact ot_stretches) (by first | rfl | assumption) ?_)
        | (refine own_load rfl _ _ rfl rfl hS (by first | exact at0 | exact at1 | exact at2 | exact at3 | exact at4 | exact at5 | exact at6 | exact at7 | exact at8) (by first | exact rt_font | exact rt_stretch) ?_)
        | (refine own_load_old rfl _ _ rfl rfl hS (by assumption) (by first | exact List.not_mem_nil | assumption) (by first | exact rt_font | exact rt_stretch) ?_)
        | (refine own_load_has rfl _ _ rfl rfl hS (by assumption) (by first | exact List.not_mem_nil | assumption) (by first | exact rt_font | exact rt_stretch) ?_)
        | (refine own_load1_old rfl _ _ rfl rfl hS (by assumption) (by first | exact List.not_mem_nil | assumption) (by first | exact ot_int | exact ot_string | exact ot_strings | exact ot_parts | exact ot_stretches) ?_)
        | (refine own_load1_has rfl _ _ rfl rfl hS (by assumption) (by first | exact List.not_mem_nil | assumption) (by first | exact ot_int | exact ot_string | exact ot_strings | exact ot_parts | exact ot_stretches) (by first | rfl | assumption) ?_)
        | (refine own_box rfl _ _ rfl rfl hS ?_; clear hS; (try clear ww); intro bb ww hS)
        | (refine own_alloc rfl _ rfl hS (by first | exact zt_stretch) ?_; clear hS; (try clear ww); intro bb ww hS)
        | (refine own_store rfl _ _ _ rfl rfl rfl hS (by first | exact at0 | exact at1 | exact at2 | exact at3 | exact at4 | exact at5 | exact at6 | exact at7 | exact at8) (by first | exact rt_font | exact rt_stretch) (by rfl) (by rfl) ?_; clear hS; (try clear ww); intro ww hS; (try simp only at hS); (try simp only [List.set_cons_succ] at hS); (try simp only [List.set_cons_zero] at hS))
        | (refine own_store1 rfl _ _ _ rfl rfl rfl rfl hS (by first | exact at0 | exact at1 | exact at2 | exact at3 | exact at4 | exact at5 | exact at6 | exact at7 | exact at8) (by first | exact ot_int | exact ot_string | exact ot_strings | exact ot_parts | exact ot_stretches) (by simp) ?_; clear hS; (try clear ww); intro ww hS; (try simp only at hS); (try simp only [List.set_cons_succ] at hS); (try simp only [List.set_cons_zero] at hS); (try simp only [Act.eval] at hS); (try simp only [Array.getD_eq_getD_getElem?] at hS); (try simp only [List.getElem?_toArray] at hS); (try simp only [List.getElem?_cons_succ] at hS); (try simp only [List.getElem?_cons_zero] at hS); (try simp only [Option.getD_some] at hS)))

      obtain ⟨L0, HL, hS⟩ := hS.named
      go_loopw [6] (fun i wr => ∃ k : Nat, k ≤ ps.length ∧ i = .int .i64 k ∧ Own [] w L0 wr) (fun i _ => ps.length - (intOf i).toNat)
      case atStart => exact ⟨0, Nat.zero_le _, rfl, hS⟩
      case round =>
        clear hS
        obtain ⟨k, hk, rfl, hS⟩ := hrel
        obtain rfl := HL.out
        clear HL
        by_cases hlt : k < ps.length
        · obtain ⟨z, hz⟩ : ∃ z, ps[k]? = some z := ⟨ps[k], by simp [hlt]⟩
          obtain ⟨b1, o1, hx, r1⟩ := H3.out.get hz
          obtain rfl : px = some ⟨b1, o1, none⟩ := hx
          obtain ⟨b2, o2, hx, r2⟩ := H4.out.get hz
          obtain rfl : qx = some ⟨b2, o2, none⟩ := hx
          clear hz
          have s1 : w.rangeAt b1 (o1 + k * 2) [.string z.name, .bool z.ext] := r1
          have s2 : w.rangeAt b2 (o2 + k * 2) [.string z.name, .bool z.ext] := r2
          go_wp2_with (first
            | (refine own_unguard (by rfl) ?_)
            | (refine own_load1 rfl _ _ rfl rfl hS (by first | exact at0 | exact at1 | exact at2 | exact at3 | exact at4 | exact at5 | exact at6 | exact at7 | exact at8) (by first | exact ot_int | exact ot_string | exact ot_strings | exact ot_parts | exact ot_stretches) (by first | rfl | assumption) ?_)
            | (refine own_load rfl _ _ rfl rfl hS (by first | exact at0 | exact at1 | exact at2 | exact at3 | exact at4 | exact at5 | exact at6 | exact at7 | exact at8) (by first | exact rt_font | exact rt_stretch) ?_)
            | (refine own_load_old rfl _ _ rfl rfl hS (by assumption) (by first | exact List.not_mem_nil | assumption) (by first | exact rt_font | exact rt_stretch) ?_)
            | (refine own_load_has rfl _ _ rfl rfl hS (by assumption) (by first | exact List.not_mem_nil | assumption) (by first | exact rt_font | exact rt_stretch) ?_)
            | (refine own_load1_old rfl _ _ rfl rfl hS (by assumption) (by first | exact List.not_mem_nil | assumption) (by first | exact ot_int | exact ot_string | exact ot_strings | exact ot_parts | exact ot_stretches) ?_)
            | (refine own_load1_has rfl _ _ rfl rfl hS (by assumption) (by first | exact List.not_mem_nil | assumption) (by first | exact ot_int | exact ot_string | exact ot_strings | exact ot_parts | exact ot_stretches) (by first | rfl | assumption) ?_)
            | (refine own_box rfl _ _ rfl rfl hS ?_; clear hS; (try clear ww); intro bb ww hS)
            | (refine own_alloc rfl _ rfl hS (by first | exact zt_stretch) ?_; clear hS; (try clear ww); intro bb ww hS)
            | (refine own_store rfl _ _ _ rfl rfl rfl hS (by first | exact at0 | exact at1 | exact at2 | exact at3 | exact at4 | exact at5 | exact at6 | exact at7 | exact at8) (by first | exact rt_font | exact rt_stretch) (by rfl) (by rfl) ?_; clear hS; (try clear ww); intro ww hS; (try simp only at hS); (try simp only [List.set_cons_succ] at hS); (try simp only [List.set_cons_zero] at hS))
            | (refine own_store1 rfl _ _ _ rfl rfl rfl rfl hS (by first | exact at0 | exact at1 | exact at2 | exact at3 | exact at4 | exact at5 | exact at6 | exact at7 | exact at8) (by first | exact ot_int | exact ot_string | exact ot_strings | exact ot_parts | exact ot_stretches) (by simp) ?_; clear hS; (try clear ww); intro ww hS; (try simp only at hS); (try simp only [List.set_cons_succ] at hS); (try simp only [List.set_cons_zero] at hS); (try simp only [Act.eval] at hS); (try simp only [Array.getD_eq_getD_getElem?] at hS); (try simp only [List.getElem?_toArray] at hS); (try simp only [List.getElem?_cons_succ] at hS); (try simp only [List.getElem?_cons_zero] at hS); (try simp only [Option.getD_some] at hS)))
          refine own_region hS (by kernel_rfl) (by kernel_rfl) ?_
          (try simp only); (try simp only [List.drop_succ_cons]); (try simp only [List.drop_zero]); (try simp only [List.take_succ_cons]); (try simp only [List.take_zero])
          repeat (first
              | (refine quiet_plain (by with_reducible rfl) ?_
                 apply Exists.intro
                 refine ⟨?_, ?_⟩
                 focus (intro wq hq0; have hq : Own _ _ _ wq := hq0; first | (exact quietAt_one rfl rfl (Own.get hq at0) (by rfl) (by first | exact ot_string | exact ot_strings | exact ot_parts)) | (exact quietAt_row rfl rfl (Own.get hq at0) (by first | exact rt_part)) | (exact quietAt_one rfl rfl (Own.get hq at1) (by rfl) (by first | exact ot_string | exact ot_strings | exact ot_parts)) | (exact quietAt_row rfl rfl (Own.get hq at1) (by first | exact rt_part)) | (exact quietAt_mid rfl rfl (Own.range hq List.not_mem_nil s1) (by first | exact rt_part)) | (exact quietAt_mid rfl rfl (Own.range hq List.not_mem_nil s2) (by first | exact rt_part)) | (go_simp; first | (with_reducible rfl)))
                 simp only [Act.put, List.setIfInBounds_toArray, List.set_cons_zero, List.set_cons_succ])
              | (refine quiet_at (by with_reducible rfl) (by rfl) (by rfl) (by simp only [List.getElem?_toArray, List.getElem?_cons_succ, List.getElem?_cons_zero]; rfl) ?_
                 first | (with_reducible refine QG_tt ?_) | (with_reducible refine QG_ff ?_)
                 apply Exists.intro
                 refine ⟨?_, ?_⟩
                 focus (intro wq hq0; have hq : Own _ _ _ wq := hq0; first | (exact quietAt_one rfl rfl (Own.get hq at0) (by rfl) (by first | exact ot_string | exact ot_strings | exact ot_parts)) | (exact quietAt_row rfl rfl (Own.get hq at0) (by first | exact rt_part)) | (exact quietAt_one rfl rfl (Own.get hq at1) (by rfl) (by first | exact ot_string | exact ot_strings | exact ot_parts)) | (exact quietAt_row rfl rfl (Own.get hq at1) (by first | exact rt_part)) | (exact quietAt_mid rfl rfl (Own.range hq List.not_mem_nil s1) (by first | exact rt_part)) | (exact quietAt_mid rfl rfl (Own.range hq List.not_mem_nil s2) (by first | exact rt_part)) | (go_simp; first | (with_reducible rfl)))
                 simp only [Act.put, List.setIfInBounds_toArray, List.set_cons_zero, List.set_cons_succ])
              | (refine quiet_at (by with_reducible rfl) (by rfl) (by rfl) (by simp only [List.getElem?_toArray, List.getElem?_cons_succ, List.getElem?_cons_zero]; rfl) ?_
                 first | (with_reducible refine QG_tf ?_) | (with_reducible refine QG_ft ?_) | (with_reducible refine QG_u ?_)
                 simp only [Act.put, List.setIfInBounds_toArray, List.set_cons_zero, List.set_cons_succ]))
          refine wpQuiet_nil ?_
          clear hS
          intro ww hS
          go_wp2_with (first
            | (refine own_unguard (by rfl) ?_)
            | (refine own_load1 rfl _ _ rfl rfl hS (by first | exact at0 | exact at1 | exact at2 | exact at3 | exact at4 | exact at5 | exact at6 | exact at7 | exact at8) (by first | exact ot_int | exact ot_string | exact ot_strings | exact ot_parts | exact ot_stretches) (by first | rfl | assumption) ?_)
            | (refine own_load rfl _ _ rfl rfl hS (by first | exact at0 | exact at1 | exact at2 | exact at3 | exact at4 | exact at5 | exact at6 | exact at7 | exact at8) (by first | exact rt_font | exact rt_stretch) ?_)
            | (refine own_load_old rfl _ _ rfl rfl hS (by assumption) (by first | exact List.not_mem_nil | assumption) (by first | exact rt_font | exact rt_stretch) ?_)
            | (refine own_load_has rfl _ _ rfl rfl hS (by assumption) (by first | exact List.not_mem_nil | assumption) (by first | exact rt_font | exact rt_stretch) ?_)
            | (refine own_load1_old rfl _ _ rfl rfl hS (by assumption) (by first | exact List.not_mem_nil | assumption) (by first | exact ot_int | exact ot_string | exact ot_strings | exact ot_parts | exact ot_stretches) ?_)
            | (refine own_load1_has rfl _ _ rfl rfl hS (by assumption) (by first | exact List.not_mem_nil | assumption) (by first | exact ot_int | exact ot_string | exact ot_strings | exact ot_parts | exact ot_stretches) (by first | rfl | assumption) ?_)
            | (refine own_box rfl _ _ rfl rfl hS ?_; clear hS; (try clear ww); intro bb ww hS)
            | (refine own_alloc rfl _ rfl hS (by first | exact zt_stretch) ?_; clear hS; (try clear ww); intro bb ww hS)
            | (refine own_store rfl _ _ _ rfl rfl rfl hS (by first | exact at0 | exact at1 | exact at2 | exact at3 | exact at4 | exact at5 | exact at6 | exact at7 | exact at8) (by first | exact rt_font | exact rt_stretch) (by rfl) (by rfl) ?_; clear hS; (try clear ww); intro ww hS; (try simp only at hS); (try simp only [List.set_cons_succ] at hS); (try simp only [List.set_cons_zero] at hS))
            | (refine own_store1 rfl _ _ _ rfl rfl rfl rfl hS (by first | exact at0 | exact at1 | exact at2 | exact at3 | exact at4 | exact at5 | exact at6 | exact at7 | exact at8) (by first | exact ot_int | exact ot_string | exact ot_strings | exact ot_parts | exact ot_stretches) (by simp) ?_; clear hS; (try clear ww); intro ww hS; (try simp only at hS); (try simp only [List.set_cons_succ] at hS); (try simp only [List.set_cons_zero] at hS); (try simp only [Act.eval] at hS); (try simp only [Array.getD_eq_getD_getElem?] at hS); (try simp only [List.getElem?_toArray] at hS); (try simp only [List.getElem?_cons_succ] at hS); (try simp only [List.getElem?_cons_zero] at hS); (try simp only [Option.getD_some] at hS)))
          go_roundw
          case rel => exact ⟨k + 1, hlt, by go_num, hS⟩
          case measure => exact loop_meas hlt
        · skip
          go_wp2_with (first
            | (refine own_unguard (by rfl) ?_)
            | (refine own_load1 rfl _ _ rfl rfl hS (by first | exact at0 | exact at1 | exact at2 | exact at3 | exact at4 | exact at5 | exact at6 | exact at7 | exact at8) (by first | exact ot_int | exact ot_string | exact ot_strings | exact ot_parts | exact ot_stretches) (by first | rfl | assumption) ?_)
            | (refine own_load rfl _ _ rfl rfl hS (by first | exact at0 | exact at1 | exact at2 | exact at3 | exact at4 | exact at5 | exact at6 | exact at7 | exact at8) (by first | exact rt_font | exact rt_stretch) ?_)
            | (refine own_load_old rfl _ _ rfl rfl hS (by assumption) (by first | exact List.not_mem_nil | assumption) (by first | exact rt_font | exact rt_stretch) ?_)
            | (refine own_load_has rfl _ _ rfl rfl hS (by assumption) (by first | exact List.not_mem_nil | assumption) (by first | exact rt_font | exact rt_stretch) ?_)
            | (refine own_load1_old rfl _ _ rfl rfl hS (by assumption) (by first | exact List.not_mem_nil | assumption) (by first | exact ot_int | exact ot_string | exact ot_strings | exact ot_parts | exact ot_stretches) ?_)
            | (refine own_load1_has rfl _ _ rfl rfl hS (by assumption) (by first | exact List.not_mem_nil | assumption) (by first | exact ot_int | exact ot_string | exact ot_strings | exact ot_parts | exact ot_stretches) (by first | rfl | assumption) ?_)
            | (refine own_box rfl _ _ rfl rfl hS ?_; clear hS; (try clear ww); intro bb ww hS)
            | (refine own_alloc rfl _ rfl hS (by first | exact zt_stretch) ?_; clear hS; (try clear ww); intro bb ww hS)
            | (refine own_store rfl _ _ _ rfl rfl rfl hS (by first | exact at0 | exact at1 | exact at2 | exact at3 | exact at4 | exact at5 | exact at6 | exact at7 | exact at8) (by first | exact rt_font | exact rt_stretch) (by rfl) (by rfl) ?_; clear hS; (try clear ww); intro ww hS; (try simp only at hS); (try simp only [List.set_cons_succ] at hS); (try simp only [List.set_cons_zero] at hS))
            | (refine own_store1 rfl _ _ _ rfl rfl rfl rfl hS (by first | exact at0 | exact at1 | exact at2 | exact at3 | exact at4 | exact at5 | exact at6 | exact at7 | exact at8) (by first | exact ot_int | exact ot_string | exact ot_strings | exact ot_parts | exact ot_stretches) (by simp) ?_; clear hS; (try clear ww); intro ww hS; (try simp only at hS); (try simp only [List.set_cons_succ] at hS); (try simp only [List.set_cons_zero] at hS); (try simp only [Act.eval] at hS); (try simp only [Array.getD_eq_getD_getElem?] at hS); (try simp only [List.getElem?_toArray] at hS); (try simp only [List.getElem?_cons_succ] at hS); (try simp only [List.getElem?_cons_zero] at hS); (try simp only [Option.getD_some] at hS)))
          go_ret
          exact own_gives hS

end Go.Proofs.Ytgknameejoalnaa
