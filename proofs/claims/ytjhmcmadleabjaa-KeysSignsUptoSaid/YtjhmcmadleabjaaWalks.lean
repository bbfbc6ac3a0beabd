/- The walks of KeysIds, KeysVerifies: each answers true and leaves what was there. -/
import Derived.Test.YtjhmcmadleabjaaAwake
set_option linter.unusedVariables false
set_option maxRecDepth 100000
namespace Go.Proofs.Ytjhmcmadleabjaa
open Go Go.Hw Go.Proofs

theorem keysIds_c {w : World} {h : Int} {r : List UInt8} (hr : r.length = 32) :
    CallsV Try.prog 4 [.agg (.i64 h :: bc r)] w fun en w' => en = .returned (V.c (.bool true)).den ∧ St w [] w' := by
  have hrb : (bc r).length = 32 := by rw [bc_len, hr]
  refine calls_in (tb := tb) (fn := Try.f4) Try.func4 rfl rfl rfl [(0, .agg (.i64 h :: bc r))] rfl [] (St.refl _) ?_
  refine wc_seq ?_
  refine wc_region ?_
  refine wl_ef rfl (ef_box rfl rfl rfl (fun b hb => ?_))
  refine wl_ef rfl (ef_q rfl rfl (qt_pure tbok rfl (by first | exact trivial | omega | exact ⟨by decide, by decide⟩ | (refine ⟨?_, ?_⟩ <;> omega) | (refine ⟨?_, ?_, ?_⟩ <;> omega))) ?_)
  refine wl_done ?_
  refine nk_code ?_
  refine wc_seq ?_
  refine wc_quiet follows (by kernel_rfl) ?_
  refine wq_call (.c (.bool true)) (by kernel_rfl) rfl rfl (fun w1 _ => awake_c) ?_
  refine wq_q rfl rfl rfl (qt_pure tbok rfl (by first | exact trivial | omega | exact ⟨by decide, by decide⟩ | (refine ⟨?_, ?_⟩ <;> omega) | (refine ⟨?_, ?_, ?_⟩ <;> omega))) ?_
  first | refine wq_gd rfl rfl rfl rfl (qt_pure tbok rfl (by first | exact trivial | omega | exact ⟨by decide, by decide⟩ | (refine ⟨?_, ?_⟩ <;> omega) | (refine ⟨?_, ?_, ?_⟩ <;> omega))) ?_ | refine wq_skip rfl rfl rfl rfl rfl ?_
  first | refine wq_gd rfl rfl rfl rfl (qt_load tbok rfl rfl rfl (rc_lk .here rfl)) ?_ | refine wq_gd rfl rfl rfl rfl (qt_load tbok rfl rfl rfl (rc_lk (.there .here) rfl)) ?_ | refine wq_gd rfl rfl rfl rfl (qt_load tbok rfl rfl rfl (rc_lk (.there (.there .here)) rfl)) ?_ | refine wq_gd rfl rfl rfl rfl (qt_load tbok rfl rfl rfl (by assumption)) ?_ | refine wq_gd rfl rfl rfl rfl (qt_load_ag tbok rfl rfl rfl (by first | rfl | assumption) (by assumption)) ?_ | refine wq_skip rfl rfl rfl rfl rfl ?_
  first | refine wq_gd rfl rfl rfl rfl (qt_pure tbok rfl (by first | exact trivial | omega | exact ⟨by decide, by decide⟩ | (refine ⟨?_, ?_⟩ <;> omega) | (refine ⟨?_, ?_, ?_⟩ <;> omega))) ?_ | refine wq_skip rfl rfl rfl rfl rfl ?_
  refine wq_gd rfl rfl rfl rfl (qt_load_ag (l := bc r) tbok rfl rfl rfl hrb (rs_lk .here (fun j c hj => by show (C.i64 h :: bc r)[1 + j]? = some c; rw [Nat.add_comm]; exact hj))) ?_
  refine wq_gd rfl rfl rfl rfl (qt_build (vs := [(0, .c (.i64 h)), (1, .agg (bc r))]) (l := .i64 h :: bc r) tbok rfl zero32 rfl (pfill hrb)) ?_
  refine wq_callg (.agg (bc (idH h r))) rfl (by kernel_rfl) rfl rfl (fun w1 _ => id_c hr) ?_
  refine wq_gd rfl rfl rfl rfl (qt_load_ag (l := .i64 h :: bc r) tbok rfl rfl rfl (by rw [List.length_cons, hrb]) (rs_lk .here at0)) ?_
  refine wq_callg (.agg (bc (idH h r))) rfl (by kernel_rfl) rfl rfl (fun w1 _ => id2_c hr) ?_
  refine wq_gd rfl rfl rfl rfl (qt_eq_bytes eq30 ng30 rfl rfl (sha_len _) (sha_len _)) ?_
  refine wq_as (v' := .c (.bool true)) (congrArg (fun b => V.c (C.bool b)) (decide_eq_true rfl)) ?_
  refine wq_q rfl rfl rfl (qt_pure tbok rfl (by first | exact trivial | omega | exact ⟨by decide, by decide⟩ | (refine ⟨?_, ?_⟩ <;> omega) | (refine ⟨?_, ?_, ?_⟩ <;> omega))) ?_
  refine wq_q rfl rfl rfl (qt_pure tbok rfl (by first | exact trivial | omega | exact ⟨by decide, by decide⟩ | (refine ⟨?_, ?_⟩ <;> omega) | (refine ⟨?_, ?_, ?_⟩ <;> omega))) ?_
  refine wq_done ?_
  refine wl_done ?_
  refine nk_code ?_
  refine wc_ret ?_
  try dsimp only
  exact fin1 rfl (rv_tmp rfl) (fun w' hw => ⟨rfl, hw.all (new_cons (newKey hb) new_nil)⟩)

theorem keysVerifies_c {w : World} {h i : Int} {rt msg : List UInt8} {CH P : List (List UInt8)} {pa ma : Ad} {pc mc : Nat} (hr : rt.length = 32) (hC : A32 CH) (hCl : CH.length = 67) (hP : A32 P) (hPl : P.length ≤ 1073741824) (hcap : P.length ≤ pc) (hc : Cells w pa (bc P.flatten)) (hm : Cells w ma (bc msg)) (hmax : msg.length ≤ 1073741000) :
    CallsV Try.prog 3 [.agg (.i64 h :: bc rt), .c (.slc ma msg.length mc), .agg (scs i CH.flatten pa P.length pc)] w fun en w' => en = .returned (V.c (.bool true)).den ∧ St w [] w' := by
  have hrb : (bc rt).length = 32 := by rw [bc_len, hr]
  have hF : CH.flatten.length = 2144 := by rw [flat_len hC, hCl]
  refine calls_in (tb := tb) (fn := Try.f3) Try.func3 rfl rfl rfl [(0, .agg (.i64 h :: bc rt)), (1, .c (.slc ma msg.length mc)), (2, .agg (scs i CH.flatten pa P.length pc))] rfl [] (St.refl _) ?_
  refine wc_seq ?_
  refine wc_region ?_
  refine wl_ef rfl (ef_box rfl rfl rfl (fun b hb => ?_))
  refine wl_ef rfl (ef_box rfl rfl rfl (fun b2 hb2 => ?_))
  refine wl_ef rfl (ef_q rfl rfl (qt_pure tbok rfl (by first | exact trivial | omega | exact ⟨by decide, by decide⟩ | (refine ⟨?_, ?_⟩ <;> omega) | (refine ⟨?_, ?_, ?_⟩ <;> omega))) ?_)
  refine wl_done ?_
  refine nk_code ?_
  refine wc_seq ?_
  refine wc_region ?_
  refine wl_ef rfl (ef_q rfl rfl (qt_pure tbok rfl (by first | exact trivial | omega | exact ⟨by decide, by decide⟩ | (refine ⟨?_, ?_⟩ <;> omega) | (refine ⟨?_, ?_, ?_⟩ <;> omega))) ?_)
  first | refine wl_ef rfl (ef_q rfl rfl (qt_load tbok rfl rfl rfl (rc_lk .here rfl)) ?_) | refine wl_ef rfl (ef_q rfl rfl (qt_load tbok rfl rfl rfl (rc_lk (.there .here) rfl)) ?_) | refine wl_ef rfl (ef_q rfl rfl (qt_load tbok rfl rfl rfl (rc_lk (.there (.there .here)) rfl)) ?_) | refine wl_ef rfl (ef_q rfl rfl (qt_load tbok rfl rfl rfl (by assumption)) ?_) | refine wl_ef rfl (ef_q rfl rfl (qt_load_ag tbok rfl rfl rfl (by first | rfl | assumption) (by assumption)) ?_)
  refine wl_ef rfl (ef_q rfl rfl (qt_pure tbok rfl (by first | exact trivial | omega | exact ⟨by decide, by decide⟩ | (refine ⟨?_, ?_⟩ <;> omega) | (refine ⟨?_, ?_, ?_⟩ <;> omega))) ?_)
  refine wl_ef rfl (ef_q rfl rfl (qt_load_ag (l := bc rt) tbok rfl rfl rfl hrb (rs_lk (.there .here) (fun j c hj => by show (C.i64 h :: bc rt)[1 + j]? = some c; rw [Nat.add_comm]; exact hj))) ?_)
  refine wl_ef rfl (ef_q rfl rfl (qt_build (vs := [(0, .c (.i64 h)), (1, .agg (bc rt))]) (l := .i64 h :: bc rt) tbok rfl zero32 rfl (pfill hrb)) ?_)
  refine wl_ef rfl (ef_alloc zero32 rfl rfl (fun r hr2 => ?_))
  refine wl_ef rfl (ef_store (cs' := .i64 h :: bc rt) tbok rfl rfl rfl rfl .here (by show (C.i64 h :: bc rt).length = 33; rw [List.length_cons, hrb]) (Nat.le_of_ble_eq_true rfl) (spl_all (by show (C.i64 h :: bc rt).length = _; rw [List.length_cons, hrb]; rfl)) ?_)
  have offm : Off w ma [⟨.at r 0, .i64 h :: bc rt, 32, (0, 0), []⟩, ⟨.at b2 0, scs i CH.flatten pa P.length pc, 29, (0, 0), []⟩, ⟨.at b 0, .i64 h :: bc rt, 24, (0, 0), []⟩] := off_new (newKey hr2) (off_new (newKey hb2) (off_new (newKey hb) off_nil))
  have offp : Off w pa [⟨.at r 0, .i64 h :: bc rt, 32, (0, 0), []⟩, ⟨.at b2 0, scs i CH.flatten pa P.length pc, 29, (0, 0), []⟩, ⟨.at b 0, .i64 h :: bc rt, 24, (0, 0), []⟩] := off_new (newKey hr2) (off_new (newKey hb2) (off_new (newKey hb) off_nil))
  refine wl_done ?_
  refine nk_code ?_
  refine wc_seq ?_
  refine wc_draw (s0 := [⟨.at r 0, .i64 h :: bc rt, 32, (0, 0), []⟩, ⟨.at b2 0, scs i CH.flatten pa P.length pc, 29, (0, 0), []⟩, ⟨.at b 0, .i64 h :: bc rt, 24, (0, 0), []⟩]) 14 follows ?_
  refine wh_one 0 (by kernel_rfl) (wo_ef rfl rfl (ef_pure (v := .c (.bool true)) (by kernel_rfl) rfl rfl (fun w1 _ => awake_c) ⟨fun w hw => hw, ?_⟩))
  refine wh_q 1 rfl (by kernel_rfl) rfl rfl rfl (qt_pure tbok rfl (by first | exact trivial | omega | exact ⟨by decide, by decide⟩ | (refine ⟨?_, ?_⟩ <;> omega) | (refine ⟨?_, ?_, ?_⟩ <;> omega))) (fun w hw => hw) ?_
  refine wh_gd 2 rfl (by kernel_rfl) rfl rfl rfl rfl (qt_load_ag (l := .i64 h :: bc rt) tbok rfl rfl rfl (by rw [List.length_cons, hrb]) (rs_lk .here at0)) (fun w hw => hw) ?_
  first | refine wh_gd 3 rfl (by kernel_rfl) rfl rfl rfl rfl (qt_pure tbok rfl (by first | exact trivial | omega | exact ⟨by decide, by decide⟩ | (refine ⟨?_, ?_⟩ <;> omega) | (refine ⟨?_, ?_, ?_⟩ <;> omega))) (fun w hw => hw) ?_ | refine wh_skip 3 rfl (by kernel_rfl) rfl rfl rfl rfl rfl (fun w hw => hw) ?_
  refine wh_gd 4 rfl (by kernel_rfl) rfl rfl rfl rfl (qt_load_ag (l := scs i CH.flatten pa P.length pc) tbok rfl rfl rfl (scs_len hF) (rs_lk (.there .here) at0)) (fun w hw => hw) ?_
  refine wh_gd 7 rfl (by kernel_rfl) rfl rfl rfl rfl (qt_load_ag (l := .i64 h :: bc rt) tbok rfl rfl rfl (by rw [List.length_cons, hrb]) (rs_lk (.there (.there .here)) at0)) (fun w hw => hw) ?_
  first | refine wh_gd 8 rfl (by kernel_rfl) rfl rfl rfl rfl (qt_pure tbok rfl (by first | exact trivial | omega | exact ⟨by decide, by decide⟩ | (refine ⟨?_, ?_⟩ <;> omega) | (refine ⟨?_, ?_, ?_⟩ <;> omega))) (fun w hw => hw) ?_ | refine wh_skip 8 rfl (by kernel_rfl) rfl rfl rfl rfl rfl (fun w hw => hw) ?_
  refine wh_gd 9 rfl (by kernel_rfl) rfl rfl rfl rfl (qt_load_ag (l := scs i CH.flatten pa P.length pc) tbok rfl rfl rfl (scs_len hF) (rs_lk (.there .here) at0)) (fun w hw => hw) ?_
  refine wh_one 5 (by kernel_rfl) (wo_efg rfl rfl rfl (ef_fresh (by kernel_rfl) rfl rfl (fun w1 h1 => to_c hC hCl hP hPl hcap (cells_rd (rd_cells hc offp) h1)) (fun y hy hky => ⟨fun w hw => hw.tail hky, ?_⟩)))
  refine wh_one 6 (by kernel_rfl) (wo_efg rfl rfl rfl (ef_pure (v := .c (.bool (verB h rt msg i CH P))) (by kernel_rfl) rfl rfl (fun w1 h1 => ver16_c hr hC hCl hP (OwnS.le hy) (cells_own h1 .here) (cells_rd (rd_cells hm offm) (h1.tail hky)) hmax) ⟨fun w hw => hw.tail hky, ?_⟩))
  refine wh_one 10 (by kernel_rfl) (wo_efg rfl rfl rfl (ef_pure (v := .c (.bool (verB h rt msg i CH P))) (by kernel_rfl) rfl rfl (fun w1 h1 => ver18_c hr hC hCl hP hcap (cells_rd (rd_cells hc offp) (h1.tail hky)) (cells_rd (rd_cells hm offm) (h1.tail hky)) hmax) ⟨fun w hw => hw.tail hky, ?_⟩))
  first | refine wh_gd 11 rfl (by kernel_rfl) rfl rfl rfl rfl (qt_pure tbok rfl (by first | exact trivial | omega | exact ⟨by decide, by decide⟩ | (refine ⟨?_, ?_⟩ <;> omega) | (refine ⟨?_, ?_, ?_⟩ <;> omega))) (fun w hw => hw.tail hky) ?_ | refine wh_gd 11 rfl (by kernel_rfl) rfl rfl rfl rfl (qt_eqn tbok rfl rfl rfl) (fun w hw => hw.tail hky) ?_ | refine wh_skip 11 rfl (by kernel_rfl) rfl rfl rfl rfl rfl (fun w hw => hw.tail hky) ?_
  refine wh_as (v' := .c (.bool true)) (congrArg (fun b => V.c (C.bool b)) (beq_self_eq_true _)) ?_
  refine wh_q 12 rfl (by kernel_rfl) rfl rfl rfl (qt_pure tbok rfl (by first | exact trivial | omega | exact ⟨by decide, by decide⟩ | (refine ⟨?_, ?_⟩ <;> omega) | (refine ⟨?_, ?_, ?_⟩ <;> omega))) (fun w hw => hw.tail hky) ?_
  refine wh_q 13 rfl (by kernel_rfl) rfl rfl rfl (qt_pure tbok rfl (by first | exact trivial | omega | exact ⟨by decide, by decide⟩ | (refine ⟨?_, ?_⟩ <;> omega) | (refine ⟨?_, ?_, ?_⟩ <;> omega))) (fun w hw => hw.tail hky) ?_
  refine wh_done (by kernel_rfl) ?_
  refine nk_code ?_
  refine wc_ret ?_
  try dsimp only
  exact fin1 rfl (rv_tmp rfl) (fun w' hw => ⟨rfl, hw.all (new_cons hky (new_cons (newKey hr2) (new_cons (newKey hb2) (new_cons (newKey hb) new_nil))))⟩)
end Go.Proofs.Ytjhmcmadleabjaa
