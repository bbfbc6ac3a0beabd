/- The walk of RoleRights: it answers true and leaves what was there. -/
import Derived.Test.YtjhmcmadleabjaaRoleAwake
set_option linter.unusedVariables false
set_option maxRecDepth 100000
namespace Go.Proofs.Ytjhmcmadleabjaa
open Go Go.Hw Go.Proofs

theorem roleRights_c {w : World} {n : Int} {K : List (Int × List UInt8)} {pa : Ad} {pc : Nat} (hK : K32 K) (hKl : K.length ≤ 1073741824) (hc : Cells w pa (K.flatMap kr)) :
    CallsV Try.prog 8 [.agg [.i64 n, .slc pa K.length pc]] w fun en w' => en = .returned (V.c (.bool true)).den ∧ St w [] w' := by
  refine calls_in (tb := tb) (fn := Try.f8) Try.func8 rfl rfl rfl [(0, .agg [.i64 n, .slc pa K.length pc])] rfl [] (St.refl _) ?_
  refine wc_seq ?_
  refine wc_region ?_
  refine wl_ef rfl (ef_box rfl rfl rfl (fun b hb => ?_))
  refine wl_q rfl rfl rfl (qt_p tbok rfl) ?_
  have offp : Off w pa [⟨.at b 0, [.i64 n, .slc pa K.length pc], 68, (0, 0), []⟩] := off_new (newKey hb) off_nil
  refine wl_done ?_
  refine nk_code ?_
  refine wc_seq ?_
  refine wc_draw (s0 := [⟨.at b 0, [.i64 n, .slc pa K.length pc], 68, (0, 0), []⟩]) 10 follows ?_
  refine wh_one 0 (by kernel_rfl) (wo_ef rfl rfl (ef_pure (v := .c (.bool true)) (by kernel_rfl) rfl rfl (fun w1 _ => awake16_c) ⟨fun w hw => hw, ?_⟩))
  refine wh_q 1 rfl (by kernel_rfl) rfl rfl rfl (qt_p tbok rfl) (fun w hw => hw) ?_
  refine wh_gd 2 rfl (by kernel_rfl) rfl rfl rfl rfl (qt_load_ag (l := [.i64 n, .slc pa K.length pc]) tbok rfl rfl rfl rfl (rs_lk .here at0)) (fun w hw => hw) ?_
  refine wh_gd 5 rfl (by kernel_rfl) rfl rfl rfl rfl (qt_load_ag (l := [.i64 n, .slc pa K.length pc]) tbok rfl rfl rfl rfl (rs_lk .here at0)) (fun w hw => hw) ?_
  refine wh_one 3 (by kernel_rfl) (wo_efg rfl rfl rfl (ef_fresh (by kernel_rfl) rfl rfl (fun w1 h1 => toRole_c hK hKl (cells_rd (rd_cells hc offp) h1)) (fun y hy hky => ⟨fun w hw => hw.tail hky, ?_⟩)))
  refine wh_one 4 (by kernel_rfl) (wo_efg rfl rfl rfl (ef_pure (v := .c (.bool (rightB n K))) (by kernel_rfl) rfl rfl (fun w1 h1 => right_c hK (cells_own h1 .here)) ⟨fun w hw => hw.tail hky, ?_⟩))
  refine wh_one 6 (by kernel_rfl) (wo_efg rfl rfl rfl (ef_pure (v := .c (.bool (rightB n K))) (by kernel_rfl) rfl rfl (fun w1 h1 => right2_c hK (cells_rd (rd_cells hc offp) (h1.tail hky))) ⟨fun w hw => hw.tail hky, ?_⟩))
  first | refine wh_gd 7 rfl (by kernel_rfl) rfl rfl rfl rfl (qt_p tbok rfl) (fun w hw => hw.tail hky) ?_ | refine wh_gd 7 rfl (by kernel_rfl) rfl rfl rfl rfl (qt_eqn tbok rfl rfl rfl) (fun w hw => hw.tail hky) ?_ | refine wh_skip 7 rfl (by kernel_rfl) rfl rfl rfl rfl rfl (fun w hw => hw.tail hky) ?_
  refine wh_as (v' := .c (.bool true)) (congrArg (fun b => V.c (C.bool b)) (beq_self_eq_true _)) ?_
  refine wh_q 8 rfl (by kernel_rfl) rfl rfl rfl (qt_p tbok rfl) (fun w hw => hw.tail hky) ?_
  refine wh_q 9 rfl (by kernel_rfl) rfl rfl rfl (qt_p tbok rfl) (fun w hw => hw.tail hky) ?_
  refine wh_done (by kernel_rfl) ?_
  refine nk_code ?_
  refine wc_ret ?_
  try dsimp only
  exact fin1 rfl (rv_tmp rfl) (fun w' hw => ⟨rfl, hw.all (new_cons hky (new_cons (newKey hb) new_nil))⟩)
end Go.Proofs.Ytjhmcmadleabjaa
