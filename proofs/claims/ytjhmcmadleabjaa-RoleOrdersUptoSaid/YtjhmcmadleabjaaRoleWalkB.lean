/- The walk of RoleCounts: it answers true and leaves what was there. -/
import Derived.Test.YtjhmcmadleabjaaRoleAwake
import Derived.Test.YtjhmcmadleabjaaRoleMarks
set_option linter.unusedVariables false
set_option maxRecDepth 100000
namespace Go.Proofs.Ytjhmcmadleabjaa
open Go Go.Hw Go.Proofs

theorem st_cut {w0 w : World} {c : Blk} {T : Hp} (h : St w0 (c :: T) w) (hT : ∀ p ∈ T, ∀ k, p.key = some k → w0.heap.size ≤ k) : St w0 [c] w :=
  h.sub (List.Sublist.cons_cons c (List.nil_sublist T)) fun p hp hn => by
    rcases List.mem_cons.1 hp with rfl | hp
    · exact absurd (List.mem_singleton.2 rfl) hn
    · exact hT p hp
/-- What a copy of marks is: as long, of the same marks, owned. -/
def CpD (M : List (Mk × Os)) (y : List (Mk × Os) × Os) : Prop := y.1.length = M.length ∧ y.1.map (·.1) = M.map (·.1) ∧ OwnS y.2.1 M.length y.2.2.1 2178 (y.1.flatMap mrow) y.2.2.2 ∧ ∀ p ∈ y.1, Doi p.1.pt p.2
theorem CpD.lies {M : List (Mk × Os)} {y : List (Mk × Os) × Os} (h : CpD M y) {w0 w : World} {s : Hp} (hs : St w0 s w) (hl : ∀ b ∈ pbs y.1, Lk s b) : ∀ p ∈ y.1, Mk.lies w p := fun p hp => ⟨cells_own hs (hl _ (pbs_mem hp)), OwnS.le (h.2.2.2 p hp)⟩

theorem roleCounts_c {w : World} {n : Int} {K : List (Int × List UInt8)} {M : List (Mk × Os)} {msg : List UInt8} {pa ma la : Ad} {pc mc lc : Nat} (hK : K32 K) (hc : Cells w pa (K.flatMap kr)) (hm : Cells w ma (bc msg)) (hmax : msg.length ≤ 1073741000)
    (hM : ∀ p ∈ M, p.1.ok) (hl : Cells w la (M.flatMap mrow)) (hp : ∀ p ∈ M, Mk.lies w p) :
    CallsV Try.prog 9 [.agg [.i64 n, .slc pa K.length pc], .c (.slc ma msg.length mc), .c (.slc la M.length lc)] w fun en w' => en = .returned (V.c (.bool true)).den ∧ St w [] w' := by
  refine calls_in (tb := tb) (fn := Try.f9) Try.func9 rfl rfl rfl [(0, .agg [.i64 n, .slc pa K.length pc]), (1, .c (.slc ma msg.length mc)), (2, .c (.slc la M.length lc))] rfl [] (St.refl _) ?_
  refine wc_seq ?_
  refine wc_region ?_
  refine wl_ef rfl (ef_box rfl rfl rfl (fun b hb => ?_))
  refine wl_q rfl rfl rfl (qt_p tbok rfl) ?_
  refine wl_done ?_
  refine nk_code ?_
  refine wc_seq ?_
  refine wc_seq ?_
  refine wc_region ?_
  refine wl_q rfl rfl rfl (qt_p tbok rfl) ?_
  first | refine wl_q rfl rfl rfl (qt_l tbok rfl rfl rfl) ?_ | refine wl_q rfl rfl rfl (qt_la tbok rfl rfl rfl) ?_
  refine wl_q rfl rfl rfl (qt_len tbok rfl rfl) ?_
  refine wl_q rfl rfl rfl (qt_p tbok rfl) ?_
  refine wl_bool (fun h1 => ?_) (fun h1 => ?_)
  · refine wl_q rfl rfl rfl (qt_p tbok rfl) ?_
    first | refine wl_g rfl rfl rfl rfl (qt_p tbok rfl) ?_ | refine wl_skip rfl rfl rfl rfl rfl ?_
    first | refine wl_g rfl rfl rfl rfl (qt_len tbok rfl rfl) ?_ | refine wl_skip rfl rfl rfl rfl rfl ?_
    first | refine wl_g rfl rfl rfl rfl (qt_p tbok rfl) ?_ | refine wl_skip rfl rfl rfl rfl rfl ?_
    refine wl_q rfl rfl rfl (qt_p tbok rfl) ?_
    refine wl_done ?_
    refine nk_code ?_
    refine wc_yes rfl ?_
    refine wc_seq ?_
    refine wc_region ?_
    refine wl_ef rfl (ef_pure (v := .c (.bool true)) (by kernel_rfl) rfl rfl (fun w1 _ => awake16_c) ?_)
    refine wl_q rfl rfl rfl (qt_p tbok rfl) ?_
    refine wl_done ?_
    refine nk_code ?_
    refine wc_ret ?_
    try dsimp only
    exact fin1 rfl (rv_tmp rfl) (fun w' hw => ⟨rfl, hw.all (new_cons (newKey hb) new_nil)⟩)
  · refine wl_q rfl rfl rfl (qt_p tbok rfl) ?_
    first | refine wl_g rfl rfl rfl rfl (qt_p tbok rfl) ?_ | refine wl_skip rfl rfl rfl rfl rfl ?_
    first | refine wl_g rfl rfl rfl rfl (qt_len tbok rfl rfl) ?_ | refine wl_skip rfl rfl rfl rfl rfl ?_
    first | refine wl_g rfl rfl rfl rfl (qt_p tbok rfl) ?_ | refine wl_skip rfl rfl rfl rfl rfl ?_
    refine wl_bool (fun h2 => ?_) (fun h2 => ?_)
    · refine wl_q rfl rfl rfl (qt_p tbok rfl) ?_
      refine wl_done ?_
      refine nk_code ?_
      refine wc_yes rfl ?_
      refine wc_seq ?_
      refine wc_region ?_
      refine wl_ef rfl (ef_pure (v := .c (.bool true)) (by kernel_rfl) rfl rfl (fun w1 _ => awake16_c) ?_)
      refine wl_q rfl rfl rfl (qt_p tbok rfl) ?_
      refine wl_done ?_
      refine nk_code ?_
      refine wc_ret ?_
      try dsimp only
      exact fin1 rfl (rv_tmp rfl) (fun w' hw => ⟨rfl, hw.all (new_cons (newKey hb) new_nil)⟩)
    · refine wl_q rfl rfl rfl (qt_p tbok rfl) ?_
      refine wl_done ?_
      refine nk_code ?_
      refine wc_no rfl ?_
      refine wc_skip ?_
      refine nk_code ?_
      refine wc_seq ?_
      refine wc_draw (s0 := [⟨.at b 0, [.i64 n, .slc pa K.length pc], 68, (0, 0), []⟩]) 28 follows ?_
      have hKl : K.length ≤ 4 := (by have := of_decide_eq_false h1; omega)
      have hMl : M.length ≤ 6 := (by have := of_decide_eq_false h2; omega)
      have off : ∀ ad, Off w ad [⟨.at b 0, [.i64 n, .slc pa K.length pc], 68, (0, 0), []⟩] := fun ad => off_new (newKey hb) off_nil
      refine wh_one 0 (by kernel_rfl) (wo_ef rfl rfl (ef_pure (v := .c (.bool true)) (by kernel_rfl) rfl rfl (fun w1 _ => awake16_c) ⟨fun w hw => hw, ?_⟩))
      refine wh_q 1 rfl (by kernel_rfl) rfl rfl rfl (qt_p tbok rfl) (fun w hw => hw) ?_
      refine wh_gd 2 rfl (by kernel_rfl) rfl rfl rfl rfl (qt_load_ag (l := [.i64 n, .slc pa K.length pc]) tbok rfl rfl rfl rfl (rs_lk .here at0)) (fun w hw => hw) ?_
      first | refine wh_gd 4 rfl (by kernel_rfl) rfl rfl rfl rfl (qt_p tbok rfl) (fun w hw => hw) ?_ | refine wh_skip 4 rfl (by kernel_rfl) rfl rfl rfl rfl rfl (fun w hw => hw) ?_
      first | refine wh_gd 5 rfl (by kernel_rfl) rfl rfl rfl rfl (qt_p tbok rfl) (fun w hw => hw) ?_ | refine wh_skip 5 rfl (by kernel_rfl) rfl rfl rfl rfl rfl (fun w hw => hw) ?_
      refine wh_gd 8 rfl (by kernel_rfl) rfl rfl rfl rfl (qt_load_ag (l := [.i64 n, .slc pa K.length pc]) tbok rfl rfl rfl rfl (rs_lk .here at0)) (fun w hw => hw) ?_
      first | refine wh_gd 9 rfl (by kernel_rfl) rfl rfl rfl rfl (qt_p tbok rfl) (fun w hw => hw) ?_ | refine wh_skip 9 rfl (by kernel_rfl) rfl rfl rfl rfl rfl (fun w hw => hw) ?_
      first | refine wh_gd 10 rfl (by kernel_rfl) rfl rfl rfl rfl (qt_p tbok rfl) (fun w hw => hw) ?_ | refine wh_skip 10 rfl (by kernel_rfl) rfl rfl rfl rfl rfl (fun w hw => hw) ?_
      refine wh_one 3 (by kernel_rfl) (wo_efg rfl rfl rfl (ef_fresh (by kernel_rfl) rfl rfl (fun w1 h1 => toRole_c hK (by omega) (cells_rd (rd_cells hc (off _)) h1)) (fun y1 hy1 hk1 => ⟨fun w hw => hw.tail hk1, ?_⟩)))
      refine wh_one 6 (by kernel_rfl) (wo_efg rfl rfl rfl (ef_freshT (I := CpD M) (by kernel_rfl) rfl rfl (fun w1 h1 => toMarks_c hM (by omega) (cells_rd (rd_cells hl (off _)) (h1.tail hk1)) (fun p hpm => ⟨cells_rd (rd_cells (hp p hpm).1 (off _)) (h1.tail hk1), (hp p hpm).2⟩)) (fun z1 hz1 hk2 hT1 => ⟨fun w hw => st_cut ((hw.tail hk2).tail hk1) hT1, ?_⟩)))
      refine wh_one 7 (by kernel_rfl) (wo_efg rfl rfl rfl (ef_pure (v := .c (.i64 (cntK K msg (M.map (·.1)) : Nat))) (by kernel_rfl) rfl rfl (fun w1 h1 => by rw [← hz1.1, ← hz1.2.1]; exact count_c hK (by omega) (cells_own h1 (.there .here)) (cells_rd (rd_cells hm (off _)) (st_cut ((h1.tail hk2).tail hk1) hT1)) hmax (ok_map hz1.2.1 hM) (by rw [hz1.1]; omega) (cells_own h1 .here) (hz1.lies h1 (fun b hb => .there (.there (.there (lk_mem hb)))))) ⟨fun w hw => st_cut ((hw.tail hk2).tail hk1) hT1, ?_⟩))
      refine wh_one 11 (by kernel_rfl) (wo_efg rfl rfl rfl (ef_pure (v := .c (.i64 (cntK K msg (M.map (·.1)) : Nat))) (by kernel_rfl) rfl rfl (fun w1 h1 => by have h9 := st_cut ((h1.tail hk2).tail hk1) hT1; exact count2_c hK (by omega) (cells_rd (rd_cells hc (off _)) h9) (cells_rd (rd_cells hm (off _)) h9) hmax hM (by omega) (cells_rd (rd_cells hl (off _)) h9) (fun p hpm => ⟨cells_rd (rd_cells (hp p hpm).1 (off _)) h9, (hp p hpm).2⟩)) ⟨fun w hw => st_cut ((hw.tail hk2).tail hk1) hT1, ?_⟩))
      first | refine wh_gd 12 rfl (by kernel_rfl) rfl rfl rfl rfl (qt_p tbok rfl) (fun w hw => st_cut ((hw.tail hk2).tail hk1) hT1) ?_ | refine wh_gd 12 rfl (by kernel_rfl) rfl rfl rfl rfl (qt_eqn tbok rfl rfl rfl) (fun w hw => st_cut ((hw.tail hk2).tail hk1) hT1) ?_ | refine wh_skip 12 rfl (by kernel_rfl) rfl rfl rfl rfl rfl (fun w hw => st_cut ((hw.tail hk2).tail hk1) hT1) ?_
      refine wh_as (v' := .c (.bool true)) (congrArg (fun b => V.c (C.bool b)) (decide_eq_true rfl)) ?_
      refine wh_q 13 rfl (by kernel_rfl) rfl rfl rfl (qt_p tbok rfl) (fun w hw => st_cut ((hw.tail hk2).tail hk1) hT1) ?_
      refine wh_q 14 rfl (by kernel_rfl) rfl rfl rfl (qt_p tbok rfl) (fun w hw => st_cut ((hw.tail hk2).tail hk1) hT1) ?_
      refine wh_gd 15 rfl (by kernel_rfl) rfl rfl rfl rfl (qt_load_ag (l := [.i64 n, .slc pa K.length pc]) tbok rfl rfl rfl rfl (rs_lk .here at0)) (fun w hw => st_cut ((hw.tail hk2).tail hk1) hT1) ?_
      first | refine wh_gd 17 rfl (by kernel_rfl) rfl rfl rfl rfl (qt_p tbok rfl) (fun w hw => st_cut ((hw.tail hk2).tail hk1) hT1) ?_ | refine wh_skip 17 rfl (by kernel_rfl) rfl rfl rfl rfl rfl (fun w hw => st_cut ((hw.tail hk2).tail hk1) hT1) ?_
      first | refine wh_gd 18 rfl (by kernel_rfl) rfl rfl rfl rfl (qt_p tbok rfl) (fun w hw => st_cut ((hw.tail hk2).tail hk1) hT1) ?_ | refine wh_skip 18 rfl (by kernel_rfl) rfl rfl rfl rfl rfl (fun w hw => st_cut ((hw.tail hk2).tail hk1) hT1) ?_
      refine wh_gd 21 rfl (by kernel_rfl) rfl rfl rfl rfl (qt_load_ag (l := [.i64 n, .slc pa K.length pc]) tbok rfl rfl rfl rfl (rs_lk .here at0)) (fun w hw => st_cut ((hw.tail hk2).tail hk1) hT1) ?_
      first | refine wh_gd 22 rfl (by kernel_rfl) rfl rfl rfl rfl (qt_p tbok rfl) (fun w hw => st_cut ((hw.tail hk2).tail hk1) hT1) ?_ | refine wh_skip 22 rfl (by kernel_rfl) rfl rfl rfl rfl rfl (fun w hw => st_cut ((hw.tail hk2).tail hk1) hT1) ?_
      first | refine wh_gd 23 rfl (by kernel_rfl) rfl rfl rfl rfl (qt_p tbok rfl) (fun w hw => st_cut ((hw.tail hk2).tail hk1) hT1) ?_ | refine wh_skip 23 rfl (by kernel_rfl) rfl rfl rfl rfl rfl (fun w hw => st_cut ((hw.tail hk2).tail hk1) hT1) ?_
      refine wh_one 16 (by kernel_rfl) (wo_efg rfl rfl rfl (ef_fresh (by kernel_rfl) rfl rfl (fun w1 h1 => toRole_c hK (by omega) (cells_rd (rd_cells hc (off _)) (st_cut ((h1.tail hk2).tail hk1) hT1))) (fun y3 hy3 hk3 => ⟨fun w hw => st_cut (((hw.tail hk3).tail hk2).tail hk1) hT1, ?_⟩)))
      refine wh_one 19 (by kernel_rfl) (wo_efg rfl rfl rfl (ef_freshT (I := CpD M) (by kernel_rfl) rfl rfl (fun w1 h1 => by have h9 := st_cut (((h1.tail hk3).tail hk2).tail hk1) hT1; exact toMarks_c hM (by omega) (cells_rd (rd_cells hl (off _)) h9) (fun p hpm => ⟨cells_rd (rd_cells (hp p hpm).1 (off _)) h9, (hp p hpm).2⟩)) (fun z4 hz4 hk4 hT4 => ⟨fun w hw => st_cut ((((hw.tail hk4).tail hk3).tail hk2).tail hk1) (new_app hT1 hT4), ?_⟩)))
      refine wh_one 20 (by kernel_rfl) (wo_efg rfl rfl rfl (ef_pure (v := .c (.bool (meetsB n K msg (M.map (·.1))))) (by kernel_rfl) rfl rfl (fun w1 h1 => by rw [← hz4.1, ← hz4.2.1]; exact meets_c hK (by omega) (cells_own h1 (.there .here)) (cells_rd (rd_cells hm (off _)) (st_cut ((((h1.tail hk4).tail hk3).tail hk2).tail hk1) (new_app hT1 hT4))) hmax (ok_map hz4.2.1 hM) (by rw [hz4.1]; omega) (cells_own h1 .here) (hz4.lies h1 (fun b hb => .there (.there (.there (.there (.there (lk_mem (List.mem_append.2 (.inr hb)))))))))) ⟨fun w hw => st_cut ((((hw.tail hk4).tail hk3).tail hk2).tail hk1) (new_app hT1 hT4), ?_⟩))
      refine wh_one 24 (by kernel_rfl) (wo_efg rfl rfl rfl (ef_pure (v := .c (.bool (meetsB n K msg (M.map (·.1))))) (by kernel_rfl) rfl rfl (fun w1 h1 => by have h9 := st_cut ((((h1.tail hk4).tail hk3).tail hk2).tail hk1) (new_app hT1 hT4); exact meets2_c hK (by omega) (cells_rd (rd_cells hc (off _)) h9) (cells_rd (rd_cells hm (off _)) h9) hmax hM (by omega) (cells_rd (rd_cells hl (off _)) h9) (fun p hpm => ⟨cells_rd (rd_cells (hp p hpm).1 (off _)) h9, (hp p hpm).2⟩)) ⟨fun w hw => st_cut ((((hw.tail hk4).tail hk3).tail hk2).tail hk1) (new_app hT1 hT4), ?_⟩))
      first | refine wh_gd 25 rfl (by kernel_rfl) rfl rfl rfl rfl (qt_p tbok rfl) (fun w hw => st_cut ((((hw.tail hk4).tail hk3).tail hk2).tail hk1) (new_app hT1 hT4)) ?_ | refine wh_gd 25 rfl (by kernel_rfl) rfl rfl rfl rfl (qt_eqn tbok rfl rfl rfl) (fun w hw => st_cut ((((hw.tail hk4).tail hk3).tail hk2).tail hk1) (new_app hT1 hT4)) ?_ | refine wh_skip 25 rfl (by kernel_rfl) rfl rfl rfl rfl rfl (fun w hw => st_cut ((((hw.tail hk4).tail hk3).tail hk2).tail hk1) (new_app hT1 hT4)) ?_
      refine wh_as (v' := .c (.bool true)) (congrArg (fun b => V.c (C.bool b)) (beq_self_eq_true _)) ?_
      refine wh_q 26 rfl (by kernel_rfl) rfl rfl rfl (qt_p tbok rfl) (fun w hw => st_cut ((((hw.tail hk4).tail hk3).tail hk2).tail hk1) (new_app hT1 hT4)) ?_
      refine wh_q 27 rfl (by kernel_rfl) rfl rfl rfl (qt_p tbok rfl) (fun w hw => st_cut ((((hw.tail hk4).tail hk3).tail hk2).tail hk1) (new_app hT1 hT4)) ?_
      refine wh_done (by kernel_rfl) ?_
      refine nk_code ?_
      refine wc_ret ?_
      try dsimp only
      exact fin1 rfl (rv_tmp rfl) (fun w' hw => ⟨rfl, hw.all (new_cons hk4 (new_cons hk3 (new_cons hk2 (new_cons hk1 (new_cons (newKey hb) (new_app hT1 hT4))))))⟩)
end Go.Proofs.Ytjhmcmadleabjaa
