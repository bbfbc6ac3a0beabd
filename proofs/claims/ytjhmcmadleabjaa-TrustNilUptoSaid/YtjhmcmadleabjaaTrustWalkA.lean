/- The walk of TrustNil: it answers true and leaves what was there. -/
import Derived.Test.YtjhmcmadleabjaaTrustAwake
set_option linter.unusedVariables false
set_option maxRecDepth 100000
namespace Go.Proofs.Ytjhmcmadleabjaa
open Go Go.Hw Go.Proofs

theorem upd_nil_c {w : World} {y : RL} : CallsV Try.prog 56 [.c (.ptr .nil), .agg y.cs, .c (.slc .nil 0 0)] w fun en w' => en = .returned (V.c (.i64 2)).den ∧ St w [] w' := by
  refine calls_in (tb := tb) (fn := Try.f56) Try.func56 rfl rfl rfl [(0, .c (.ptr .nil)), (1, .agg y.cs), (2, .c (.slc .nil 0 0))] rfl [] (St.refl _) ?_
  refine wc_seq ?_
  refine wc_region ?_
  refine wl_ef rfl (ef_box rfl rfl rfl (fun b hb => ?_))
  refine wl_q rfl rfl rfl (qt_p tbok rfl) ?_
  refine wl_done ?_
  refine nk_code ?_
  refine wc_seq ?_
  refine wc_seq ?_
  refine wc_region ?_
  refine wl_q rfl rfl rfl (qt_p tbok rfl) ?_
  first | refine wl_q rfl rfl rfl (qt_p tbok rfl) ?_ | refine wl_q rfl rfl rfl (qt_eqn tbok rfl rfl rfl) ?_
  refine wl_done ?_
  refine nk_code ?_
  refine wc_yes rfl ?_
  refine wc_seq ?_
  refine wc_region ?_
  refine wl_q rfl rfl rfl (qt_p tbok rfl) ?_
  refine wl_done ?_
  refine nk_code ?_
  refine wc_ret ?_
  try dsimp only
  exact fin1 rfl (rv_tmp rfl) (fun w' hw => ⟨rfl, hw.tail (newKey hb)⟩)
abbrev yN : RL := ⟨0, 0, (⟨0, []⟩, .nil, 0, []), (⟨0, []⟩, .nil, 0, []), (⟨0, []⟩, .nil, 0, [])⟩
theorem yN_ok : yN.ok := ⟨⟨(fun k h => by cases h), Nat.zero_le _⟩, ⟨(fun k h => by cases h), Nat.zero_le _⟩, ⟨(fun k h => by cases h), Nat.zero_le _⟩⟩
theorem yN_lies (w : World) : yN.lies w := ⟨cells_none, cells_none, cells_none⟩

theorem trustNil_c {w : World} {y : RL} {now : Int} (hk : y.ok) (hl : y.lies w) :
    CallsV Try.prog 14 [.agg y.cs, .c (.i64 now)] w fun en w' => en = .returned (V.c (.bool true)).den ∧ St w [] w' := by
  have hxk : y.x.r.ok ∧ y.x.t.ok ∧ y.x.l.ok := hk
  refine calls_in (tb := tb) (fn := Try.f14) Try.func14 rfl rfl rfl [(0, .agg y.cs), (1, .c (.i64 now))] rfl [] (St.refl _) ?_
  refine wc_seq ?_
  refine wc_region ?_
  refine wl_ef rfl (ef_box rfl rfl rfl (fun b hb => ?_))
  refine wl_q rfl rfl rfl (qt_p tbok rfl) ?_
  refine wl_done ?_
  refine nk_code ?_
  refine wc_seq ?_
  refine wc_region ?_
  refine wl_q rfl rfl rfl (qt_p tbok rfl) ?_
  refine wl_done ?_
  refine nk_code ?_
  refine wc_seq ?_
  refine wc_region ?_
  refine wl_q rfl rfl rfl (qt_load_ag (l := y.cs) tbok rfl rfl rfl rfl (rs_lk .here at0)) ?_
  refine wl_ef rfl (ef_freshL (B := fun z : RL => rbs 32 z) (I := fun z : RL => z.x = y.x ∧ z.own) (v := fun z : RL => .agg z.cs) (by kernel_rfl) rfl rfl (fun w1 g1 => toRoot_c hk (hl.up (fun ad => off_new (newKey hb) off_nil) g1)) (fun z hz hzk => ?_))
  dsimp only [rbs, List.cons_append, List.nil_append]
  refine wl_ef rfl (ef_alloc zero92 rfl rfl (fun o6 b6 => ?_))
  refine wl_ef rfl (ef_store (cs' := z.cs) tbok rfl rfl rfl rfl .here rfl (Nat.le_of_ble_eq_true rfl) rfl ?_)
  refine wl_done ?_
  refine nk_code ?_
  refine wc_seq ?_
  refine wc_region ?_
  refine wl_q rfl rfl rfl (qt_p tbok rfl) ?_
  refine wl_ef rfl (ef_pure (v := .agg z8) (by kernel_rfl) rfl rfl (fun w1 g1 => root_nil_c) ?_)
  refine wl_ef rfl (ef_alloc zero92 rfl rfl (fun o7 b7 => ?_))
  refine wl_ef rfl (ef_store (cs' := z8) tbok rfl rfl rfl rfl .here rfl (Nat.le_of_ble_eq_true rfl) rfl ?_)
  refine wl_done ?_
  refine nk_code ?_
  refine wc_seq ?_
  by_cases hr : rootB y.x = true
  · refine wc_region ?_
    have hzy : z.ok := ok_ofx hz.1 hxk
    refine wl_q rfl rfl rfl (qt_load_ag (l := z.cs) tbok rfl rfl rfl rfl (rs_lk (.there .here) at0)) ?_
    refine wl_ef rfl (ef_pure (v := .t2 (.c (.ptr .nil)) (.c (.i64 161))) (by kernel_rfl) rfl rfl (fun w1 g1 => by exact new_few_c (y := z) (M := []) (la := .nil) (lc := 0) hzy hz.2.pl (RL.lies_own (T := 32) g1 (.there (.there (.there (.there .here)))) (.there (.there (.there .here))) (.there (.there .here))) (fun x hx => by cases hx) (by decide) cells_none (fun x hx => by cases hx) (hz.1 ▸ hr) (meets_none _ _ _)) ?_)
    refine wl_q rfl rfl rfl (qt_p tbok rfl) ?_
    refine wl_q rfl rfl rfl (qt_p tbok rfl) ?_
    refine wl_q rfl rfl rfl (qt_p tbok rfl) ?_
    refine wl_q rfl rfl rfl (qt_p tbok rfl) ?_
    refine wl_q rfl rfl rfl (qt_p tbok rfl) ?_
    refine wl_done ?_
    refine nk_code ?_
    refine wc_seq ?_
    refine wc_seq ?_
    refine wc_region ?_
    refine wl_q rfl rfl rfl (qt_p tbok rfl) ?_
    refine wl_q rfl rfl rfl (qt_p tbok rfl) ?_
    refine wl_q rfl rfl rfl (qt_load (c := .slc y.r.2.1 y.r.1.K.length y.r.2.2.1) tbok rfl rfl rfl (rc_lk (.there (.there (.there (.there (.there .here))))) rfl)) ?_
    refine wl_q rfl rfl rfl (qt_len tbok rfl rfl) ?_
    refine wl_q rfl rfl rfl (qt_p tbok rfl) ?_
    refine wl_as (v' := .c (.bool false)) (congrArg (fun b => V.c (C.bool b)) (decide_eq_false (by have h16 : y.r.1.K.length ≤ 16 := rt_small (rootB_roles hr).1; omega))) ?_
    refine wl_done ?_
    refine nk_code ?_
    refine wc_no rfl ?_
    refine wc_skip ?_
    refine nk_code ?_
    refine wc_seq ?_
    refine wc_region ?_
    refine wl_ef rfl (ef_pure (v := .c (.bool true)) (by kernel_rfl) rfl rfl (fun w1 g1 => awake17_c) ?_)
    refine wl_q rfl rfl rfl (qt_p tbok rfl) ?_
    first | refine wl_g rfl rfl rfl rfl (qt_p tbok rfl) ?_ | refine wl_skip rfl rfl rfl rfl rfl ?_
    first | refine wl_g rfl rfl rfl rfl (qt_p tbok rfl) ?_ | refine wl_g rfl rfl rfl rfl (qt_eqn tbok rfl rfl rfl) ?_ | refine wl_skip rfl rfl rfl rfl rfl ?_
    refine wl_q rfl rfl rfl (qt_p tbok rfl) ?_
    refine wl_q rfl rfl rfl (qt_p tbok rfl) ?_
    first | refine wl_g rfl rfl rfl rfl (qt_p tbok rfl) ?_ | refine wl_skip rfl rfl rfl rfl rfl ?_
    first | refine wl_g rfl rfl rfl rfl (qt_p tbok rfl) ?_ | refine wl_g rfl rfl rfl rfl (qt_eqn tbok rfl rfl rfl) ?_ | refine wl_skip rfl rfl rfl rfl rfl ?_
    first | refine wl_g rfl rfl rfl rfl (qt_p tbok rfl) ?_ | refine wl_skip rfl rfl rfl rfl rfl ?_
    refine wl_g rfl rfl rfl rfl (qt_load_ag (l := y.cs) tbok rfl rfl rfl rfl (rs_lk (.there (.there (.there (.there (.there .here))))) at0)) ?_
    refine wl_gd rfl rfl (ef_pure (v := .c (.bool true)) (by kernel_rfl) rfl rfl (fun w1 g1 => by have := rightRoot2_c hk (hl.up (fun ad => off_new (newKey b7) (off_new (newKey b6) (off_new (hzk _ (.head _)) (off_new (hzk _ (.tail _ (.head _))) (off_new (hzk _ (.tail _ (.tail _ (.head _)))) (off_new (newKey hb) off_nil)))))) g1); rwa [hr] at this) ?_)
    first | refine wl_g rfl rfl rfl rfl (qt_p tbok rfl) ?_ | refine wl_skip rfl rfl rfl rfl rfl ?_
    first | refine wl_g rfl rfl rfl rfl (qt_p tbok rfl) ?_ | refine wl_skip rfl rfl rfl rfl rfl ?_
    first | refine wl_g rfl rfl rfl rfl (qt_p tbok rfl) ?_ | refine wl_skip rfl rfl rfl rfl rfl ?_
    first | refine wl_g rfl rfl rfl rfl (qt_p tbok rfl) ?_ | refine wl_g rfl rfl rfl rfl (qt_eqn tbok rfl rfl rfl) ?_ | refine wl_skip rfl rfl rfl rfl rfl ?_
    first | refine wl_g rfl rfl rfl rfl (qt_p tbok rfl) ?_ | refine wl_skip rfl rfl rfl rfl rfl ?_
    refine wl_skip0 rfl rfl rfl rfl ?_
    refine wl_skip0 rfl rfl rfl rfl ?_
    refine wl_skip0 rfl rfl rfl rfl ?_
    first | refine wl_g rfl rfl rfl rfl (qt_p tbok rfl) ?_ | refine wl_skip rfl rfl rfl rfl rfl ?_
    first | refine wl_g rfl rfl rfl rfl (qt_p tbok rfl) ?_ | refine wl_skip rfl rfl rfl rfl rfl ?_
    refine wl_q rfl rfl rfl (qt_p tbok rfl) ?_
    refine wl_q rfl rfl rfl (qt_p tbok rfl) ?_
    first | refine wl_g rfl rfl rfl rfl (qt_p tbok rfl) ?_ | refine wl_skip rfl rfl rfl rfl rfl ?_
    refine wl_g rfl rfl rfl rfl (qt_load_ag (l := z.cs) tbok rfl rfl rfl rfl (rs_lk (.there .here) at0)) ?_
    refine wl_gd rfl rfl (ef_pure (v := .c (.i64 2)) (by kernel_rfl) rfl rfl (fun w1 g1 => upd_nil_c) ?_)
    first | refine wl_g rfl rfl rfl rfl (qt_p tbok rfl) ?_ | refine wl_g rfl rfl rfl rfl (qt_eqn tbok rfl rfl rfl) ?_ | refine wl_skip rfl rfl rfl rfl rfl ?_
    refine wl_q rfl rfl rfl (qt_p tbok rfl) ?_
    refine wl_q rfl rfl rfl (qt_p tbok rfl) ?_
    first | refine wl_g rfl rfl rfl rfl (qt_p tbok rfl) ?_ | refine wl_skip rfl rfl rfl rfl rfl ?_
    first | refine wl_g rfl rfl rfl rfl (qt_p tbok rfl) ?_ | refine wl_skip rfl rfl rfl rfl rfl ?_
    refine wl_gd rfl rfl (ef_pure (v := .c (.i64 2)) (by kernel_rfl) rfl rfl (fun w1 g1 => tag_nil_c rfl) ?_)
    first | refine wl_g rfl rfl rfl rfl (qt_p tbok rfl) ?_ | refine wl_g rfl rfl rfl rfl (qt_eqn tbok rfl rfl rfl) ?_ | refine wl_skip rfl rfl rfl rfl rfl ?_
    refine wl_q rfl rfl rfl (qt_p tbok rfl) ?_
    refine wl_q rfl rfl rfl (qt_p tbok rfl) ?_
    first | refine wl_g rfl rfl rfl rfl (qt_p tbok rfl) ?_ | refine wl_skip rfl rfl rfl rfl rfl ?_
    first | refine wl_g rfl rfl rfl rfl (qt_p tbok rfl) ?_ | refine wl_skip rfl rfl rfl rfl rfl ?_
    refine wl_gd rfl rfl (ef_pure (v := .c (.i64 2)) (by kernel_rfl) rfl rfl (fun w1 g1 => head_nil_c rfl) ?_)
    first | refine wl_g rfl rfl rfl rfl (qt_p tbok rfl) ?_ | refine wl_g rfl rfl rfl rfl (qt_eqn tbok rfl rfl rfl) ?_ | refine wl_skip rfl rfl rfl rfl rfl ?_
    refine wl_q rfl rfl rfl (qt_p tbok rfl) ?_
    refine wl_q rfl rfl rfl (qt_p tbok rfl) ?_
    refine wl_g rfl rfl rfl rfl (qt_load_ag (l := z8) tbok rfl rfl rfl rfl (rs_lk .here at0)) ?_
    refine wl_gd rfl rfl (ef_freshL (B := fun z : RL => rbs 24 z) (I := fun z : RL => z.x = yN.x ∧ z.own) (v := fun z : RL => .agg z.cs) (by kernel_rfl) rfl rfl (fun w1 g1 => by exact fromRoot_c yN_ok (yN_lies _)) (fun z2 hz2 hz2k => ?_))
    dsimp only [rbs, List.cons_append, List.nil_append]
    refine wl_g rfl rfl rfl rfl (qt_build (vs := []) (l := z8) tbok rfl zero88 rfl rfl) ?_
    refine wl_gd rfl rfl (ef_pure (v := .c (.bool (sameRx yN.x yN.x))) (by kernel_rfl) rfl rfl (fun w1 g1 => by have h8 := sameRoot_c (x := z2) (y := yN) (ok_ofx hz2.1 yN_ok) yN_ok (RL.lies_own (T := 24) g1 (.there (.there .here)) (.there .here) .here) (yN_lies _); rw [hz2.1] at h8; exact h8) ?_)
    refine wl_as (v' := .c (.bool true)) (congrArg (fun b => V.c (C.bool b)) (sameRx_refl _)) ?_
    refine wl_q rfl rfl rfl (qt_p tbok rfl) ?_
    refine wl_q rfl rfl rfl (qt_p tbok rfl) ?_
    refine wl_done ?_
    refine nk_code ?_
    refine wc_ret ?_
    try dsimp only
    exact fin1 rfl (rv_tmp rfl) (fun w' hw => ⟨rfl, hw.all (new_app hz2k (new_cons (newKey b7) (new_cons (newKey b6) (new_cons (hzk _ (.head _)) (new_cons (hzk _ (.tail _ (.head _))) (new_cons (hzk _ (.tail _ (.tail _ (.head _)))) (new_cons (newKey hb) new_nil)))))))⟩)
  · refine wc_region ?_
    have hzy : z.ok := ok_ofx hz.1 hxk
    refine wl_q rfl rfl rfl (qt_load_ag (l := z.cs) tbok rfl rfl rfl rfl (rs_lk (.there .here) at0)) ?_
    refine wl_ef rfl (ef_pure (v := .t2 (.c (.ptr .nil)) (.c (.i64 160))) (by kernel_rfl) rfl rfl (fun w1 g1 => by exact new_bad_c (y := z) (M := []) (la := .nil) (lc := 0) hzy hz.2.pl (RL.lies_own (T := 32) g1 (.there (.there (.there (.there .here)))) (.there (.there (.there .here))) (.there (.there .here))) (fun x hx => by cases hx) (by decide) cells_none (fun x hx => by cases hx) (by rw [hz.1]; exact (Bool.not_eq_true _).mp hr)) ?_)
    refine wl_q rfl rfl rfl (qt_p tbok rfl) ?_
    refine wl_q rfl rfl rfl (qt_p tbok rfl) ?_
    refine wl_q rfl rfl rfl (qt_p tbok rfl) ?_
    refine wl_q rfl rfl rfl (qt_p tbok rfl) ?_
    refine wl_q rfl rfl rfl (qt_p tbok rfl) ?_
    refine wl_done ?_
    refine nk_code ?_
    refine wc_seq ?_
    refine wc_seq ?_
    refine wc_region ?_
    refine wl_q rfl rfl rfl (qt_p tbok rfl) ?_
    refine wl_q rfl rfl rfl (qt_p tbok rfl) ?_
    refine wl_q rfl rfl rfl (qt_load (c := .slc y.r.2.1 y.r.1.K.length y.r.2.2.1) tbok rfl rfl rfl (rc_lk (.there (.there (.there (.there (.there .here))))) rfl)) ?_
    refine wl_q rfl rfl rfl (qt_len tbok rfl rfl) ?_
    refine wl_q rfl rfl rfl (qt_p tbok rfl) ?_
    refine wl_done ?_
    refine nk_code ?_
    refine wc_cond rfl (fun h23 => ?_) (fun h23 => ?_)
    · refine wc_seq ?_
      refine wc_region ?_
      refine wl_ef rfl (ef_pure (v := .c (.bool true)) (by kernel_rfl) rfl rfl (fun w1 g1 => awake17_c) ?_)
      refine wl_q rfl rfl rfl (qt_p tbok rfl) ?_
      first | refine wl_g rfl rfl rfl rfl (qt_p tbok rfl) ?_ | refine wl_skip rfl rfl rfl rfl rfl ?_
      first | refine wl_g rfl rfl rfl rfl (qt_p tbok rfl) ?_ | refine wl_g rfl rfl rfl rfl (qt_eqn tbok rfl rfl rfl) ?_ | refine wl_skip rfl rfl rfl rfl rfl ?_
      refine wl_q rfl rfl rfl (qt_p tbok rfl) ?_
      refine wl_q rfl rfl rfl (qt_p tbok rfl) ?_
      first | refine wl_g rfl rfl rfl rfl (qt_p tbok rfl) ?_ | refine wl_skip rfl rfl rfl rfl rfl ?_
      first | refine wl_g rfl rfl rfl rfl (qt_p tbok rfl) ?_ | refine wl_g rfl rfl rfl rfl (qt_eqn tbok rfl rfl rfl) ?_ | refine wl_skip rfl rfl rfl rfl rfl ?_
      refine wl_q rfl rfl rfl (qt_p tbok rfl) ?_
      refine wl_q rfl rfl rfl (qt_p tbok rfl) ?_
      refine wl_done ?_
      refine nk_code ?_
      refine wc_ret ?_
      try dsimp only
      exact fin1 rfl (rv_tmp rfl) (fun w' hw => ⟨rfl, hw.all (new_cons (newKey b7) (new_cons (newKey b6) (new_cons (hzk _ (.head _)) (new_cons (hzk _ (.tail _ (.head _))) (new_cons (hzk _ (.tail _ (.tail _ (.head _)))) (new_cons (newKey hb) new_nil))))))⟩)
    · refine wc_skip ?_
      refine nk_code ?_
      refine wc_seq ?_
      refine wc_region ?_
      refine wl_ef rfl (ef_pure (v := .c (.bool true)) (by kernel_rfl) rfl rfl (fun w1 g1 => awake17_c) ?_)
      refine wl_q rfl rfl rfl (qt_p tbok rfl) ?_
      first | refine wl_g rfl rfl rfl rfl (qt_p tbok rfl) ?_ | refine wl_skip rfl rfl rfl rfl rfl ?_
      first | refine wl_g rfl rfl rfl rfl (qt_p tbok rfl) ?_ | refine wl_g rfl rfl rfl rfl (qt_eqn tbok rfl rfl rfl) ?_ | refine wl_skip rfl rfl rfl rfl rfl ?_
      refine wl_q rfl rfl rfl (qt_p tbok rfl) ?_
      refine wl_q rfl rfl rfl (qt_p tbok rfl) ?_
      first | refine wl_g rfl rfl rfl rfl (qt_p tbok rfl) ?_ | refine wl_skip rfl rfl rfl rfl rfl ?_
      first | refine wl_g rfl rfl rfl rfl (qt_p tbok rfl) ?_ | refine wl_g rfl rfl rfl rfl (qt_eqn tbok rfl rfl rfl) ?_ | refine wl_skip rfl rfl rfl rfl rfl ?_
      first | refine wl_g rfl rfl rfl rfl (qt_p tbok rfl) ?_ | refine wl_skip rfl rfl rfl rfl rfl ?_
      refine wl_skip rfl rfl rfl rfl rfl ?_
      refine wl_skip rfl rfl rfl rfl rfl ?_
      first | refine wl_g rfl rfl rfl rfl (qt_p tbok rfl) ?_ | refine wl_skip rfl rfl rfl rfl rfl ?_
      first | refine wl_g rfl rfl rfl rfl (qt_p tbok rfl) ?_ | refine wl_skip rfl rfl rfl rfl rfl ?_
      first | refine wl_g rfl rfl rfl rfl (qt_p tbok rfl) ?_ | refine wl_skip rfl rfl rfl rfl rfl ?_
      first | refine wl_g rfl rfl rfl rfl (qt_p tbok rfl) ?_ | refine wl_g rfl rfl rfl rfl (qt_eqn tbok rfl rfl rfl) ?_ | refine wl_skip rfl rfl rfl rfl rfl ?_
      first | refine wl_g rfl rfl rfl rfl (qt_p tbok rfl) ?_ | refine wl_skip rfl rfl rfl rfl rfl ?_
      refine wl_g rfl rfl rfl rfl (qt_load_ag (l := y.cs) tbok rfl rfl rfl rfl (rs_lk (.there (.there (.there (.there (.there .here))))) at0)) ?_
      refine wl_gd rfl rfl (ef_pure (v := .c (.bool false)) (by kernel_rfl) rfl rfl (fun w1 g1 => by have := rightRoot2_c hk (hl.up (fun ad => off_new (newKey b7) (off_new (newKey b6) (off_new (hzk _ (.head _)) (off_new (hzk _ (.tail _ (.head _))) (off_new (hzk _ (.tail _ (.tail _ (.head _)))) (off_new (newKey hb) off_nil)))))) g1); rwa [(Bool.not_eq_true _).mp hr] at this) ?_)
      first | refine wl_g rfl rfl rfl rfl (qt_p tbok rfl) ?_ | refine wl_skip rfl rfl rfl rfl rfl ?_
      first | refine wl_g rfl rfl rfl rfl (qt_p tbok rfl) ?_ | refine wl_skip rfl rfl rfl rfl rfl ?_
      first | refine wl_g rfl rfl rfl rfl (qt_p tbok rfl) ?_ | refine wl_skip rfl rfl rfl rfl rfl ?_
      refine wl_q rfl rfl rfl (qt_p tbok rfl) ?_
      refine wl_q rfl rfl rfl (qt_p tbok rfl) ?_
      first | refine wl_g rfl rfl rfl rfl (qt_p tbok rfl) ?_ | refine wl_skip rfl rfl rfl rfl rfl ?_
      refine wl_g rfl rfl rfl rfl (qt_load_ag (l := z.cs) tbok rfl rfl rfl rfl (rs_lk (.there .here) at0)) ?_
      refine wl_gd rfl rfl (ef_pure (v := .c (.i64 2)) (by kernel_rfl) rfl rfl (fun w1 g1 => upd_nil_c) ?_)
      first | refine wl_g rfl rfl rfl rfl (qt_p tbok rfl) ?_ | refine wl_g rfl rfl rfl rfl (qt_eqn tbok rfl rfl rfl) ?_ | refine wl_skip rfl rfl rfl rfl rfl ?_
      refine wl_q rfl rfl rfl (qt_p tbok rfl) ?_
      refine wl_q rfl rfl rfl (qt_p tbok rfl) ?_
      first | refine wl_g rfl rfl rfl rfl (qt_p tbok rfl) ?_ | refine wl_skip rfl rfl rfl rfl rfl ?_
      first | refine wl_g rfl rfl rfl rfl (qt_p tbok rfl) ?_ | refine wl_skip rfl rfl rfl rfl rfl ?_
      refine wl_gd rfl rfl (ef_pure (v := .c (.i64 2)) (by kernel_rfl) rfl rfl (fun w1 g1 => tag_nil_c rfl) ?_)
      first | refine wl_g rfl rfl rfl rfl (qt_p tbok rfl) ?_ | refine wl_g rfl rfl rfl rfl (qt_eqn tbok rfl rfl rfl) ?_ | refine wl_skip rfl rfl rfl rfl rfl ?_
      refine wl_q rfl rfl rfl (qt_p tbok rfl) ?_
      refine wl_q rfl rfl rfl (qt_p tbok rfl) ?_
      first | refine wl_g rfl rfl rfl rfl (qt_p tbok rfl) ?_ | refine wl_skip rfl rfl rfl rfl rfl ?_
      first | refine wl_g rfl rfl rfl rfl (qt_p tbok rfl) ?_ | refine wl_skip rfl rfl rfl rfl rfl ?_
      refine wl_gd rfl rfl (ef_pure (v := .c (.i64 2)) (by kernel_rfl) rfl rfl (fun w1 g1 => head_nil_c rfl) ?_)
      first | refine wl_g rfl rfl rfl rfl (qt_p tbok rfl) ?_ | refine wl_g rfl rfl rfl rfl (qt_eqn tbok rfl rfl rfl) ?_ | refine wl_skip rfl rfl rfl rfl rfl ?_
      refine wl_q rfl rfl rfl (qt_p tbok rfl) ?_
      refine wl_q rfl rfl rfl (qt_p tbok rfl) ?_
      refine wl_g rfl rfl rfl rfl (qt_load_ag (l := z8) tbok rfl rfl rfl rfl (rs_lk .here at0)) ?_
      refine wl_gd rfl rfl (ef_freshL (B := fun z : RL => rbs 24 z) (I := fun z : RL => z.x = yN.x ∧ z.own) (v := fun z : RL => .agg z.cs) (by kernel_rfl) rfl rfl (fun w1 g1 => by exact fromRoot_c yN_ok (yN_lies _)) (fun z2 hz2 hz2k => ?_))
      dsimp only [rbs, List.cons_append, List.nil_append]
      refine wl_g rfl rfl rfl rfl (qt_build (vs := []) (l := z8) tbok rfl zero88 rfl rfl) ?_
      refine wl_gd rfl rfl (ef_pure (v := .c (.bool (sameRx yN.x yN.x))) (by kernel_rfl) rfl rfl (fun w1 g1 => by have h8 := sameRoot_c (x := z2) (y := yN) (ok_ofx hz2.1 yN_ok) yN_ok (RL.lies_own (T := 24) g1 (.there (.there .here)) (.there .here) .here) (yN_lies _); rw [hz2.1] at h8; exact h8) ?_)
      refine wl_as (v' := .c (.bool true)) (congrArg (fun b => V.c (C.bool b)) (sameRx_refl _)) ?_
      refine wl_q rfl rfl rfl (qt_p tbok rfl) ?_
      refine wl_q rfl rfl rfl (qt_p tbok rfl) ?_
      refine wl_done ?_
      refine nk_code ?_
      refine wc_ret ?_
      try dsimp only
      exact fin1 rfl (rv_tmp rfl) (fun w' hw => ⟨rfl, hw.all (new_app hz2k (new_cons (newKey b7) (new_cons (newKey b6) (new_cons (hzk _ (.head _)) (new_cons (hzk _ (.tail _ (.head _))) (new_cons (hzk _ (.tail _ (.tail _ (.head _)))) (new_cons (newKey hb) new_nil)))))))⟩)
end Go.Proofs.Ytjhmcmadleabjaa
