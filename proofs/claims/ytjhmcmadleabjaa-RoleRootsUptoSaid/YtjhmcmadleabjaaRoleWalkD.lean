/- The walk of RoleRoots: it answers true and leaves what was there. -/
import Derived.Test.YtjhmcmadleabjaaRoleAwake
import Derived.Test.YtjhmcmadleabjaaRootsRead
set_option linter.unusedVariables false
set_option maxRecDepth 100000
namespace Go.Proofs.Ytjhmcmadleabjaa
open Go Go.Hw Go.Proofs

theorem ok_of {z : RL} {x : Rx} (h : z.x = x) (hx : x.r.ok ∧ x.t.ok ∧ x.l.ok) : z.ok := by subst h; exact hx
theorem decX_ok (b : List UInt8) : (decX b).r.ok ∧ (decX b).t.ok ∧ (decX b).l.ok := by
  unfold decX
  split
  · exact decR_ok b
  · exact ⟨⟨(fun k hk => by cases hk), Nat.zero_le _⟩, ⟨(fun k hk => by cases hk), Nat.zero_le _⟩, ⟨(fun k hk => by cases hk), Nat.zero_le _⟩⟩
theorem xor_self' (a : Bool) : (!(a == a)) = false := by rw [beq_self_eq_true]; rfl
theorem encR_len {y : RL} (hk : y.ok) : (encR y.x).length ≤ 1700 := by
  unfold encR
  split
  · rename_i h; exact (enc_len hk h).1
  · exact Nat.zero_le _
/-- The world's part that the call told of a root's places. -/
theorem three_tail {w0 w : World} {T : Nat} {z : RL} {s : Hp} (h : St w0 (rob T z.l :: rob T z.t :: rob T z.r :: s) w) (hn : ∀ p ∈ rbs T z, ∀ k, p.key = some k → w0.heap.size ≤ k) : St w0 s w :=
  ((h.tail (hn _ (.head _))).tail (hn _ (.tail _ (.head _)))).tail (hn _ (.tail _ (.tail _ (.head _))))

set_option maxHeartbeats 2000000 in
theorem roleRoots_c {w : World} {y : RL} {B : List UInt8} {ba : Ad} {bcap : Nat} (hk : y.ok) (hl : y.lies w) (hc : Cells w ba (bc B)) (hBl : B.length ≤ 1073741824) (hcap : B.length ≤ bcap) :
    CallsV Try.prog 11 [.agg y.cs, .c (.slc ba B.length bcap)] w fun en w' => en = .returned (V.c (.bool true)).den ∧ St w [] w' := by
  have hxk : y.x.r.ok ∧ y.x.t.ok ∧ y.x.l.ok := hk
  have hel := encR_len hk
  refine calls_in (tb := tb) (fn := Try.f11) Try.func11 rfl rfl rfl [(0, .agg y.cs), (1, .c (.slc ba B.length bcap))] rfl [] (St.refl _) ?_
  refine wc_seq ?_
  refine wc_region ?_
  refine wl_ef rfl (ef_box rfl rfl rfl (fun b hb => ?_))
  refine wl_q rfl rfl rfl (qt_p tbok rfl) ?_
  refine wl_done ?_
  refine nk_code ?_
  refine wc_seq ?_
  refine wc_region ?_
  refine wl_q rfl rfl rfl (qt_load_ag (l := y.cs) tbok rfl rfl rfl rfl (rs_lk .here at0)) ?_
  refine wl_ef rfl (ef_freshL (B := fun z : RL => rbs 32 z) (I := fun z : RL => z.x = y.x ∧ z.own) (v := fun z : RL => .agg z.cs) (by kernel_rfl) rfl rfl (fun w1 g1 => toRoot_c hk (hl.up (fun ad => off_new (newKey hb) off_nil) g1)) (fun z1 hz1 hz1k => ?_))
  dsimp only [rbs, List.cons_append, List.nil_append]
  refine wl_ef rfl (ef_fresh (b := fun z : Os => ob (encR y.x) z) (I := fun z : Os => Oi (encR y.x) z) (v := fun z : Os => .t2 (.c (.slc z.1 (encR y.x).length z.2.1)) (.c (.i64 (encE y.x)))) (by kernel_rfl) rfl rfl (fun w1 g1 => by rw [← hz1.1]; exact encode_c (ok_of hz1.1 hxk) (RL.lies_own (T := 32) g1 (.there (.there .here)) (.there .here) .here)) (fun e1 he1 he1k => ?_))
  refine wl_q rfl rfl rfl (qt_p tbok rfl) ?_
  refine wl_q rfl rfl rfl (qt_p tbok rfl) ?_
  refine wl_q rfl rfl rfl (qt_p tbok rfl) ?_
  refine wl_q rfl rfl rfl (qt_p tbok rfl) ?_
  refine wl_q rfl rfl rfl (qt_p tbok rfl) ?_
  refine wl_done ?_
  refine nk_code ?_
  refine wc_seq ?_
  refine wc_region ?_
  refine wl_q rfl rfl rfl (qt_load_ag (l := y.cs) tbok rfl rfl rfl rfl (rs_lk (.there (.there (.there (.there .here)))) at0)) ?_
  refine wl_ef rfl (ef_fresh (b := fun z : Os => ob (encR y.x) z) (I := fun z : Os => Oi (encR y.x) z) (v := fun z : Os => .t2 (.c (.slc z.1 (encR y.x).length z.2.1)) (.c (.i64 (encE y.x)))) (by kernel_rfl) rfl rfl (fun w1 g1 => encode2_c hk (hl.up (fun ad => (off_new he1k (off_new (hz1k _ (.head _)) (off_new (hz1k _ (.tail _ (.head _))) (off_new (hz1k _ (.tail _ (.tail _ (.head _)))) (off_new (newKey hb) off_nil)))))) g1)) (fun e2 he2 he2k => ?_))
  refine wl_q rfl rfl rfl (qt_p tbok rfl) ?_
  refine wl_q rfl rfl rfl (qt_p tbok rfl) ?_
  refine wl_q rfl rfl rfl (qt_p tbok rfl) ?_
  refine wl_q rfl rfl rfl (qt_p tbok rfl) ?_
  refine wl_q rfl rfl rfl (qt_p tbok rfl) ?_
  refine wl_done ?_
  refine nk_code ?_
  refine wc_seq ?_
  refine wc_region ?_
  refine wl_q rfl rfl rfl (qt_p tbok rfl) ?_
  refine wl_ef rfl (ef_freshL (B := fun z : RL => rbs 32 z) (I := fun z : RL => z.x = decX B ∧ z.own) (v := fun z : RL => .t2 (.agg z.cs) (.c (.i64 (decE B)))) (by kernel_rfl) rfl rfl (fun w1 g1 => decode_c (cells_rd (rd_cells hc (off_new he2k (off_new he1k (off_new (hz1k _ (.head _)) (off_new (hz1k _ (.tail _ (.head _))) (off_new (hz1k _ (.tail _ (.tail _ (.head _)))) (off_new (newKey hb) off_nil))))))) g1) hBl hcap) (fun z3 hz3 hz3k => ?_))
  dsimp only [rbs, List.cons_append, List.nil_append]
  refine wl_q rfl rfl rfl (qt_p tbok rfl) ?_
  refine wl_q rfl rfl rfl (qt_p tbok rfl) ?_
  refine wl_q rfl rfl rfl (qt_p tbok rfl) ?_
  refine wl_ef rfl (ef_alloc zero92 rfl rfl (fun x9 h9 => ?_))
  refine wl_ef rfl (ef_store (cs' := z3.cs) tbok rfl rfl rfl rfl .here rfl (Nat.le_of_ble_eq_true rfl) rfl ?_)
  refine wl_q rfl rfl rfl (qt_p tbok rfl) ?_
  refine wl_done ?_
  refine nk_code ?_
  refine wc_seq ?_
  refine wc_region ?_
  refine wl_q rfl rfl rfl (qt_p tbok rfl) ?_
  refine wl_ef rfl (ef_freshL (B := fun z : RL => rbs 24 z) (I := fun z : RL => z.x = decX B ∧ z.own) (v := fun z : RL => .t2 (.agg z.cs) (.c (.i64 (decE B)))) (by kernel_rfl) rfl rfl (fun w1 g1 => decode2_c (cells_rd (rd_cells hc (off_new (newKey h9) (off_new (hz3k _ (.head _)) (off_new (hz3k _ (.tail _ (.head _))) (off_new (hz3k _ (.tail _ (.tail _ (.head _)))) (off_new he2k (off_new he1k (off_new (hz1k _ (.head _)) (off_new (hz1k _ (.tail _ (.head _))) (off_new (hz1k _ (.tail _ (.tail _ (.head _)))) (off_new (newKey hb) off_nil))))))))))) g1) hBl hcap) (fun z4 hz4 hz4k => ?_))
  dsimp only [rbs, List.cons_append, List.nil_append]
  refine wl_q rfl rfl rfl (qt_p tbok rfl) ?_
  refine wl_q rfl rfl rfl (qt_p tbok rfl) ?_
  refine wl_q rfl rfl rfl (qt_p tbok rfl) ?_
  refine wl_ef rfl (ef_alloc zero88 rfl rfl (fun x11 h11 => ?_))
  refine wl_ef rfl (ef_store (cs' := z4.cs) tbok rfl rfl rfl rfl .here rfl (Nat.le_of_ble_eq_true rfl) rfl ?_)
  refine wl_q rfl rfl rfl (qt_p tbok rfl) ?_
  refine wl_done ?_
  refine nk_code ?_
  refine wc_seq ?_
  refine wc_seq ?_
  refine wc_draw (s0 := ⟨.at x11 0, z4.cs, 88, (0, 0), []⟩ :: rob 24 z4.l :: rob 24 z4.t :: rob 24 z4.r :: ⟨.at x9 0, z3.cs, 92, (0, 0), []⟩ :: rob 32 z3.l :: rob 32 z3.t :: rob 32 z3.r :: ob (encR y.x) e2 :: ob (encR y.x) e1 :: rob 32 z1.l :: rob 32 z1.t :: rob 32 z1.r :: ⟨.at b 0, y.cs, 88, (0, 0), []⟩ :: []) 33 follows ?_
  refine wh_one 0 (by kernel_rfl) (wo_ef rfl rfl (ef_pure (v := .c (.bool true)) (by kernel_rfl) rfl rfl (fun w1 _ => awake16_c) ⟨fun w hw => hw, ?_⟩))
  refine wh_q 1 rfl (by kernel_rfl) rfl rfl rfl (qt_p tbok rfl) (fun w hw => hw) ?_
  refine wh_q 2 rfl (by kernel_rfl) rfl rfl rfl (qt_p tbok rfl) (fun w hw => hw) ?_
  refine wh_gd 3 rfl (by kernel_rfl) rfl rfl rfl rfl (qt_load_ag (l := y.cs) tbok rfl rfl rfl rfl (rs_lk (.there (.there (.there (.there (.there (.there (.there (.there (.there (.there (.there (.there (.there .here))))))))))))) at0)) (fun w hw => hw) ?_
  refine wh_gd 6 rfl (by kernel_rfl) rfl rfl rfl rfl (qt_load_ag (l := y.cs) tbok rfl rfl rfl rfl (rs_lk (.there (.there (.there (.there (.there (.there (.there (.there (.there (.there (.there (.there (.there .here))))))))))))) at0)) (fun w hw => hw) ?_
  refine wh_one 4 (by kernel_rfl) (wo_efg rfl rfl rfl (ef_freshL (B := fun z : RL => rbs 32 z) (I := fun z : RL => z.x = y.x ∧ z.own) (v := fun z : RL => .agg z.cs) (by kernel_rfl) rfl rfl (fun w1 g1 => toRoot_c hk (hl.up (fun ad => (off_new (newKey h11) (off_new (hz4k _ (.head _)) (off_new (hz4k _ (.tail _ (.head _))) (off_new (hz4k _ (.tail _ (.tail _ (.head _)))) (off_new (newKey h9) (off_new (hz3k _ (.head _)) (off_new (hz3k _ (.tail _ (.head _))) (off_new (hz3k _ (.tail _ (.tail _ (.head _)))) (off_new he2k (off_new he1k (off_new (hz1k _ (.head _)) (off_new (hz1k _ (.tail _ (.head _))) (off_new (hz1k _ (.tail _ (.tail _ (.head _)))) (off_new (newKey hb) off_nil))))))))))))))) g1)) (fun z5 hz5 hz5k => ⟨fun w hw => three_tail hw hz5k, ?_⟩)))
  dsimp only [rbs, List.cons_append, List.nil_append]
  refine wh_one 5 (by kernel_rfl) (wo_efg rfl rfl rfl (ef_pure (v := .c (.bool (rootB y.x))) (by kernel_rfl) rfl rfl (fun w1 g1 => by rw [← hz5.1]; exact rightRoot_c (ok_of hz5.1 hxk) (RL.lies_own (T := 32) g1 (.there (.there .here)) (.there .here) .here)) ⟨fun w hw => three_tail hw hz5k, ?_⟩))
  refine wh_one 7 (by kernel_rfl) (wo_efg rfl rfl rfl (ef_pure (v := .c (.bool (rootB y.x))) (by kernel_rfl) rfl rfl (fun w1 g1 => rightRoot2_c hk (hl.up (fun ad => (off_new (hz5k _ (.head _)) (off_new (hz5k _ (.tail _ (.head _))) (off_new (hz5k _ (.tail _ (.tail _ (.head _)))) (off_new (newKey h11) (off_new (hz4k _ (.head _)) (off_new (hz4k _ (.tail _ (.head _))) (off_new (hz4k _ (.tail _ (.tail _ (.head _)))) (off_new (newKey h9) (off_new (hz3k _ (.head _)) (off_new (hz3k _ (.tail _ (.head _))) (off_new (hz3k _ (.tail _ (.tail _ (.head _)))) (off_new he2k (off_new he1k (off_new (hz1k _ (.head _)) (off_new (hz1k _ (.tail _ (.head _))) (off_new (hz1k _ (.tail _ (.tail _ (.head _)))) (off_new (newKey hb) off_nil)))))))))))))))))) g1)) ⟨fun w hw => three_tail hw hz5k, ?_⟩))
  refine wh_gd 8 rfl (by kernel_rfl) rfl rfl rfl rfl (qt_neqn tbok rfl rfl rfl) (fun w hw => three_tail hw hz5k) ?_
  refine wh_as (v' := .c (.bool false)) (congrArg (fun b => V.c (C.bool b)) (xor_self' _)) ?_
  refine wh_q 9 rfl (by kernel_rfl) rfl rfl rfl (qt_p tbok rfl) (fun w hw => three_tail hw hz5k) ?_
  refine wh_q 10 rfl (by kernel_rfl) rfl rfl rfl (qt_p tbok rfl) (fun w hw => three_tail hw hz5k) ?_
  first | refine wh_gd 11 rfl (by kernel_rfl) rfl rfl rfl rfl (qt_p tbok rfl) (fun w hw => three_tail hw hz5k) ?_ | refine wh_skip 11 rfl (by kernel_rfl) rfl rfl rfl rfl rfl (fun w hw => three_tail hw hz5k) ?_
  first | refine wh_gd 12 rfl (by kernel_rfl) rfl rfl rfl rfl (qt_p tbok rfl) (fun w hw => three_tail hw hz5k) ?_ | refine wh_skip 12 rfl (by kernel_rfl) rfl rfl rfl rfl rfl (fun w hw => three_tail hw hz5k) ?_
  first | refine wh_gd 13 rfl (by kernel_rfl) rfl rfl rfl rfl (qt_p tbok rfl) (fun w hw => three_tail hw hz5k) ?_ | refine wh_gd 13 rfl (by kernel_rfl) rfl rfl rfl rfl (qt_neqn tbok rfl rfl rfl) (fun w hw => three_tail hw hz5k) ?_ | refine wh_skip 13 rfl (by kernel_rfl) rfl rfl rfl rfl rfl (fun w hw => three_tail hw hz5k) ?_
  refine wh_as (v' := .c (.bool false)) (congrArg (fun b => V.c (C.bool (!b))) (decide_eq_true rfl)) ?_
  refine wh_q 14 rfl (by kernel_rfl) rfl rfl rfl (qt_p tbok rfl) (fun w hw => three_tail hw hz5k) ?_
  refine wh_q 15 rfl (by kernel_rfl) rfl rfl rfl (qt_p tbok rfl) (fun w hw => three_tail hw hz5k) ?_
  first | refine wh_gd 16 rfl (by kernel_rfl) rfl rfl rfl rfl (qt_p tbok rfl) (fun w hw => three_tail hw hz5k) ?_ | refine wh_skip 16 rfl (by kernel_rfl) rfl rfl rfl rfl rfl (fun w hw => three_tail hw hz5k) ?_
  first | refine wh_gd 17 rfl (by kernel_rfl) rfl rfl rfl rfl (qt_p tbok rfl) (fun w hw => three_tail hw hz5k) ?_ | refine wh_skip 17 rfl (by kernel_rfl) rfl rfl rfl rfl rfl (fun w hw => three_tail hw hz5k) ?_
  refine wh_one 18 (by kernel_rfl) (wo_efg rfl rfl rfl (ef_pure (v := .c (.bool (decide (encR y.x = encR y.x)))) (by kernel_rfl) rfl rfl (fun w1 g1 => same_c (cells_own g1 (.there (.there (.there (.there (.there (.there (.there (.there (.there (.there (.there (.there .here))))))))))))) (cells_own g1 (.there (.there (.there (.there (.there (.there (.there (.there (.there (.there (.there .here)))))))))))) (by omega)) ⟨fun w hw => three_tail hw hz5k, ?_⟩))
  refine wh_as (v' := .c (.bool true)) (congrArg (fun b => V.c (C.bool b)) (decide_eq_true rfl)) ?_
  first | refine wh_gd 19 rfl (by kernel_rfl) rfl rfl rfl rfl (qt_p tbok rfl) (fun w hw => three_tail hw hz5k) ?_ | refine wh_skip 19 rfl (by kernel_rfl) rfl rfl rfl rfl rfl (fun w hw => three_tail hw hz5k) ?_
  refine wh_q 20 rfl (by kernel_rfl) rfl rfl rfl (qt_p tbok rfl) (fun w hw => three_tail hw hz5k) ?_
  refine wh_q 21 rfl (by kernel_rfl) rfl rfl rfl (qt_p tbok rfl) (fun w hw => three_tail hw hz5k) ?_
  first | refine wh_gd 22 rfl (by kernel_rfl) rfl rfl rfl rfl (qt_p tbok rfl) (fun w hw => three_tail hw hz5k) ?_ | refine wh_skip 22 rfl (by kernel_rfl) rfl rfl rfl rfl rfl (fun w hw => three_tail hw hz5k) ?_
  first | refine wh_gd 23 rfl (by kernel_rfl) rfl rfl rfl rfl (qt_p tbok rfl) (fun w hw => three_tail hw hz5k) ?_ | refine wh_skip 23 rfl (by kernel_rfl) rfl rfl rfl rfl rfl (fun w hw => three_tail hw hz5k) ?_
  first | refine wh_gd 24 rfl (by kernel_rfl) rfl rfl rfl rfl (qt_p tbok rfl) (fun w hw => three_tail hw hz5k) ?_ | refine wh_gd 24 rfl (by kernel_rfl) rfl rfl rfl rfl (qt_neqn tbok rfl rfl rfl) (fun w hw => three_tail hw hz5k) ?_ | refine wh_skip 24 rfl (by kernel_rfl) rfl rfl rfl rfl rfl (fun w hw => three_tail hw hz5k) ?_
  refine wh_as (v' := .c (.bool false)) (congrArg (fun b => V.c (C.bool (!b))) (decide_eq_true rfl)) ?_
  refine wh_q 25 rfl (by kernel_rfl) rfl rfl rfl (qt_p tbok rfl) (fun w hw => three_tail hw hz5k) ?_
  refine wh_q 26 rfl (by kernel_rfl) rfl rfl rfl (qt_p tbok rfl) (fun w hw => three_tail hw hz5k) ?_
  refine wh_gd 27 rfl (by kernel_rfl) rfl rfl rfl rfl (qt_load_ag (l := z3.cs) tbok rfl rfl rfl rfl (rs_lk (.there (.there (.there (.there .here)))) at0)) (fun w hw => three_tail hw hz5k) ?_
  refine wh_gd 29 rfl (by kernel_rfl) rfl rfl rfl rfl (qt_load_ag (l := z4.cs) tbok rfl rfl rfl rfl (rs_lk .here at0)) (fun w hw => three_tail hw hz5k) ?_
  refine wh_one 28 (by kernel_rfl) (wo_efg rfl rfl rfl (ef_freshL (B := fun z : RL => rbs 24 z) (I := fun z : RL => z.x = z3.x ∧ z.own) (v := fun z : RL => .agg z.cs) (by kernel_rfl) rfl rfl (fun w1 g1 => fromRoot_c (ok_of hz3.1 (decX_ok B)) (RL.lies_own (T := 32) g1 (.there (.there (.there (.there (.there (.there (.there (.there (.there (.there .here)))))))))) (.there (.there (.there (.there (.there (.there (.there (.there (.there .here))))))))) (.there (.there (.there (.there (.there (.there (.there (.there .here)))))))))) (fun z6 hz6 hz6k => ⟨fun w hw => three_tail (three_tail hw hz6k) hz5k, ?_⟩)))
  dsimp only [rbs, List.cons_append, List.nil_append]
  refine wh_one 30 (by kernel_rfl) (wo_efg rfl rfl rfl (ef_pure (v := .c (.bool (sameRx (decX B) (decX B)))) (by kernel_rfl) rfl rfl (fun w1 g1 => by have h6 : z6.x = decX B := hz6.1.trans hz3.1; have h8 := sameRoot_c (x := z6) (y := z4) (ok_of h6 (decX_ok B)) (ok_of hz4.1 (decX_ok B)) (RL.lies_own (T := 24) g1 (.there (.there .here)) (.there .here) .here) (RL.lies_own (T := 24) g1 (.there (.there (.there (.there (.there (.there (.there (.there (.there .here))))))))) (.there (.there (.there (.there (.there (.there (.there (.there .here)))))))) (.there (.there (.there (.there (.there (.there (.there .here)))))))); rw [h6, hz4.1] at h8; exact h8) ⟨fun w hw => three_tail (three_tail hw hz6k) hz5k, ?_⟩))
  refine wh_as (v' := .c (.bool true)) (congrArg (fun b => V.c (C.bool b)) (sameRx_refl _)) ?_
  first | refine wh_gd 31 rfl (by kernel_rfl) rfl rfl rfl rfl (qt_p tbok rfl) (fun w hw => three_tail (three_tail hw hz6k) hz5k) ?_ | refine wh_skip 31 rfl (by kernel_rfl) rfl rfl rfl rfl rfl (fun w hw => three_tail (three_tail hw hz6k) hz5k) ?_
  refine wh_q 32 rfl (by kernel_rfl) rfl rfl rfl (qt_p tbok rfl) (fun w hw => three_tail (three_tail hw hz6k) hz5k) ?_
  refine wh_done (by kernel_rfl) ?_
  refine nk_code ?_
  refine wc_no rfl ?_
  refine wc_skip ?_
  refine nk_code ?_
  refine wc_seq ?_
  refine wc_region ?_
  refine wl_q rfl rfl rfl (qt_p tbok rfl) ?_
  refine wl_ef rfl (ef_freshL (B := fun z : RL => rbs 32 z) (I := fun z : RL => z.x = decX (encR y.x) ∧ z.own) (v := fun z : RL => .t2 (.agg z.cs) (.c (.i64 (decE (encR y.x))))) (by kernel_rfl) rfl rfl (fun w1 g1 => decode_c (cells_own g1 (.there (.there (.there (.there (.there (.there (.there (.there (.there (.there (.there (.there (.there (.there (.there .here)))))))))))))))) (by omega) (OwnS.le he1)) (fun z7 hz7 hz7k => ?_))
  dsimp only [rbs, List.cons_append, List.nil_append]
  refine wl_q rfl rfl rfl (qt_p tbok rfl) ?_
  refine wl_q rfl rfl rfl (qt_p tbok rfl) ?_
  refine wl_q rfl rfl rfl (qt_p tbok rfl) ?_
  refine wl_ef rfl (ef_alloc zero92 rfl rfl (fun x13 h13 => ?_))
  refine wl_ef rfl (ef_store (cs' := z7.cs) tbok rfl rfl rfl rfl .here rfl (Nat.le_of_ble_eq_true rfl) rfl ?_)
  refine wl_q rfl rfl rfl (qt_p tbok rfl) ?_
  refine wl_done ?_
  refine nk_code ?_
  refine wc_seq ?_
  by_cases hr : rootB y.x = true
  · refine wc_draw (s0 := ⟨.at x13 0, z7.cs, 92, (0, 0), []⟩ :: rob 32 z7.l :: rob 32 z7.t :: rob 32 z7.r :: rob 24 z6.l :: rob 24 z6.t :: rob 24 z6.r :: rob 32 z5.l :: rob 32 z5.t :: rob 32 z5.r :: ⟨.at x11 0, z4.cs, 88, (0, 0), []⟩ :: rob 24 z4.l :: rob 24 z4.t :: rob 24 z4.r :: ⟨.at x9 0, z3.cs, 92, (0, 0), []⟩ :: rob 32 z3.l :: rob 32 z3.t :: rob 32 z3.r :: ob (encR y.x) e2 :: ob (encR y.x) e1 :: rob 32 z1.l :: rob 32 z1.t :: rob 32 z1.r :: ⟨.at b 0, y.cs, 88, (0, 0), []⟩ :: []) 13 follows ?_
    refine wh_q 0 rfl (by kernel_rfl) rfl rfl rfl (qt_p tbok rfl) (fun w hw => hw) ?_
    refine wh_as (v' := .c (.i64 0)) (by unfold encE; rw [if_pos hr]) ?_
    first | refine wh_q 1 rfl (by kernel_rfl) rfl rfl rfl (qt_p tbok rfl) (fun w hw => hw) ?_ | refine wh_q 1 rfl (by kernel_rfl) rfl rfl rfl (qt_neqn tbok rfl rfl rfl) (fun w hw => hw) ?_
    refine wh_q 2 rfl (by kernel_rfl) rfl rfl rfl (qt_p tbok rfl) (fun w hw => hw) ?_
    first | refine wh_gd 3 rfl (by kernel_rfl) rfl rfl rfl rfl (qt_p tbok rfl) (fun w hw => hw) ?_ | refine wh_skip 3 rfl (by kernel_rfl) rfl rfl rfl rfl rfl (fun w hw => hw) ?_
    refine wh_as (v' := .c (.i64 0)) (by rw [show encR y.x = encB y.x by unfold encR; rw [if_pos hr], (dec_yes (dec_enc hk hr).1).2]) ?_
    first | refine wh_gd 4 rfl (by kernel_rfl) rfl rfl rfl rfl (qt_p tbok rfl) (fun w hw => hw) ?_ | refine wh_gd 4 rfl (by kernel_rfl) rfl rfl rfl rfl (qt_eqn tbok rfl rfl rfl) (fun w hw => hw) ?_ | refine wh_skip 4 rfl (by kernel_rfl) rfl rfl rfl rfl rfl (fun w hw => hw) ?_
    first | refine wh_gd 5 rfl (by kernel_rfl) rfl rfl rfl rfl (qt_p tbok rfl) (fun w hw => hw) ?_ | refine wh_skip 5 rfl (by kernel_rfl) rfl rfl rfl rfl rfl (fun w hw => hw) ?_
    refine wh_gd 6 rfl (by kernel_rfl) rfl rfl rfl rfl (qt_load_ag (l := z7.cs) tbok rfl rfl rfl rfl (rs_lk .here at0)) (fun w hw => hw) ?_
    refine wh_gd 8 rfl (by kernel_rfl) rfl rfl rfl rfl (qt_load_ag (l := y.cs) tbok rfl rfl rfl rfl (rs_lk (.there (.there (.there (.there (.there (.there (.there (.there (.there (.there (.there (.there (.there (.there (.there (.there (.there (.there (.there (.there (.there (.there (.there .here))))))))))))))))))))))) at0)) (fun w hw => hw) ?_
    refine wh_one 7 (by kernel_rfl) (wo_efg rfl rfl rfl (ef_freshL (B := fun z : RL => rbs 24 z) (I := fun z : RL => z.x = z7.x ∧ z.own) (v := fun z : RL => .agg z.cs) (by kernel_rfl) rfl rfl (fun w1 g1 => fromRoot_c (ok_of hz7.1 (decX_ok _)) (RL.lies_own (T := 32) g1 (.there (.there (.there .here))) (.there (.there .here)) (.there .here))) (fun z8 hz8 hz8k => ⟨fun w hw => three_tail hw hz8k, ?_⟩)))
    dsimp only [rbs, List.cons_append, List.nil_append]
    refine wh_one 9 (by kernel_rfl) (wo_efg rfl rfl rfl (ef_pure (v := .c (.bool (sameRx y.x y.x))) (by kernel_rfl) rfl rfl (fun w1 g1 => by have h6 : z8.x = y.x := (by rw [hz8.1, hz7.1, show encR y.x = encB y.x by unfold encR; rw [if_pos hr], (dec_yes (dec_enc hk hr).1).1, (dec_enc hk hr).2]); have h8 := sameRoot_c (x := z8) (y := y) (ok_of h6 hxk) hk (RL.lies_own (T := 24) g1 (.there (.there .here)) (.there .here) .here) (hl.up (fun ad => (off_new (hz8k _ (.head _)) (off_new (hz8k _ (.tail _ (.head _))) (off_new (hz8k _ (.tail _ (.tail _ (.head _)))) (off_new (newKey h13) (off_new (hz7k _ (.head _)) (off_new (hz7k _ (.tail _ (.head _))) (off_new (hz7k _ (.tail _ (.tail _ (.head _)))) (off_new (hz6k _ (.head _)) (off_new (hz6k _ (.tail _ (.head _))) (off_new (hz6k _ (.tail _ (.tail _ (.head _)))) (off_new (hz5k _ (.head _)) (off_new (hz5k _ (.tail _ (.head _))) (off_new (hz5k _ (.tail _ (.tail _ (.head _)))) (off_new (newKey h11) (off_new (hz4k _ (.head _)) (off_new (hz4k _ (.tail _ (.head _))) (off_new (hz4k _ (.tail _ (.tail _ (.head _)))) (off_new (newKey h9) (off_new (hz3k _ (.head _)) (off_new (hz3k _ (.tail _ (.head _))) (off_new (hz3k _ (.tail _ (.tail _ (.head _)))) (off_new he2k (off_new he1k (off_new (hz1k _ (.head _)) (off_new (hz1k _ (.tail _ (.head _))) (off_new (hz1k _ (.tail _ (.tail _ (.head _)))) (off_new (newKey hb) off_nil)))))))))))))))))))))))))))) g1); rw [h6] at h8; exact h8) ⟨fun w hw => three_tail hw hz8k, ?_⟩))
    refine wh_as (v' := .c (.bool true)) (congrArg (fun b => V.c (C.bool b)) (sameRx_refl _)) ?_
    first | refine wh_gd 10 rfl (by kernel_rfl) rfl rfl rfl rfl (qt_p tbok rfl) (fun w hw => three_tail hw hz8k) ?_ | refine wh_skip 10 rfl (by kernel_rfl) rfl rfl rfl rfl rfl (fun w hw => three_tail hw hz8k) ?_
    refine wh_q 11 rfl (by kernel_rfl) rfl rfl rfl (qt_p tbok rfl) (fun w hw => three_tail hw hz8k) ?_
    refine wh_q 12 rfl (by kernel_rfl) rfl rfl rfl (qt_p tbok rfl) (fun w hw => three_tail hw hz8k) ?_
    refine wh_done (by kernel_rfl) ?_
    refine nk_code ?_
    refine wc_ret ?_
    try dsimp only
    exact fin1 rfl (rv_tmp rfl) (fun w' hw => ⟨rfl, hw.all (new_cons (hz8k _ (.head _)) (new_cons (hz8k _ (.tail _ (.head _))) (new_cons (hz8k _ (.tail _ (.tail _ (.head _)))) (new_cons (newKey h13) (new_cons (hz7k _ (.head _)) (new_cons (hz7k _ (.tail _ (.head _))) (new_cons (hz7k _ (.tail _ (.tail _ (.head _)))) (new_cons (hz6k _ (.head _)) (new_cons (hz6k _ (.tail _ (.head _))) (new_cons (hz6k _ (.tail _ (.tail _ (.head _)))) (new_cons (hz5k _ (.head _)) (new_cons (hz5k _ (.tail _ (.head _))) (new_cons (hz5k _ (.tail _ (.tail _ (.head _)))) (new_cons (newKey h11) (new_cons (hz4k _ (.head _)) (new_cons (hz4k _ (.tail _ (.head _))) (new_cons (hz4k _ (.tail _ (.tail _ (.head _)))) (new_cons (newKey h9) (new_cons (hz3k _ (.head _)) (new_cons (hz3k _ (.tail _ (.head _))) (new_cons (hz3k _ (.tail _ (.tail _ (.head _)))) (new_cons he2k (new_cons he1k (new_cons (hz1k _ (.head _)) (new_cons (hz1k _ (.tail _ (.head _))) (new_cons (hz1k _ (.tail _ (.tail _ (.head _)))) (new_cons (newKey hb) new_nil)))))))))))))))))))))))))))⟩)
  · refine wc_quiet follows (by kernel_rfl) ?_
    refine wq_q rfl rfl rfl (qt_p tbok rfl) ?_
    refine wq_as (v' := .c (.i64 1)) (by unfold encE; rw [if_neg hr]) ?_
    first | refine wq_q rfl rfl rfl (qt_p tbok rfl) ?_ | refine wq_q rfl rfl rfl (qt_neqn tbok rfl rfl rfl) ?_
    refine wq_q rfl rfl rfl (qt_p tbok rfl) ?_
    first | refine wq_gd rfl rfl rfl rfl (qt_p tbok rfl) ?_ | refine wq_skip rfl rfl rfl rfl rfl ?_
    first | refine wq_gd rfl rfl rfl rfl (qt_p tbok rfl) ?_ | refine wq_gd rfl rfl rfl rfl (qt_eqn tbok rfl rfl rfl) ?_ | refine wq_skip rfl rfl rfl rfl rfl ?_
    first | refine wq_gd rfl rfl rfl rfl (qt_p tbok rfl) ?_ | refine wq_skip rfl rfl rfl rfl rfl ?_
    refine wq_skip0 rfl rfl rfl rfl ?_
    refine wq_skip0 rfl rfl rfl rfl ?_
    refine wq_skip0 rfl rfl rfl rfl ?_
    refine wq_skip0 rfl rfl rfl rfl ?_
    first | refine wq_gd rfl rfl rfl rfl (qt_p tbok rfl) ?_ | refine wq_skip rfl rfl rfl rfl rfl ?_
    refine wq_q rfl rfl rfl (qt_p tbok rfl) ?_
    refine wq_q rfl rfl rfl (qt_p tbok rfl) ?_
    refine wq_done ?_
    refine wl_done ?_
    refine nk_code ?_
    refine wc_ret ?_
    try dsimp only
    exact fin1 rfl (rv_tmp rfl) (fun w' hw => ⟨rfl, hw.all (new_cons (newKey h13) (new_cons (hz7k _ (.head _)) (new_cons (hz7k _ (.tail _ (.head _))) (new_cons (hz7k _ (.tail _ (.tail _ (.head _)))) (new_cons (hz6k _ (.head _)) (new_cons (hz6k _ (.tail _ (.head _))) (new_cons (hz6k _ (.tail _ (.tail _ (.head _)))) (new_cons (hz5k _ (.head _)) (new_cons (hz5k _ (.tail _ (.head _))) (new_cons (hz5k _ (.tail _ (.tail _ (.head _)))) (new_cons (newKey h11) (new_cons (hz4k _ (.head _)) (new_cons (hz4k _ (.tail _ (.head _))) (new_cons (hz4k _ (.tail _ (.tail _ (.head _)))) (new_cons (newKey h9) (new_cons (hz3k _ (.head _)) (new_cons (hz3k _ (.tail _ (.head _))) (new_cons (hz3k _ (.tail _ (.tail _ (.head _)))) (new_cons he2k (new_cons he1k (new_cons (hz1k _ (.head _)) (new_cons (hz1k _ (.tail _ (.head _))) (new_cons (hz1k _ (.tail _ (.tail _ (.head _)))) (new_cons (newKey hb) new_nil))))))))))))))))))))))))⟩)
end Go.Proofs.Ytjhmcmadleabjaa
