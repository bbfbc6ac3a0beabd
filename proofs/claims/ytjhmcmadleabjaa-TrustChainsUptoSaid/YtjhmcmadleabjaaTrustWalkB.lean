/- The walk of TrustChains: it answers true and leaves what was there. -/
import Derived.Test.YtjhmcmadleabjaaTrustMore
set_option linter.unusedVariables false
set_option maxRecDepth 100000
namespace Go.Proofs.Ytjhmcmadleabjaa
open Go Go.Hw Go.Proofs

def tB : Option (Nat × RL) → Hp
  | none => []
  | some x => TB x.1 x.2 :: rbs 32 x.2
def tP : Option (Nat × RL) → Ad
  | none => .nil
  | some x => .at x.1 0
/-- What is believed may be believed. -/
def tI : Option (Nat × RL) → Prop
  | none => True
  | some x => x.2.own ∧ x.2.ok ∧ rootB x.2.x = true
theorem meets_cnt {n : Int} {K : List (Int × List UInt8)} {m : List UInt8} {M : List Mk} (h : meetsB n K m M = true) : n ≤ (cntK K m M : Int) := by
  unfold meetsB at h
  rw [Bool.and_eq_true] at h
  exact of_decide_eq_true h.2
theorem tb_last {w0 w : World} {T : Blk} {a b c : Blk} (h : St w0 [a, b, c, T] w) : St w0 [T, a, b, c] w :=
  h.perm (List.perm_append_comm (l₁ := [a, b, c]) (l₂ := [T]))
theorem trustChains_c {w : World} {O : List Of} {oa : Ad} {oc : Nat} (hO : Cells w oa (O.flatMap Of.row)) (hOl : O.length ≤ 1073741824) (hOk : ∀ o ∈ O, o.ok) (hOL : ∀ o ∈ O, o.lies w) :
    CallsV Try.prog 12 [.c (.slc oa O.length oc)] w fun en w' => en = .returned (V.c (.bool true)).den ∧ St w [] w' := by
  refine calls_in (tb := tb) (fn := Try.f12) Try.func12 rfl rfl rfl [(0, .c (.slc oa O.length oc))] rfl [] (St.refl _) ?_
  refine wc_seq ?_
  refine wc_region ?_
  refine wl_q rfl rfl rfl (qt_p tbok rfl) ?_
  refine wl_done ?_
  refine nk_code ?_
  refine wc_seq ?_
  refine wc_seq ?_
  refine wc_region ?_
  refine wl_ef rfl (ef_pure (v := .c (.bool true)) (by kernel_rfl) rfl rfl (fun w1 _ => awake17_c) ?_)
  refine wl_q rfl rfl rfl (qt_p tbok rfl) ?_
  refine wl_q rfl rfl rfl (qt_p tbok rfl) ?_
  first | refine wl_g rfl rfl rfl rfl (qt_p tbok rfl) ?_ | refine wl_skip rfl rfl rfl rfl rfl ?_
  refine wl_gd rfl rfl (ef_freshL (B := fun _ => []) (I := fun _ => True) (v := fun b : Bool => .c (.bool b)) (by kernel_rfl) rfl rfl (fun w1 g1 => light_c (cells_rd (rd_cells hO off_nil) g1) hOl) (fun bl _ _ => ?_))
  dsimp only [List.nil_append]
  first | refine wl_g rfl rfl rfl rfl (qt_p tbok rfl) ?_ | refine wl_skip rfl rfl rfl rfl rfl ?_
  refine wl_q rfl rfl rfl (qt_p tbok rfl) ?_
  refine wl_done ?_
  refine nk_code ?_
  refine wc_cond rfl (fun h17 => ?_) (fun h17 => ?_)
  · refine wc_seq ?_
    refine wc_region ?_
    refine wl_ef rfl (ef_pure (v := .c (.bool true)) (by kernel_rfl) rfl rfl (fun w1 _ => awake17_c) ?_)
    refine wl_q rfl rfl rfl (qt_p tbok rfl) ?_
    refine wl_done ?_
    refine nk_code ?_
    refine wc_ret ?_
    try dsimp only
    exact fin1 rfl (rv_tmp rfl) (fun w' hw => ⟨rfl, hw⟩)
  · refine wc_skip ?_
    refine nk_code ?_
    refine wc_seq ?_
    refine wc_region ?_
    refine wl_q rfl rfl rfl (qt_p tbok rfl) ?_
    refine wl_done ?_
    refine nk_code ?_
    refine wc_seq ?_
    refine wc_seq ?_
    refine wc_region ?_
    refine wl_q rfl rfl rfl (qt_p tbok rfl) ?_
    refine wl_q rfl rfl rfl (qt_len tbok rfl rfl) ?_
    refine wl_q rfl rfl rfl (qt_p tbok rfl) ?_
    refine wl_done ?_
    refine nk_code ?_
    refine wc_block ?_
    refine wc_loop (ι := Nat × Option (Nat × RL)) (fun j => j.1 ≤ O.length ∧ tI j.2 ∧ ∀ p ∈ tB j.2, ∀ k, p.key = some k → w.heap.size ≤ k) (fun j => [(21, .c (.i64 (j.1 : Int))), (20, .c (.i64 (O.length : Int))), (19, .c (.slc oa O.length oc)), (3, .c (.ptr (tP j.2)))]) (fun j => tB j.2) (fun j => O.length - j.1) (0, none) ⟨Nat.zero_le _, trivial, new_nil⟩ (nk_start ⟨rfl, rfl, rfl, rfl, trivial⟩ (fun w hw => hw)) (fun ⟨i, o⟩ ⟨hi, hI, hN⟩ => ?_)
    replace hi : i ≤ O.length := hi
    replace hI : tI o := hI
    replace hN : ∀ p ∈ tB o, ∀ k, p.key = some k → w.heap.size ≤ k := hN
    dsimp only
    refine wc_seq ?_
    refine wc_region ?_
    refine wl_q rfl rfl rfl (qt_p tbok rfl) ?_
    refine wl_done ?_
    refine nk_code ?_
    refine wc_seq ?_
    refine wc_cond rfl (fun h22 => ?_) (fun h22 => ?_)
    · have hi' : i < O.length := (by have h0 := of_decide_eq_true h22; omega)
      obtain ⟨lr, lo, hla⟩ := cells_nn hO (by rw [rows_len (z := 9) offs_row]; omega)
      subst hla
      have hrow := rows_at (z := 9) offs_row hi'
      have hok := hOk _ (el_mem hi')
      have hol := hOL _ (el_mem hi')
      revert hrow hok hol
      generalize el O i = q
      intro hrow hok hol
      have hel := encR_len' hok.1
      have hxk : q.y.x.r.ok ∧ q.y.x.t.ok ∧ q.y.x.l.ok := hok.1
      refine wc_skip ?_
      refine nk_code ?_
      refine wc_seq ?_
      refine wc_block ?_
      refine wc_seq ?_
      refine wc_region ?_
      refine wl_q rfl rfl rfl (qt_p tbok rfl) ?_
      refine wl_q rfl rfl rfl (qt_load_ag (l := q.row) tbok rfl rfl rfl rfl (rs_cells (hO.sub2 (m := i * 9) hrow) (off_all hN))) ?_
      refine wl_ef rfl (ef_alloc zero109 rfl rfl (fun b5 hb5 => ?_))
      refine wl_ef rfl (ef_store (cs' := q.row) tbok rfl rfl rfl rfl .here rfl (Nat.le_of_ble_eq_true rfl) (spl_all rfl) ?_)
      refine wl_done ?_
      refine nk_code ?_
      refine wc_seq ?_
      refine wc_region ?_
      refine wl_q rfl rfl rfl (qt_p tbok rfl) ?_
      refine wl_q rfl rfl rfl (qt_load_ag (l := q.y.cs) tbok rfl rfl rfl rfl (rs_lk .here q.row_y)) ?_
      refine wl_ef rfl (ef_fresh (b := fun z : Os => ob (encR q.y.x) z) (I := fun z : Os => Oi (encR q.y.x) z) (v := fun z : Os => .t2 (.c (.slc z.1 (encR q.y.x).length z.2.1)) (.c (.i64 (encE q.y.x)))) (by kernel_rfl) rfl rfl (fun w1 g1 => by exact encode2_c hok.1 (hol.1.up (fun ad => off_new (newKey hb5) (off_all hN)) g1)) (fun e1 he1 he1k => ?_))
      refine wl_q rfl rfl rfl (qt_p tbok rfl) ?_
      refine wl_q rfl rfl rfl (qt_p tbok rfl) ?_
      refine wl_q rfl rfl rfl (qt_p tbok rfl) ?_
      refine wl_q rfl rfl rfl (qt_p tbok rfl) ?_
      refine wl_q rfl rfl rfl (qt_p tbok rfl) ?_
      refine wl_done ?_
      refine nk_code ?_
      refine wc_seq ?_
      refine wc_seq ?_
      by_cases ho : o = none
      · refine wc_region ?_
        subst ho
        dsimp only [tB, tP]
        refine wl_q rfl rfl rfl (qt_p tbok rfl) ?_
        first | refine wl_q rfl rfl rfl (qt_p tbok rfl) ?_ | refine wl_q rfl rfl rfl (qt_eqn tbok rfl rfl rfl) ?_
        refine wl_done ?_
        refine nk_code ?_
        refine wc_yes rfl ?_
        refine wc_seq ?_
        by_cases hw9 : nwE q.y.x (q.M.map (·.1)) = 0
        · refine wc_draw (s0 := [⟨.at b5 0, q.row, 109, (0, 0), []⟩]) 11 follows ?_
          refine wh_q 0 rfl (by kernel_rfl) rfl rfl rfl (qt_p tbok rfl) (fun w hw => st_cut (hw.tail he1k) (new_nil)) ?_
          refine wh_q 1 rfl (by kernel_rfl) rfl rfl rfl (qt_load_ag (l := q.y.cs) tbok rfl rfl rfl rfl (rs_lk .here q.row_y)) (fun w hw => st_cut (hw.tail he1k) (new_nil)) ?_
          refine wh_q 3 rfl (by kernel_rfl) rfl rfl rfl (qt_p tbok rfl) (fun w hw => st_cut (hw.tail he1k) (new_nil)) ?_
          refine wh_q 4 rfl (by kernel_rfl) rfl rfl rfl (qt_load (c := .slc q.a q.M.length q.c) tbok rfl rfl rfl (rc_lk .here rfl)) (fun w hw => st_cut (hw.tail he1k) (new_nil)) ?_
          refine wh_one 2 (by kernel_rfl) (wo_ef rfl rfl (ef_freshL (B := fun z : RL => rbs 32 z) (I := fun z : RL => z.x = q.y.x ∧ z.own) (v := fun z : RL => .agg z.cs) (by kernel_rfl) rfl rfl (fun w1 g1 => by exact toRoot_c hok.1 (hol.1.up (fun ad => (off_all (new_cons he1k (new_cons (newKey hb5) new_nil)))) g1)) (fun x1 hx1 hx1k => ⟨fun w hw => st_cut ((((hw.tail (hx1k _ (.head _))).tail (hx1k _ (.tail _ (.head _)))).tail (hx1k _ (.tail _ (.tail _ (.head _))))).tail he1k) (new_nil), ?_⟩)))
          dsimp only [rbs, List.cons_append, List.nil_append]
          refine wh_one 5 (by kernel_rfl) (wo_ef rfl rfl (ef_freshT (I := CpD q.M) (by kernel_rfl) rfl rfl (fun w1 g1 => toMarks_c hok.2.1 hok.2.2 (cells_rd (rd_cells hol.2.1 (off_all (new_cons (hx1k _ (.head _)) (new_cons (hx1k _ (.tail _ (.head _))) (new_cons (hx1k _ (.tail _ (.tail _ (.head _)))) (new_cons he1k (new_cons (newKey hb5) new_nil))))))) g1) (fun p hpm => ⟨cells_rd (rd_cells (hol.2.2 p hpm).1 (off_all (new_cons (hx1k _ (.head _)) (new_cons (hx1k _ (.tail _ (.head _))) (new_cons (hx1k _ (.tail _ (.tail _ (.head _)))) (new_cons he1k (new_cons (newKey hb5) new_nil))))))) g1, (hol.2.2 p hpm).2⟩)) (fun z1 hz1 hk2 hT1 => ⟨fun w hw => st_cut (((((hw.tail hk2).tail (hx1k _ (.head _))).tail (hx1k _ (.tail _ (.head _)))).tail (hx1k _ (.tail _ (.tail _ (.head _))))).tail he1k) (hT1), ?_⟩)))
          dsimp only [rbs, List.cons_append, List.nil_append]
          refine wh_one 6 (by kernel_rfl) (wo_ef rfl rfl (ef_freshL (B := fun x : Nat × RL => TB x.1 x.2 :: rbs 32 x.2) (I := fun x : Nat × RL => x.2.x = x1.x ∧ x.2.own) (v := fun x : Nat × RL => .t2 (.c (.ptr (.at x.1 0))) (.c (.i64 0))) (by kernel_rfl) rfl rfl (fun w1 g1 => by rw [← hz1.1]; exact new_ok_c (y := x1) (M := z1.1) (la := z1.2.1) (lc := z1.2.2.1) (ok_ofx hx1.1 hok.1) hx1.2.pl (RL.lies_own (T := 32) g1 (.there (.there (.there .here))) (.there (.there .here)) (.there .here)) (by exact ok_map hz1.2.1 hok.2.1) (by rw [hz1.1]; exact hok.2.2) (cells_own g1 .here) (hz1.lies g1 (fun b hb => .there (.there (.there (.there (.there (.there (lk_mem hb)))))))) (by rw [hx1.1]; exact (nw_yes hw9).1) (by rw [hx1.1, hz1.2.1]; exact (nw_yes hw9).2)) (fun ⟨tr, n⟩ ⟨hnx, hno⟩ hnk => ⟨fun w hw => st_cut (((((((((hw.tail (hnk _ (.head _))).tail (hnk _ (.tail _ (.head _)))).tail (hnk _ (.tail _ (.tail _ (.head _))))).tail (hnk _ (.tail _ (.tail _ (.tail _ (.head _)))))).tail hk2).tail (hx1k _ (.head _))).tail (hx1k _ (.tail _ (.head _)))).tail (hx1k _ (.tail _ (.tail _ (.head _))))).tail he1k) (hT1), ?_⟩)))
          replace hnx : n.x = x1.x := hnx
          replace hno : n.own := hno
          replace hnk : ∀ p ∈ TB tr n :: rbs 32 n, ∀ k, p.key = some k → w.heap.size ≤ k := hnk
          dsimp only [rbs, List.cons_append, List.nil_append]
          refine wh_q 7 rfl (by kernel_rfl) rfl rfl rfl (qt_p tbok rfl) (fun w hw => st_cut (((((((((hw.tail (hnk _ (.head _))).tail (hnk _ (.tail _ (.head _)))).tail (hnk _ (.tail _ (.tail _ (.head _))))).tail (hnk _ (.tail _ (.tail _ (.tail _ (.head _)))))).tail hk2).tail (hx1k _ (.head _))).tail (hx1k _ (.tail _ (.head _)))).tail (hx1k _ (.tail _ (.tail _ (.head _))))).tail he1k) (hT1)) ?_
          refine wh_q 8 rfl (by kernel_rfl) rfl rfl rfl (qt_p tbok rfl) (fun w hw => st_cut (((((((((hw.tail (hnk _ (.head _))).tail (hnk _ (.tail _ (.head _)))).tail (hnk _ (.tail _ (.tail _ (.head _))))).tail (hnk _ (.tail _ (.tail _ (.tail _ (.head _)))))).tail hk2).tail (hx1k _ (.head _))).tail (hx1k _ (.tail _ (.head _)))).tail (hx1k _ (.tail _ (.tail _ (.head _))))).tail he1k) (hT1)) ?_
          refine wh_q 9 rfl (by kernel_rfl) rfl rfl rfl (qt_p tbok rfl) (fun w hw => st_cut (((((((((hw.tail (hnk _ (.head _))).tail (hnk _ (.tail _ (.head _)))).tail (hnk _ (.tail _ (.tail _ (.head _))))).tail (hnk _ (.tail _ (.tail _ (.tail _ (.head _)))))).tail hk2).tail (hx1k _ (.head _))).tail (hx1k _ (.tail _ (.head _)))).tail (hx1k _ (.tail _ (.tail _ (.head _))))).tail he1k) (hT1)) ?_
          refine wh_q 10 rfl (by kernel_rfl) rfl rfl rfl (qt_p tbok rfl) (fun w hw => st_cut (((((((((hw.tail (hnk _ (.head _))).tail (hnk _ (.tail _ (.head _)))).tail (hnk _ (.tail _ (.tail _ (.head _))))).tail (hnk _ (.tail _ (.tail _ (.tail _ (.head _)))))).tail hk2).tail (hx1k _ (.head _))).tail (hx1k _ (.tail _ (.head _)))).tail (hx1k _ (.tail _ (.tail _ (.head _))))).tail he1k) (hT1)) ?_
          refine wh_done (by kernel_rfl) ?_
          refine nk_code ?_
          refine wc_seq ?_
          refine wc_seq ?_
          refine wc_quiet follows (by kernel_rfl) ?_
          obtain ⟨hr9, hm9⟩ := nw_yes hw9
          have hc9 : q.y.r.1.n ≤ (cntK q.y.r.1.K (encR q.y.x) (q.M.map (·.1)) : Int) := (by rw [encR_B hr9]; exact meets_cnt hm9)
          refine wq_q rfl rfl rfl (qt_p tbok rfl) ?_
          first | refine wq_q rfl rfl rfl (qt_p tbok rfl) ?_ | refine wq_q rfl rfl rfl (qt_neqn tbok rfl rfl rfl) ?_
          refine wq_q rfl rfl rfl (qt_p tbok rfl) ?_
          first | refine wq_gd rfl rfl rfl rfl (qt_p tbok rfl) ?_ | refine wq_skip rfl rfl rfl rfl rfl ?_
          first | refine wq_gd rfl rfl rfl rfl (qt_p tbok rfl) ?_ | refine wq_skip rfl rfl rfl rfl rfl ?_
          refine wq_gd rfl rfl rfl rfl (qt_load_ag (l := rrow q.y.r) tbok rfl rfl rfl rfl (rs_lk (.there (.there (.there (.there (.there (.there (.there (.there (.there .here))))))))) q.row_r)) ?_
          first | refine wq_gd rfl rfl rfl rfl (qt_p tbok rfl) ?_ | refine wq_skip rfl rfl rfl rfl rfl ?_
          first | refine wq_gd rfl rfl rfl rfl (qt_p tbok rfl) ?_ | refine wq_skip rfl rfl rfl rfl rfl ?_
          refine wq_gd rfl rfl rfl rfl (qt_load (c := .slc q.a q.M.length q.c) tbok rfl rfl rfl (rc_lk (.there (.there (.there (.there (.there (.there (.there (.there (.there .here))))))))) rfl)) ?_
          refine wq_callg (.c (.i64 (cntK q.y.r.1.K (encR q.y.x) (q.M.map (·.1)) : Nat))) rfl (by kernel_rfl) rfl rfl ((fun w1 g1 => by exact signers_c (n := q.y.r.1.n) (K := q.y.r.1.K) (M := q.M) (msg := encR q.y.x) (pa := q.y.r.2.1) (pc := q.y.r.2.2.1) (ma := e1.1) (mc := e1.2.1) (la := q.a) (lc := q.c) hok.1.1.1 hok.1.1.2 (cells_rd (rd_cells hol.1.1 (off_all (new_cons (hnk _ (.head _)) (new_cons (hnk _ (.tail _ (.head _))) (new_cons (hnk _ (.tail _ (.tail _ (.head _)))) (new_cons (hnk _ (.tail _ (.tail _ (.tail _ (.head _))))) (new_cons hk2 (new_cons (hx1k _ (.head _)) (new_cons (hx1k _ (.tail _ (.head _))) (new_cons (hx1k _ (.tail _ (.tail _ (.head _)))) (new_cons he1k (new_cons (newKey hb5) hT1)))))))))))) g1) (cells_own g1 (.there (.there (.there (.there (.there (.there (.there (.there .here))))))))) (by omega) hok.2.1 hok.2.2 (cells_rd (rd_cells hol.2.1 (off_all (new_cons (hnk _ (.head _)) (new_cons (hnk _ (.tail _ (.head _))) (new_cons (hnk _ (.tail _ (.tail _ (.head _)))) (new_cons (hnk _ (.tail _ (.tail _ (.tail _ (.head _))))) (new_cons hk2 (new_cons (hx1k _ (.head _)) (new_cons (hx1k _ (.tail _ (.head _))) (new_cons (hx1k _ (.tail _ (.tail _ (.head _)))) (new_cons he1k (new_cons (newKey hb5) hT1)))))))))))) g1) (fun p hpm => ⟨cells_rd (rd_cells (hol.2.2 p hpm).1 (off_all (new_cons (hnk _ (.head _)) (new_cons (hnk _ (.tail _ (.head _))) (new_cons (hnk _ (.tail _ (.tail _ (.head _)))) (new_cons (hnk _ (.tail _ (.tail _ (.tail _ (.head _))))) (new_cons hk2 (new_cons (hx1k _ (.head _)) (new_cons (hx1k _ (.tail _ (.head _))) (new_cons (hx1k _ (.tail _ (.tail _ (.head _)))) (new_cons he1k (new_cons (newKey hb5) hT1)))))))))))) g1, (hol.2.2 p hpm).2⟩))) ?_
          first | refine wq_gd rfl rfl rfl rfl (qt_p tbok rfl) ?_ | refine wq_skip rfl rfl rfl rfl rfl ?_
          first | refine wq_gd rfl rfl rfl rfl (qt_p tbok rfl) ?_ | refine wq_skip rfl rfl rfl rfl rfl ?_
          first | refine wq_gd rfl rfl rfl rfl (qt_p tbok rfl) ?_ | refine wq_skip rfl rfl rfl rfl rfl ?_
          refine wq_gd rfl rfl rfl rfl (qt_load (c := .i64 q.y.r.1.n) tbok rfl rfl rfl (rc_lk (.there (.there (.there (.there (.there (.there (.there (.there (.there .here))))))))) rfl)) ?_
          first | refine wq_gd rfl rfl rfl rfl (qt_p tbok rfl) ?_ | refine wq_skip rfl rfl rfl rfl rfl ?_
          refine wq_as (v' := .c (.bool false)) (congrArg (fun b => V.c (C.bool b)) (decide_eq_false (by omega))) ?_
          refine wq_q rfl rfl rfl (qt_p tbok rfl) ?_
          refine wq_done ?_
          refine wl_done ?_
          refine nk_code ?_
          refine wc_no rfl ?_
          refine wc_skip ?_
          refine nk_code ?_
          refine wc_exit rfl ?_
          refine nk_code ?_
          refine wc_region ?_
          refine wl_q rfl rfl rfl (qt_p tbok rfl) ?_
          refine wl_q rfl rfl rfl (qt_p tbok rfl) ?_
          refine wl_done ?_
          exact nk_round (i := (i, none)) (i + 1, some (tr, n)) ⟨hi', ⟨hno, ok_ofx (hnx.trans hx1.1) hxk, by show rootB n.x = true; rw [hnx, hx1.1]; exact hr9⟩, hnk⟩ (by show O.length - (i + 1) < O.length - i; omega) ⟨rfl, rfl, rfl, rfl, trivial⟩ (fun w hw => st_cutN (A := TB tr n :: rbs 32 n) hw (new_cons hk2 (new_cons (hx1k _ (.head _)) (new_cons (hx1k _ (.tail _ (.head _))) (new_cons (hx1k _ (.tail _ (.tail _ (.head _)))) (new_cons he1k (new_cons (newKey hb5) hT1)))))))
        · refine wc_draw (s0 := [⟨.at b5 0, q.row, 109, (0, 0), []⟩]) 11 follows ?_
          refine wh_q 0 rfl (by kernel_rfl) rfl rfl rfl (qt_p tbok rfl) (fun w hw => st_cut (hw.tail he1k) (new_nil)) ?_
          refine wh_q 1 rfl (by kernel_rfl) rfl rfl rfl (qt_load_ag (l := q.y.cs) tbok rfl rfl rfl rfl (rs_lk .here q.row_y)) (fun w hw => st_cut (hw.tail he1k) (new_nil)) ?_
          refine wh_q 3 rfl (by kernel_rfl) rfl rfl rfl (qt_p tbok rfl) (fun w hw => st_cut (hw.tail he1k) (new_nil)) ?_
          refine wh_q 4 rfl (by kernel_rfl) rfl rfl rfl (qt_load (c := .slc q.a q.M.length q.c) tbok rfl rfl rfl (rc_lk .here rfl)) (fun w hw => st_cut (hw.tail he1k) (new_nil)) ?_
          refine wh_one 2 (by kernel_rfl) (wo_ef rfl rfl (ef_freshL (B := fun z : RL => rbs 32 z) (I := fun z : RL => z.x = q.y.x ∧ z.own) (v := fun z : RL => .agg z.cs) (by kernel_rfl) rfl rfl (fun w1 g1 => by exact toRoot_c hok.1 (hol.1.up (fun ad => (off_all (new_cons he1k (new_cons (newKey hb5) new_nil)))) g1)) (fun x1 hx1 hx1k => ⟨fun w hw => st_cut ((((hw.tail (hx1k _ (.head _))).tail (hx1k _ (.tail _ (.head _)))).tail (hx1k _ (.tail _ (.tail _ (.head _))))).tail he1k) (new_nil), ?_⟩)))
          dsimp only [rbs, List.cons_append, List.nil_append]
          refine wh_one 5 (by kernel_rfl) (wo_ef rfl rfl (ef_freshT (I := CpD q.M) (by kernel_rfl) rfl rfl (fun w1 g1 => toMarks_c hok.2.1 hok.2.2 (cells_rd (rd_cells hol.2.1 (off_all (new_cons (hx1k _ (.head _)) (new_cons (hx1k _ (.tail _ (.head _))) (new_cons (hx1k _ (.tail _ (.tail _ (.head _)))) (new_cons he1k (new_cons (newKey hb5) new_nil))))))) g1) (fun p hpm => ⟨cells_rd (rd_cells (hol.2.2 p hpm).1 (off_all (new_cons (hx1k _ (.head _)) (new_cons (hx1k _ (.tail _ (.head _))) (new_cons (hx1k _ (.tail _ (.tail _ (.head _)))) (new_cons he1k (new_cons (newKey hb5) new_nil))))))) g1, (hol.2.2 p hpm).2⟩)) (fun z1 hz1 hk2 hT1 => ⟨fun w hw => st_cut (((((hw.tail hk2).tail (hx1k _ (.head _))).tail (hx1k _ (.tail _ (.head _)))).tail (hx1k _ (.tail _ (.tail _ (.head _))))).tail he1k) (hT1), ?_⟩)))
          dsimp only [rbs, List.cons_append, List.nil_append]
          refine wh_one 6 (by kernel_rfl) (wo_ef rfl rfl (ef_pure (v := .t2 (.c (.ptr .nil)) (.c (.i64 (nwE q.y.x (q.M.map (·.1)))))) (by kernel_rfl) rfl rfl (fun w1 g1 => by rw [← hz1.1, ← hx1.1, ← hz1.2.1]; exact new_no_c (y := x1) (M := z1.1) (la := z1.2.1) (lc := z1.2.2.1) (ok_ofx hx1.1 hok.1) hx1.2.pl (RL.lies_own (T := 32) g1 (.there (.there (.there .here))) (.there (.there .here)) (.there .here)) (by exact ok_map hz1.2.1 hok.2.1) (by rw [hz1.1]; exact hok.2.2) (cells_own g1 .here) (hz1.lies g1 (fun b hb => .there (.there (.there (.there (.there (.there (lk_mem hb)))))))) (by rw [hx1.1, hz1.2.1]; exact hw9)) ⟨fun w hw => st_cut (((((hw.tail hk2).tail (hx1k _ (.head _))).tail (hx1k _ (.tail _ (.head _)))).tail (hx1k _ (.tail _ (.tail _ (.head _))))).tail he1k) (hT1), ?_⟩))
          refine wh_q 7 rfl (by kernel_rfl) rfl rfl rfl (qt_p tbok rfl) (fun w hw => st_cut (((((hw.tail hk2).tail (hx1k _ (.head _))).tail (hx1k _ (.tail _ (.head _)))).tail (hx1k _ (.tail _ (.tail _ (.head _))))).tail he1k) (hT1)) ?_
          refine wh_q 8 rfl (by kernel_rfl) rfl rfl rfl (qt_p tbok rfl) (fun w hw => st_cut (((((hw.tail hk2).tail (hx1k _ (.head _))).tail (hx1k _ (.tail _ (.head _)))).tail (hx1k _ (.tail _ (.tail _ (.head _))))).tail he1k) (hT1)) ?_
          refine wh_q 9 rfl (by kernel_rfl) rfl rfl rfl (qt_p tbok rfl) (fun w hw => st_cut (((((hw.tail hk2).tail (hx1k _ (.head _))).tail (hx1k _ (.tail _ (.head _)))).tail (hx1k _ (.tail _ (.tail _ (.head _))))).tail he1k) (hT1)) ?_
          refine wh_q 10 rfl (by kernel_rfl) rfl rfl rfl (qt_p tbok rfl) (fun w hw => st_cut (((((hw.tail hk2).tail (hx1k _ (.head _))).tail (hx1k _ (.tail _ (.head _)))).tail (hx1k _ (.tail _ (.tail _ (.head _))))).tail he1k) (hT1)) ?_
          refine wh_done (by kernel_rfl) ?_
          refine nk_code ?_
          refine wc_seq ?_
          refine wc_seq ?_
          refine wc_quiet follows (by kernel_rfl) ?_
          refine wq_q rfl rfl rfl (qt_p tbok rfl) ?_
          first | refine wq_q rfl rfl rfl (qt_p tbok rfl) ?_ | refine wq_q rfl rfl rfl (qt_neqn tbok rfl rfl rfl) ?_
          refine wq_q rfl rfl rfl (qt_p tbok rfl) ?_
          first | refine wq_gd rfl rfl rfl rfl (qt_p tbok rfl) ?_ | refine wq_skip rfl rfl rfl rfl rfl ?_
          first | refine wq_gd rfl rfl rfl rfl (qt_p tbok rfl) ?_ | refine wq_skip rfl rfl rfl rfl rfl ?_
          first | refine wq_gd rfl rfl rfl rfl (qt_l tbok rfl rfl rfl) ?_ | refine wq_gd rfl rfl rfl rfl (qt_la tbok rfl rfl rfl) ?_ | refine wq_skip rfl rfl rfl rfl rfl ?_
          first | refine wq_gd rfl rfl rfl rfl (qt_p tbok rfl) ?_ | refine wq_skip rfl rfl rfl rfl rfl ?_
          first | refine wq_gd rfl rfl rfl rfl (qt_p tbok rfl) ?_ | refine wq_skip rfl rfl rfl rfl rfl ?_
          first | refine wq_gd rfl rfl rfl rfl (qt_l tbok rfl rfl rfl) ?_ | refine wq_gd rfl rfl rfl rfl (qt_la tbok rfl rfl rfl) ?_ | refine wq_skip rfl rfl rfl rfl rfl ?_
          first | refine wq_gd rfl rfl rfl rfl (qt_len tbok rfl rfl) ?_ | refine wq_skip rfl rfl rfl rfl rfl ?_
          first | refine wq_gd rfl rfl rfl rfl (qt_p tbok rfl) ?_ | refine wq_skip rfl rfl rfl rfl rfl ?_
          first | refine wq_gd rfl rfl rfl rfl (qt_p tbok rfl) ?_ | refine wq_skip rfl rfl rfl rfl rfl ?_
          first | refine wq_gd rfl rfl rfl rfl (qt_p tbok rfl) ?_ | refine wq_skip rfl rfl rfl rfl rfl ?_
          first | refine wq_gd rfl rfl rfl rfl (qt_l tbok rfl rfl rfl) ?_ | refine wq_gd rfl rfl rfl rfl (qt_la tbok rfl rfl rfl) ?_ | refine wq_skip rfl rfl rfl rfl rfl ?_
          first | refine wq_gd rfl rfl rfl rfl (qt_p tbok rfl) ?_ | refine wq_skip rfl rfl rfl rfl rfl ?_
          refine wq_q rfl rfl rfl (qt_p tbok rfl) ?_
          refine wq_done ?_
          refine wl_done ?_
          refine nk_code ?_
          refine wc_no rfl ?_
          refine wc_skip ?_
          refine nk_code ?_
          refine wc_exit rfl ?_
          refine nk_code ?_
          refine wc_region ?_
          refine wl_q rfl rfl rfl (qt_p tbok rfl) ?_
          refine wl_q rfl rfl rfl (qt_p tbok rfl) ?_
          refine wl_done ?_
          exact nk_round (i := (i, none)) (i + 1, none) ⟨hi', trivial, new_nil⟩ (by show O.length - (i + 1) < O.length - i; omega) ⟨rfl, rfl, rfl, rfl, trivial⟩ (fun w hw => hw.all (new_cons hk2 (new_cons (hx1k _ (.head _)) (new_cons (hx1k _ (.tail _ (.head _))) (new_cons (hx1k _ (.tail _ (.tail _ (.head _)))) (new_cons he1k (new_cons (newKey hb5) hT1)))))))
      · refine wc_region ?_
        obtain ⟨⟨tr, z⟩, rfl⟩ := Option.ne_none_iff_exists'.1 ho
        obtain ⟨hzo, hzk, hzr⟩ : z.own ∧ z.ok ∧ rootB z.x = true := hI
        replace hN : ∀ p ∈ TB tr z :: rbs 32 z, ∀ k, p.key = some k → w.heap.size ≤ k := hN
        dsimp only [tB, tP, rbs]
        have hNt : ∀ (x : RL) k, (TB tr x).key = some k → w.heap.size ≤ k := fun x k hk => hN (TB tr z) (.head _) k hk
        refine wl_q rfl rfl rfl (qt_p tbok rfl) ?_
        first | refine wl_q rfl rfl rfl (qt_p tbok rfl) ?_ | refine wl_q rfl rfl rfl (qt_eqn tbok rfl rfl rfl) ?_
        refine wl_done ?_
        refine nk_code ?_
        refine wc_no rfl ?_
        refine wc_skip ?_
        refine nk_code ?_
        refine wc_seq ?_
        refine wc_region ?_
        refine wl_q rfl rfl rfl (qt_p tbok rfl) ?_
        refine wl_ef rfl (ef_freshL (B := fun z : RL => rbs 32 z) (I := fun x : RL => x.x = z.x ∧ x.own) (v := fun z : RL => .agg z.cs) (by kernel_rfl) rfl rfl (fun w1 g1 => by exact root_c (tr := tr) (y := z) (cells_own g1 (.there (.there .here))) hzk hzo.pl (RL.lies_own (T := 32) g1 (.there (.there (.there (.there (.there .here))))) (.there (.there (.there (.there .here)))) (.there (.there (.there .here))))) (fun z2 hz2 hz2k => ?_))
        dsimp only [rbs, List.cons_append, List.nil_append]
        refine wl_ef rfl (ef_freshL (B := fun z : RL => rbs 24 z) (I := fun x : RL => x.x = z2.x ∧ x.own) (v := fun z : RL => .agg z.cs) (by kernel_rfl) rfl rfl (fun w1 g1 => by exact fromRoot_c (ok_ofx hz2.1 hzk) (RL.lies_own (T := 32) g1 (.there (.there .here)) (.there .here) .here)) (fun z3 hz3 hz3k => ?_))
        dsimp only [rbs, List.cons_append, List.nil_append]
        refine wl_ef rfl (ef_alloc zero88 rfl rfl (fun b8 hb8 => ?_))
        refine wl_ef rfl (ef_store (cs' := z3.cs) tbok rfl rfl rfl rfl .here rfl (Nat.le_of_ble_eq_true rfl) rfl ?_)
        refine wl_done ?_
        refine nk_code ?_
        refine wc_seq ?_
        by_cases hU : tuE z.x q.y.x (q.M.map (·.1)) = 0
        · refine wc_draw (s0 := [⟨.at b5 0, q.row, 109, (0, 0), []⟩]) 9 follows ?_
          refine wh_q 0 rfl (by kernel_rfl) rfl rfl rfl (qt_p tbok rfl) (fun w hw => st_cut ((((((((hw.tail (newKey hb8)).tail (hz3k _ (.head _))).tail (hz3k _ (.tail _ (.head _)))).tail (hz3k _ (.tail _ (.tail _ (.head _))))).tail (hz2k _ (.head _))).tail (hz2k _ (.tail _ (.head _)))).tail (hz2k _ (.tail _ (.tail _ (.head _))))).tail he1k) (new_cons (hN _ (.head _)) (new_cons (hN _ (.tail _ (.head _))) (new_cons (hN _ (.tail _ (.tail _ (.head _)))) (new_cons (hN _ (.tail _ (.tail _ (.tail _ (.head _))))) new_nil))))) ?_
          refine wh_q 1 rfl (by kernel_rfl) rfl rfl rfl (qt_p tbok rfl) (fun w hw => st_cut ((((((((hw.tail (newKey hb8)).tail (hz3k _ (.head _))).tail (hz3k _ (.tail _ (.head _)))).tail (hz3k _ (.tail _ (.tail _ (.head _))))).tail (hz2k _ (.head _))).tail (hz2k _ (.tail _ (.head _)))).tail (hz2k _ (.tail _ (.tail _ (.head _))))).tail he1k) (new_cons (hN _ (.head _)) (new_cons (hN _ (.tail _ (.head _))) (new_cons (hN _ (.tail _ (.tail _ (.head _)))) (new_cons (hN _ (.tail _ (.tail _ (.tail _ (.head _))))) new_nil))))) ?_
          refine wh_q 2 rfl (by kernel_rfl) rfl rfl rfl (qt_load_ag (l := q.y.cs) tbok rfl rfl rfl rfl (rs_lk .here q.row_y)) (fun w hw => st_cut ((((((((hw.tail (newKey hb8)).tail (hz3k _ (.head _))).tail (hz3k _ (.tail _ (.head _)))).tail (hz3k _ (.tail _ (.tail _ (.head _))))).tail (hz2k _ (.head _))).tail (hz2k _ (.tail _ (.head _)))).tail (hz2k _ (.tail _ (.tail _ (.head _))))).tail he1k) (new_cons (hN _ (.head _)) (new_cons (hN _ (.tail _ (.head _))) (new_cons (hN _ (.tail _ (.tail _ (.head _)))) (new_cons (hN _ (.tail _ (.tail _ (.tail _ (.head _))))) new_nil))))) ?_
          refine wh_q 4 rfl (by kernel_rfl) rfl rfl rfl (qt_p tbok rfl) (fun w hw => st_cut ((((((((hw.tail (newKey hb8)).tail (hz3k _ (.head _))).tail (hz3k _ (.tail _ (.head _)))).tail (hz3k _ (.tail _ (.tail _ (.head _))))).tail (hz2k _ (.head _))).tail (hz2k _ (.tail _ (.head _)))).tail (hz2k _ (.tail _ (.tail _ (.head _))))).tail he1k) (new_cons (hN _ (.head _)) (new_cons (hN _ (.tail _ (.head _))) (new_cons (hN _ (.tail _ (.tail _ (.head _)))) (new_cons (hN _ (.tail _ (.tail _ (.tail _ (.head _))))) new_nil))))) ?_
          refine wh_q 5 rfl (by kernel_rfl) rfl rfl rfl (qt_load (c := .slc q.a q.M.length q.c) tbok rfl rfl rfl (rc_lk .here rfl)) (fun w hw => st_cut ((((((((hw.tail (newKey hb8)).tail (hz3k _ (.head _))).tail (hz3k _ (.tail _ (.head _)))).tail (hz3k _ (.tail _ (.tail _ (.head _))))).tail (hz2k _ (.head _))).tail (hz2k _ (.tail _ (.head _)))).tail (hz2k _ (.tail _ (.tail _ (.head _))))).tail he1k) (new_cons (hN _ (.head _)) (new_cons (hN _ (.tail _ (.head _))) (new_cons (hN _ (.tail _ (.tail _ (.head _)))) (new_cons (hN _ (.tail _ (.tail _ (.tail _ (.head _))))) new_nil))))) ?_
          refine wh_one 3 (by kernel_rfl) (wo_ef rfl rfl (ef_freshL (B := fun z : RL => rbs 32 z) (I := fun z : RL => z.x = q.y.x ∧ z.own) (v := fun z : RL => .agg z.cs) (by kernel_rfl) rfl rfl (fun w1 g1 => by exact toRoot_c hok.1 (hol.1.up (fun ad => (off_all (new_cons (newKey hb8) (new_cons (hz3k _ (.head _)) (new_cons (hz3k _ (.tail _ (.head _))) (new_cons (hz3k _ (.tail _ (.tail _ (.head _)))) (new_cons (hz2k _ (.head _)) (new_cons (hz2k _ (.tail _ (.head _))) (new_cons (hz2k _ (.tail _ (.tail _ (.head _)))) (new_cons he1k (new_cons (newKey hb5) (new_cons (hN _ (.head _)) (new_cons (hN _ (.tail _ (.head _))) (new_cons (hN _ (.tail _ (.tail _ (.head _)))) (new_cons (hN _ (.tail _ (.tail _ (.tail _ (.head _))))) new_nil))))))))))))))) g1)) (fun x1 hx1 hx1k => ⟨fun w hw => st_cut (((((((((((hw.tail (hx1k _ (.head _))).tail (hx1k _ (.tail _ (.head _)))).tail (hx1k _ (.tail _ (.tail _ (.head _))))).tail (newKey hb8)).tail (hz3k _ (.head _))).tail (hz3k _ (.tail _ (.head _)))).tail (hz3k _ (.tail _ (.tail _ (.head _))))).tail (hz2k _ (.head _))).tail (hz2k _ (.tail _ (.head _)))).tail (hz2k _ (.tail _ (.tail _ (.head _))))).tail he1k) (new_cons (hN _ (.head _)) (new_cons (hN _ (.tail _ (.head _))) (new_cons (hN _ (.tail _ (.tail _ (.head _)))) (new_cons (hN _ (.tail _ (.tail _ (.tail _ (.head _))))) new_nil)))), ?_⟩)))
          dsimp only [rbs, List.cons_append, List.nil_append]
          refine wh_one 6 (by kernel_rfl) (wo_ef rfl rfl (ef_freshT (I := CpD q.M) (by kernel_rfl) rfl rfl (fun w1 g1 => toMarks_c hok.2.1 hok.2.2 (cells_rd (rd_cells hol.2.1 (off_all (new_cons (hx1k _ (.head _)) (new_cons (hx1k _ (.tail _ (.head _))) (new_cons (hx1k _ (.tail _ (.tail _ (.head _)))) (new_cons (newKey hb8) (new_cons (hz3k _ (.head _)) (new_cons (hz3k _ (.tail _ (.head _))) (new_cons (hz3k _ (.tail _ (.tail _ (.head _)))) (new_cons (hz2k _ (.head _)) (new_cons (hz2k _ (.tail _ (.head _))) (new_cons (hz2k _ (.tail _ (.tail _ (.head _)))) (new_cons he1k (new_cons (newKey hb5) (new_cons (hN _ (.head _)) (new_cons (hN _ (.tail _ (.head _))) (new_cons (hN _ (.tail _ (.tail _ (.head _)))) (new_cons (hN _ (.tail _ (.tail _ (.tail _ (.head _))))) new_nil)))))))))))))))))) g1) (fun p hpm => ⟨cells_rd (rd_cells (hol.2.2 p hpm).1 (off_all (new_cons (hx1k _ (.head _)) (new_cons (hx1k _ (.tail _ (.head _))) (new_cons (hx1k _ (.tail _ (.tail _ (.head _)))) (new_cons (newKey hb8) (new_cons (hz3k _ (.head _)) (new_cons (hz3k _ (.tail _ (.head _))) (new_cons (hz3k _ (.tail _ (.tail _ (.head _)))) (new_cons (hz2k _ (.head _)) (new_cons (hz2k _ (.tail _ (.head _))) (new_cons (hz2k _ (.tail _ (.tail _ (.head _)))) (new_cons he1k (new_cons (newKey hb5) (new_cons (hN _ (.head _)) (new_cons (hN _ (.tail _ (.head _))) (new_cons (hN _ (.tail _ (.tail _ (.head _)))) (new_cons (hN _ (.tail _ (.tail _ (.tail _ (.head _))))) new_nil)))))))))))))))))) g1, (hol.2.2 p hpm).2⟩)) (fun z1 hz1 hk2 hT1 => ⟨fun w hw => st_cut ((((((((((((hw.tail hk2).tail (hx1k _ (.head _))).tail (hx1k _ (.tail _ (.head _)))).tail (hx1k _ (.tail _ (.tail _ (.head _))))).tail (newKey hb8)).tail (hz3k _ (.head _))).tail (hz3k _ (.tail _ (.head _)))).tail (hz3k _ (.tail _ (.tail _ (.head _))))).tail (hz2k _ (.head _))).tail (hz2k _ (.tail _ (.head _)))).tail (hz2k _ (.tail _ (.tail _ (.head _))))).tail he1k) (new_cons (hN _ (.head _)) (new_cons (hN _ (.tail _ (.head _))) (new_cons (hN _ (.tail _ (.tail _ (.head _)))) (new_cons (hN _ (.tail _ (.tail _ (.tail _ (.head _))))) hT1)))), ?_⟩)))
          dsimp only [rbs, List.cons_append, List.nil_append]
          refine wh_one 7 (by kernel_rfl) (wo_ef rfl rfl (ef_turnN (b := TB tr z) (b' := fun x : RL => TB tr x) (B := fun x : RL => rbs 32 x) (I := fun x : RL => x.x = x1.x ∧ x.own) (v := fun _ : RL => .c (.i64 0)) (by kernel_rfl) rfl rfl (fun _ => (.there (.there (.there (.there (.there (.there (.there (.there (.there (.there (.there (.there (.there .here)))))))))))))) (fun _ => rfl) (fun w1 g1 => by rw [← hz1.1]; exact upd_ok_c (z := z) (y := x1) (M := z1.1) (la := z1.2.1) (lc := z1.2.2.1) (lk_st g1 (.there (.there (.there (.there (.there (.there (.there (.there (.there (.there (.there (.there (.there .here)))))))))))))) hzk hzr (RL.lies_own (T := 32) g1 (.there (.there (.there (.there (.there (.there (.there (.there (.there (.there (.there (.there (.there (.there (.there (.there .here)))))))))))))))) (.there (.there (.there (.there (.there (.there (.there (.there (.there (.there (.there (.there (.there (.there (.there .here))))))))))))))) (.there (.there (.there (.there (.there (.there (.there (.there (.there (.there (.there (.there (.there (.there .here))))))))))))))) (ok_ofx hx1.1 hok.1) hx1.2.pl (RL.lies_own (T := 32) g1 (.there (.there (.there .here))) (.there (.there .here)) (.there .here)) (by exact ok_map hz1.2.1 hok.2.1) (by rw [hz1.1]; exact hok.2.2) (cells_own g1 .here) (hz1.lies g1 (fun b hb => .there (.there (.there (.there (.there (.there (.there (.there (.there (.there (.there (.there (.there (.there (.there (.there (.there (lk_mem hb))))))))))))))))))) (by rw [hx1.1, hz1.2.1]; exact hU)) (fun z' hz' hpk => ⟨fun w hw => st_cut (((((((((((((((hw.tail (hpk _ (.head _))).tail (hpk _ (.tail _ (.head _)))).tail (hpk _ (.tail _ (.tail _ (.head _))))).tail hk2).tail (hx1k _ (.head _))).tail (hx1k _ (.tail _ (.head _)))).tail (hx1k _ (.tail _ (.tail _ (.head _))))).tail (newKey hb8)).tail (hz3k _ (.head _))).tail (hz3k _ (.tail _ (.head _)))).tail (hz3k _ (.tail _ (.tail _ (.head _))))).tail (hz2k _ (.head _))).tail (hz2k _ (.tail _ (.head _)))).tail (hz2k _ (.tail _ (.tail _ (.head _))))).tail he1k) (new_cons (hNt z') (new_cons (hN _ (.tail _ (.head _))) (new_cons (hN _ (.tail _ (.tail _ (.head _)))) (new_cons (hN _ (.tail _ (.tail _ (.tail _ (.head _))))) hT1)))), ?_⟩)))
          dsimp only [rbs, List.cons_append, List.nil_append]
          refine wh_q 8 rfl (by kernel_rfl) rfl rfl rfl (qt_p tbok rfl) (fun w hw => st_cut (((((((((((((((hw.tail (hpk _ (.head _))).tail (hpk _ (.tail _ (.head _)))).tail (hpk _ (.tail _ (.tail _ (.head _))))).tail hk2).tail (hx1k _ (.head _))).tail (hx1k _ (.tail _ (.head _)))).tail (hx1k _ (.tail _ (.tail _ (.head _))))).tail (newKey hb8)).tail (hz3k _ (.head _))).tail (hz3k _ (.tail _ (.head _)))).tail (hz3k _ (.tail _ (.tail _ (.head _))))).tail (hz2k _ (.head _))).tail (hz2k _ (.tail _ (.head _)))).tail (hz2k _ (.tail _ (.tail _ (.head _))))).tail he1k) (new_cons (hNt z') (new_cons (hN _ (.tail _ (.head _))) (new_cons (hN _ (.tail _ (.tail _ (.head _)))) (new_cons (hN _ (.tail _ (.tail _ (.tail _ (.head _))))) hT1))))) ?_
          refine wh_done (by kernel_rfl) ?_
          refine nk_code ?_
          refine wc_seq ?_
          refine wc_region ?_
          refine wl_q rfl rfl rfl (qt_p tbok rfl) ?_
          refine wl_ef rfl (ef_freshL (B := fun z : RL => rbs 32 z) (I := fun x : RL => x.x = z'.x ∧ x.own) (v := fun z : RL => .agg z.cs) (by kernel_rfl) rfl rfl (fun w1 g1 => by exact root_c (tr := tr) (y := z') (cells_own g1 (.there (.there (.there (.there (.there (.there (.there (.there (.there (.there (.there (.there (.there (.there (.there (.there .here))))))))))))))))) (ok_ofx (hz'.1.trans hx1.1) hxk) hz'.2.pl (RL.lies_own (T := 32) g1 (.there (.there .here)) (.there .here) .here)) (fun z4 hz4 hz4k => ?_))
          dsimp only [rbs, List.cons_append, List.nil_append]
          refine wl_ef rfl (ef_freshL (B := fun z : RL => rbs 24 z) (I := fun x : RL => x.x = z4.x ∧ x.own) (v := fun z : RL => .agg z.cs) (by kernel_rfl) rfl rfl (fun w1 g1 => by exact fromRoot_c (ok_ofx (hz4.1.trans (hz'.1.trans hx1.1)) hxk) (RL.lies_own (T := 32) g1 (.there (.there .here)) (.there .here) .here)) (fun z5 hz5 hz5k => ?_))
          dsimp only [rbs, List.cons_append, List.nil_append]
          refine wl_ef rfl (ef_alloc zero88 rfl rfl (fun b10 hb10 => ?_))
          refine wl_ef rfl (ef_store (cs' := z5.cs) tbok rfl rfl rfl rfl .here rfl (Nat.le_of_ble_eq_true rfl) rfl ?_)
          refine wl_done ?_
          refine nk_code ?_
          refine wc_seq ?_
          refine wc_seq ?_
          refine wc_region ?_
          refine wl_q rfl rfl rfl (qt_p tbok rfl) ?_
          first | refine wl_q rfl rfl rfl (qt_p tbok rfl) ?_ | refine wl_q rfl rfl rfl (qt_neqn tbok rfl rfl rfl) ?_
          refine wl_done ?_
          refine nk_code ?_
          refine wc_no rfl ?_
          refine wc_skip ?_
          refine nk_code ?_
          refine wc_seq ?_
          refine wc_quiet follows (by kernel_rfl) ?_
          obtain ⟨hrU, hvU, hmU, hnU⟩ := up_yes hU
          have e3 : z3.x = z.x := hz3.1.trans hz2.1
          have e5 : z5.x = q.y.x := hz5.1.trans (hz4.1.trans (hz'.1.trans hx1.1))
          have r3 : z3.r.1 = z.r.1 := congrArg Rx.r e3
          have r5 : z5.r.1 = q.y.r.1 := congrArg Rx.r e5
          have v3 : z3.v = z.v := congrArg Rx.v e3
          have v5 : z5.v = q.y.v := congrArg Rx.v e5
          replace hvU : q.y.v = z.v + 1 := hvU
          have hv1 : 1 ≤ z.v ∧ z.v ≤ 1099511627776 := rootB_v hzr
          have k3 : z3.ok := ok_ofx e3 hzk
          have k5 : z5.ok := ok_ofx e5 hxk
          have c3 : z3.r.1.n ≤ (cntK z3.r.1.K (encR q.y.x) (q.M.map (·.1)) : Int) := (by rw [r3, encR_B hrU]; exact meets_cnt hmU)
          have c5 : z5.r.1.n ≤ (cntK z5.r.1.K (encR q.y.x) (q.M.map (·.1)) : Int) := (by rw [r5, encR_B hrU]; exact meets_cnt hnU)
          refine wq_q rfl rfl rfl (qt_p tbok rfl) ?_
          refine wq_q rfl rfl rfl (qt_load (c := .i64 z5.v) tbok rfl rfl rfl (rc_lk .here rfl)) ?_
          refine wq_q rfl rfl rfl (qt_p tbok rfl) ?_
          refine wq_q rfl rfl rfl (qt_p tbok rfl) ?_
          refine wq_q rfl rfl rfl (qt_load (c := .i64 z3.v) tbok rfl rfl rfl (rc_lk (.there (.there (.there (.there (.there (.there (.there (.there (.there (.there (.there (.there (.there (.there .here)))))))))))))) rfl)) ?_
          first | refine wq_q rfl rfl rfl (qt_p tbok rfl) ?_ | refine wq_q rfl rfl rfl (qt_neqn tbok rfl rfl rfl) ?_
          refine wq_as (v' := .c (.bool false)) (congrArg (fun b => V.c (C.bool (!b))) (decide_eq_true (by omega))) ?_
          refine wq_q rfl rfl rfl (qt_p tbok rfl) ?_
          refine wq_gd rfl rfl rfl rfl (qt_load_ag (l := z5.cs) tbok rfl rfl rfl rfl (rs_lk .here at0)) ?_
          first | refine wq_gd rfl rfl rfl rfl (qt_p tbok rfl) ?_ | refine wq_skip rfl rfl rfl rfl rfl ?_
          refine wq_gd rfl rfl rfl rfl (qt_load_ag (l := q.y.cs) tbok rfl rfl rfl rfl (rs_lk (.there (.there (.there (.there (.there (.there (.there (.there (.there (.there (.there (.there (.there (.there (.there (.there (.there (.there (.there (.there (.there (.there .here)))))))))))))))))))))) q.row_y)) ?_
          refine wq_callg (.c (.bool (sameRx z5.x q.y.x))) rfl (by kernel_rfl) rfl rfl (fun w1 g1 => by exact sameRoot_c k5 hok.1 (RL.lies_own (T := 24) g1 (.there (.there (.there .here))) (.there (.there .here)) (.there .here)) (hol.1.up (fun ad => (off_all (new_cons (newKey hb10) (new_cons (hz5k _ (.head _)) (new_cons (hz5k _ (.tail _ (.head _))) (new_cons (hz5k _ (.tail _ (.tail _ (.head _)))) (new_cons (hz4k _ (.head _)) (new_cons (hz4k _ (.tail _ (.head _))) (new_cons (hz4k _ (.tail _ (.tail _ (.head _)))) (new_cons (hpk _ (.head _)) (new_cons (hpk _ (.tail _ (.head _))) (new_cons (hpk _ (.tail _ (.tail _ (.head _)))) (new_cons hk2 (new_cons (hx1k _ (.head _)) (new_cons (hx1k _ (.tail _ (.head _))) (new_cons (hx1k _ (.tail _ (.tail _ (.head _)))) (new_cons (newKey hb8) (new_cons (hz3k _ (.head _)) (new_cons (hz3k _ (.tail _ (.head _))) (new_cons (hz3k _ (.tail _ (.tail _ (.head _)))) (new_cons (hz2k _ (.head _)) (new_cons (hz2k _ (.tail _ (.head _))) (new_cons (hz2k _ (.tail _ (.tail _ (.head _)))) (new_cons he1k (new_cons (newKey hb5) (new_cons (hNt z') (new_cons (hN _ (.tail _ (.head _))) (new_cons (hN _ (.tail _ (.tail _ (.head _)))) (new_cons (hN _ (.tail _ (.tail _ (.tail _ (.head _))))) hT1))))))))))))))))))))))))))))) g1)) ?_
          refine wq_as (v' := .c (.bool true)) (congrArg (fun b => V.c (C.bool b)) (by rw [e5]; exact sameRx_refl _)) ?_
          first | refine wq_gd rfl rfl rfl rfl (qt_p tbok rfl) ?_ | refine wq_skip rfl rfl rfl rfl rfl ?_
          refine wq_q rfl rfl rfl (qt_p tbok rfl) ?_
          refine wq_q rfl rfl rfl (qt_p tbok rfl) ?_
          first | refine wq_gd rfl rfl rfl rfl (qt_p tbok rfl) ?_ | refine wq_skip rfl rfl rfl rfl rfl ?_
          refine wq_gd rfl rfl rfl rfl (qt_load_ag (l := rrow z3.r) tbok rfl rfl rfl rfl (rs_lk (.there (.there (.there (.there (.there (.there (.there (.there (.there (.there (.there (.there (.there (.there .here)))))))))))))) (rl_r z3))) ?_
          first | refine wq_gd rfl rfl rfl rfl (qt_p tbok rfl) ?_ | refine wq_skip rfl rfl rfl rfl rfl ?_
          first | refine wq_gd rfl rfl rfl rfl (qt_p tbok rfl) ?_ | refine wq_skip rfl rfl rfl rfl rfl ?_
          refine wq_gd rfl rfl rfl rfl (qt_load (c := .slc q.a q.M.length q.c) tbok rfl rfl rfl (rc_lk (.there (.there (.there (.there (.there (.there (.there (.there (.there (.there (.there (.there (.there (.there (.there (.there (.there (.there (.there (.there (.there (.there .here)))))))))))))))))))))) rfl)) ?_
          refine wq_callg (.c (.i64 (cntK z3.r.1.K (encR q.y.x) (q.M.map (·.1)) : Nat))) rfl (by kernel_rfl) rfl rfl ((fun w1 g1 => by exact signers_c (n := z3.r.1.n) (K := z3.r.1.K) (M := q.M) (msg := encR q.y.x) (pa := z3.r.2.1) (pc := z3.r.2.2.1) (ma := e1.1) (mc := e1.2.1) (la := q.a) (lc := q.c) k3.1.1 k3.1.2 (cells_own g1 (.there (.there (.there (.there (.there (.there (.there (.there (.there (.there (.there (.there (.there (.there (.there (.there (.there .here)))))))))))))))))) (cells_own g1 (.there (.there (.there (.there (.there (.there (.there (.there (.there (.there (.there (.there (.there (.there (.there (.there (.there (.there (.there (.there (.there .here)))))))))))))))))))))) (by omega) hok.2.1 hok.2.2 (cells_rd (rd_cells hol.2.1 (off_all (new_cons (newKey hb10) (new_cons (hz5k _ (.head _)) (new_cons (hz5k _ (.tail _ (.head _))) (new_cons (hz5k _ (.tail _ (.tail _ (.head _)))) (new_cons (hz4k _ (.head _)) (new_cons (hz4k _ (.tail _ (.head _))) (new_cons (hz4k _ (.tail _ (.tail _ (.head _)))) (new_cons (hpk _ (.head _)) (new_cons (hpk _ (.tail _ (.head _))) (new_cons (hpk _ (.tail _ (.tail _ (.head _)))) (new_cons hk2 (new_cons (hx1k _ (.head _)) (new_cons (hx1k _ (.tail _ (.head _))) (new_cons (hx1k _ (.tail _ (.tail _ (.head _)))) (new_cons (newKey hb8) (new_cons (hz3k _ (.head _)) (new_cons (hz3k _ (.tail _ (.head _))) (new_cons (hz3k _ (.tail _ (.tail _ (.head _)))) (new_cons (hz2k _ (.head _)) (new_cons (hz2k _ (.tail _ (.head _))) (new_cons (hz2k _ (.tail _ (.tail _ (.head _)))) (new_cons he1k (new_cons (newKey hb5) (new_cons (hNt z') (new_cons (hN _ (.tail _ (.head _))) (new_cons (hN _ (.tail _ (.tail _ (.head _)))) (new_cons (hN _ (.tail _ (.tail _ (.tail _ (.head _))))) hT1))))))))))))))))))))))))))))) g1) (fun p hpm => ⟨cells_rd (rd_cells (hol.2.2 p hpm).1 (off_all (new_cons (newKey hb10) (new_cons (hz5k _ (.head _)) (new_cons (hz5k _ (.tail _ (.head _))) (new_cons (hz5k _ (.tail _ (.tail _ (.head _)))) (new_cons (hz4k _ (.head _)) (new_cons (hz4k _ (.tail _ (.head _))) (new_cons (hz4k _ (.tail _ (.tail _ (.head _)))) (new_cons (hpk _ (.head _)) (new_cons (hpk _ (.tail _ (.head _))) (new_cons (hpk _ (.tail _ (.tail _ (.head _)))) (new_cons hk2 (new_cons (hx1k _ (.head _)) (new_cons (hx1k _ (.tail _ (.head _))) (new_cons (hx1k _ (.tail _ (.tail _ (.head _)))) (new_cons (newKey hb8) (new_cons (hz3k _ (.head _)) (new_cons (hz3k _ (.tail _ (.head _))) (new_cons (hz3k _ (.tail _ (.tail _ (.head _)))) (new_cons (hz2k _ (.head _)) (new_cons (hz2k _ (.tail _ (.head _))) (new_cons (hz2k _ (.tail _ (.tail _ (.head _)))) (new_cons he1k (new_cons (newKey hb5) (new_cons (hNt z') (new_cons (hN _ (.tail _ (.head _))) (new_cons (hN _ (.tail _ (.tail _ (.head _)))) (new_cons (hN _ (.tail _ (.tail _ (.tail _ (.head _))))) hT1))))))))))))))))))))))))))))) g1, (hol.2.2 p hpm).2⟩))) ?_
          first | refine wq_gd rfl rfl rfl rfl (qt_p tbok rfl) ?_ | refine wq_skip rfl rfl rfl rfl rfl ?_
          first | refine wq_gd rfl rfl rfl rfl (qt_p tbok rfl) ?_ | refine wq_skip rfl rfl rfl rfl rfl ?_
          refine wq_gd rfl rfl rfl rfl (qt_load (c := .i64 z3.r.1.n) tbok rfl rfl rfl (rc_lk (.there (.there (.there (.there (.there (.there (.there (.there (.there (.there (.there (.there (.there (.there .here)))))))))))))) rfl)) ?_
          first | refine wq_gd rfl rfl rfl rfl (qt_p tbok rfl) ?_ | refine wq_skip rfl rfl rfl rfl rfl ?_
          refine wq_as (v' := .c (.bool false)) (congrArg (fun b => V.c (C.bool b)) (decide_eq_false (by omega))) ?_
          refine wq_q rfl rfl rfl (qt_p tbok rfl) ?_
          refine wq_q rfl rfl rfl (qt_p tbok rfl) ?_
          first | refine wq_gd rfl rfl rfl rfl (qt_p tbok rfl) ?_ | refine wq_skip rfl rfl rfl rfl rfl ?_
          refine wq_gd rfl rfl rfl rfl (qt_load_ag (l := rrow z5.r) tbok rfl rfl rfl rfl (rs_lk .here (rl_r z5))) ?_
          first | refine wq_gd rfl rfl rfl rfl (qt_p tbok rfl) ?_ | refine wq_skip rfl rfl rfl rfl rfl ?_
          first | refine wq_gd rfl rfl rfl rfl (qt_p tbok rfl) ?_ | refine wq_skip rfl rfl rfl rfl rfl ?_
          refine wq_gd rfl rfl rfl rfl (qt_load (c := .slc q.a q.M.length q.c) tbok rfl rfl rfl (rc_lk (.there (.there (.there (.there (.there (.there (.there (.there (.there (.there (.there (.there (.there (.there (.there (.there (.there (.there (.there (.there (.there (.there .here)))))))))))))))))))))) rfl)) ?_
          refine wq_callg (.c (.i64 (cntK z5.r.1.K (encR q.y.x) (q.M.map (·.1)) : Nat))) rfl (by kernel_rfl) rfl rfl ((fun w1 g1 => by exact signers_c (n := z5.r.1.n) (K := z5.r.1.K) (M := q.M) (msg := encR q.y.x) (pa := z5.r.2.1) (pc := z5.r.2.2.1) (ma := e1.1) (mc := e1.2.1) (la := q.a) (lc := q.c) k5.1.1 k5.1.2 (cells_own g1 (.there (.there (.there .here)))) (cells_own g1 (.there (.there (.there (.there (.there (.there (.there (.there (.there (.there (.there (.there (.there (.there (.there (.there (.there (.there (.there (.there (.there .here)))))))))))))))))))))) (by omega) hok.2.1 hok.2.2 (cells_rd (rd_cells hol.2.1 (off_all (new_cons (newKey hb10) (new_cons (hz5k _ (.head _)) (new_cons (hz5k _ (.tail _ (.head _))) (new_cons (hz5k _ (.tail _ (.tail _ (.head _)))) (new_cons (hz4k _ (.head _)) (new_cons (hz4k _ (.tail _ (.head _))) (new_cons (hz4k _ (.tail _ (.tail _ (.head _)))) (new_cons (hpk _ (.head _)) (new_cons (hpk _ (.tail _ (.head _))) (new_cons (hpk _ (.tail _ (.tail _ (.head _)))) (new_cons hk2 (new_cons (hx1k _ (.head _)) (new_cons (hx1k _ (.tail _ (.head _))) (new_cons (hx1k _ (.tail _ (.tail _ (.head _)))) (new_cons (newKey hb8) (new_cons (hz3k _ (.head _)) (new_cons (hz3k _ (.tail _ (.head _))) (new_cons (hz3k _ (.tail _ (.tail _ (.head _)))) (new_cons (hz2k _ (.head _)) (new_cons (hz2k _ (.tail _ (.head _))) (new_cons (hz2k _ (.tail _ (.tail _ (.head _)))) (new_cons he1k (new_cons (newKey hb5) (new_cons (hNt z') (new_cons (hN _ (.tail _ (.head _))) (new_cons (hN _ (.tail _ (.tail _ (.head _)))) (new_cons (hN _ (.tail _ (.tail _ (.tail _ (.head _))))) hT1))))))))))))))))))))))))))))) g1) (fun p hpm => ⟨cells_rd (rd_cells (hol.2.2 p hpm).1 (off_all (new_cons (newKey hb10) (new_cons (hz5k _ (.head _)) (new_cons (hz5k _ (.tail _ (.head _))) (new_cons (hz5k _ (.tail _ (.tail _ (.head _)))) (new_cons (hz4k _ (.head _)) (new_cons (hz4k _ (.tail _ (.head _))) (new_cons (hz4k _ (.tail _ (.tail _ (.head _)))) (new_cons (hpk _ (.head _)) (new_cons (hpk _ (.tail _ (.head _))) (new_cons (hpk _ (.tail _ (.tail _ (.head _)))) (new_cons hk2 (new_cons (hx1k _ (.head _)) (new_cons (hx1k _ (.tail _ (.head _))) (new_cons (hx1k _ (.tail _ (.tail _ (.head _)))) (new_cons (newKey hb8) (new_cons (hz3k _ (.head _)) (new_cons (hz3k _ (.tail _ (.head _))) (new_cons (hz3k _ (.tail _ (.tail _ (.head _)))) (new_cons (hz2k _ (.head _)) (new_cons (hz2k _ (.tail _ (.head _))) (new_cons (hz2k _ (.tail _ (.tail _ (.head _)))) (new_cons he1k (new_cons (newKey hb5) (new_cons (hNt z') (new_cons (hN _ (.tail _ (.head _))) (new_cons (hN _ (.tail _ (.tail _ (.head _)))) (new_cons (hN _ (.tail _ (.tail _ (.tail _ (.head _))))) hT1))))))))))))))))))))))))))))) g1, (hol.2.2 p hpm).2⟩))) ?_
          first | refine wq_gd rfl rfl rfl rfl (qt_p tbok rfl) ?_ | refine wq_skip rfl rfl rfl rfl rfl ?_
          first | refine wq_gd rfl rfl rfl rfl (qt_p tbok rfl) ?_ | refine wq_skip rfl rfl rfl rfl rfl ?_
          refine wq_gd rfl rfl rfl rfl (qt_load (c := .i64 z5.r.1.n) tbok rfl rfl rfl (rc_lk .here rfl)) ?_
          first | refine wq_gd rfl rfl rfl rfl (qt_p tbok rfl) ?_ | refine wq_skip rfl rfl rfl rfl rfl ?_
          refine wq_as (v' := .c (.bool false)) (congrArg (fun b => V.c (C.bool b)) (decide_eq_false (by omega))) ?_
          refine wq_q rfl rfl rfl (qt_p tbok rfl) ?_
          refine wq_done ?_
          refine wl_done ?_
          refine nk_code ?_
          refine wc_no rfl ?_
          refine wc_skip ?_
          refine nk_code ?_
          refine wc_region ?_
          refine wl_q rfl rfl rfl (qt_p tbok rfl) ?_
          refine wl_q rfl rfl rfl (qt_p tbok rfl) ?_
          refine wl_done ?_
          exact nk_round (i := (i, some (tr, z))) (i + 1, some (tr, z')) ⟨hi', ⟨hz'.2, ok_ofx (hz'.1.trans hx1.1) hxk, by show rootB z'.x = true; rw [hz'.1, hx1.1]; exact hrU⟩, new_cons (hNt z') hpk⟩ (by show O.length - (i + 1) < O.length - i; omega) ⟨rfl, rfl, rfl, rfl, trivial⟩ (fun w hw => tb_last (st_cutN (A := [rob 32 z'.l, rob 32 z'.t, rob 32 z'.r, TB tr z']) (Rm.sub_St (Rm.sub_St (Rm.sub_St (Rm.sub_St (Rm.sub_St (Rm.sub_St (Rm.sub_St (Rm.sub_St (Rm.sub_St (Rm.sub_St (Rm.sub_St (Rm.sub_St (Rm.sub_St (Rm.sub_St (Rm.sub_St (Rm.sub_St (Rm.sub_St (Rm.sub_St (Rm.sub_St (Rm.sub_St hw .here (newKey hb10)) .here (hz5k _ (.head _))) .here (hz5k _ (.tail _ (.head _)))) .here (hz5k _ (.tail _ (.tail _ (.head _))))) .here (hz4k _ (.head _))) .here (hz4k _ (.tail _ (.head _)))) .here (hz4k _ (.tail _ (.tail _ (.head _))))) (.there (.there (.there .here))) hk2) (.there (.there (.there .here))) (hx1k _ (.head _))) (.there (.there (.there .here))) (hx1k _ (.tail _ (.head _)))) (.there (.there (.there .here))) (hx1k _ (.tail _ (.tail _ (.head _))))) (.there (.there (.there .here))) (newKey hb8)) (.there (.there (.there .here))) (hz3k _ (.head _))) (.there (.there (.there .here))) (hz3k _ (.tail _ (.head _)))) (.there (.there (.there .here))) (hz3k _ (.tail _ (.tail _ (.head _))))) (.there (.there (.there .here))) (hz2k _ (.head _))) (.there (.there (.there .here))) (hz2k _ (.tail _ (.head _)))) (.there (.there (.there .here))) (hz2k _ (.tail _ (.tail _ (.head _))))) (.there (.there (.there .here))) he1k) (.there (.there (.there .here))) (newKey hb5)) (new_cons (hN _ (.tail _ (.head _))) (new_cons (hN _ (.tail _ (.tail _ (.head _)))) (new_cons (hN _ (.tail _ (.tail _ (.tail _ (.head _))))) hT1)))))
        · refine wc_draw (s0 := [⟨.at b5 0, q.row, 109, (0, 0), []⟩]) 9 follows ?_
          refine wh_q 0 rfl (by kernel_rfl) rfl rfl rfl (qt_p tbok rfl) (fun w hw => st_cut ((((((((hw.tail (newKey hb8)).tail (hz3k _ (.head _))).tail (hz3k _ (.tail _ (.head _)))).tail (hz3k _ (.tail _ (.tail _ (.head _))))).tail (hz2k _ (.head _))).tail (hz2k _ (.tail _ (.head _)))).tail (hz2k _ (.tail _ (.tail _ (.head _))))).tail he1k) (new_cons (hN _ (.head _)) (new_cons (hN _ (.tail _ (.head _))) (new_cons (hN _ (.tail _ (.tail _ (.head _)))) (new_cons (hN _ (.tail _ (.tail _ (.tail _ (.head _))))) new_nil))))) ?_
          refine wh_q 1 rfl (by kernel_rfl) rfl rfl rfl (qt_p tbok rfl) (fun w hw => st_cut ((((((((hw.tail (newKey hb8)).tail (hz3k _ (.head _))).tail (hz3k _ (.tail _ (.head _)))).tail (hz3k _ (.tail _ (.tail _ (.head _))))).tail (hz2k _ (.head _))).tail (hz2k _ (.tail _ (.head _)))).tail (hz2k _ (.tail _ (.tail _ (.head _))))).tail he1k) (new_cons (hN _ (.head _)) (new_cons (hN _ (.tail _ (.head _))) (new_cons (hN _ (.tail _ (.tail _ (.head _)))) (new_cons (hN _ (.tail _ (.tail _ (.tail _ (.head _))))) new_nil))))) ?_
          refine wh_q 2 rfl (by kernel_rfl) rfl rfl rfl (qt_load_ag (l := q.y.cs) tbok rfl rfl rfl rfl (rs_lk .here q.row_y)) (fun w hw => st_cut ((((((((hw.tail (newKey hb8)).tail (hz3k _ (.head _))).tail (hz3k _ (.tail _ (.head _)))).tail (hz3k _ (.tail _ (.tail _ (.head _))))).tail (hz2k _ (.head _))).tail (hz2k _ (.tail _ (.head _)))).tail (hz2k _ (.tail _ (.tail _ (.head _))))).tail he1k) (new_cons (hN _ (.head _)) (new_cons (hN _ (.tail _ (.head _))) (new_cons (hN _ (.tail _ (.tail _ (.head _)))) (new_cons (hN _ (.tail _ (.tail _ (.tail _ (.head _))))) new_nil))))) ?_
          refine wh_q 4 rfl (by kernel_rfl) rfl rfl rfl (qt_p tbok rfl) (fun w hw => st_cut ((((((((hw.tail (newKey hb8)).tail (hz3k _ (.head _))).tail (hz3k _ (.tail _ (.head _)))).tail (hz3k _ (.tail _ (.tail _ (.head _))))).tail (hz2k _ (.head _))).tail (hz2k _ (.tail _ (.head _)))).tail (hz2k _ (.tail _ (.tail _ (.head _))))).tail he1k) (new_cons (hN _ (.head _)) (new_cons (hN _ (.tail _ (.head _))) (new_cons (hN _ (.tail _ (.tail _ (.head _)))) (new_cons (hN _ (.tail _ (.tail _ (.tail _ (.head _))))) new_nil))))) ?_
          refine wh_q 5 rfl (by kernel_rfl) rfl rfl rfl (qt_load (c := .slc q.a q.M.length q.c) tbok rfl rfl rfl (rc_lk .here rfl)) (fun w hw => st_cut ((((((((hw.tail (newKey hb8)).tail (hz3k _ (.head _))).tail (hz3k _ (.tail _ (.head _)))).tail (hz3k _ (.tail _ (.tail _ (.head _))))).tail (hz2k _ (.head _))).tail (hz2k _ (.tail _ (.head _)))).tail (hz2k _ (.tail _ (.tail _ (.head _))))).tail he1k) (new_cons (hN _ (.head _)) (new_cons (hN _ (.tail _ (.head _))) (new_cons (hN _ (.tail _ (.tail _ (.head _)))) (new_cons (hN _ (.tail _ (.tail _ (.tail _ (.head _))))) new_nil))))) ?_
          refine wh_one 3 (by kernel_rfl) (wo_ef rfl rfl (ef_freshL (B := fun z : RL => rbs 32 z) (I := fun z : RL => z.x = q.y.x ∧ z.own) (v := fun z : RL => .agg z.cs) (by kernel_rfl) rfl rfl (fun w1 g1 => by exact toRoot_c hok.1 (hol.1.up (fun ad => (off_all (new_cons (newKey hb8) (new_cons (hz3k _ (.head _)) (new_cons (hz3k _ (.tail _ (.head _))) (new_cons (hz3k _ (.tail _ (.tail _ (.head _)))) (new_cons (hz2k _ (.head _)) (new_cons (hz2k _ (.tail _ (.head _))) (new_cons (hz2k _ (.tail _ (.tail _ (.head _)))) (new_cons he1k (new_cons (newKey hb5) (new_cons (hN _ (.head _)) (new_cons (hN _ (.tail _ (.head _))) (new_cons (hN _ (.tail _ (.tail _ (.head _)))) (new_cons (hN _ (.tail _ (.tail _ (.tail _ (.head _))))) new_nil))))))))))))))) g1)) (fun x1 hx1 hx1k => ⟨fun w hw => st_cut (((((((((((hw.tail (hx1k _ (.head _))).tail (hx1k _ (.tail _ (.head _)))).tail (hx1k _ (.tail _ (.tail _ (.head _))))).tail (newKey hb8)).tail (hz3k _ (.head _))).tail (hz3k _ (.tail _ (.head _)))).tail (hz3k _ (.tail _ (.tail _ (.head _))))).tail (hz2k _ (.head _))).tail (hz2k _ (.tail _ (.head _)))).tail (hz2k _ (.tail _ (.tail _ (.head _))))).tail he1k) (new_cons (hN _ (.head _)) (new_cons (hN _ (.tail _ (.head _))) (new_cons (hN _ (.tail _ (.tail _ (.head _)))) (new_cons (hN _ (.tail _ (.tail _ (.tail _ (.head _))))) new_nil)))), ?_⟩)))
          dsimp only [rbs, List.cons_append, List.nil_append]
          refine wh_one 6 (by kernel_rfl) (wo_ef rfl rfl (ef_freshT (I := CpD q.M) (by kernel_rfl) rfl rfl (fun w1 g1 => toMarks_c hok.2.1 hok.2.2 (cells_rd (rd_cells hol.2.1 (off_all (new_cons (hx1k _ (.head _)) (new_cons (hx1k _ (.tail _ (.head _))) (new_cons (hx1k _ (.tail _ (.tail _ (.head _)))) (new_cons (newKey hb8) (new_cons (hz3k _ (.head _)) (new_cons (hz3k _ (.tail _ (.head _))) (new_cons (hz3k _ (.tail _ (.tail _ (.head _)))) (new_cons (hz2k _ (.head _)) (new_cons (hz2k _ (.tail _ (.head _))) (new_cons (hz2k _ (.tail _ (.tail _ (.head _)))) (new_cons he1k (new_cons (newKey hb5) (new_cons (hN _ (.head _)) (new_cons (hN _ (.tail _ (.head _))) (new_cons (hN _ (.tail _ (.tail _ (.head _)))) (new_cons (hN _ (.tail _ (.tail _ (.tail _ (.head _))))) new_nil)))))))))))))))))) g1) (fun p hpm => ⟨cells_rd (rd_cells (hol.2.2 p hpm).1 (off_all (new_cons (hx1k _ (.head _)) (new_cons (hx1k _ (.tail _ (.head _))) (new_cons (hx1k _ (.tail _ (.tail _ (.head _)))) (new_cons (newKey hb8) (new_cons (hz3k _ (.head _)) (new_cons (hz3k _ (.tail _ (.head _))) (new_cons (hz3k _ (.tail _ (.tail _ (.head _)))) (new_cons (hz2k _ (.head _)) (new_cons (hz2k _ (.tail _ (.head _))) (new_cons (hz2k _ (.tail _ (.tail _ (.head _)))) (new_cons he1k (new_cons (newKey hb5) (new_cons (hN _ (.head _)) (new_cons (hN _ (.tail _ (.head _))) (new_cons (hN _ (.tail _ (.tail _ (.head _)))) (new_cons (hN _ (.tail _ (.tail _ (.tail _ (.head _))))) new_nil)))))))))))))))))) g1, (hol.2.2 p hpm).2⟩)) (fun z1 hz1 hk2 hT1 => ⟨fun w hw => st_cut ((((((((((((hw.tail hk2).tail (hx1k _ (.head _))).tail (hx1k _ (.tail _ (.head _)))).tail (hx1k _ (.tail _ (.tail _ (.head _))))).tail (newKey hb8)).tail (hz3k _ (.head _))).tail (hz3k _ (.tail _ (.head _)))).tail (hz3k _ (.tail _ (.tail _ (.head _))))).tail (hz2k _ (.head _))).tail (hz2k _ (.tail _ (.head _)))).tail (hz2k _ (.tail _ (.tail _ (.head _))))).tail he1k) (new_cons (hN _ (.head _)) (new_cons (hN _ (.tail _ (.head _))) (new_cons (hN _ (.tail _ (.tail _ (.head _)))) (new_cons (hN _ (.tail _ (.tail _ (.tail _ (.head _))))) hT1)))), ?_⟩)))
          dsimp only [rbs, List.cons_append, List.nil_append]
          refine wh_one 7 (by kernel_rfl) (wo_ef rfl rfl (ef_pure (v := .c (.i64 (tuE z.x q.y.x (q.M.map (·.1))))) (by kernel_rfl) rfl rfl (fun w1 g1 => by rw [← hz1.1, ← hx1.1, ← hz1.2.1]; exact upd_no_c (z := z) (y := x1) (M := z1.1) (la := z1.2.1) (lc := z1.2.2.1) (lk_st g1 (.there (.there (.there (.there (.there (.there (.there (.there (.there (.there (.there (.there (.there .here)))))))))))))) hzk hzr (RL.lies_own (T := 32) g1 (.there (.there (.there (.there (.there (.there (.there (.there (.there (.there (.there (.there (.there (.there (.there (.there .here)))))))))))))))) (.there (.there (.there (.there (.there (.there (.there (.there (.there (.there (.there (.there (.there (.there (.there .here))))))))))))))) (.there (.there (.there (.there (.there (.there (.there (.there (.there (.there (.there (.there (.there (.there .here))))))))))))))) (ok_ofx hx1.1 hok.1) hx1.2.pl (RL.lies_own (T := 32) g1 (.there (.there (.there .here))) (.there (.there .here)) (.there .here)) (by exact ok_map hz1.2.1 hok.2.1) (by rw [hz1.1]; exact hok.2.2) (cells_own g1 .here) (hz1.lies g1 (fun b hb => .there (.there (.there (.there (.there (.there (.there (.there (.there (.there (.there (.there (.there (.there (.there (.there (.there (lk_mem hb))))))))))))))))))) (by rw [hx1.1, hz1.2.1]; exact hU)) ⟨fun w hw => st_cut ((((((((((((hw.tail hk2).tail (hx1k _ (.head _))).tail (hx1k _ (.tail _ (.head _)))).tail (hx1k _ (.tail _ (.tail _ (.head _))))).tail (newKey hb8)).tail (hz3k _ (.head _))).tail (hz3k _ (.tail _ (.head _)))).tail (hz3k _ (.tail _ (.tail _ (.head _))))).tail (hz2k _ (.head _))).tail (hz2k _ (.tail _ (.head _)))).tail (hz2k _ (.tail _ (.tail _ (.head _))))).tail he1k) (new_cons (hN _ (.head _)) (new_cons (hN _ (.tail _ (.head _))) (new_cons (hN _ (.tail _ (.tail _ (.head _)))) (new_cons (hN _ (.tail _ (.tail _ (.tail _ (.head _))))) hT1)))), ?_⟩))
          refine wh_q 8 rfl (by kernel_rfl) rfl rfl rfl (qt_p tbok rfl) (fun w hw => st_cut ((((((((((((hw.tail hk2).tail (hx1k _ (.head _))).tail (hx1k _ (.tail _ (.head _)))).tail (hx1k _ (.tail _ (.tail _ (.head _))))).tail (newKey hb8)).tail (hz3k _ (.head _))).tail (hz3k _ (.tail _ (.head _)))).tail (hz3k _ (.tail _ (.tail _ (.head _))))).tail (hz2k _ (.head _))).tail (hz2k _ (.tail _ (.head _)))).tail (hz2k _ (.tail _ (.tail _ (.head _))))).tail he1k) (new_cons (hN _ (.head _)) (new_cons (hN _ (.tail _ (.head _))) (new_cons (hN _ (.tail _ (.tail _ (.head _)))) (new_cons (hN _ (.tail _ (.tail _ (.tail _ (.head _))))) hT1))))) ?_
          refine wh_done (by kernel_rfl) ?_
          refine nk_code ?_
          refine wc_seq ?_
          refine wc_region ?_
          refine wl_q rfl rfl rfl (qt_p tbok rfl) ?_
          refine wl_ef rfl (ef_freshL (B := fun z : RL => rbs 32 z) (I := fun x : RL => x.x = z.x ∧ x.own) (v := fun z : RL => .agg z.cs) (by kernel_rfl) rfl rfl (fun w1 g1 => by exact root_c (tr := tr) (y := z) (cells_own g1 (.there (.there (.there (.there (.there (.there (.there (.there (.there (.there (.there (.there (.there .here)))))))))))))) hzk hzo.pl (RL.lies_own (T := 32) g1 (.there (.there (.there (.there (.there (.there (.there (.there (.there (.there (.there (.there (.there (.there (.there (.there .here)))))))))))))))) (.there (.there (.there (.there (.there (.there (.there (.there (.there (.there (.there (.there (.there (.there (.there .here))))))))))))))) (.there (.there (.there (.there (.there (.there (.there (.there (.there (.there (.there (.there (.there (.there .here)))))))))))))))) (fun z4 hz4 hz4k => ?_))
          dsimp only [rbs, List.cons_append, List.nil_append]
          refine wl_ef rfl (ef_freshL (B := fun z : RL => rbs 24 z) (I := fun x : RL => x.x = z4.x ∧ x.own) (v := fun z : RL => .agg z.cs) (by kernel_rfl) rfl rfl (fun w1 g1 => by exact fromRoot_c (ok_ofx hz4.1 hzk) (RL.lies_own (T := 32) g1 (.there (.there .here)) (.there .here) .here)) (fun z5 hz5 hz5k => ?_))
          dsimp only [rbs, List.cons_append, List.nil_append]
          refine wl_ef rfl (ef_alloc zero88 rfl rfl (fun b10 hb10 => ?_))
          refine wl_ef rfl (ef_store (cs' := z5.cs) tbok rfl rfl rfl rfl .here rfl (Nat.le_of_ble_eq_true rfl) rfl ?_)
          refine wl_done ?_
          refine nk_code ?_
          refine wc_seq ?_
          refine wc_seq ?_
          refine wc_region ?_
          refine wl_q rfl rfl rfl (qt_p tbok rfl) ?_
          first | refine wl_q rfl rfl rfl (qt_p tbok rfl) ?_ | refine wl_q rfl rfl rfl (qt_neqn tbok rfl rfl rfl) ?_
          refine wl_as (v' := .c (.bool true)) (congrArg (fun b => V.c (C.bool (!b))) (decide_eq_false hU)) ?_
          refine wl_done ?_
          refine nk_code ?_
          refine wc_yes rfl ?_
          refine wc_seq ?_
          refine wc_seq ?_
          refine wc_region ?_
          have e3 : z3.x = z.x := hz3.1.trans hz2.1
          have e5 : z5.x = z.x := hz5.1.trans hz4.1
          refine wl_q rfl rfl rfl (qt_load_ag (l := z3.cs) tbok rfl rfl rfl rfl (rs_lk (.there (.there (.there (.there (.there (.there (.there (.there (.there (.there (.there .here))))))))))) at0)) ?_
          refine wl_q rfl rfl rfl (qt_load_ag (l := z5.cs) tbok rfl rfl rfl rfl (rs_lk .here at0)) ?_
          refine wl_ef rfl (ef_pure (v := .c (.bool (sameRx z3.x z5.x))) (by kernel_rfl) rfl rfl (fun w1 g1 => by exact sameRoot_c (ok_ofx e3 hzk) (ok_ofx e5 hzk) (RL.lies_own (T := 24) g1 (.there (.there (.there (.there (.there (.there (.there (.there (.there (.there (.there (.there (.there (.there .here)))))))))))))) (.there (.there (.there (.there (.there (.there (.there (.there (.there (.there (.there (.there (.there .here))))))))))))) (.there (.there (.there (.there (.there (.there (.there (.there (.there (.there (.there (.there .here))))))))))))) (RL.lies_own (T := 24) g1 (.there (.there (.there .here))) (.there (.there .here)) (.there .here))) ?_)
          refine wl_as (v' := .c (.bool true)) (congrArg (fun b => V.c (C.bool b)) (by rw [e3, e5]; exact sameRx_refl _)) ?_
          refine wl_q rfl rfl rfl (qt_p tbok rfl) ?_
          refine wl_done ?_
          refine nk_code ?_
          refine wc_no rfl ?_
          refine wc_skip ?_
          refine nk_code ?_
          refine wc_exit rfl ?_
          refine nk_code ?_
          refine wc_region ?_
          refine wl_q rfl rfl rfl (qt_p tbok rfl) ?_
          refine wl_q rfl rfl rfl (qt_p tbok rfl) ?_
          refine wl_done ?_
          exact nk_round (i := (i, some (tr, z))) (i + 1, some (tr, z)) ⟨hi', ⟨hzo, hzk, hzr⟩, hN⟩ (by show O.length - (i + 1) < O.length - i; omega) ⟨rfl, rfl, rfl, rfl, trivial⟩ (fun w hw => st_cutN (A := TB tr z :: rbs 32 z) (Rm.sub_St (Rm.sub_St (Rm.sub_St (Rm.sub_St (Rm.sub_St (Rm.sub_St (Rm.sub_St (Rm.sub_St (Rm.sub_St (Rm.sub_St (Rm.sub_St (Rm.sub_St (Rm.sub_St (Rm.sub_St (Rm.sub_St (Rm.sub_St (Rm.sub_St (Rm.sub_St (Rm.sub_St (Rm.sub_St hw .here (newKey hb10)) .here (hz5k _ (.head _))) .here (hz5k _ (.tail _ (.head _)))) .here (hz5k _ (.tail _ (.tail _ (.head _))))) .here (hz4k _ (.head _))) .here (hz4k _ (.tail _ (.head _)))) .here (hz4k _ (.tail _ (.tail _ (.head _))))) .here hk2) .here (hx1k _ (.head _))) .here (hx1k _ (.tail _ (.head _)))) .here (hx1k _ (.tail _ (.tail _ (.head _))))) .here (newKey hb8)) .here (hz3k _ (.head _))) .here (hz3k _ (.tail _ (.head _)))) .here (hz3k _ (.tail _ (.tail _ (.head _))))) .here (hz2k _ (.head _))) .here (hz2k _ (.tail _ (.head _)))) .here (hz2k _ (.tail _ (.tail _ (.head _))))) .here he1k) .here (newKey hb5)) (hT1))
    · refine wc_exit rfl ?_
      refine nk_code ?_
      refine wc_seq ?_
      refine wc_region ?_
      refine wl_q rfl rfl rfl (qt_p tbok rfl) ?_
      refine wl_done ?_
      refine nk_code ?_
      refine wc_ret ?_
      try dsimp only
      exact fin1 rfl (rv_tmp rfl) (fun w' hw => ⟨rfl, hw.all hN⟩)
end Go.Proofs.Ytjhmcmadleabjaa
