/- The walk of TrustPlays: it answers true and leaves what was there. -/
import Derived.Test.YtjhmcmadleabjaaTrustRef
set_option linter.unusedVariables false
set_option maxRecDepth 100000
namespace Go.Proofs.Ytjhmcmadleabjaa
open Go Go.Hw Go.Proofs

/-- The reference's root is the one believed. -/
def tJ : Option (Nat × RL) → RL → Prop
  | none, _ => True
  | some x, R => x.2.x = R.x
theorem perm7 {α : Type} {a b c d e f g : α} : [a, b, c, d, e, f, g].Perm [e, d, f, a, b, c, g] := ((List.perm_append_comm (l₁ := [a, b, c]) (l₂ := [d, e, f])).append_right [g]).trans (List.Perm.swap e d _)
theorem spl_ln {D l : List C} {o : Nat} (h : o + l.length ≤ D.length) : (spl D o l).length = D.length := by
  unfold spl
  simp only [List.length_append, List.length_take, List.length_drop]
  omega
theorem R_bound {R : RL} (h : R.ok) : R.t.1.K.length ≤ 1073741824 ∧ R.l.1.K.length ≤ 1073741824 := ⟨h.2.1.2, h.2.2.2⟩
theorem trustPlays_c {w : World} {O : List Of} {oa : Ad} {oc : Nat} {A : List Ask} {aa : Ad} {ac : Nat} (hO : Cells w oa (O.flatMap Of.row)) (hOl : O.length ≤ 1073741824) (hOk : ∀ o ∈ O, o.ok) (hOL : ∀ o ∈ O, o.lies w) (hA : Cells w aa (A.flatMap Ask.row)) (hAl : A.length ≤ 1073741824) (hAk : ∀ k ∈ A, k.ok) (hAL : ∀ k ∈ A, k.lies w) :
    CallsV Try.prog 13 [.c (.slc oa O.length oc), .c (.slc aa A.length ac)] w fun en w' => en = .returned (V.c (.bool true)).den ∧ St w [] w' := by
  refine calls_in (tb := tb) (fn := Try.f13) Try.func13 rfl rfl rfl [(0, .c (.slc oa O.length oc)), (1, .c (.slc aa A.length ac))] rfl [] (St.refl _) ?_
  refine wc_seq ?_
  refine wc_region ?_
  refine wl_q rfl rfl rfl (qt_p tbok rfl) ?_
  refine wl_done ?_
  refine nk_code ?_
  refine wc_seq ?_
  refine wc_seq ?_
  refine wc_region ?_
  refine wl_ef rfl (ef_pure (v := .c (.bool true)) (by kernel_rfl) rfl rfl (fun w1 _ => awake17_c) ?_)
  refine wl_q rfl rfl rfl (qt_p tbok rfl) ?_
  refine wl_q rfl rfl rfl (qt_p tbok rfl) ?_
  first | refine wl_g rfl rfl rfl rfl (qt_p tbok rfl) ?_ | refine wl_skip rfl rfl rfl rfl rfl ?_
  refine wl_gd rfl rfl (ef_freshL (B := fun _ => []) (I := fun _ => True) (v := fun b : Bool => .c (.bool b)) (by kernel_rfl) rfl rfl (fun w1 g1 => light_c (cells_rd (rd_cells hO off_nil) g1) hOl) (fun bl _ _ => ?_))
  dsimp only [List.nil_append]
  first | refine wl_g rfl rfl rfl rfl (qt_p tbok rfl) ?_ | refine wl_skip rfl rfl rfl rfl rfl ?_
  refine wl_q rfl rfl rfl (qt_p tbok rfl) ?_
  refine wl_q rfl rfl rfl (qt_p tbok rfl) ?_
  refine wl_bool (fun hl1 => ?_) (fun hl1 => ?_)
  · first | refine wl_g rfl rfl rfl rfl (qt_p tbok rfl) ?_ | refine wl_skip rfl rfl rfl rfl rfl ?_
    first | refine wl_g rfl rfl rfl rfl (qt_len tbok rfl rfl) ?_ | refine wl_skip rfl rfl rfl rfl rfl ?_
    first | refine wl_g rfl rfl rfl rfl (qt_p tbok rfl) ?_ | refine wl_skip rfl rfl rfl rfl rfl ?_
    refine wl_q rfl rfl rfl (qt_p tbok rfl) ?_
    refine wl_done ?_
    refine nk_code ?_
    refine wc_yes rfl ?_
    refine wc_seq ?_
    refine wc_region ?_
    refine wl_ef rfl (ef_pure (v := .c (.bool true)) (by kernel_rfl) rfl rfl (fun w1 _ => awake17_c) ?_)
    refine wl_q rfl rfl rfl (qt_p tbok rfl) ?_
    refine wl_done ?_
    refine nk_code ?_
    refine wc_ret ?_
    try dsimp only
    exact fin1 rfl (rv_tmp rfl) (fun w' hw => ⟨rfl, hw⟩)
  · first | refine wl_g rfl rfl rfl rfl (qt_p tbok rfl) ?_ | refine wl_skip rfl rfl rfl rfl rfl ?_
    first | refine wl_g rfl rfl rfl rfl (qt_len tbok rfl rfl) ?_ | refine wl_skip rfl rfl rfl rfl rfl ?_
    first | refine wl_g rfl rfl rfl rfl (qt_p tbok rfl) ?_ | refine wl_skip rfl rfl rfl rfl rfl ?_
    refine wl_q rfl rfl rfl (qt_p tbok rfl) ?_
    refine wl_done ?_
    refine nk_code ?_
    refine wc_cond rfl (fun h33 => ?_) (fun h33 => ?_)
    · refine wc_seq ?_
      refine wc_region ?_
      refine wl_ef rfl (ef_pure (v := .c (.bool true)) (by kernel_rfl) rfl rfl (fun w1 _ => awake17_c) ?_)
      refine wl_q rfl rfl rfl (qt_p tbok rfl) ?_
      refine wl_done ?_
      refine nk_code ?_
      refine wc_ret ?_
      try dsimp only
      exact fin1 rfl (rv_tmp rfl) (fun w' hw => ⟨rfl, hw⟩)
    · refine wc_skip ?_
      refine nk_code ?_
      refine wc_seq ?_
      refine wc_region ?_
      refine wl_q rfl rfl rfl (qt_p tbok rfl) ?_
      refine wl_done ?_
      refine nk_code ?_
      refine wc_seq ?_
      refine wc_region ?_
      refine wl_ef rfl (ef_alloc zero88 rfl rfl (fun b6 hb6 => ?_))
      refine wl_done ?_
      refine nk_code ?_
      refine wc_seq ?_
      refine wc_seq ?_
      refine wc_region ?_
      refine wl_q rfl rfl rfl (qt_p tbok rfl) ?_
      refine wl_q rfl rfl rfl (qt_len tbok rfl rfl) ?_
      refine wl_q rfl rfl rfl (qt_p tbok rfl) ?_
      refine wl_done ?_
      refine nk_code ?_
      refine wc_block ?_
      refine wc_loop (ι := Nat × Option (Nat × RL) × RL) (fun j => j.1 ≤ O.length ∧ tI j.2.1 ∧ tJ j.2.1 j.2.2 ∧ (j.2.2.ok ∧ j.2.2.lies w) ∧ ∀ p ∈ tB j.2.1, ∀ k, p.key = some k → w.heap.size ≤ k) (fun j => [(37, .c (.i64 (j.1 : Int))), (36, .c (.i64 (O.length : Int))), (35, .c (.slc oa O.length oc)), (5, .c (.ptr (tP j.2.1))), (6, .c (.ptr (.at b6 0))), (1, .c (.slc aa A.length ac))]) (fun j => tB j.2.1 ++ [⟨.at b6 0, j.2.2.cs, 88, (0, 0), []⟩]) (fun j => O.length - j.1) (0, none, yZ) ⟨Nat.zero_le _, trivial, trivial, ⟨yZ_ok, yZ_lies _⟩, new_nil⟩ (nk_start ⟨rfl, rfl, rfl, rfl, rfl, rfl, trivial⟩ (fun w hw => hw)) (fun ⟨i, o, R⟩ ⟨hi, hI, hJ, ⟨hRk, hRl⟩, hN⟩ => ?_)
      replace hi : i ≤ O.length := hi
      replace hI : tI o := hI
      replace hJ : tJ o R := hJ
      replace hRk : R.ok := hRk
      replace hRl : R.lies w := hRl
      replace hN : ∀ p ∈ tB o, ∀ k, p.key = some k → w.heap.size ≤ k := hN
      have hN6 : ∀ p ∈ tB o ++ [⟨.at b6 0, R.cs, 88, (0, 0), []⟩], ∀ k, p.key = some k → w.heap.size ≤ k := new_app hN (new_cons (newKey hb6) new_nil)
      dsimp only
      refine wc_seq ?_
      refine wc_region ?_
      refine wl_q rfl rfl rfl (qt_p tbok rfl) ?_
      refine wl_done ?_
      refine nk_code ?_
      refine wc_seq ?_
      refine wc_cond rfl (fun h38 => ?_) (fun h38 => ?_)
      · have hi' : i < O.length := (by have h0 := of_decide_eq_true h38; omega)
        obtain ⟨lr, lo, hla⟩ := cells_nn hO (by rw [rows_len (z := 9) offs_row]; omega)
        subst hla
        have hrow := rows_at (z := 9) offs_row hi'
        have hok := hOk _ (el_mem hi')
        have hol := hOL _ (el_mem hi')
        revert hrow hok hol
        generalize el O i = q
        intro hrow hok hol
        have hxk : q.y.x.r.ok ∧ q.y.x.t.ok ∧ q.y.x.l.ok := hok.1
        refine wc_skip ?_
        refine nk_code ?_
        refine wc_seq ?_
        refine wc_block ?_
        refine wc_seq ?_
        refine wc_region ?_
        refine wl_q rfl rfl rfl (qt_p tbok rfl) ?_
        refine wl_q rfl rfl rfl (qt_load_ag (l := q.row) tbok rfl rfl rfl rfl (rs_cells (hO.sub2 (m := i * 9) hrow) (off_all hN6))) ?_
        refine wl_ef rfl (ef_alloc zero109 rfl rfl (fun b8 hb8 => ?_))
        refine wl_ef rfl (ef_store (cs' := q.row) tbok rfl rfl rfl rfl .here rfl (Nat.le_of_ble_eq_true rfl) (spl_all rfl) ?_)
        refine wl_done ?_
        refine nk_code ?_
        refine wc_seq ?_
        refine wc_seq ?_
        by_cases ho : o = none
        · refine wc_region ?_
          subst ho
          dsimp only [tB, tP, List.nil_append]
          refine wl_q rfl rfl rfl (qt_p tbok rfl) ?_
          first | refine wl_q rfl rfl rfl (qt_p tbok rfl) ?_ | refine wl_q rfl rfl rfl (qt_eqn tbok rfl rfl rfl) ?_
          refine wl_done ?_
          refine nk_code ?_
          refine wc_yes rfl ?_
          refine wc_seq ?_
          by_cases hw9 : nwE q.y.x (q.M.map (·.1)) = 0
          · refine wc_draw (s0 := [⟨.at b8 0, q.row, 109, (0, 0), []⟩]) 12 follows ?_
            refine wh_q 0 rfl (by kernel_rfl) rfl rfl rfl (qt_p tbok rfl) (fun w hw => st_cut hw (new_cons (newKey hb6) new_nil)) ?_
            refine wh_q 1 rfl (by kernel_rfl) rfl rfl rfl (qt_load_ag (l := q.y.cs) tbok rfl rfl rfl rfl (rs_lk .here q.row_y)) (fun w hw => st_cut hw (new_cons (newKey hb6) new_nil)) ?_
            refine wh_q 3 rfl (by kernel_rfl) rfl rfl rfl (qt_p tbok rfl) (fun w hw => st_cut hw (new_cons (newKey hb6) new_nil)) ?_
            refine wh_q 4 rfl (by kernel_rfl) rfl rfl rfl (qt_load (c := .slc q.a q.M.length q.c) tbok rfl rfl rfl (rc_lk .here rfl)) (fun w hw => st_cut hw (new_cons (newKey hb6) new_nil)) ?_
            refine wh_one 2 (by kernel_rfl) (wo_ef rfl rfl (ef_freshL (B := fun z : RL => rbs 32 z) (I := fun z : RL => z.x = q.y.x ∧ z.own) (v := fun z : RL => .agg z.cs) (by kernel_rfl) rfl rfl (fun w1 g1 => by exact toRoot_c hok.1 (hol.1.up (fun ad => (off_all (new_cons (newKey hb8) (new_cons (newKey hb6) new_nil)))) g1)) (fun x1 hx1 hx1k => ⟨fun w hw => st_cut (((hw.tail (hx1k _ (.head _))).tail (hx1k _ (.tail _ (.head _)))).tail (hx1k _ (.tail _ (.tail _ (.head _))))) (new_cons (newKey hb6) new_nil), ?_⟩)))
            dsimp only [rbs, List.cons_append, List.nil_append]
            refine wh_one 5 (by kernel_rfl) (wo_ef rfl rfl (ef_freshT (I := CpD q.M) (by kernel_rfl) rfl rfl (fun w1 g1 => toMarks_c hok.2.1 hok.2.2 (cells_rd (rd_cells hol.2.1 (off_all (new_cons (hx1k _ (.head _)) (new_cons (hx1k _ (.tail _ (.head _))) (new_cons (hx1k _ (.tail _ (.tail _ (.head _)))) (new_cons (newKey hb8) (new_cons (newKey hb6) new_nil))))))) g1) (fun p hpm => ⟨cells_rd (rd_cells (hol.2.2 p hpm).1 (off_all (new_cons (hx1k _ (.head _)) (new_cons (hx1k _ (.tail _ (.head _))) (new_cons (hx1k _ (.tail _ (.tail _ (.head _)))) (new_cons (newKey hb8) (new_cons (newKey hb6) new_nil))))))) g1, (hol.2.2 p hpm).2⟩)) (fun z1 hz1 hk2 hT1 => ⟨fun w hw => st_cut ((((hw.tail hk2).tail (hx1k _ (.head _))).tail (hx1k _ (.tail _ (.head _)))).tail (hx1k _ (.tail _ (.tail _ (.head _))))) (new_cons (newKey hb6) hT1), ?_⟩)))
            dsimp only [rbs, List.cons_append, List.nil_append]
            refine wh_one 6 (by kernel_rfl) (wo_ef rfl rfl (ef_freshL (B := fun x : Nat × RL => TB x.1 x.2 :: rbs 32 x.2) (I := fun x : Nat × RL => x.2.x = x1.x ∧ x.2.own) (v := fun x : Nat × RL => .t2 (.c (.ptr (.at x.1 0))) (.c (.i64 0))) (by kernel_rfl) rfl rfl (fun w1 g1 => by rw [← hz1.1]; exact new_ok_c (y := x1) (M := z1.1) (la := z1.2.1) (lc := z1.2.2.1) (ok_ofx hx1.1 hok.1) hx1.2.pl (RL.lies_own (T := 32) g1 (.there (.there (.there .here))) (.there (.there .here)) (.there .here)) (by exact ok_map hz1.2.1 hok.2.1) (by rw [hz1.1]; exact hok.2.2) (cells_own g1 .here) (hz1.lies g1 (fun b hb => .there (.there (.there (.there (.there (.there (lk_mem hb)))))))) (by rw [hx1.1]; exact (nw_yes hw9).1) (by rw [hx1.1, hz1.2.1]; exact (nw_yes hw9).2)) (fun ⟨tr, n⟩ ⟨hnx, hno⟩ hnk => ⟨fun w hw => st_cut ((((((((hw.tail (hnk _ (.head _))).tail (hnk _ (.tail _ (.head _)))).tail (hnk _ (.tail _ (.tail _ (.head _))))).tail (hnk _ (.tail _ (.tail _ (.tail _ (.head _)))))).tail hk2).tail (hx1k _ (.head _))).tail (hx1k _ (.tail _ (.head _)))).tail (hx1k _ (.tail _ (.tail _ (.head _))))) (new_cons (newKey hb6) hT1), ?_⟩)))
            replace hnx : n.x = x1.x := hnx
            replace hno : n.own := hno
            replace hnk : ∀ p ∈ TB tr n :: rbs 32 n, ∀ k, p.key = some k → w.heap.size ≤ k := hnk
            dsimp only [rbs, List.cons_append, List.nil_append]
            refine wh_q 7 rfl (by kernel_rfl) rfl rfl rfl (qt_p tbok rfl) (fun w hw => st_cut ((((((((hw.tail (hnk _ (.head _))).tail (hnk _ (.tail _ (.head _)))).tail (hnk _ (.tail _ (.tail _ (.head _))))).tail (hnk _ (.tail _ (.tail _ (.tail _ (.head _)))))).tail hk2).tail (hx1k _ (.head _))).tail (hx1k _ (.tail _ (.head _)))).tail (hx1k _ (.tail _ (.tail _ (.head _))))) (new_cons (newKey hb6) hT1)) ?_
            refine wh_q 8 rfl (by kernel_rfl) rfl rfl rfl (qt_p tbok rfl) (fun w hw => st_cut ((((((((hw.tail (hnk _ (.head _))).tail (hnk _ (.tail _ (.head _)))).tail (hnk _ (.tail _ (.tail _ (.head _))))).tail (hnk _ (.tail _ (.tail _ (.tail _ (.head _)))))).tail hk2).tail (hx1k _ (.head _))).tail (hx1k _ (.tail _ (.head _)))).tail (hx1k _ (.tail _ (.tail _ (.head _))))) (new_cons (newKey hb6) hT1)) ?_
            refine wh_q 9 rfl (by kernel_rfl) rfl rfl rfl (qt_p tbok rfl) (fun w hw => st_cut ((((((((hw.tail (hnk _ (.head _))).tail (hnk _ (.tail _ (.head _)))).tail (hnk _ (.tail _ (.tail _ (.head _))))).tail (hnk _ (.tail _ (.tail _ (.tail _ (.head _)))))).tail hk2).tail (hx1k _ (.head _))).tail (hx1k _ (.tail _ (.head _)))).tail (hx1k _ (.tail _ (.tail _ (.head _))))) (new_cons (newKey hb6) hT1)) ?_
            refine wh_q 10 rfl (by kernel_rfl) rfl rfl rfl (qt_p tbok rfl) (fun w hw => st_cut ((((((((hw.tail (hnk _ (.head _))).tail (hnk _ (.tail _ (.head _)))).tail (hnk _ (.tail _ (.tail _ (.head _))))).tail (hnk _ (.tail _ (.tail _ (.tail _ (.head _)))))).tail hk2).tail (hx1k _ (.head _))).tail (hx1k _ (.tail _ (.head _)))).tail (hx1k _ (.tail _ (.tail _ (.head _))))) (new_cons (newKey hb6) hT1)) ?_
            refine wh_q 11 rfl (by kernel_rfl) rfl rfl rfl (qt_p tbok rfl) (fun w hw => st_cut ((((((((hw.tail (hnk _ (.head _))).tail (hnk _ (.tail _ (.head _)))).tail (hnk _ (.tail _ (.tail _ (.head _))))).tail (hnk _ (.tail _ (.tail _ (.tail _ (.head _)))))).tail hk2).tail (hx1k _ (.head _))).tail (hx1k _ (.tail _ (.head _)))).tail (hx1k _ (.tail _ (.tail _ (.head _))))) (new_cons (newKey hb6) hT1)) ?_
            refine wh_done (by kernel_rfl) ?_
            refine nk_code ?_
            refine wc_seq ?_
            refine wc_region ?_
            refine wl_q rfl rfl rfl (qt_p tbok rfl) ?_
            refine wl_q rfl rfl rfl (qt_load_ag (l := q.y.cs) tbok rfl rfl rfl rfl (rs_lk (.there (.there (.there (.there (.there (.there (.there (.there .here)))))))) q.row_y)) ?_
            refine wl_q rfl rfl rfl (qt_p tbok rfl) ?_
            refine wl_q rfl rfl rfl (qt_load (c := .slc q.a q.M.length q.c) tbok rfl rfl rfl (rc_lk (.there (.there (.there (.there (.there (.there (.there (.there .here)))))))) rfl)) ?_
            refine wl_ef rfl (ef_pure (v := .c (.i64 (nwE q.y.x (q.M.map (·.1))))) (by kernel_rfl) rfl rfl (fun w1 g1 => by exact newR_c hok.1 (hol.1.up (fun ad => (off_all (new_cons (hnk _ (.head _)) (new_cons (hnk _ (.tail _ (.head _))) (new_cons (hnk _ (.tail _ (.tail _ (.head _)))) (new_cons (hnk _ (.tail _ (.tail _ (.tail _ (.head _))))) (new_cons hk2 (new_cons (hx1k _ (.head _)) (new_cons (hx1k _ (.tail _ (.head _))) (new_cons (hx1k _ (.tail _ (.tail _ (.head _)))) (new_cons (newKey hb8) (new_cons (newKey hb6) hT1)))))))))))) g1) hok.2.1 hok.2.2 (cells_rd (rd_cells hol.2.1 (off_all (new_cons (hnk _ (.head _)) (new_cons (hnk _ (.tail _ (.head _))) (new_cons (hnk _ (.tail _ (.tail _ (.head _)))) (new_cons (hnk _ (.tail _ (.tail _ (.tail _ (.head _))))) (new_cons hk2 (new_cons (hx1k _ (.head _)) (new_cons (hx1k _ (.tail _ (.head _))) (new_cons (hx1k _ (.tail _ (.tail _ (.head _)))) (new_cons (newKey hb8) (new_cons (newKey hb6) hT1)))))))))))) g1) (fun p hpm => ⟨cells_rd (rd_cells (hol.2.2 p hpm).1 (off_all (new_cons (hnk _ (.head _)) (new_cons (hnk _ (.tail _ (.head _))) (new_cons (hnk _ (.tail _ (.tail _ (.head _)))) (new_cons (hnk _ (.tail _ (.tail _ (.tail _ (.head _))))) (new_cons hk2 (new_cons (hx1k _ (.head _)) (new_cons (hx1k _ (.tail _ (.head _))) (new_cons (hx1k _ (.tail _ (.tail _ (.head _)))) (new_cons (newKey hb8) (new_cons (newKey hb6) hT1)))))))))))) g1, (hol.2.2 p hpm).2⟩)) ?_)
            refine wl_as (v' := .c (.i64 0)) (by rw [hw9]) ?_
            refine wl_q rfl rfl rfl (qt_p tbok rfl) ?_
            refine wl_done ?_
            refine nk_code ?_
            refine wc_seq ?_
            refine wc_seq ?_
            refine wc_region ?_
            refine wl_q rfl rfl rfl (qt_p tbok rfl) ?_
            refine wl_q rfl rfl rfl (qt_p tbok rfl) ?_
            first | refine wl_q rfl rfl rfl (qt_p tbok rfl) ?_ | refine wl_q rfl rfl rfl (qt_neqn tbok rfl rfl rfl) ?_
            refine wl_q rfl rfl rfl (qt_p tbok rfl) ?_
            first | refine wl_g rfl rfl rfl rfl (qt_p tbok rfl) ?_ | refine wl_skip rfl rfl rfl rfl rfl ?_
            first | refine wl_g rfl rfl rfl rfl (qt_p tbok rfl) ?_ | refine wl_g rfl rfl rfl rfl (qt_eqn tbok rfl rfl rfl) ?_ | refine wl_skip rfl rfl rfl rfl rfl ?_
            first | refine wl_g rfl rfl rfl rfl (qt_p tbok rfl) ?_ | refine wl_skip rfl rfl rfl rfl rfl ?_
            first | refine wl_g rfl rfl rfl rfl (qt_p tbok rfl) ?_ | refine wl_g rfl rfl rfl rfl (qt_neqn tbok rfl rfl rfl) ?_ | refine wl_skip rfl rfl rfl rfl rfl ?_
            first | refine wl_g rfl rfl rfl rfl (qt_p tbok rfl) ?_ | refine wl_g rfl rfl rfl rfl (qt_neqn tbok rfl rfl rfl) ?_ | refine wl_skip rfl rfl rfl rfl rfl ?_
            refine wl_q rfl rfl rfl (qt_p tbok rfl) ?_
            refine wl_done ?_
            refine nk_code ?_
            refine wc_no rfl ?_
            refine wc_skip ?_
            refine nk_code ?_
            refine wc_seq ?_
            refine wc_seq ?_
            refine wc_region ?_
            refine wl_q rfl rfl rfl (qt_p tbok rfl) ?_
            refine wl_q rfl rfl rfl (qt_p tbok rfl) ?_
            refine wl_done ?_
            refine nk_code ?_
            refine wc_seq ?_
            refine wc_region ?_
            refine wl_q rfl rfl rfl (qt_p tbok rfl) ?_
            first | refine wl_q rfl rfl rfl (qt_p tbok rfl) ?_ | refine wl_q rfl rfl rfl (qt_neqn tbok rfl rfl rfl) ?_
            refine wl_done ?_
            refine nk_code ?_
            refine wc_yes rfl ?_
            refine wc_region ?_
            refine wl_q rfl rfl rfl (qt_p tbok rfl) ?_
            refine wl_q rfl rfl rfl (qt_load_ag (l := q.y.cs) tbok rfl rfl rfl rfl (rs_lk (.there (.there (.there (.there (.there (.there (.there (.there .here)))))))) q.row_y)) ?_
            refine wl_ef rfl (ef_store (cs' := q.y.cs) tbok rfl rfl rfl rfl (.there (.there (.there (.there (.there (.there (.there (.there (.there .here))))))))) rfl (Nat.le_of_ble_eq_true rfl) (spl_all rfl) ?_)
            refine wl_done ?_
            refine nk_code ?_
            refine wc_exit rfl ?_
            refine nk_code ?_
            refine wc_region ?_
            refine wl_q rfl rfl rfl (qt_p tbok rfl) ?_
            refine wl_q rfl rfl rfl (qt_p tbok rfl) ?_
            refine wl_done ?_
            exact nk_round (i := (i, none, R)) (i + 1, some (tr, n), q.y) ⟨hi', ⟨hno, ok_ofx (hnx.trans hx1.1) hxk, by show rootB n.x = true; rw [hnx, hx1.1]; exact (nw_yes hw9).1⟩, hnx.trans hx1.1, ⟨hok.1, hol.1⟩, hnk⟩ (by show O.length - (i + 1) < O.length - i; omega) ⟨rfl, rfl, rfl, rfl, rfl, rfl, trivial⟩ (fun w hw => st_cutN (A := [TB tr n, rob 32 n.l, rob 32 n.t, rob 32 n.r, ⟨.at b6 0, q.y.cs, 88, (0, 0), []⟩]) (Rm.sub_St (Rm.sub_St (Rm.sub_St (Rm.sub_St (Rm.sub_St hw (.there (.there (.there (.there .here)))) hk2) (.there (.there (.there (.there .here)))) (hx1k _ (.head _))) (.there (.there (.there (.there .here)))) (hx1k _ (.tail _ (.head _)))) (.there (.there (.there (.there .here)))) (hx1k _ (.tail _ (.tail _ (.head _))))) (.there (.there (.there (.there .here)))) (newKey hb8)) (hT1))
          · refine wc_draw (s0 := [⟨.at b8 0, q.row, 109, (0, 0), []⟩]) 12 follows ?_
            refine wh_q 0 rfl (by kernel_rfl) rfl rfl rfl (qt_p tbok rfl) (fun w hw => st_cut hw (new_cons (newKey hb6) new_nil)) ?_
            refine wh_q 1 rfl (by kernel_rfl) rfl rfl rfl (qt_load_ag (l := q.y.cs) tbok rfl rfl rfl rfl (rs_lk .here q.row_y)) (fun w hw => st_cut hw (new_cons (newKey hb6) new_nil)) ?_
            refine wh_q 3 rfl (by kernel_rfl) rfl rfl rfl (qt_p tbok rfl) (fun w hw => st_cut hw (new_cons (newKey hb6) new_nil)) ?_
            refine wh_q 4 rfl (by kernel_rfl) rfl rfl rfl (qt_load (c := .slc q.a q.M.length q.c) tbok rfl rfl rfl (rc_lk .here rfl)) (fun w hw => st_cut hw (new_cons (newKey hb6) new_nil)) ?_
            refine wh_one 2 (by kernel_rfl) (wo_ef rfl rfl (ef_freshL (B := fun z : RL => rbs 32 z) (I := fun z : RL => z.x = q.y.x ∧ z.own) (v := fun z : RL => .agg z.cs) (by kernel_rfl) rfl rfl (fun w1 g1 => by exact toRoot_c hok.1 (hol.1.up (fun ad => (off_all (new_cons (newKey hb8) (new_cons (newKey hb6) new_nil)))) g1)) (fun x1 hx1 hx1k => ⟨fun w hw => st_cut (((hw.tail (hx1k _ (.head _))).tail (hx1k _ (.tail _ (.head _)))).tail (hx1k _ (.tail _ (.tail _ (.head _))))) (new_cons (newKey hb6) new_nil), ?_⟩)))
            dsimp only [rbs, List.cons_append, List.nil_append]
            refine wh_one 5 (by kernel_rfl) (wo_ef rfl rfl (ef_freshT (I := CpD q.M) (by kernel_rfl) rfl rfl (fun w1 g1 => toMarks_c hok.2.1 hok.2.2 (cells_rd (rd_cells hol.2.1 (off_all (new_cons (hx1k _ (.head _)) (new_cons (hx1k _ (.tail _ (.head _))) (new_cons (hx1k _ (.tail _ (.tail _ (.head _)))) (new_cons (newKey hb8) (new_cons (newKey hb6) new_nil))))))) g1) (fun p hpm => ⟨cells_rd (rd_cells (hol.2.2 p hpm).1 (off_all (new_cons (hx1k _ (.head _)) (new_cons (hx1k _ (.tail _ (.head _))) (new_cons (hx1k _ (.tail _ (.tail _ (.head _)))) (new_cons (newKey hb8) (new_cons (newKey hb6) new_nil))))))) g1, (hol.2.2 p hpm).2⟩)) (fun z1 hz1 hk2 hT1 => ⟨fun w hw => st_cut ((((hw.tail hk2).tail (hx1k _ (.head _))).tail (hx1k _ (.tail _ (.head _)))).tail (hx1k _ (.tail _ (.tail _ (.head _))))) (new_cons (newKey hb6) hT1), ?_⟩)))
            dsimp only [rbs, List.cons_append, List.nil_append]
            refine wh_one 6 (by kernel_rfl) (wo_ef rfl rfl (ef_pure (v := .t2 (.c (.ptr .nil)) (.c (.i64 (nwE q.y.x (q.M.map (·.1)))))) (by kernel_rfl) rfl rfl (fun w1 g1 => by rw [← hz1.1, ← hx1.1, ← hz1.2.1]; exact new_no_c (y := x1) (M := z1.1) (la := z1.2.1) (lc := z1.2.2.1) (ok_ofx hx1.1 hok.1) hx1.2.pl (RL.lies_own (T := 32) g1 (.there (.there (.there .here))) (.there (.there .here)) (.there .here)) (by exact ok_map hz1.2.1 hok.2.1) (by rw [hz1.1]; exact hok.2.2) (cells_own g1 .here) (hz1.lies g1 (fun b hb => .there (.there (.there (.there (.there (.there (lk_mem hb)))))))) (by rw [hx1.1, hz1.2.1]; exact hw9)) ⟨fun w hw => st_cut ((((hw.tail hk2).tail (hx1k _ (.head _))).tail (hx1k _ (.tail _ (.head _)))).tail (hx1k _ (.tail _ (.tail _ (.head _))))) (new_cons (newKey hb6) hT1), ?_⟩))
            refine wh_q 7 rfl (by kernel_rfl) rfl rfl rfl (qt_p tbok rfl) (fun w hw => st_cut ((((hw.tail hk2).tail (hx1k _ (.head _))).tail (hx1k _ (.tail _ (.head _)))).tail (hx1k _ (.tail _ (.tail _ (.head _))))) (new_cons (newKey hb6) hT1)) ?_
            refine wh_q 8 rfl (by kernel_rfl) rfl rfl rfl (qt_p tbok rfl) (fun w hw => st_cut ((((hw.tail hk2).tail (hx1k _ (.head _))).tail (hx1k _ (.tail _ (.head _)))).tail (hx1k _ (.tail _ (.tail _ (.head _))))) (new_cons (newKey hb6) hT1)) ?_
            refine wh_q 9 rfl (by kernel_rfl) rfl rfl rfl (qt_p tbok rfl) (fun w hw => st_cut ((((hw.tail hk2).tail (hx1k _ (.head _))).tail (hx1k _ (.tail _ (.head _)))).tail (hx1k _ (.tail _ (.tail _ (.head _))))) (new_cons (newKey hb6) hT1)) ?_
            refine wh_q 10 rfl (by kernel_rfl) rfl rfl rfl (qt_p tbok rfl) (fun w hw => st_cut ((((hw.tail hk2).tail (hx1k _ (.head _))).tail (hx1k _ (.tail _ (.head _)))).tail (hx1k _ (.tail _ (.tail _ (.head _))))) (new_cons (newKey hb6) hT1)) ?_
            refine wh_q 11 rfl (by kernel_rfl) rfl rfl rfl (qt_p tbok rfl) (fun w hw => st_cut ((((hw.tail hk2).tail (hx1k _ (.head _))).tail (hx1k _ (.tail _ (.head _)))).tail (hx1k _ (.tail _ (.tail _ (.head _))))) (new_cons (newKey hb6) hT1)) ?_
            refine wh_done (by kernel_rfl) ?_
            refine nk_code ?_
            refine wc_seq ?_
            refine wc_region ?_
            refine wl_q rfl rfl rfl (qt_p tbok rfl) ?_
            refine wl_q rfl rfl rfl (qt_load_ag (l := q.y.cs) tbok rfl rfl rfl rfl (rs_lk (.there (.there (.there (.there .here)))) q.row_y)) ?_
            refine wl_q rfl rfl rfl (qt_p tbok rfl) ?_
            refine wl_q rfl rfl rfl (qt_load (c := .slc q.a q.M.length q.c) tbok rfl rfl rfl (rc_lk (.there (.there (.there (.there .here)))) rfl)) ?_
            refine wl_ef rfl (ef_pure (v := .c (.i64 (nwE q.y.x (q.M.map (·.1))))) (by kernel_rfl) rfl rfl (fun w1 g1 => by exact newR_c hok.1 (hol.1.up (fun ad => (off_all (new_cons hk2 (new_cons (hx1k _ (.head _)) (new_cons (hx1k _ (.tail _ (.head _))) (new_cons (hx1k _ (.tail _ (.tail _ (.head _)))) (new_cons (newKey hb8) (new_cons (newKey hb6) hT1)))))))) g1) hok.2.1 hok.2.2 (cells_rd (rd_cells hol.2.1 (off_all (new_cons hk2 (new_cons (hx1k _ (.head _)) (new_cons (hx1k _ (.tail _ (.head _))) (new_cons (hx1k _ (.tail _ (.tail _ (.head _)))) (new_cons (newKey hb8) (new_cons (newKey hb6) hT1)))))))) g1) (fun p hpm => ⟨cells_rd (rd_cells (hol.2.2 p hpm).1 (off_all (new_cons hk2 (new_cons (hx1k _ (.head _)) (new_cons (hx1k _ (.tail _ (.head _))) (new_cons (hx1k _ (.tail _ (.tail _ (.head _)))) (new_cons (newKey hb8) (new_cons (newKey hb6) hT1)))))))) g1, (hol.2.2 p hpm).2⟩)) ?_)
            refine wl_q rfl rfl rfl (qt_p tbok rfl) ?_
            refine wl_done ?_
            refine nk_code ?_
            refine wc_seq ?_
            refine wc_seq ?_
            refine wc_region ?_
            refine wl_q rfl rfl rfl (qt_p tbok rfl) ?_
            refine wl_q rfl rfl rfl (qt_p tbok rfl) ?_
            first | refine wl_q rfl rfl rfl (qt_p tbok rfl) ?_ | refine wl_q rfl rfl rfl (qt_neqn tbok rfl rfl rfl) ?_
            refine wl_as (v' := .c (.bool false)) (congrArg (fun b => V.c (C.bool (!b))) (decide_eq_true rfl)) ?_
            refine wl_q rfl rfl rfl (qt_p tbok rfl) ?_
            first | refine wl_g rfl rfl rfl rfl (qt_p tbok rfl) ?_ | refine wl_skip rfl rfl rfl rfl rfl ?_
            first | refine wl_g rfl rfl rfl rfl (qt_p tbok rfl) ?_ | refine wl_g rfl rfl rfl rfl (qt_eqn tbok rfl rfl rfl) ?_ | refine wl_skip rfl rfl rfl rfl rfl ?_
            first | refine wl_g rfl rfl rfl rfl (qt_p tbok rfl) ?_ | refine wl_skip rfl rfl rfl rfl rfl ?_
            first | refine wl_g rfl rfl rfl rfl (qt_p tbok rfl) ?_ | refine wl_g rfl rfl rfl rfl (qt_neqn tbok rfl rfl rfl) ?_ | refine wl_skip rfl rfl rfl rfl rfl ?_
            refine wl_as (v' := .c (.bool true)) (congrArg (fun b => V.c (C.bool (!b))) (decide_eq_false hw9)) ?_
            first | refine wl_g rfl rfl rfl rfl (qt_p tbok rfl) ?_ | refine wl_g rfl rfl rfl rfl (qt_neqn tbok rfl rfl rfl) ?_ | refine wl_skip rfl rfl rfl rfl rfl ?_
            refine wl_q rfl rfl rfl (qt_p tbok rfl) ?_
            refine wl_done ?_
            refine nk_code ?_
            refine wc_no rfl ?_
            refine wc_skip ?_
            refine nk_code ?_
            refine wc_seq ?_
            refine wc_seq ?_
            refine wc_region ?_
            refine wl_q rfl rfl rfl (qt_p tbok rfl) ?_
            refine wl_q rfl rfl rfl (qt_p tbok rfl) ?_
            refine wl_done ?_
            refine nk_code ?_
            refine wc_seq ?_
            refine wc_region ?_
            refine wl_q rfl rfl rfl (qt_p tbok rfl) ?_
            first | refine wl_q rfl rfl rfl (qt_p tbok rfl) ?_ | refine wl_q rfl rfl rfl (qt_neqn tbok rfl rfl rfl) ?_
            refine wl_done ?_
            refine nk_code ?_
            refine wc_no rfl ?_
            refine wc_skip ?_
            refine nk_code ?_
            refine wc_exit rfl ?_
            refine nk_code ?_
            refine wc_region ?_
            refine wl_q rfl rfl rfl (qt_p tbok rfl) ?_
            refine wl_q rfl rfl rfl (qt_p tbok rfl) ?_
            refine wl_done ?_
            exact nk_round (i := (i, none, R)) (i + 1, none, R) ⟨hi', trivial, trivial, ⟨hRk, hRl⟩, new_nil⟩ (by show O.length - (i + 1) < O.length - i; omega) ⟨rfl, rfl, rfl, rfl, rfl, rfl, trivial⟩ (fun w hw => st_cutN (A := [⟨.at b6 0, R.cs, 88, (0, 0), []⟩]) (Rm.sub_St (Rm.sub_St (Rm.sub_St (Rm.sub_St (Rm.sub_St hw .here hk2) .here (hx1k _ (.head _))) .here (hx1k _ (.tail _ (.head _)))) .here (hx1k _ (.tail _ (.tail _ (.head _))))) .here (newKey hb8)) (hT1))
        · refine wc_region ?_
          obtain ⟨⟨tr, z⟩, rfl⟩ := Option.ne_none_iff_exists'.1 ho
          obtain ⟨hzo, hzk, hzr⟩ : z.own ∧ z.ok ∧ rootB z.x = true := hI
          replace hJ : z.x = R.x := hJ
          replace hN : ∀ p ∈ TB tr z :: rbs 32 z, ∀ k, p.key = some k → w.heap.size ≤ k := hN
          dsimp only [tB, tP, rbs, List.cons_append, List.nil_append]
          have hNt : ∀ (x : RL) k, (TB tr x).key = some k → w.heap.size ≤ k := fun x k hk => hN (TB tr z) (.head _) k hk
          refine wl_q rfl rfl rfl (qt_p tbok rfl) ?_
          first | refine wl_q rfl rfl rfl (qt_p tbok rfl) ?_ | refine wl_q rfl rfl rfl (qt_eqn tbok rfl rfl rfl) ?_
          refine wl_done ?_
          refine nk_code ?_
          refine wc_no rfl ?_
          refine wc_skip ?_
          refine nk_code ?_
          refine wc_seq ?_
          refine wc_region ?_
          refine wl_q rfl rfl rfl (qt_p tbok rfl) ?_
          refine wl_q rfl rfl rfl (qt_load_ag (l := q.y.cs) tbok rfl rfl rfl rfl (rs_lk .here q.row_y)) ?_
          refine wl_ef rfl (ef_freshL (B := fun z : RL => rbs 32 z) (I := fun z : RL => z.x = q.y.x ∧ z.own) (v := fun z : RL => .agg z.cs) (by kernel_rfl) rfl rfl (fun w1 g1 => by exact toRoot_c hok.1 (hol.1.up (fun ad => (off_all (new_cons (newKey hb8) (new_cons (hN _ (.head _)) (new_cons (hN _ (.tail _ (.head _))) (new_cons (hN _ (.tail _ (.tail _ (.head _)))) (new_cons (hN _ (.tail _ (.tail _ (.tail _ (.head _))))) (new_cons (newKey hb6) new_nil)))))))) g1)) (fun x1 hx1 hx1k => ?_))
          dsimp only [rbs, List.cons_append, List.nil_append]
          refine wl_ef rfl (ef_alloc zero92 rfl rfl (fun b12 hb12 => ?_))
          refine wl_ef rfl (ef_store (cs' := x1.cs) tbok rfl rfl rfl rfl .here rfl (Nat.le_of_ble_eq_true rfl) rfl ?_)
          refine wl_done ?_
          refine nk_code ?_
          refine wc_seq ?_
          by_cases hU : tuE z.x q.y.x (q.M.map (·.1)) = 0
          · refine wc_draw (s0 := [⟨.at b12 0, x1.cs, 92, (0, 0), []⟩, ⟨.at b8 0, q.row, 109, (0, 0), []⟩]) 7 follows ?_
            refine wh_q 0 rfl (by kernel_rfl) rfl rfl rfl (qt_p tbok rfl) (fun w hw => st_cutN (A := [⟨.at b12 0, x1.cs, 92, (0, 0), []⟩, ⟨.at b8 0, q.row, 109, (0, 0), []⟩]) (Rm.sub_St (Rm.sub_St (Rm.sub_St hw (.there .here) (hx1k _ (.head _))) (.there .here) (hx1k _ (.tail _ (.head _)))) (.there .here) (hx1k _ (.tail _ (.tail _ (.head _))))) (new_cons (hN _ (.head _)) (new_cons (hN _ (.tail _ (.head _))) (new_cons (hN _ (.tail _ (.tail _ (.head _)))) (new_cons (hN _ (.tail _ (.tail _ (.tail _ (.head _))))) (new_cons (newKey hb6) new_nil)))))) ?_
            refine wh_q 1 rfl (by kernel_rfl) rfl rfl rfl (qt_load_ag (l := x1.cs) tbok rfl rfl rfl rfl (rs_lk .here at0)) (fun w hw => st_cutN (A := [⟨.at b12 0, x1.cs, 92, (0, 0), []⟩, ⟨.at b8 0, q.row, 109, (0, 0), []⟩]) (Rm.sub_St (Rm.sub_St (Rm.sub_St hw (.there .here) (hx1k _ (.head _))) (.there .here) (hx1k _ (.tail _ (.head _)))) (.there .here) (hx1k _ (.tail _ (.tail _ (.head _))))) (new_cons (hN _ (.head _)) (new_cons (hN _ (.tail _ (.head _))) (new_cons (hN _ (.tail _ (.tail _ (.head _)))) (new_cons (hN _ (.tail _ (.tail _ (.tail _ (.head _))))) (new_cons (newKey hb6) new_nil)))))) ?_
            refine wh_q 2 rfl (by kernel_rfl) rfl rfl rfl (qt_p tbok rfl) (fun w hw => st_cutN (A := [⟨.at b12 0, x1.cs, 92, (0, 0), []⟩, ⟨.at b8 0, q.row, 109, (0, 0), []⟩]) (Rm.sub_St (Rm.sub_St (Rm.sub_St hw (.there .here) (hx1k _ (.head _))) (.there .here) (hx1k _ (.tail _ (.head _)))) (.there .here) (hx1k _ (.tail _ (.tail _ (.head _))))) (new_cons (hN _ (.head _)) (new_cons (hN _ (.tail _ (.head _))) (new_cons (hN _ (.tail _ (.tail _ (.head _)))) (new_cons (hN _ (.tail _ (.tail _ (.tail _ (.head _))))) (new_cons (newKey hb6) new_nil)))))) ?_
            refine wh_q 3 rfl (by kernel_rfl) rfl rfl rfl (qt_load (c := .slc q.a q.M.length q.c) tbok rfl rfl rfl (rc_lk (.there .here) rfl)) (fun w hw => st_cutN (A := [⟨.at b12 0, x1.cs, 92, (0, 0), []⟩, ⟨.at b8 0, q.row, 109, (0, 0), []⟩]) (Rm.sub_St (Rm.sub_St (Rm.sub_St hw (.there .here) (hx1k _ (.head _))) (.there .here) (hx1k _ (.tail _ (.head _)))) (.there .here) (hx1k _ (.tail _ (.tail _ (.head _))))) (new_cons (hN _ (.head _)) (new_cons (hN _ (.tail _ (.head _))) (new_cons (hN _ (.tail _ (.tail _ (.head _)))) (new_cons (hN _ (.tail _ (.tail _ (.tail _ (.head _))))) (new_cons (newKey hb6) new_nil)))))) ?_
            refine wh_one 4 (by kernel_rfl) (wo_ef rfl rfl (ef_freshT (I := CpD q.M) (by kernel_rfl) rfl rfl (fun w1 g1 => toMarks_c hok.2.1 hok.2.2 (cells_rd (rd_cells hol.2.1 (off_all (new_cons (newKey hb12) (new_cons (hx1k _ (.head _)) (new_cons (hx1k _ (.tail _ (.head _))) (new_cons (hx1k _ (.tail _ (.tail _ (.head _)))) (new_cons (newKey hb8) (new_cons (hN _ (.head _)) (new_cons (hN _ (.tail _ (.head _))) (new_cons (hN _ (.tail _ (.tail _ (.head _)))) (new_cons (hN _ (.tail _ (.tail _ (.tail _ (.head _))))) (new_cons (newKey hb6) new_nil)))))))))))) g1) (fun p hpm => ⟨cells_rd (rd_cells (hol.2.2 p hpm).1 (off_all (new_cons (newKey hb12) (new_cons (hx1k _ (.head _)) (new_cons (hx1k _ (.tail _ (.head _))) (new_cons (hx1k _ (.tail _ (.tail _ (.head _)))) (new_cons (newKey hb8) (new_cons (hN _ (.head _)) (new_cons (hN _ (.tail _ (.head _))) (new_cons (hN _ (.tail _ (.tail _ (.head _)))) (new_cons (hN _ (.tail _ (.tail _ (.tail _ (.head _))))) (new_cons (newKey hb6) new_nil)))))))))))) g1, (hol.2.2 p hpm).2⟩)) (fun z1 hz1 hk2 hT1 => ⟨fun w hw => st_cutN (A := [⟨.at b12 0, x1.cs, 92, (0, 0), []⟩, ⟨.at b8 0, q.row, 109, (0, 0), []⟩]) (Rm.sub_St (Rm.sub_St (Rm.sub_St (Rm.sub_St hw .here hk2) (.there .here) (hx1k _ (.head _))) (.there .here) (hx1k _ (.tail _ (.head _)))) (.there .here) (hx1k _ (.tail _ (.tail _ (.head _))))) (new_cons (hN _ (.head _)) (new_cons (hN _ (.tail _ (.head _))) (new_cons (hN _ (.tail _ (.tail _ (.head _)))) (new_cons (hN _ (.tail _ (.tail _ (.tail _ (.head _))))) (new_cons (newKey hb6) hT1))))), ?_⟩)))
            dsimp only [rbs, List.cons_append, List.nil_append]
            refine wh_one 5 (by kernel_rfl) (wo_ef rfl rfl (ef_turnN (b := TB tr z) (b' := fun x : RL => TB tr x) (B := fun x : RL => rbs 32 x) (I := fun x : RL => x.x = x1.x ∧ x.own) (v := fun _ : RL => .c (.i64 0)) (by kernel_rfl) rfl rfl (fun _ => (.there (.there (.there (.there (.there (.there .here))))))) (fun _ => rfl) (fun w1 g1 => by rw [← hz1.1]; exact upd_ok_c (z := z) (y := x1) (M := z1.1) (la := z1.2.1) (lc := z1.2.2.1) (lk_st g1 (.there (.there (.there (.there (.there (.there .here))))))) hzk hzr (RL.lies_own (T := 32) g1 (.there (.there (.there (.there (.there (.there (.there (.there (.there .here))))))))) (.there (.there (.there (.there (.there (.there (.there (.there .here)))))))) (.there (.there (.there (.there (.there (.there (.there .here)))))))) (ok_ofx hx1.1 hok.1) hx1.2.pl (RL.lies_own (T := 32) g1 (.there (.there (.there (.there .here)))) (.there (.there (.there .here))) (.there (.there .here))) (by exact ok_map hz1.2.1 hok.2.1) (by rw [hz1.1]; exact hok.2.2) (cells_own g1 .here) (hz1.lies g1 (fun b hb => .there (.there (.there (.there (.there (.there (.there (.there (.there (.there (.there (lk_mem hb))))))))))))) (by rw [hx1.1, hz1.2.1]; exact hU)) (fun z' hz' hpk => ⟨fun w hw => st_cutN (A := [⟨.at b12 0, x1.cs, 92, (0, 0), []⟩, ⟨.at b8 0, q.row, 109, (0, 0), []⟩]) (Rm.sub_St (Rm.sub_St (Rm.sub_St (Rm.sub_St (Rm.sub_St (Rm.sub_St (Rm.sub_St hw .here (hpk _ (.head _))) .here (hpk _ (.tail _ (.head _)))) .here (hpk _ (.tail _ (.tail _ (.head _))))) .here hk2) (.there .here) (hx1k _ (.head _))) (.there .here) (hx1k _ (.tail _ (.head _)))) (.there .here) (hx1k _ (.tail _ (.tail _ (.head _))))) (new_cons (hNt z') (new_cons (hN _ (.tail _ (.head _))) (new_cons (hN _ (.tail _ (.tail _ (.head _)))) (new_cons (hN _ (.tail _ (.tail _ (.tail _ (.head _))))) (new_cons (newKey hb6) hT1))))), ?_⟩)))
            dsimp only [rbs, List.cons_append, List.nil_append]
            refine wh_q 6 rfl (by kernel_rfl) rfl rfl rfl (qt_p tbok rfl) (fun w hw => st_cutN (A := [⟨.at b12 0, x1.cs, 92, (0, 0), []⟩, ⟨.at b8 0, q.row, 109, (0, 0), []⟩]) (Rm.sub_St (Rm.sub_St (Rm.sub_St (Rm.sub_St (Rm.sub_St (Rm.sub_St (Rm.sub_St hw .here (hpk _ (.head _))) .here (hpk _ (.tail _ (.head _)))) .here (hpk _ (.tail _ (.tail _ (.head _))))) .here hk2) (.there .here) (hx1k _ (.head _))) (.there .here) (hx1k _ (.tail _ (.head _)))) (.there .here) (hx1k _ (.tail _ (.tail _ (.head _))))) (new_cons (hNt z') (new_cons (hN _ (.tail _ (.head _))) (new_cons (hN _ (.tail _ (.tail _ (.head _)))) (new_cons (hN _ (.tail _ (.tail _ (.tail _ (.head _))))) (new_cons (newKey hb6) hT1)))))) ?_
            refine wh_done (by kernel_rfl) ?_
            refine nk_code ?_
            refine wc_seq ?_
            refine wc_region ?_
            refine wl_q rfl rfl rfl (qt_load_ag (l := R.cs) tbok rfl rfl rfl rfl (rs_lk (.there (.there (.there (.there (.there (.there (.there (.there (.there (.there (.there (.there (.there .here))))))))))))) at0)) ?_
            refine wl_q rfl rfl rfl (qt_p tbok rfl) ?_
            refine wl_q rfl rfl rfl (qt_load_ag (l := q.y.cs) tbok rfl rfl rfl rfl (rs_lk (.there (.there (.there (.there (.there (.there (.there (.there .here)))))))) q.row_y)) ?_
            refine wl_q rfl rfl rfl (qt_p tbok rfl) ?_
            refine wl_q rfl rfl rfl (qt_load (c := .slc q.a q.M.length q.c) tbok rfl rfl rfl (rc_lk (.there (.there (.there (.there (.there (.there (.there (.there .here)))))))) rfl)) ?_
            refine wl_ef rfl (ef_pure (v := .c (.i64 (tuE z.x q.y.x (q.M.map (·.1))))) (by kernel_rfl) rfl rfl (fun w1 g1 => by rw [hJ]; exact updR_c hRk (hRl.up (fun ad => (off_all (new_cons (hpk _ (.head _)) (new_cons (hpk _ (.tail _ (.head _))) (new_cons (hpk _ (.tail _ (.tail _ (.head _)))) (new_cons hk2 (new_cons (newKey hb12) (new_cons (hx1k _ (.head _)) (new_cons (hx1k _ (.tail _ (.head _))) (new_cons (hx1k _ (.tail _ (.tail _ (.head _)))) (new_cons (newKey hb8) (new_cons (hNt z') (new_cons (hN _ (.tail _ (.head _))) (new_cons (hN _ (.tail _ (.tail _ (.head _)))) (new_cons (hN _ (.tail _ (.tail _ (.tail _ (.head _))))) (new_cons (newKey hb6) hT1)))))))))))))))) g1) hok.1 (hol.1.up (fun ad => (off_all (new_cons (hpk _ (.head _)) (new_cons (hpk _ (.tail _ (.head _))) (new_cons (hpk _ (.tail _ (.tail _ (.head _)))) (new_cons hk2 (new_cons (newKey hb12) (new_cons (hx1k _ (.head _)) (new_cons (hx1k _ (.tail _ (.head _))) (new_cons (hx1k _ (.tail _ (.tail _ (.head _)))) (new_cons (newKey hb8) (new_cons (hNt z') (new_cons (hN _ (.tail _ (.head _))) (new_cons (hN _ (.tail _ (.tail _ (.head _)))) (new_cons (hN _ (.tail _ (.tail _ (.tail _ (.head _))))) (new_cons (newKey hb6) hT1)))))))))))))))) g1) hok.2.1 hok.2.2 (cells_rd (rd_cells hol.2.1 (off_all (new_cons (hpk _ (.head _)) (new_cons (hpk _ (.tail _ (.head _))) (new_cons (hpk _ (.tail _ (.tail _ (.head _)))) (new_cons hk2 (new_cons (newKey hb12) (new_cons (hx1k _ (.head _)) (new_cons (hx1k _ (.tail _ (.head _))) (new_cons (hx1k _ (.tail _ (.tail _ (.head _)))) (new_cons (newKey hb8) (new_cons (hNt z') (new_cons (hN _ (.tail _ (.head _))) (new_cons (hN _ (.tail _ (.tail _ (.head _)))) (new_cons (hN _ (.tail _ (.tail _ (.tail _ (.head _))))) (new_cons (newKey hb6) hT1)))))))))))))))) g1) (fun p hpm => ⟨cells_rd (rd_cells (hol.2.2 p hpm).1 (off_all (new_cons (hpk _ (.head _)) (new_cons (hpk _ (.tail _ (.head _))) (new_cons (hpk _ (.tail _ (.tail _ (.head _)))) (new_cons hk2 (new_cons (newKey hb12) (new_cons (hx1k _ (.head _)) (new_cons (hx1k _ (.tail _ (.head _))) (new_cons (hx1k _ (.tail _ (.tail _ (.head _)))) (new_cons (newKey hb8) (new_cons (hNt z') (new_cons (hN _ (.tail _ (.head _))) (new_cons (hN _ (.tail _ (.tail _ (.head _)))) (new_cons (hN _ (.tail _ (.tail _ (.tail _ (.head _))))) (new_cons (newKey hb6) hT1)))))))))))))))) g1, (hol.2.2 p hpm).2⟩)) ?_)
            refine wl_as (v' := .c (.i64 0)) (by rw [hU]) ?_
            refine wl_q rfl rfl rfl (qt_p tbok rfl) ?_
            refine wl_done ?_
            refine nk_code ?_
            refine wc_seq ?_
            refine wc_seq ?_
            refine wc_region ?_
            refine wl_q rfl rfl rfl (qt_p tbok rfl) ?_
            refine wl_q rfl rfl rfl (qt_p tbok rfl) ?_
            first | refine wl_q rfl rfl rfl (qt_p tbok rfl) ?_ | refine wl_q rfl rfl rfl (qt_neqn tbok rfl rfl rfl) ?_
            refine wl_done ?_
            refine nk_code ?_
            refine wc_no rfl ?_
            refine wc_skip ?_
            refine nk_code ?_
            refine wc_seq ?_
            refine wc_seq ?_
            refine wc_region ?_
            refine wl_q rfl rfl rfl (qt_p tbok rfl) ?_
            first | refine wl_q rfl rfl rfl (qt_p tbok rfl) ?_ | refine wl_q rfl rfl rfl (qt_eqn tbok rfl rfl rfl) ?_
            refine wl_done ?_
            refine nk_code ?_
            refine wc_yes rfl ?_
            refine wc_region ?_
            refine wl_q rfl rfl rfl (qt_p tbok rfl) ?_
            refine wl_q rfl rfl rfl (qt_load_ag (l := q.y.cs) tbok rfl rfl rfl rfl (rs_lk (.there (.there (.there (.there (.there (.there (.there (.there .here)))))))) q.row_y)) ?_
            refine wl_ef rfl (ef_store (cs' := q.y.cs) tbok rfl rfl rfl rfl (.there (.there (.there (.there (.there (.there (.there (.there (.there (.there (.there (.there (.there .here))))))))))))) rfl (Nat.le_of_ble_eq_true rfl) (spl_all rfl) ?_)
            refine wl_done ?_
            refine nk_code ?_
            refine wc_seq ?_
            refine wc_seq ?_
            refine wc_region ?_
            obtain ⟨zz, RR, hzz, hRR⟩ : ∃ (a b : RL), a = z' ∧ b = q.y := ⟨_, _, rfl, rfl⟩
            have fo : zz.own := hzz ▸ hz'.2
            have fx : zz.x = RR.x := (by rw [hzz, hRR]; exact hz'.1.trans hx1.1)
            have fRk : RR.ok := hRR ▸ hok.1
            have fRl : RR.lies w := hRR ▸ hol.1
            have fk : zz.ok := ok_ofx fx fRk
            have fr : rootB zz.x = true := (by rw [fx, hRR]; exact (up_yes hU).1)
            have fN : ∀ p ∈ TB tr zz :: rbs 32 zz, ∀ k, p.key = some k → w.heap.size ≤ k := (by rw [hzz]; exact new_cons (hNt z') hpk)
            obtain ⟨ta, hta⟩ : ∃ a, a = x1.t.2.1 := ⟨_, rfl⟩
            have hxtk : ∀ k, ta.key = some k → w.heap.size ≤ k := (by rw [hta]; exact hx1k _ (.tail _ (.head _)))
            have hxo : OwnS ta x1.t.1.K.length x1.t.2.2.1 33 (x1.t.1.K.flatMap kr) x1.t.2.2.2 := (by rw [hta]; exact hx1.2.2.1)
            have hxl : (x1.t.1.K.flatMap kr).length = x1.t.1.K.length * 33 := rows_len ((ok_ofx hx1.1 hok.1).2.1.1).row
            have hxb : x1.t.1.K.length ≤ 1073741824 := (ok_ofx hx1.1 hok.1).2.1.2
            refine wl_q rfl rfl rfl (qt_p tbok rfl) ?_
            refine wl_q rfl rfl rfl (qt_p tbok rfl) ?_
            refine wl_q rfl rfl rfl (qt_load (c := .slc ta x1.t.1.K.length x1.t.2.2.1) tbok rfl rfl rfl (rc_lk (.there (.there (.there (.there .here)))) (by rw [hta]; rfl))) ?_
            refine wl_q rfl rfl rfl (qt_len tbok rfl rfl) ?_
            refine wl_q rfl rfl rfl (qt_p tbok rfl) ?_
            refine wl_done ?_
            refine nk_code ?_
            refine wc_block ?_
            refine wc_loop (ι := Nat × List C) (fun j => j.1 ≤ x1.t.1.K.length ∧ j.2.length = x1.t.1.K.length * 33) (fun j => [(99, .c (.i64 (j.1 : Int))), (98, .c (.i64 (x1.t.1.K.length : Int))), (12, .c (.ptr (.at b12 0))), (37, .c (.i64 (i : Int))), (36, .c (.i64 (O.length : Int))), (35, .c (.slc (.at lr lo) O.length oc)), (5, .c (.ptr (.at tr 0))), (6, .c (.ptr (.at b6 0))), (1, .c (.slc aa A.length ac))]) (fun j => [⟨ta, j.2, 32, (0, 0), x1.t.2.2.2⟩, ⟨.at b12 0, x1.cs, 92, (0, 0), []⟩, TB tr zz, rob 32 zz.l, rob 32 zz.t, rob 32 zz.r, ⟨.at b6 0, RR.cs, 88, (0, 0), []⟩]) (fun j => x1.t.1.K.length - j.1) (0, x1.t.1.K.flatMap kr) ⟨Nat.zero_le _, hxl⟩ (nk_start ⟨rfl, rfl, rfl, rfl, rfl, rfl, rfl, rfl, rfl, trivial⟩ (fun w hw => by rw [hta, hzz, hRR]; exact St.perm (st_cutN (A := [rob 32 z'.l, rob 32 z'.t, rob 32 z'.r, ⟨.at b12 0, x1.cs, 92, (0, 0), []⟩, rob 32 x1.t, TB tr z', ⟨.at b6 0, q.y.cs, 88, (0, 0), []⟩]) (Rm.sub_St (Rm.sub_St (Rm.sub_St (Rm.sub_St (Rm.sub_St (Rm.sub_St (Rm.sub_St hw (.there (.there (.there .here))) hk2) (.there (.there (.there (.there .here)))) (hx1k _ (.head _))) (.there (.there (.there (.there (.there .here))))) (hx1k _ (.tail _ (.tail _ (.head _))))) (.there (.there (.there (.there (.there .here))))) (newKey hb8)) (.there (.there (.there (.there (.there (.there .here)))))) (hN _ (.tail _ (.head _)))) (.there (.there (.there (.there (.there (.there .here)))))) (hN _ (.tail _ (.tail _ (.head _))))) (.there (.there (.there (.there (.there (.there .here)))))) (hN _ (.tail _ (.tail _ (.tail _ (.head _)))))) (hT1)) perm7)) (fun ⟨j, D⟩ ⟨hj, hD⟩ => ?_)
            replace hj : j ≤ x1.t.1.K.length := hj
            replace hD : D.length = x1.t.1.K.length * 33 := hD
            dsimp only
            refine wc_seq ?_
            refine wc_region ?_
            refine wl_q rfl rfl rfl (qt_p tbok rfl) ?_
            refine wl_done ?_
            refine nk_code ?_
            refine wc_seq ?_
            refine wc_cond rfl (fun h100 => ?_) (fun h100 => ?_)
            · have hj' : j < x1.t.1.K.length := (by have h0 := of_decide_eq_true h100; omega)
              obtain ⟨xr, hxr⟩ := own_at hxo (by omega)
              subst hxr
              refine wc_skip ?_
              refine nk_code ?_
              refine wc_seq ?_
              refine wc_block ?_
              refine wc_seq ?_
              refine wc_region ?_
              refine wl_q rfl rfl rfl (qt_p tbok rfl) ?_
              refine wl_q rfl rfl rfl (qt_p tbok rfl) ?_
              refine wl_done ?_
              refine nk_code ?_
              refine wc_region ?_
              refine wl_q rfl rfl rfl (qt_p tbok rfl) ?_
              refine wl_q rfl rfl rfl (qt_p tbok rfl) ?_
              refine wl_q rfl rfl rfl (qt_load (c := .slc (.at xr 0) x1.t.1.K.length x1.t.2.2.1) tbok rfl rfl rfl (rc_lk (.there .here) (by rw [hta]; rfl))) ?_
              refine wl_q rfl rfl rfl (qt_p tbok rfl) ?_
              refine wl_q rfl rfl rfl (qt_build (vs := []) (l := z33) tbok rfl zero32 rfl rfl) ?_
              refine wl_q rfl rfl rfl (qt_p tbok rfl) ?_
              refine wl_ef rfl (ef_store (cs' := spl D (0 + ((j : Nat) : Int).toNat * 33) z33) tbok rfl rfl rfl rfl .here rfl (by show 0 + ((j : Nat) : Int).toNat * 33 + 33 ≤ D.length; omega) rfl ?_)
              refine wl_done ?_
              refine nk_code ?_
              refine wc_region ?_
              refine wl_q rfl rfl rfl (qt_p tbok rfl) ?_
              refine wl_q rfl rfl rfl (qt_p tbok rfl) ?_
              refine wl_done ?_
              exact nk_round (i := (j, D)) (j + 1, spl D (0 + ((j : Nat) : Int).toNat * 33) z33) ⟨hj', (spl_ln (by show 0 + ((j : Nat) : Int).toNat * 33 + 33 ≤ D.length; omega)).trans hD⟩ (by show x1.t.1.K.length - (j + 1) < x1.t.1.K.length - j; omega) ⟨rfl, rfl, rfl, rfl, rfl, rfl, rfl, rfl, rfl, trivial⟩ (fun w hw => hw)
            · refine wc_exit rfl ?_
              refine nk_code ?_
              refine wc_seq ?_
              refine wc_region ?_
              refine wl_q rfl rfl rfl (qt_p tbok rfl) ?_
              refine wl_ef rfl (ef_freshL (B := fun z : RL => rbs 32 z) (I := fun x : RL => x.x = zz.x ∧ x.own) (v := fun z : RL => .agg z.cs) (by kernel_rfl) rfl rfl (fun w1 g1 => by exact root_c (tr := tr) (y := zz) (cells_own g1 (.there (.there .here))) fk fo.pl (RL.lies_own (T := 32) g1 (.there (.there (.there (.there (.there .here))))) (.there (.there (.there (.there .here)))) (.there (.there (.there .here))))) (fun z4 hz4 hz4k => ?_))
              dsimp only [rbs, List.cons_append, List.nil_append]
              refine wl_ef rfl (ef_alloc zero92 rfl rfl (fun b16 hb16 => ?_))
              refine wl_ef rfl (ef_store (cs' := z4.cs) tbok rfl rfl rfl rfl .here rfl (Nat.le_of_ble_eq_true rfl) rfl ?_)
              refine wl_done ?_
              refine nk_code ?_
              refine wc_seq ?_
              refine wc_seq ?_
              refine wc_draw (s0 := [⟨.at b16 0, z4.cs, 92, (0, 0), []⟩, ⟨.at b6 0, RR.cs, 88, (0, 0), []⟩]) 5 follows ?_
              have z4k : z4.ok := ok_ofx hz4.1 fk
              refine wh_q 0 rfl (by kernel_rfl) rfl rfl rfl (qt_load_ag (l := z4.cs) tbok rfl rfl rfl rfl (rs_lk .here at0)) (fun w hw => st_cutN (A := [⟨.at b16 0, z4.cs, 92, (0, 0), []⟩, ⟨.at b6 0, RR.cs, 88, (0, 0), []⟩]) (Rm.sub_St (Rm.sub_St (Rm.sub_St (Rm.sub_St (Rm.sub_St (Rm.sub_St (Rm.sub_St (Rm.sub_St (Rm.sub_St hw (.there .here) (hz4k _ (.head _))) (.there .here) (hz4k _ (.tail _ (.head _)))) (.there .here) (hz4k _ (.tail _ (.tail _ (.head _))))) (.there .here) hxtk) (.there .here) (newKey hb12)) (.there .here) (fN _ (.head _))) (.there .here) (fN _ (.tail _ (.head _)))) (.there .here) (fN _ (.tail _ (.tail _ (.head _))))) (.there .here) (fN _ (.tail _ (.tail _ (.tail _ (.head _)))))) (new_nil)) ?_
              refine wh_q 2 rfl (by kernel_rfl) rfl rfl rfl (qt_load_ag (l := RR.cs) tbok rfl rfl rfl rfl (rs_lk (.there .here) at0)) (fun w hw => st_cutN (A := [⟨.at b16 0, z4.cs, 92, (0, 0), []⟩, ⟨.at b6 0, RR.cs, 88, (0, 0), []⟩]) (Rm.sub_St (Rm.sub_St (Rm.sub_St (Rm.sub_St (Rm.sub_St (Rm.sub_St (Rm.sub_St (Rm.sub_St (Rm.sub_St hw (.there .here) (hz4k _ (.head _))) (.there .here) (hz4k _ (.tail _ (.head _)))) (.there .here) (hz4k _ (.tail _ (.tail _ (.head _))))) (.there .here) hxtk) (.there .here) (newKey hb12)) (.there .here) (fN _ (.head _))) (.there .here) (fN _ (.tail _ (.head _)))) (.there .here) (fN _ (.tail _ (.tail _ (.head _))))) (.there .here) (fN _ (.tail _ (.tail _ (.tail _ (.head _)))))) (new_nil)) ?_
              refine wh_one 1 (by kernel_rfl) (wo_ef rfl rfl (ef_freshL (B := fun z : RL => rbs 24 z) (I := fun x : RL => x.x = z4.x ∧ x.own) (v := fun z : RL => .agg z.cs) (by kernel_rfl) rfl rfl (fun w1 g1 => by exact fromRoot_c z4k (RL.lies_own (T := 32) g1 (.there (.there (.there .here))) (.there (.there .here)) (.there .here))) (fun z5 hz5 hz5k => ⟨fun w hw => st_cutN (A := [⟨.at b16 0, z4.cs, 92, (0, 0), []⟩, ⟨.at b6 0, RR.cs, 88, (0, 0), []⟩]) (Rm.sub_St (Rm.sub_St (Rm.sub_St (Rm.sub_St (Rm.sub_St (Rm.sub_St (Rm.sub_St (Rm.sub_St (Rm.sub_St (Rm.sub_St (Rm.sub_St (Rm.sub_St hw .here (hz5k _ (.head _))) .here (hz5k _ (.tail _ (.head _)))) .here (hz5k _ (.tail _ (.tail _ (.head _))))) (.there .here) (hz4k _ (.head _))) (.there .here) (hz4k _ (.tail _ (.head _)))) (.there .here) (hz4k _ (.tail _ (.tail _ (.head _))))) (.there .here) hxtk) (.there .here) (newKey hb12)) (.there .here) (fN _ (.head _))) (.there .here) (fN _ (.tail _ (.head _)))) (.there .here) (fN _ (.tail _ (.tail _ (.head _))))) (.there .here) (fN _ (.tail _ (.tail _ (.tail _ (.head _)))))) (new_nil), ?_⟩)))
              dsimp only [rbs, List.cons_append, List.nil_append]
              refine wh_one 3 (by kernel_rfl) (wo_ef rfl rfl (ef_pure (v := .c (.bool (sameRx z5.x RR.x))) (by kernel_rfl) rfl rfl (fun w1 g1 => by exact sameRoot_c (ok_ofx hz5.1 z4k) fRk (RL.lies_own (T := 24) g1 (.there (.there .here)) (.there .here) .here) (fRl.up (fun ad => (off_all (new_cons (hz5k _ (.head _)) (new_cons (hz5k _ (.tail _ (.head _))) (new_cons (hz5k _ (.tail _ (.tail _ (.head _)))) (new_cons (newKey hb16) (new_cons (hz4k _ (.head _)) (new_cons (hz4k _ (.tail _ (.head _))) (new_cons (hz4k _ (.tail _ (.tail _ (.head _)))) (new_cons hxtk (new_cons (newKey hb12) (new_cons (fN _ (.head _)) (new_cons (fN _ (.tail _ (.head _))) (new_cons (fN _ (.tail _ (.tail _ (.head _)))) (new_cons (fN _ (.tail _ (.tail _ (.tail _ (.head _))))) (new_cons (newKey hb6) new_nil)))))))))))))))) g1)) ⟨fun w hw => st_cutN (A := [⟨.at b16 0, z4.cs, 92, (0, 0), []⟩, ⟨.at b6 0, RR.cs, 88, (0, 0), []⟩]) (Rm.sub_St (Rm.sub_St (Rm.sub_St (Rm.sub_St (Rm.sub_St (Rm.sub_St (Rm.sub_St (Rm.sub_St (Rm.sub_St (Rm.sub_St (Rm.sub_St (Rm.sub_St hw .here (hz5k _ (.head _))) .here (hz5k _ (.tail _ (.head _)))) .here (hz5k _ (.tail _ (.tail _ (.head _))))) (.there .here) (hz4k _ (.head _))) (.there .here) (hz4k _ (.tail _ (.head _)))) (.there .here) (hz4k _ (.tail _ (.tail _ (.head _))))) (.there .here) hxtk) (.there .here) (newKey hb12)) (.there .here) (fN _ (.head _))) (.there .here) (fN _ (.tail _ (.head _)))) (.there .here) (fN _ (.tail _ (.tail _ (.head _))))) (.there .here) (fN _ (.tail _ (.tail _ (.tail _ (.head _)))))) (new_nil), ?_⟩))
              refine wh_as (v' := .c (.bool true)) (congrArg (fun b => V.c (C.bool b)) (by rw [hz5.1, hz4.1, fx]; exact sameRx_refl _)) ?_
              refine wh_q 4 rfl (by kernel_rfl) rfl rfl rfl (qt_p tbok rfl) (fun w hw => st_cutN (A := [⟨.at b16 0, z4.cs, 92, (0, 0), []⟩, ⟨.at b6 0, RR.cs, 88, (0, 0), []⟩]) (Rm.sub_St (Rm.sub_St (Rm.sub_St (Rm.sub_St (Rm.sub_St (Rm.sub_St (Rm.sub_St (Rm.sub_St (Rm.sub_St (Rm.sub_St (Rm.sub_St (Rm.sub_St hw .here (hz5k _ (.head _))) .here (hz5k _ (.tail _ (.head _)))) .here (hz5k _ (.tail _ (.tail _ (.head _))))) (.there .here) (hz4k _ (.head _))) (.there .here) (hz4k _ (.tail _ (.head _)))) (.there .here) (hz4k _ (.tail _ (.tail _ (.head _))))) (.there .here) hxtk) (.there .here) (newKey hb12)) (.there .here) (fN _ (.head _))) (.there .here) (fN _ (.tail _ (.head _)))) (.there .here) (fN _ (.tail _ (.tail _ (.head _))))) (.there .here) (fN _ (.tail _ (.tail _ (.tail _ (.head _)))))) (new_nil)) ?_
              refine wh_done (by kernel_rfl) ?_
              refine nk_code ?_
              refine wc_no rfl ?_
              refine wc_skip ?_
              refine nk_code ?_
              refine wc_seq ?_
              refine wc_region ?_
              obtain ⟨ra, hra⟩ : ∃ a, a = z4.r.2.1 := ⟨_, rfl⟩
              have hytk : ∀ k, ra.key = some k → w.heap.size ≤ k := (by rw [hra]; exact hz4k _ (.tail _ (.tail _ (.head _))))
              have hyo : OwnS ra z4.r.1.K.length z4.r.2.2.1 33 (z4.r.1.K.flatMap kr) z4.r.2.2.2 := (by rw [hra]; exact hz4.2.1)
              have hyl : (z4.r.1.K.flatMap kr).length = z4.r.1.K.length * 33 := rows_len z4k.1.1.row
              have hyb : z4.r.1.K.length ≤ 1073741824 := z4k.1.2
              refine wl_q rfl rfl rfl (qt_p tbok rfl) ?_
              refine wl_q rfl rfl rfl (qt_p tbok rfl) ?_
              refine wl_q rfl rfl rfl (qt_load (c := .slc ra z4.r.1.K.length z4.r.2.2.1) tbok rfl rfl rfl (rc_lk (.there (.there (.there .here))) (by rw [hra]; rfl))) ?_
              refine wl_q rfl rfl rfl (qt_len tbok rfl rfl) ?_
              refine wl_q rfl rfl rfl (qt_p tbok rfl) ?_
              refine wl_done ?_
              refine nk_code ?_
              refine wc_block ?_
              refine wc_loop (ι := Nat × List C) (fun j => j.1 ≤ z4.r.1.K.length ∧ j.2.length = z4.r.1.K.length * 33) (fun j => [(120, .c (.i64 (j.1 : Int))), (119, .c (.i64 (z4.r.1.K.length : Int))), (16, .c (.ptr (.at b16 0))), (37, .c (.i64 (i : Int))), (36, .c (.i64 (O.length : Int))), (35, .c (.slc (.at lr lo) O.length oc)), (5, .c (.ptr (.at tr 0))), (6, .c (.ptr (.at b6 0))), (1, .c (.slc aa A.length ac))]) (fun j => [⟨ra, j.2, 32, (0, 0), z4.r.2.2.2⟩, ⟨.at b16 0, z4.cs, 92, (0, 0), []⟩, TB tr zz, rob 32 zz.l, rob 32 zz.t, rob 32 zz.r, ⟨.at b6 0, RR.cs, 88, (0, 0), []⟩]) (fun j => z4.r.1.K.length - j.1) (0, z4.r.1.K.flatMap kr) ⟨Nat.zero_le _, hyl⟩ (nk_start ⟨rfl, rfl, rfl, rfl, rfl, rfl, rfl, rfl, rfl, trivial⟩ (fun w hw => by rw [hra]; exact St.perm (st_cutN (A := [⟨.at b16 0, z4.cs, 92, (0, 0), []⟩, rob 32 z4.r, TB tr zz, rob 32 zz.l, rob 32 zz.t, rob 32 zz.r, ⟨.at b6 0, RR.cs, 88, (0, 0), []⟩]) (Rm.sub_St (Rm.sub_St (Rm.sub_St (Rm.sub_St (Rm.sub_St (Rm.sub_St (Rm.sub_St hw .here (hz5k _ (.head _))) .here (hz5k _ (.tail _ (.head _)))) .here (hz5k _ (.tail _ (.tail _ (.head _))))) (.there .here) (hz4k _ (.head _))) (.there .here) (hz4k _ (.tail _ (.head _)))) (.there (.there .here)) hxtk) (.there (.there .here)) (newKey hb12)) (new_nil)) (List.Perm.swap _ _ _))) (fun ⟨h, D2⟩ ⟨hh, hD2⟩ => ?_)
              replace hh : h ≤ z4.r.1.K.length := hh
              replace hD2 : D2.length = z4.r.1.K.length * 33 := hD2
              dsimp only
              refine wc_seq ?_
              refine wc_region ?_
              refine wl_q rfl rfl rfl (qt_p tbok rfl) ?_
              refine wl_done ?_
              refine nk_code ?_
              refine wc_seq ?_
              refine wc_cond rfl (fun h121 => ?_) (fun h121 => ?_)
              · have hh' : h < z4.r.1.K.length := (by have h0 := of_decide_eq_true h121; omega)
                obtain ⟨yr, hyr⟩ := own_at hyo (by omega)
                subst hyr
                refine wc_skip ?_
                refine nk_code ?_
                refine wc_seq ?_
                refine wc_block ?_
                refine wc_seq ?_
                refine wc_region ?_
                refine wl_q rfl rfl rfl (qt_p tbok rfl) ?_
                refine wl_q rfl rfl rfl (qt_p tbok rfl) ?_
                refine wl_done ?_
                refine nk_code ?_
                refine wc_region ?_
                refine wl_q rfl rfl rfl (qt_p tbok rfl) ?_
                refine wl_q rfl rfl rfl (qt_p tbok rfl) ?_
                refine wl_q rfl rfl rfl (qt_load (c := .slc (.at yr 0) z4.r.1.K.length z4.r.2.2.1) tbok rfl rfl rfl (rc_lk (.there .here) (by rw [hra]; rfl))) ?_
                refine wl_q rfl rfl rfl (qt_p tbok rfl) ?_
                refine wl_q rfl rfl rfl (qt_build (vs := []) (l := z33) tbok rfl zero32 rfl rfl) ?_
                refine wl_q rfl rfl rfl (qt_p tbok rfl) ?_
                refine wl_ef rfl (ef_store (cs' := spl D2 (0 + ((h : Nat) : Int).toNat * 33) z33) tbok rfl rfl rfl rfl .here rfl (by show 0 + ((h : Nat) : Int).toNat * 33 + 33 ≤ D2.length; omega) rfl ?_)
                refine wl_done ?_
                refine nk_code ?_
                refine wc_region ?_
                refine wl_q rfl rfl rfl (qt_p tbok rfl) ?_
                refine wl_q rfl rfl rfl (qt_p tbok rfl) ?_
                refine wl_done ?_
                exact nk_round (i := (h, D2)) (h + 1, spl D2 (0 + ((h : Nat) : Int).toNat * 33) z33) ⟨hh', (spl_ln (by show 0 + ((h : Nat) : Int).toNat * 33 + 33 ≤ D2.length; omega)).trans hD2⟩ (by show z4.r.1.K.length - (h + 1) < z4.r.1.K.length - h; omega) ⟨rfl, rfl, rfl, rfl, rfl, rfl, rfl, rfl, rfl, trivial⟩ (fun w hw => hw)
              · refine wc_exit rfl ?_
                refine nk_code ?_
                refine wc_region ?_
                refine wl_q rfl rfl rfl (qt_p tbok rfl) ?_
                refine wl_q rfl rfl rfl (qt_p tbok rfl) ?_
                refine wl_done ?_
                exact nk_round (i := (i, some (tr, z), R)) (i + 1, some (tr, zz), RR) ⟨hi', ⟨fo, fk, fr⟩, fx, ⟨fRk, fRl⟩, fN⟩ (by show O.length - (i + 1) < O.length - i; omega) ⟨rfl, rfl, rfl, rfl, rfl, rfl, trivial⟩ (fun w hw => st_cutN (A := [TB tr zz, rob 32 zz.l, rob 32 zz.t, rob 32 zz.r, ⟨.at b6 0, RR.cs, 88, (0, 0), []⟩]) (Rm.sub_St (Rm.sub_St hw .here hytk) .here (newKey hb16)) (new_nil))
          · refine wc_draw (s0 := [⟨.at b12 0, x1.cs, 92, (0, 0), []⟩, ⟨.at b8 0, q.row, 109, (0, 0), []⟩]) 7 follows ?_
            refine wh_q 0 rfl (by kernel_rfl) rfl rfl rfl (qt_p tbok rfl) (fun w hw => st_cutN (A := [⟨.at b12 0, x1.cs, 92, (0, 0), []⟩, ⟨.at b8 0, q.row, 109, (0, 0), []⟩]) (Rm.sub_St (Rm.sub_St (Rm.sub_St hw (.there .here) (hx1k _ (.head _))) (.there .here) (hx1k _ (.tail _ (.head _)))) (.there .here) (hx1k _ (.tail _ (.tail _ (.head _))))) (new_cons (hN _ (.head _)) (new_cons (hN _ (.tail _ (.head _))) (new_cons (hN _ (.tail _ (.tail _ (.head _)))) (new_cons (hN _ (.tail _ (.tail _ (.tail _ (.head _))))) (new_cons (newKey hb6) new_nil)))))) ?_
            refine wh_q 1 rfl (by kernel_rfl) rfl rfl rfl (qt_load_ag (l := x1.cs) tbok rfl rfl rfl rfl (rs_lk .here at0)) (fun w hw => st_cutN (A := [⟨.at b12 0, x1.cs, 92, (0, 0), []⟩, ⟨.at b8 0, q.row, 109, (0, 0), []⟩]) (Rm.sub_St (Rm.sub_St (Rm.sub_St hw (.there .here) (hx1k _ (.head _))) (.there .here) (hx1k _ (.tail _ (.head _)))) (.there .here) (hx1k _ (.tail _ (.tail _ (.head _))))) (new_cons (hN _ (.head _)) (new_cons (hN _ (.tail _ (.head _))) (new_cons (hN _ (.tail _ (.tail _ (.head _)))) (new_cons (hN _ (.tail _ (.tail _ (.tail _ (.head _))))) (new_cons (newKey hb6) new_nil)))))) ?_
            refine wh_q 2 rfl (by kernel_rfl) rfl rfl rfl (qt_p tbok rfl) (fun w hw => st_cutN (A := [⟨.at b12 0, x1.cs, 92, (0, 0), []⟩, ⟨.at b8 0, q.row, 109, (0, 0), []⟩]) (Rm.sub_St (Rm.sub_St (Rm.sub_St hw (.there .here) (hx1k _ (.head _))) (.there .here) (hx1k _ (.tail _ (.head _)))) (.there .here) (hx1k _ (.tail _ (.tail _ (.head _))))) (new_cons (hN _ (.head _)) (new_cons (hN _ (.tail _ (.head _))) (new_cons (hN _ (.tail _ (.tail _ (.head _)))) (new_cons (hN _ (.tail _ (.tail _ (.tail _ (.head _))))) (new_cons (newKey hb6) new_nil)))))) ?_
            refine wh_q 3 rfl (by kernel_rfl) rfl rfl rfl (qt_load (c := .slc q.a q.M.length q.c) tbok rfl rfl rfl (rc_lk (.there .here) rfl)) (fun w hw => st_cutN (A := [⟨.at b12 0, x1.cs, 92, (0, 0), []⟩, ⟨.at b8 0, q.row, 109, (0, 0), []⟩]) (Rm.sub_St (Rm.sub_St (Rm.sub_St hw (.there .here) (hx1k _ (.head _))) (.there .here) (hx1k _ (.tail _ (.head _)))) (.there .here) (hx1k _ (.tail _ (.tail _ (.head _))))) (new_cons (hN _ (.head _)) (new_cons (hN _ (.tail _ (.head _))) (new_cons (hN _ (.tail _ (.tail _ (.head _)))) (new_cons (hN _ (.tail _ (.tail _ (.tail _ (.head _))))) (new_cons (newKey hb6) new_nil)))))) ?_
            refine wh_one 4 (by kernel_rfl) (wo_ef rfl rfl (ef_freshT (I := CpD q.M) (by kernel_rfl) rfl rfl (fun w1 g1 => toMarks_c hok.2.1 hok.2.2 (cells_rd (rd_cells hol.2.1 (off_all (new_cons (newKey hb12) (new_cons (hx1k _ (.head _)) (new_cons (hx1k _ (.tail _ (.head _))) (new_cons (hx1k _ (.tail _ (.tail _ (.head _)))) (new_cons (newKey hb8) (new_cons (hN _ (.head _)) (new_cons (hN _ (.tail _ (.head _))) (new_cons (hN _ (.tail _ (.tail _ (.head _)))) (new_cons (hN _ (.tail _ (.tail _ (.tail _ (.head _))))) (new_cons (newKey hb6) new_nil)))))))))))) g1) (fun p hpm => ⟨cells_rd (rd_cells (hol.2.2 p hpm).1 (off_all (new_cons (newKey hb12) (new_cons (hx1k _ (.head _)) (new_cons (hx1k _ (.tail _ (.head _))) (new_cons (hx1k _ (.tail _ (.tail _ (.head _)))) (new_cons (newKey hb8) (new_cons (hN _ (.head _)) (new_cons (hN _ (.tail _ (.head _))) (new_cons (hN _ (.tail _ (.tail _ (.head _)))) (new_cons (hN _ (.tail _ (.tail _ (.tail _ (.head _))))) (new_cons (newKey hb6) new_nil)))))))))))) g1, (hol.2.2 p hpm).2⟩)) (fun z1 hz1 hk2 hT1 => ⟨fun w hw => st_cutN (A := [⟨.at b12 0, x1.cs, 92, (0, 0), []⟩, ⟨.at b8 0, q.row, 109, (0, 0), []⟩]) (Rm.sub_St (Rm.sub_St (Rm.sub_St (Rm.sub_St hw .here hk2) (.there .here) (hx1k _ (.head _))) (.there .here) (hx1k _ (.tail _ (.head _)))) (.there .here) (hx1k _ (.tail _ (.tail _ (.head _))))) (new_cons (hN _ (.head _)) (new_cons (hN _ (.tail _ (.head _))) (new_cons (hN _ (.tail _ (.tail _ (.head _)))) (new_cons (hN _ (.tail _ (.tail _ (.tail _ (.head _))))) (new_cons (newKey hb6) hT1))))), ?_⟩)))
            dsimp only [rbs, List.cons_append, List.nil_append]
            refine wh_one 5 (by kernel_rfl) (wo_ef rfl rfl (ef_pure (v := .c (.i64 (tuE z.x q.y.x (q.M.map (·.1))))) (by kernel_rfl) rfl rfl (fun w1 g1 => by rw [← hz1.1, ← hx1.1, ← hz1.2.1]; exact upd_no_c (z := z) (y := x1) (M := z1.1) (la := z1.2.1) (lc := z1.2.2.1) (lk_st g1 (.there (.there (.there (.there (.there (.there .here))))))) hzk hzr (RL.lies_own (T := 32) g1 (.there (.there (.there (.there (.there (.there (.there (.there (.there .here))))))))) (.there (.there (.there (.there (.there (.there (.there (.there .here)))))))) (.there (.there (.there (.there (.there (.there (.there .here)))))))) (ok_ofx hx1.1 hok.1) hx1.2.pl (RL.lies_own (T := 32) g1 (.there (.there (.there (.there .here)))) (.there (.there (.there .here))) (.there (.there .here))) (by exact ok_map hz1.2.1 hok.2.1) (by rw [hz1.1]; exact hok.2.2) (cells_own g1 .here) (hz1.lies g1 (fun b hb => .there (.there (.there (.there (.there (.there (.there (.there (.there (.there (.there (lk_mem hb))))))))))))) (by rw [hx1.1, hz1.2.1]; exact hU)) ⟨fun w hw => st_cutN (A := [⟨.at b12 0, x1.cs, 92, (0, 0), []⟩, ⟨.at b8 0, q.row, 109, (0, 0), []⟩]) (Rm.sub_St (Rm.sub_St (Rm.sub_St (Rm.sub_St hw .here hk2) (.there .here) (hx1k _ (.head _))) (.there .here) (hx1k _ (.tail _ (.head _)))) (.there .here) (hx1k _ (.tail _ (.tail _ (.head _))))) (new_cons (hN _ (.head _)) (new_cons (hN _ (.tail _ (.head _))) (new_cons (hN _ (.tail _ (.tail _ (.head _)))) (new_cons (hN _ (.tail _ (.tail _ (.tail _ (.head _))))) (new_cons (newKey hb6) hT1))))), ?_⟩))
            refine wh_q 6 rfl (by kernel_rfl) rfl rfl rfl (qt_p tbok rfl) (fun w hw => st_cutN (A := [⟨.at b12 0, x1.cs, 92, (0, 0), []⟩, ⟨.at b8 0, q.row, 109, (0, 0), []⟩]) (Rm.sub_St (Rm.sub_St (Rm.sub_St (Rm.sub_St hw .here hk2) (.there .here) (hx1k _ (.head _))) (.there .here) (hx1k _ (.tail _ (.head _)))) (.there .here) (hx1k _ (.tail _ (.tail _ (.head _))))) (new_cons (hN _ (.head _)) (new_cons (hN _ (.tail _ (.head _))) (new_cons (hN _ (.tail _ (.tail _ (.head _)))) (new_cons (hN _ (.tail _ (.tail _ (.tail _ (.head _))))) (new_cons (newKey hb6) hT1)))))) ?_
            refine wh_done (by kernel_rfl) ?_
            refine nk_code ?_
            refine wc_seq ?_
            refine wc_region ?_
            refine wl_q rfl rfl rfl (qt_load_ag (l := R.cs) tbok rfl rfl rfl rfl (rs_lk (.there (.there (.there (.there (.there (.there (.there (.there (.there (.there .here)))))))))) at0)) ?_
            refine wl_q rfl rfl rfl (qt_p tbok rfl) ?_
            refine wl_q rfl rfl rfl (qt_load_ag (l := q.y.cs) tbok rfl rfl rfl rfl (rs_lk (.there (.there (.there (.there (.there .here))))) q.row_y)) ?_
            refine wl_q rfl rfl rfl (qt_p tbok rfl) ?_
            refine wl_q rfl rfl rfl (qt_load (c := .slc q.a q.M.length q.c) tbok rfl rfl rfl (rc_lk (.there (.there (.there (.there (.there .here))))) rfl)) ?_
            refine wl_ef rfl (ef_pure (v := .c (.i64 (tuE z.x q.y.x (q.M.map (·.1))))) (by kernel_rfl) rfl rfl (fun w1 g1 => by rw [hJ]; exact updR_c hRk (hRl.up (fun ad => (off_all (new_cons hk2 (new_cons (newKey hb12) (new_cons (hx1k _ (.head _)) (new_cons (hx1k _ (.tail _ (.head _))) (new_cons (hx1k _ (.tail _ (.tail _ (.head _)))) (new_cons (newKey hb8) (new_cons (hN _ (.head _)) (new_cons (hN _ (.tail _ (.head _))) (new_cons (hN _ (.tail _ (.tail _ (.head _)))) (new_cons (hN _ (.tail _ (.tail _ (.tail _ (.head _))))) (new_cons (newKey hb6) hT1))))))))))))) g1) hok.1 (hol.1.up (fun ad => (off_all (new_cons hk2 (new_cons (newKey hb12) (new_cons (hx1k _ (.head _)) (new_cons (hx1k _ (.tail _ (.head _))) (new_cons (hx1k _ (.tail _ (.tail _ (.head _)))) (new_cons (newKey hb8) (new_cons (hN _ (.head _)) (new_cons (hN _ (.tail _ (.head _))) (new_cons (hN _ (.tail _ (.tail _ (.head _)))) (new_cons (hN _ (.tail _ (.tail _ (.tail _ (.head _))))) (new_cons (newKey hb6) hT1))))))))))))) g1) hok.2.1 hok.2.2 (cells_rd (rd_cells hol.2.1 (off_all (new_cons hk2 (new_cons (newKey hb12) (new_cons (hx1k _ (.head _)) (new_cons (hx1k _ (.tail _ (.head _))) (new_cons (hx1k _ (.tail _ (.tail _ (.head _)))) (new_cons (newKey hb8) (new_cons (hN _ (.head _)) (new_cons (hN _ (.tail _ (.head _))) (new_cons (hN _ (.tail _ (.tail _ (.head _)))) (new_cons (hN _ (.tail _ (.tail _ (.tail _ (.head _))))) (new_cons (newKey hb6) hT1))))))))))))) g1) (fun p hpm => ⟨cells_rd (rd_cells (hol.2.2 p hpm).1 (off_all (new_cons hk2 (new_cons (newKey hb12) (new_cons (hx1k _ (.head _)) (new_cons (hx1k _ (.tail _ (.head _))) (new_cons (hx1k _ (.tail _ (.tail _ (.head _)))) (new_cons (newKey hb8) (new_cons (hN _ (.head _)) (new_cons (hN _ (.tail _ (.head _))) (new_cons (hN _ (.tail _ (.tail _ (.head _)))) (new_cons (hN _ (.tail _ (.tail _ (.tail _ (.head _))))) (new_cons (newKey hb6) hT1))))))))))))) g1, (hol.2.2 p hpm).2⟩)) ?_)
            refine wl_q rfl rfl rfl (qt_p tbok rfl) ?_
            refine wl_done ?_
            refine nk_code ?_
            refine wc_seq ?_
            refine wc_seq ?_
            refine wc_region ?_
            refine wl_q rfl rfl rfl (qt_p tbok rfl) ?_
            refine wl_q rfl rfl rfl (qt_p tbok rfl) ?_
            first | refine wl_q rfl rfl rfl (qt_p tbok rfl) ?_ | refine wl_q rfl rfl rfl (qt_neqn tbok rfl rfl rfl) ?_
            refine wl_as (v' := .c (.bool false)) (congrArg (fun b => V.c (C.bool (!b))) (decide_eq_true rfl)) ?_
            refine wl_done ?_
            refine nk_code ?_
            refine wc_no rfl ?_
            refine wc_skip ?_
            refine nk_code ?_
            refine wc_seq ?_
            refine wc_seq ?_
            refine wc_region ?_
            refine wl_q rfl rfl rfl (qt_p tbok rfl) ?_
            first | refine wl_q rfl rfl rfl (qt_p tbok rfl) ?_ | refine wl_q rfl rfl rfl (qt_eqn tbok rfl rfl rfl) ?_
            refine wl_as (v' := .c (.bool false)) (congrArg (fun b => V.c (C.bool b)) (decide_eq_false hU)) ?_
            refine wl_done ?_
            refine nk_code ?_
            refine wc_no rfl ?_
            refine wc_skip ?_
            refine nk_code ?_
            refine wc_seq ?_
            refine wc_seq ?_
            refine wc_region ?_
            obtain ⟨zz, RR, hzz, hRR⟩ : ∃ (a b : RL), a = z ∧ b = R := ⟨_, _, rfl, rfl⟩
            have fo : zz.own := hzz ▸ hzo
            have fx : zz.x = RR.x := (by rw [hzz, hRR]; exact hJ)
            have fRk : RR.ok := hRR ▸ hRk
            have fRl : RR.lies w := hRR ▸ hRl
            have fk : zz.ok := ok_ofx fx fRk
            have fr : rootB zz.x = true := (by rw [hzz]; exact hzr)
            have fN : ∀ p ∈ TB tr zz :: rbs 32 zz, ∀ k, p.key = some k → w.heap.size ≤ k := (by rw [hzz]; exact hN)
            obtain ⟨ta, hta⟩ : ∃ a, a = x1.t.2.1 := ⟨_, rfl⟩
            have hxtk : ∀ k, ta.key = some k → w.heap.size ≤ k := (by rw [hta]; exact hx1k _ (.tail _ (.head _)))
            have hxo : OwnS ta x1.t.1.K.length x1.t.2.2.1 33 (x1.t.1.K.flatMap kr) x1.t.2.2.2 := (by rw [hta]; exact hx1.2.2.1)
            have hxl : (x1.t.1.K.flatMap kr).length = x1.t.1.K.length * 33 := rows_len ((ok_ofx hx1.1 hok.1).2.1.1).row
            have hxb : x1.t.1.K.length ≤ 1073741824 := (ok_ofx hx1.1 hok.1).2.1.2
            refine wl_q rfl rfl rfl (qt_p tbok rfl) ?_
            refine wl_q rfl rfl rfl (qt_p tbok rfl) ?_
            refine wl_q rfl rfl rfl (qt_load (c := .slc ta x1.t.1.K.length x1.t.2.2.1) tbok rfl rfl rfl (rc_lk (.there .here) (by rw [hta]; rfl))) ?_
            refine wl_q rfl rfl rfl (qt_len tbok rfl rfl) ?_
            refine wl_q rfl rfl rfl (qt_p tbok rfl) ?_
            refine wl_done ?_
            refine nk_code ?_
            refine wc_block ?_
            refine wc_loop (ι := Nat × List C) (fun j => j.1 ≤ x1.t.1.K.length ∧ j.2.length = x1.t.1.K.length * 33) (fun j => [(99, .c (.i64 (j.1 : Int))), (98, .c (.i64 (x1.t.1.K.length : Int))), (12, .c (.ptr (.at b12 0))), (37, .c (.i64 (i : Int))), (36, .c (.i64 (O.length : Int))), (35, .c (.slc (.at lr lo) O.length oc)), (5, .c (.ptr (.at tr 0))), (6, .c (.ptr (.at b6 0))), (1, .c (.slc aa A.length ac))]) (fun j => [⟨ta, j.2, 32, (0, 0), x1.t.2.2.2⟩, ⟨.at b12 0, x1.cs, 92, (0, 0), []⟩, TB tr zz, rob 32 zz.l, rob 32 zz.t, rob 32 zz.r, ⟨.at b6 0, RR.cs, 88, (0, 0), []⟩]) (fun j => x1.t.1.K.length - j.1) (0, x1.t.1.K.flatMap kr) ⟨Nat.zero_le _, hxl⟩ (nk_start ⟨rfl, rfl, rfl, rfl, rfl, rfl, rfl, rfl, rfl, trivial⟩ (fun w hw => by rw [hta, hzz, hRR]; exact St.perm (st_cutN (A := [⟨.at b12 0, x1.cs, 92, (0, 0), []⟩, rob 32 x1.t, TB tr z, rob 32 z.l, rob 32 z.t, rob 32 z.r, ⟨.at b6 0, R.cs, 88, (0, 0), []⟩]) (Rm.sub_St (Rm.sub_St (Rm.sub_St (Rm.sub_St hw .here hk2) (.there .here) (hx1k _ (.head _))) (.there (.there .here)) (hx1k _ (.tail _ (.tail _ (.head _))))) (.there (.there .here)) (newKey hb8)) (hT1)) (List.Perm.swap _ _ _))) (fun ⟨j, D⟩ ⟨hj, hD⟩ => ?_)
            replace hj : j ≤ x1.t.1.K.length := hj
            replace hD : D.length = x1.t.1.K.length * 33 := hD
            dsimp only
            refine wc_seq ?_
            refine wc_region ?_
            refine wl_q rfl rfl rfl (qt_p tbok rfl) ?_
            refine wl_done ?_
            refine nk_code ?_
            refine wc_seq ?_
            refine wc_cond rfl (fun h100 => ?_) (fun h100 => ?_)
            · have hj' : j < x1.t.1.K.length := (by have h0 := of_decide_eq_true h100; omega)
              obtain ⟨xr, hxr⟩ := own_at hxo (by omega)
              subst hxr
              refine wc_skip ?_
              refine nk_code ?_
              refine wc_seq ?_
              refine wc_block ?_
              refine wc_seq ?_
              refine wc_region ?_
              refine wl_q rfl rfl rfl (qt_p tbok rfl) ?_
              refine wl_q rfl rfl rfl (qt_p tbok rfl) ?_
              refine wl_done ?_
              refine nk_code ?_
              refine wc_region ?_
              refine wl_q rfl rfl rfl (qt_p tbok rfl) ?_
              refine wl_q rfl rfl rfl (qt_p tbok rfl) ?_
              refine wl_q rfl rfl rfl (qt_load (c := .slc (.at xr 0) x1.t.1.K.length x1.t.2.2.1) tbok rfl rfl rfl (rc_lk (.there .here) (by rw [hta]; rfl))) ?_
              refine wl_q rfl rfl rfl (qt_p tbok rfl) ?_
              refine wl_q rfl rfl rfl (qt_build (vs := []) (l := z33) tbok rfl zero32 rfl rfl) ?_
              refine wl_q rfl rfl rfl (qt_p tbok rfl) ?_
              refine wl_ef rfl (ef_store (cs' := spl D (0 + ((j : Nat) : Int).toNat * 33) z33) tbok rfl rfl rfl rfl .here rfl (by show 0 + ((j : Nat) : Int).toNat * 33 + 33 ≤ D.length; omega) rfl ?_)
              refine wl_done ?_
              refine nk_code ?_
              refine wc_region ?_
              refine wl_q rfl rfl rfl (qt_p tbok rfl) ?_
              refine wl_q rfl rfl rfl (qt_p tbok rfl) ?_
              refine wl_done ?_
              exact nk_round (i := (j, D)) (j + 1, spl D (0 + ((j : Nat) : Int).toNat * 33) z33) ⟨hj', (spl_ln (by show 0 + ((j : Nat) : Int).toNat * 33 + 33 ≤ D.length; omega)).trans hD⟩ (by show x1.t.1.K.length - (j + 1) < x1.t.1.K.length - j; omega) ⟨rfl, rfl, rfl, rfl, rfl, rfl, rfl, rfl, rfl, trivial⟩ (fun w hw => hw)
            · refine wc_exit rfl ?_
              refine nk_code ?_
              refine wc_seq ?_
              refine wc_region ?_
              refine wl_q rfl rfl rfl (qt_p tbok rfl) ?_
              refine wl_ef rfl (ef_freshL (B := fun z : RL => rbs 32 z) (I := fun x : RL => x.x = zz.x ∧ x.own) (v := fun z : RL => .agg z.cs) (by kernel_rfl) rfl rfl (fun w1 g1 => by exact root_c (tr := tr) (y := zz) (cells_own g1 (.there (.there .here))) fk fo.pl (RL.lies_own (T := 32) g1 (.there (.there (.there (.there (.there .here))))) (.there (.there (.there (.there .here)))) (.there (.there (.there .here))))) (fun z4 hz4 hz4k => ?_))
              dsimp only [rbs, List.cons_append, List.nil_append]
              refine wl_ef rfl (ef_alloc zero92 rfl rfl (fun b16 hb16 => ?_))
              refine wl_ef rfl (ef_store (cs' := z4.cs) tbok rfl rfl rfl rfl .here rfl (Nat.le_of_ble_eq_true rfl) rfl ?_)
              refine wl_done ?_
              refine nk_code ?_
              refine wc_seq ?_
              refine wc_seq ?_
              refine wc_draw (s0 := [⟨.at b16 0, z4.cs, 92, (0, 0), []⟩, ⟨.at b6 0, RR.cs, 88, (0, 0), []⟩]) 5 follows ?_
              have z4k : z4.ok := ok_ofx hz4.1 fk
              refine wh_q 0 rfl (by kernel_rfl) rfl rfl rfl (qt_load_ag (l := z4.cs) tbok rfl rfl rfl rfl (rs_lk .here at0)) (fun w hw => st_cutN (A := [⟨.at b16 0, z4.cs, 92, (0, 0), []⟩, ⟨.at b6 0, RR.cs, 88, (0, 0), []⟩]) (Rm.sub_St (Rm.sub_St (Rm.sub_St (Rm.sub_St (Rm.sub_St (Rm.sub_St (Rm.sub_St (Rm.sub_St (Rm.sub_St hw (.there .here) (hz4k _ (.head _))) (.there .here) (hz4k _ (.tail _ (.head _)))) (.there .here) (hz4k _ (.tail _ (.tail _ (.head _))))) (.there .here) hxtk) (.there .here) (newKey hb12)) (.there .here) (fN _ (.head _))) (.there .here) (fN _ (.tail _ (.head _)))) (.there .here) (fN _ (.tail _ (.tail _ (.head _))))) (.there .here) (fN _ (.tail _ (.tail _ (.tail _ (.head _)))))) (new_nil)) ?_
              refine wh_q 2 rfl (by kernel_rfl) rfl rfl rfl (qt_load_ag (l := RR.cs) tbok rfl rfl rfl rfl (rs_lk (.there .here) at0)) (fun w hw => st_cutN (A := [⟨.at b16 0, z4.cs, 92, (0, 0), []⟩, ⟨.at b6 0, RR.cs, 88, (0, 0), []⟩]) (Rm.sub_St (Rm.sub_St (Rm.sub_St (Rm.sub_St (Rm.sub_St (Rm.sub_St (Rm.sub_St (Rm.sub_St (Rm.sub_St hw (.there .here) (hz4k _ (.head _))) (.there .here) (hz4k _ (.tail _ (.head _)))) (.there .here) (hz4k _ (.tail _ (.tail _ (.head _))))) (.there .here) hxtk) (.there .here) (newKey hb12)) (.there .here) (fN _ (.head _))) (.there .here) (fN _ (.tail _ (.head _)))) (.there .here) (fN _ (.tail _ (.tail _ (.head _))))) (.there .here) (fN _ (.tail _ (.tail _ (.tail _ (.head _)))))) (new_nil)) ?_
              refine wh_one 1 (by kernel_rfl) (wo_ef rfl rfl (ef_freshL (B := fun z : RL => rbs 24 z) (I := fun x : RL => x.x = z4.x ∧ x.own) (v := fun z : RL => .agg z.cs) (by kernel_rfl) rfl rfl (fun w1 g1 => by exact fromRoot_c z4k (RL.lies_own (T := 32) g1 (.there (.there (.there .here))) (.there (.there .here)) (.there .here))) (fun z5 hz5 hz5k => ⟨fun w hw => st_cutN (A := [⟨.at b16 0, z4.cs, 92, (0, 0), []⟩, ⟨.at b6 0, RR.cs, 88, (0, 0), []⟩]) (Rm.sub_St (Rm.sub_St (Rm.sub_St (Rm.sub_St (Rm.sub_St (Rm.sub_St (Rm.sub_St (Rm.sub_St (Rm.sub_St (Rm.sub_St (Rm.sub_St (Rm.sub_St hw .here (hz5k _ (.head _))) .here (hz5k _ (.tail _ (.head _)))) .here (hz5k _ (.tail _ (.tail _ (.head _))))) (.there .here) (hz4k _ (.head _))) (.there .here) (hz4k _ (.tail _ (.head _)))) (.there .here) (hz4k _ (.tail _ (.tail _ (.head _))))) (.there .here) hxtk) (.there .here) (newKey hb12)) (.there .here) (fN _ (.head _))) (.there .here) (fN _ (.tail _ (.head _)))) (.there .here) (fN _ (.tail _ (.tail _ (.head _))))) (.there .here) (fN _ (.tail _ (.tail _ (.tail _ (.head _)))))) (new_nil), ?_⟩)))
              dsimp only [rbs, List.cons_append, List.nil_append]
              refine wh_one 3 (by kernel_rfl) (wo_ef rfl rfl (ef_pure (v := .c (.bool (sameRx z5.x RR.x))) (by kernel_rfl) rfl rfl (fun w1 g1 => by exact sameRoot_c (ok_ofx hz5.1 z4k) fRk (RL.lies_own (T := 24) g1 (.there (.there .here)) (.there .here) .here) (fRl.up (fun ad => (off_all (new_cons (hz5k _ (.head _)) (new_cons (hz5k _ (.tail _ (.head _))) (new_cons (hz5k _ (.tail _ (.tail _ (.head _)))) (new_cons (newKey hb16) (new_cons (hz4k _ (.head _)) (new_cons (hz4k _ (.tail _ (.head _))) (new_cons (hz4k _ (.tail _ (.tail _ (.head _)))) (new_cons hxtk (new_cons (newKey hb12) (new_cons (fN _ (.head _)) (new_cons (fN _ (.tail _ (.head _))) (new_cons (fN _ (.tail _ (.tail _ (.head _)))) (new_cons (fN _ (.tail _ (.tail _ (.tail _ (.head _))))) (new_cons (newKey hb6) new_nil)))))))))))))))) g1)) ⟨fun w hw => st_cutN (A := [⟨.at b16 0, z4.cs, 92, (0, 0), []⟩, ⟨.at b6 0, RR.cs, 88, (0, 0), []⟩]) (Rm.sub_St (Rm.sub_St (Rm.sub_St (Rm.sub_St (Rm.sub_St (Rm.sub_St (Rm.sub_St (Rm.sub_St (Rm.sub_St (Rm.sub_St (Rm.sub_St (Rm.sub_St hw .here (hz5k _ (.head _))) .here (hz5k _ (.tail _ (.head _)))) .here (hz5k _ (.tail _ (.tail _ (.head _))))) (.there .here) (hz4k _ (.head _))) (.there .here) (hz4k _ (.tail _ (.head _)))) (.there .here) (hz4k _ (.tail _ (.tail _ (.head _))))) (.there .here) hxtk) (.there .here) (newKey hb12)) (.there .here) (fN _ (.head _))) (.there .here) (fN _ (.tail _ (.head _)))) (.there .here) (fN _ (.tail _ (.tail _ (.head _))))) (.there .here) (fN _ (.tail _ (.tail _ (.tail _ (.head _)))))) (new_nil), ?_⟩))
              refine wh_as (v' := .c (.bool true)) (congrArg (fun b => V.c (C.bool b)) (by rw [hz5.1, hz4.1, fx]; exact sameRx_refl _)) ?_
              refine wh_q 4 rfl (by kernel_rfl) rfl rfl rfl (qt_p tbok rfl) (fun w hw => st_cutN (A := [⟨.at b16 0, z4.cs, 92, (0, 0), []⟩, ⟨.at b6 0, RR.cs, 88, (0, 0), []⟩]) (Rm.sub_St (Rm.sub_St (Rm.sub_St (Rm.sub_St (Rm.sub_St (Rm.sub_St (Rm.sub_St (Rm.sub_St (Rm.sub_St (Rm.sub_St (Rm.sub_St (Rm.sub_St hw .here (hz5k _ (.head _))) .here (hz5k _ (.tail _ (.head _)))) .here (hz5k _ (.tail _ (.tail _ (.head _))))) (.there .here) (hz4k _ (.head _))) (.there .here) (hz4k _ (.tail _ (.head _)))) (.there .here) (hz4k _ (.tail _ (.tail _ (.head _))))) (.there .here) hxtk) (.there .here) (newKey hb12)) (.there .here) (fN _ (.head _))) (.there .here) (fN _ (.tail _ (.head _)))) (.there .here) (fN _ (.tail _ (.tail _ (.head _))))) (.there .here) (fN _ (.tail _ (.tail _ (.tail _ (.head _)))))) (new_nil)) ?_
              refine wh_done (by kernel_rfl) ?_
              refine nk_code ?_
              refine wc_no rfl ?_
              refine wc_skip ?_
              refine nk_code ?_
              refine wc_seq ?_
              refine wc_region ?_
              obtain ⟨ra, hra⟩ : ∃ a, a = z4.r.2.1 := ⟨_, rfl⟩
              have hytk : ∀ k, ra.key = some k → w.heap.size ≤ k := (by rw [hra]; exact hz4k _ (.tail _ (.tail _ (.head _))))
              have hyo : OwnS ra z4.r.1.K.length z4.r.2.2.1 33 (z4.r.1.K.flatMap kr) z4.r.2.2.2 := (by rw [hra]; exact hz4.2.1)
              have hyl : (z4.r.1.K.flatMap kr).length = z4.r.1.K.length * 33 := rows_len z4k.1.1.row
              have hyb : z4.r.1.K.length ≤ 1073741824 := z4k.1.2
              refine wl_q rfl rfl rfl (qt_p tbok rfl) ?_
              refine wl_q rfl rfl rfl (qt_p tbok rfl) ?_
              refine wl_q rfl rfl rfl (qt_load (c := .slc ra z4.r.1.K.length z4.r.2.2.1) tbok rfl rfl rfl (rc_lk (.there (.there (.there .here))) (by rw [hra]; rfl))) ?_
              refine wl_q rfl rfl rfl (qt_len tbok rfl rfl) ?_
              refine wl_q rfl rfl rfl (qt_p tbok rfl) ?_
              refine wl_done ?_
              refine nk_code ?_
              refine wc_block ?_
              refine wc_loop (ι := Nat × List C) (fun j => j.1 ≤ z4.r.1.K.length ∧ j.2.length = z4.r.1.K.length * 33) (fun j => [(120, .c (.i64 (j.1 : Int))), (119, .c (.i64 (z4.r.1.K.length : Int))), (16, .c (.ptr (.at b16 0))), (37, .c (.i64 (i : Int))), (36, .c (.i64 (O.length : Int))), (35, .c (.slc (.at lr lo) O.length oc)), (5, .c (.ptr (.at tr 0))), (6, .c (.ptr (.at b6 0))), (1, .c (.slc aa A.length ac))]) (fun j => [⟨ra, j.2, 32, (0, 0), z4.r.2.2.2⟩, ⟨.at b16 0, z4.cs, 92, (0, 0), []⟩, TB tr zz, rob 32 zz.l, rob 32 zz.t, rob 32 zz.r, ⟨.at b6 0, RR.cs, 88, (0, 0), []⟩]) (fun j => z4.r.1.K.length - j.1) (0, z4.r.1.K.flatMap kr) ⟨Nat.zero_le _, hyl⟩ (nk_start ⟨rfl, rfl, rfl, rfl, rfl, rfl, rfl, rfl, rfl, trivial⟩ (fun w hw => by rw [hra]; exact St.perm (st_cutN (A := [⟨.at b16 0, z4.cs, 92, (0, 0), []⟩, rob 32 z4.r, TB tr zz, rob 32 zz.l, rob 32 zz.t, rob 32 zz.r, ⟨.at b6 0, RR.cs, 88, (0, 0), []⟩]) (Rm.sub_St (Rm.sub_St (Rm.sub_St (Rm.sub_St (Rm.sub_St (Rm.sub_St (Rm.sub_St hw .here (hz5k _ (.head _))) .here (hz5k _ (.tail _ (.head _)))) .here (hz5k _ (.tail _ (.tail _ (.head _))))) (.there .here) (hz4k _ (.head _))) (.there .here) (hz4k _ (.tail _ (.head _)))) (.there (.there .here)) hxtk) (.there (.there .here)) (newKey hb12)) (new_nil)) (List.Perm.swap _ _ _))) (fun ⟨h, D2⟩ ⟨hh, hD2⟩ => ?_)
              replace hh : h ≤ z4.r.1.K.length := hh
              replace hD2 : D2.length = z4.r.1.K.length * 33 := hD2
              dsimp only
              refine wc_seq ?_
              refine wc_region ?_
              refine wl_q rfl rfl rfl (qt_p tbok rfl) ?_
              refine wl_done ?_
              refine nk_code ?_
              refine wc_seq ?_
              refine wc_cond rfl (fun h121 => ?_) (fun h121 => ?_)
              · have hh' : h < z4.r.1.K.length := (by have h0 := of_decide_eq_true h121; omega)
                obtain ⟨yr, hyr⟩ := own_at hyo (by omega)
                subst hyr
                refine wc_skip ?_
                refine nk_code ?_
                refine wc_seq ?_
                refine wc_block ?_
                refine wc_seq ?_
                refine wc_region ?_
                refine wl_q rfl rfl rfl (qt_p tbok rfl) ?_
                refine wl_q rfl rfl rfl (qt_p tbok rfl) ?_
                refine wl_done ?_
                refine nk_code ?_
                refine wc_region ?_
                refine wl_q rfl rfl rfl (qt_p tbok rfl) ?_
                refine wl_q rfl rfl rfl (qt_p tbok rfl) ?_
                refine wl_q rfl rfl rfl (qt_load (c := .slc (.at yr 0) z4.r.1.K.length z4.r.2.2.1) tbok rfl rfl rfl (rc_lk (.there .here) (by rw [hra]; rfl))) ?_
                refine wl_q rfl rfl rfl (qt_p tbok rfl) ?_
                refine wl_q rfl rfl rfl (qt_build (vs := []) (l := z33) tbok rfl zero32 rfl rfl) ?_
                refine wl_q rfl rfl rfl (qt_p tbok rfl) ?_
                refine wl_ef rfl (ef_store (cs' := spl D2 (0 + ((h : Nat) : Int).toNat * 33) z33) tbok rfl rfl rfl rfl .here rfl (by show 0 + ((h : Nat) : Int).toNat * 33 + 33 ≤ D2.length; omega) rfl ?_)
                refine wl_done ?_
                refine nk_code ?_
                refine wc_region ?_
                refine wl_q rfl rfl rfl (qt_p tbok rfl) ?_
                refine wl_q rfl rfl rfl (qt_p tbok rfl) ?_
                refine wl_done ?_
                exact nk_round (i := (h, D2)) (h + 1, spl D2 (0 + ((h : Nat) : Int).toNat * 33) z33) ⟨hh', (spl_ln (by show 0 + ((h : Nat) : Int).toNat * 33 + 33 ≤ D2.length; omega)).trans hD2⟩ (by show z4.r.1.K.length - (h + 1) < z4.r.1.K.length - h; omega) ⟨rfl, rfl, rfl, rfl, rfl, rfl, rfl, rfl, rfl, trivial⟩ (fun w hw => hw)
              · refine wc_exit rfl ?_
                refine nk_code ?_
                refine wc_region ?_
                refine wl_q rfl rfl rfl (qt_p tbok rfl) ?_
                refine wl_q rfl rfl rfl (qt_p tbok rfl) ?_
                refine wl_done ?_
                exact nk_round (i := (i, some (tr, z), R)) (i + 1, some (tr, zz), RR) ⟨hi', ⟨fo, fk, fr⟩, fx, ⟨fRk, fRl⟩, fN⟩ (by show O.length - (i + 1) < O.length - i; omega) ⟨rfl, rfl, rfl, rfl, rfl, rfl, trivial⟩ (fun w hw => st_cutN (A := [TB tr zz, rob 32 zz.l, rob 32 zz.t, rob 32 zz.r, ⟨.at b6 0, RR.cs, 88, (0, 0), []⟩]) (Rm.sub_St (Rm.sub_St hw .here hytk) .here (newKey hb16)) (new_nil))
      · refine wc_exit rfl ?_
        refine nk_code ?_
        refine wc_seq ?_
        refine wc_seq ?_
        by_cases ho2 : o = none
        · refine wc_region ?_
          subst ho2
          dsimp only [tB, tP, List.nil_append]
          refine wl_q rfl rfl rfl (qt_p tbok rfl) ?_
          refine wl_q rfl rfl rfl (qt_len tbok rfl rfl) ?_
          refine wl_q rfl rfl rfl (qt_p tbok rfl) ?_
          refine wl_done ?_
          refine nk_code ?_
          refine wc_block ?_
          refine wc_loop (ι := Nat) (fun j => j ≤ A.length) (fun j => [(133, .c (.i64 (j : Int))), (132, .c (.i64 (A.length : Int))), (131, .c (.slc aa A.length ac)), (5, .c (.ptr (.nil))), (6, .c (.ptr (.at b6 0)))]) (fun j => [⟨.at b6 0, R.cs, 88, (0, 0), []⟩]) (fun j => A.length - j) 0 (Nat.zero_le _) (nk_start ⟨rfl, rfl, rfl, rfl, rfl, trivial⟩ (fun w hw => hw)) (fun j hj => ?_)
          refine wc_seq ?_
          refine wc_region ?_
          refine wl_q rfl rfl rfl (qt_p tbok rfl) ?_
          refine wl_done ?_
          refine nk_code ?_
          refine wc_seq ?_
          refine wc_cond rfl (fun h134 => ?_) (fun h134 => ?_)
          · have hj' : j < A.length := (by have h0 := of_decide_eq_true h134; omega)
            obtain ⟨ar, ao, haa⟩ := cells_nn hA (by rw [rows_len (z := 4) asks_row]; omega)
            subst haa
            have hrow := rows_at (z := 4) asks_row hj'
            have hkk := hAk _ (el_mem hj')
            have hkl := hAL _ (el_mem hj')
            have hRb := R_bound hRk
            revert hrow hkk hkl
            generalize el A j = k
            intro hrow hkk hkl
            refine wc_skip ?_
            refine nk_code ?_
            refine wc_seq ?_
            refine wc_block ?_
            refine wc_seq ?_
            refine wc_region ?_
            refine wl_q rfl rfl rfl (qt_p tbok rfl) ?_
            refine wl_q rfl rfl rfl (qt_load_ag (l := k.row) tbok rfl rfl rfl rfl (rs_cells (hA.sub2 (m := j * 4) hrow) (off_all (new_cons (newKey hb6) new_nil)))) ?_
            refine wl_ef rfl (ef_alloc zero118 rfl rfl (fun b19 hb19 => ?_))
            refine wl_ef rfl (ef_store (cs' := k.row) tbok rfl rfl rfl rfl .here rfl (Nat.le_of_ble_eq_true rfl) (spl_all rfl) ?_)
            refine wl_done ?_
            refine nk_code ?_
            refine wc_seq ?_
            refine wc_seq ?_
            refine wc_region ?_
            refine wl_q rfl rfl rfl (qt_p tbok rfl) ?_
            refine wl_q rfl rfl rfl (qt_load (c := .slc k.la k.M.length k.lc) tbok rfl rfl rfl (rc_lk .here rfl)) ?_
            refine wl_q rfl rfl rfl (qt_len tbok rfl rfl) ?_
            refine wl_q rfl rfl rfl (qt_p tbok rfl) ?_
            refine wl_q rfl rfl rfl (qt_p tbok rfl) ?_
            refine wl_bool (fun hm5 => ?_) (fun hm5 => ?_)
            · first | refine wl_g rfl rfl rfl rfl (qt_p tbok rfl) ?_ | refine wl_skip rfl rfl rfl rfl rfl ?_
              first | refine wl_g rfl rfl rfl rfl (qt_p tbok rfl) ?_ | refine wl_skip rfl rfl rfl rfl rfl ?_
              first | refine wl_g rfl rfl rfl rfl (qt_l tbok rfl rfl rfl) ?_ | refine wl_g rfl rfl rfl rfl (qt_la tbok rfl rfl rfl) ?_ | refine wl_skip rfl rfl rfl rfl rfl ?_
              first | refine wl_g rfl rfl rfl rfl (qt_len tbok rfl rfl) ?_ | refine wl_skip rfl rfl rfl rfl rfl ?_
              first | refine wl_g rfl rfl rfl rfl (qt_p tbok rfl) ?_ | refine wl_skip rfl rfl rfl rfl rfl ?_
              first | refine wl_g rfl rfl rfl rfl (qt_p tbok rfl) ?_ | refine wl_skip rfl rfl rfl rfl rfl ?_
              first | refine wl_g rfl rfl rfl rfl (qt_l tbok rfl rfl rfl) ?_ | refine wl_g rfl rfl rfl rfl (qt_la tbok rfl rfl rfl) ?_ | refine wl_skip rfl rfl rfl rfl rfl ?_
              first | refine wl_g rfl rfl rfl rfl (qt_len tbok rfl rfl) ?_ | refine wl_skip rfl rfl rfl rfl rfl ?_
              first | refine wl_g rfl rfl rfl rfl (qt_p tbok rfl) ?_ | refine wl_skip rfl rfl rfl rfl rfl ?_
              first | refine wl_g rfl rfl rfl rfl (qt_p tbok rfl) ?_ | refine wl_skip rfl rfl rfl rfl rfl ?_
              refine wl_q rfl rfl rfl (qt_p tbok rfl) ?_
              refine wl_done ?_
              refine nk_code ?_
              refine wc_yes rfl ?_
              refine wc_seq ?_
              refine wc_region ?_
              refine wl_q rfl rfl rfl (qt_p tbok rfl) ?_
              refine wl_done ?_
              refine nk_code ?_
              refine wc_ret ?_
              try dsimp only
              exact fin1 rfl (rv_tmp rfl) (fun w' hw => ⟨rfl, hw.all (new_cons (newKey hb19) (new_cons (newKey hb6) new_nil))⟩)
            · first | refine wl_g rfl rfl rfl rfl (qt_p tbok rfl) ?_ | refine wl_skip rfl rfl rfl rfl rfl ?_
              first | refine wl_g rfl rfl rfl rfl (qt_p tbok rfl) ?_ | refine wl_skip rfl rfl rfl rfl rfl ?_
              refine wl_g rfl rfl rfl rfl (qt_load (c := .slc R.t.2.1 R.t.1.K.length R.t.2.2.1) tbok rfl rfl rfl (rc_lk (.there .here) rfl)) ?_
              first | refine wl_g rfl rfl rfl rfl (qt_len tbok rfl rfl) ?_ | refine wl_skip rfl rfl rfl rfl rfl ?_
              first | refine wl_g rfl rfl rfl rfl (qt_p tbok rfl) ?_ | refine wl_skip rfl rfl rfl rfl rfl ?_
              first | refine wl_g rfl rfl rfl rfl (qt_p tbok rfl) ?_ | refine wl_skip rfl rfl rfl rfl rfl ?_
              refine wl_g rfl rfl rfl rfl (qt_load (c := .slc R.l.2.1 R.l.1.K.length R.l.2.2.1) tbok rfl rfl rfl (rc_lk (.there .here) rfl)) ?_
              first | refine wl_g rfl rfl rfl rfl (qt_len tbok rfl rfl) ?_ | refine wl_skip rfl rfl rfl rfl rfl ?_
              first | refine wl_g rfl rfl rfl rfl (qt_p tbok rfl) ?_ | refine wl_skip rfl rfl rfl rfl rfl ?_
              first | refine wl_g rfl rfl rfl rfl (qt_p tbok rfl) ?_ | refine wl_skip rfl rfl rfl rfl rfl ?_
              refine wl_q rfl rfl rfl (qt_p tbok rfl) ?_
              refine wl_done ?_
              refine nk_code ?_
              refine wc_cond rfl (fun h152 => ?_) (fun h152 => ?_)
              · refine wc_seq ?_
                refine wc_region ?_
                refine wl_q rfl rfl rfl (qt_p tbok rfl) ?_
                refine wl_done ?_
                refine nk_code ?_
                refine wc_ret ?_
                try dsimp only
                exact fin1 rfl (rv_tmp rfl) (fun w' hw => ⟨rfl, hw.all (new_cons (newKey hb19) (new_cons (newKey hb6) new_nil))⟩)
              · refine wc_skip ?_
                refine nk_code ?_
                refine wc_seq ?_
                refine wc_draw (s0 := [⟨.at b19 0, k.row, 118, (0, 0), []⟩]) 10 follows ?_
                refine wh_q 0 rfl (by kernel_rfl) rfl rfl rfl (qt_p tbok rfl) (fun w hw => st_cut hw (new_cons (newKey hb6) new_nil)) ?_
                refine wh_q 1 rfl (by kernel_rfl) rfl rfl rfl (qt_p tbok rfl) (fun w hw => st_cut hw (new_cons (newKey hb6) new_nil)) ?_
                refine wh_q 2 rfl (by kernel_rfl) rfl rfl rfl (qt_load (c := .slc k.ma k.m.length k.mc) tbok rfl rfl rfl (rc_lk .here rfl)) (fun w hw => st_cut hw (new_cons (newKey hb6) new_nil)) ?_
                refine wh_q 3 rfl (by kernel_rfl) rfl rfl rfl (qt_p tbok rfl) (fun w hw => st_cut hw (new_cons (newKey hb6) new_nil)) ?_
                refine wh_q 4 rfl (by kernel_rfl) rfl rfl rfl (qt_load (c := .slc k.la k.M.length k.lc) tbok rfl rfl rfl (rc_lk .here rfl)) (fun w hw => st_cut hw (new_cons (newKey hb6) new_nil)) ?_
                refine wh_q 6 rfl (by kernel_rfl) rfl rfl rfl (qt_p tbok rfl) (fun w hw => st_cut hw (new_cons (newKey hb6) new_nil)) ?_
                refine wh_q 7 rfl (by kernel_rfl) rfl rfl rfl (qt_load (c := .i64 k.now) tbok rfl rfl rfl (rc_lk .here rfl)) (fun w hw => st_cut hw (new_cons (newKey hb6) new_nil)) ?_
                refine wh_one 5 (by kernel_rfl) (wo_ef rfl rfl (ef_freshT (I := CpD k.M) (by kernel_rfl) rfl rfl (fun w1 g1 => toMarks_c hkk.2.1 hkk.2.2 (cells_rd (rd_cells hkl.2.1 (off_all (new_cons (newKey hb19) (new_cons (newKey hb6) new_nil)))) g1) (fun p hpm => ⟨cells_rd (rd_cells (hkl.2.2 p hpm).1 (off_all (new_cons (newKey hb19) (new_cons (newKey hb6) new_nil)))) g1, (hkl.2.2 p hpm).2⟩)) (fun z1 hz1 hk2 hT1 => ⟨fun w hw => st_cut (hw.tail hk2) (new_cons (newKey hb6) hT1), ?_⟩)))
                dsimp only [rbs, List.cons_append, List.nil_append]
                refine wh_one 8 (by kernel_rfl) (wo_ef rfl rfl (ef_pure (v := .c (.i64 2)) (by kernel_rfl) rfl rfl (fun w1 g1 => tag_nil_c rfl) ⟨fun w hw => st_cut (hw.tail hk2) (new_cons (newKey hb6) hT1), ?_⟩))
                refine wh_q 9 rfl (by kernel_rfl) rfl rfl rfl (qt_p tbok rfl) (fun w hw => st_cut (hw.tail hk2) (new_cons (newKey hb6) hT1)) ?_
                refine wh_done (by kernel_rfl) ?_
                refine nk_code ?_
                refine wc_seq ?_
                refine wc_region ?_
                refine wl_q rfl rfl rfl (qt_p tbok rfl) ?_
                refine wl_q rfl rfl rfl (qt_load_ag (l := rrow R.t) tbok rfl rfl rfl rfl (rs_lk (.there (.there .here)) (rl_t R))) ?_
                refine wl_ef rfl (ef_alloc zero68 rfl rfl (fun b21 hb21 => ?_))
                refine wl_ef rfl (ef_store (cs' := rrow R.t) tbok rfl rfl rfl rfl .here rfl (Nat.le_of_ble_eq_true rfl) (spl_all rfl) ?_)
                refine wl_done ?_
                refine nk_code ?_
                refine wc_seq ?_
                refine wc_seq ?_
                refine wc_region ?_
                refine wl_q rfl rfl rfl (qt_p tbok rfl) ?_
                refine wl_q rfl rfl rfl (qt_load (c := .bool k.hd) tbok rfl rfl rfl (rc_lk (.there (.there .here)) rfl)) ?_
                refine wl_done ?_
                refine nk_code ?_
                refine wc_cond rfl (fun h165 => ?_) (fun h165 => ?_)
                · refine wc_draw (s0 := [⟨.at b19 0, k.row, 118, (0, 0), []⟩, ⟨.at b6 0, R.cs, 88, (0, 0), []⟩]) 12 follows ?_
                  refine wh_q 0 rfl (by kernel_rfl) rfl rfl rfl (qt_p tbok rfl) (fun w hw => st_cutN (A := [⟨.at b19 0, k.row, 118, (0, 0), []⟩, ⟨.at b6 0, R.cs, 88, (0, 0), []⟩]) (Rm.sub_St (Rm.sub_St hw .here (newKey hb21)) .here hk2) (hT1)) ?_
                  refine wh_q 1 rfl (by kernel_rfl) rfl rfl rfl (qt_p tbok rfl) (fun w hw => st_cutN (A := [⟨.at b19 0, k.row, 118, (0, 0), []⟩, ⟨.at b6 0, R.cs, 88, (0, 0), []⟩]) (Rm.sub_St (Rm.sub_St hw .here (newKey hb21)) .here hk2) (hT1)) ?_
                  refine wh_q 2 rfl (by kernel_rfl) rfl rfl rfl (qt_load (c := .slc k.ma k.m.length k.mc) tbok rfl rfl rfl (rc_lk .here rfl)) (fun w hw => st_cutN (A := [⟨.at b19 0, k.row, 118, (0, 0), []⟩, ⟨.at b6 0, R.cs, 88, (0, 0), []⟩]) (Rm.sub_St (Rm.sub_St hw .here (newKey hb21)) .here hk2) (hT1)) ?_
                  refine wh_q 3 rfl (by kernel_rfl) rfl rfl rfl (qt_p tbok rfl) (fun w hw => st_cutN (A := [⟨.at b19 0, k.row, 118, (0, 0), []⟩, ⟨.at b6 0, R.cs, 88, (0, 0), []⟩]) (Rm.sub_St (Rm.sub_St hw .here (newKey hb21)) .here hk2) (hT1)) ?_
                  refine wh_q 4 rfl (by kernel_rfl) rfl rfl rfl (qt_load (c := .slc k.la k.M.length k.lc) tbok rfl rfl rfl (rc_lk .here rfl)) (fun w hw => st_cutN (A := [⟨.at b19 0, k.row, 118, (0, 0), []⟩, ⟨.at b6 0, R.cs, 88, (0, 0), []⟩]) (Rm.sub_St (Rm.sub_St hw .here (newKey hb21)) .here hk2) (hT1)) ?_
                  refine wh_q 6 rfl (by kernel_rfl) rfl rfl rfl (qt_p tbok rfl) (fun w hw => st_cutN (A := [⟨.at b19 0, k.row, 118, (0, 0), []⟩, ⟨.at b6 0, R.cs, 88, (0, 0), []⟩]) (Rm.sub_St (Rm.sub_St hw .here (newKey hb21)) .here hk2) (hT1)) ?_
                  refine wh_q 7 rfl (by kernel_rfl) rfl rfl rfl (qt_load (c := .i64 k.now) tbok rfl rfl rfl (rc_lk .here rfl)) (fun w hw => st_cutN (A := [⟨.at b19 0, k.row, 118, (0, 0), []⟩, ⟨.at b6 0, R.cs, 88, (0, 0), []⟩]) (Rm.sub_St (Rm.sub_St hw .here (newKey hb21)) .here hk2) (hT1)) ?_
                  refine wh_q 9 rfl (by kernel_rfl) rfl rfl rfl (qt_p tbok rfl) (fun w hw => st_cutN (A := [⟨.at b19 0, k.row, 118, (0, 0), []⟩, ⟨.at b6 0, R.cs, 88, (0, 0), []⟩]) (Rm.sub_St (Rm.sub_St hw .here (newKey hb21)) .here hk2) (hT1)) ?_
                  refine wh_q 10 rfl (by kernel_rfl) rfl rfl rfl (qt_load_ag (l := rrow R.l) tbok rfl rfl rfl rfl (rs_lk (.there .here) (rl_l R))) (fun w hw => st_cutN (A := [⟨.at b19 0, k.row, 118, (0, 0), []⟩, ⟨.at b6 0, R.cs, 88, (0, 0), []⟩]) (Rm.sub_St (Rm.sub_St hw .here (newKey hb21)) .here hk2) (hT1)) ?_
                  refine wh_one 5 (by kernel_rfl) (wo_ef rfl rfl (ef_freshT (I := CpD k.M) (by kernel_rfl) rfl rfl (fun w1 g1 => toMarks_c hkk.2.1 hkk.2.2 (cells_rd (rd_cells hkl.2.1 (off_all (new_cons (newKey hb21) (new_cons hk2 (new_cons (newKey hb19) (new_cons (newKey hb6) hT1)))))) g1) (fun p hpm => ⟨cells_rd (rd_cells (hkl.2.2 p hpm).1 (off_all (new_cons (newKey hb21) (new_cons hk2 (new_cons (newKey hb19) (new_cons (newKey hb6) hT1)))))) g1, (hkl.2.2 p hpm).2⟩)) (fun z3 hz3 hk3 hT3 => ⟨fun w hw => st_cutN (A := [⟨.at b19 0, k.row, 118, (0, 0), []⟩, ⟨.at b6 0, R.cs, 88, (0, 0), []⟩]) (Rm.sub_St (Rm.sub_St (Rm.sub_St hw .here hk3) .here (newKey hb21)) .here hk2) ((new_app hT1 hT3)), ?_⟩)))
                  dsimp only [rbs, List.cons_append, List.nil_append]
                  refine wh_one 8 (by kernel_rfl) (wo_ef rfl rfl (ef_pure (v := .c (.i64 2)) (by kernel_rfl) rfl rfl (fun w1 g1 => head_nil_c rfl) ⟨fun w hw => st_cutN (A := [⟨.at b19 0, k.row, 118, (0, 0), []⟩, ⟨.at b6 0, R.cs, 88, (0, 0), []⟩]) (Rm.sub_St (Rm.sub_St (Rm.sub_St hw .here hk3) .here (newKey hb21)) .here hk2) ((new_app hT1 hT3)), ?_⟩))
                  refine wh_q 11 rfl (by kernel_rfl) rfl rfl rfl (qt_p tbok rfl) (fun w hw => st_cutN (A := [⟨.at b19 0, k.row, 118, (0, 0), []⟩, ⟨.at b6 0, R.cs, 88, (0, 0), []⟩]) (Rm.sub_St (Rm.sub_St (Rm.sub_St hw .here hk3) .here (newKey hb21)) .here hk2) ((new_app hT1 hT3))) ?_
                  refine wh_one 12 (by kernel_rfl) (wo_fin rfl rfl (ef_store (cs' := rrow R.l) tbok rfl rfl rfl rfl (.there .here) rfl (Nat.le_of_ble_eq_true rfl) (spl_all rfl) ?_))
                  refine wh_done (by kernel_rfl) ?_
                  refine nk_code ?_
                  refine wc_seq ?_
                  refine wc_region ?_
                  refine wl_q rfl rfl rfl (qt_p tbok rfl) ?_
                  first | refine wl_q rfl rfl rfl (qt_p tbok rfl) ?_ | refine wl_q rfl rfl rfl (qt_eqn tbok rfl rfl rfl) ?_
                  refine wl_q rfl rfl rfl (qt_p tbok rfl) ?_
                  first | refine wl_g rfl rfl rfl rfl (qt_p tbok rfl) ?_ | refine wl_skip rfl rfl rfl rfl rfl ?_
                  first | refine wl_g rfl rfl rfl rfl (qt_p tbok rfl) ?_ | refine wl_g rfl rfl rfl rfl (qt_neqn tbok rfl rfl rfl) ?_ | refine wl_skip rfl rfl rfl rfl rfl ?_
                  refine wl_q rfl rfl rfl (qt_p tbok rfl) ?_
                  refine wl_q rfl rfl rfl (qt_p tbok rfl) ?_
                  first | refine wl_g rfl rfl rfl rfl (qt_p tbok rfl) ?_ | refine wl_skip rfl rfl rfl rfl rfl ?_
                  first | refine wl_g rfl rfl rfl rfl (qt_p tbok rfl) ?_ | refine wl_g rfl rfl rfl rfl (qt_neqn tbok rfl rfl rfl) ?_ | refine wl_skip rfl rfl rfl rfl rfl ?_
                  first | refine wl_g rfl rfl rfl rfl (qt_p tbok rfl) ?_ | refine wl_skip rfl rfl rfl rfl rfl ?_
                  first | refine wl_g rfl rfl rfl rfl (qt_p tbok rfl) ?_ | refine wl_skip rfl rfl rfl rfl rfl ?_
                  first | refine wl_g rfl rfl rfl rfl (qt_p tbok rfl) ?_ | refine wl_skip rfl rfl rfl rfl rfl ?_
                  first | refine wl_g rfl rfl rfl rfl (qt_l tbok rfl rfl rfl) ?_ | refine wl_g rfl rfl rfl rfl (qt_la tbok rfl rfl rfl) ?_ | refine wl_skip rfl rfl rfl rfl rfl ?_
                  first | refine wl_g rfl rfl rfl rfl (qt_l tbok rfl rfl rfl) ?_ | refine wl_g rfl rfl rfl rfl (qt_la tbok rfl rfl rfl) ?_ | refine wl_skip rfl rfl rfl rfl rfl ?_
                  first | refine wl_g rfl rfl rfl rfl (qt_p tbok rfl) ?_ | refine wl_skip rfl rfl rfl rfl rfl ?_
                  first | refine wl_g rfl rfl rfl rfl (qt_l tbok rfl rfl rfl) ?_ | refine wl_g rfl rfl rfl rfl (qt_la tbok rfl rfl rfl) ?_ | refine wl_skip rfl rfl rfl rfl rfl ?_
                  first | refine wl_g rfl rfl rfl rfl (qt_p tbok rfl) ?_ | refine wl_skip rfl rfl rfl rfl rfl ?_
                  first | refine wl_g rfl rfl rfl rfl (qt_l tbok rfl rfl rfl) ?_ | refine wl_g rfl rfl rfl rfl (qt_la tbok rfl rfl rfl) ?_ | refine wl_skip rfl rfl rfl rfl rfl ?_
                  first | refine wl_g rfl rfl rfl rfl (qt_p tbok rfl) ?_ | refine wl_skip rfl rfl rfl rfl rfl ?_
                  first | refine wl_g rfl rfl rfl rfl (qt_l tbok rfl rfl rfl) ?_ | refine wl_g rfl rfl rfl rfl (qt_la tbok rfl rfl rfl) ?_ | refine wl_skip rfl rfl rfl rfl rfl ?_
                  first | refine wl_g rfl rfl rfl rfl (qt_len tbok rfl rfl) ?_ | refine wl_skip rfl rfl rfl rfl rfl ?_
                  first | refine wl_g rfl rfl rfl rfl (qt_p tbok rfl) ?_ | refine wl_g rfl rfl rfl rfl (qt_neqn tbok rfl rfl rfl) ?_ | refine wl_skip rfl rfl rfl rfl rfl ?_
                  first | refine wl_g rfl rfl rfl rfl (qt_p tbok rfl) ?_ | refine wl_skip rfl rfl rfl rfl rfl ?_
                  refine wl_q rfl rfl rfl (qt_p tbok rfl) ?_
                  refine wl_done ?_
                  refine nk_code ?_
                  refine wc_no rfl ?_
                  refine wc_skip ?_
                  refine nk_code ?_
                  refine wc_region ?_
                  refine wl_q rfl rfl rfl (qt_p tbok rfl) ?_
                  refine wl_q rfl rfl rfl (qt_p tbok rfl) ?_
                  refine wl_done ?_
                  exact nk_round (i := j) (j + 1) hj' (by show A.length - (j + 1) < A.length - j; omega) ⟨rfl, rfl, rfl, rfl, rfl, trivial⟩ (fun w hw => st_cutN (A := [⟨.at b6 0, R.cs, 88, (0, 0), []⟩]) (Rm.sub_St (Rm.sub_St (Rm.sub_St (Rm.sub_St hw .here hk3) .here (newKey hb21)) .here hk2) .here (newKey hb19)) ((new_app hT1 hT3)))
                · refine wc_skip ?_
                  refine nk_code ?_
                  refine wc_seq ?_
                  refine wc_region ?_
                  refine wl_q rfl rfl rfl (qt_p tbok rfl) ?_
                  first | refine wl_q rfl rfl rfl (qt_p tbok rfl) ?_ | refine wl_q rfl rfl rfl (qt_eqn tbok rfl rfl rfl) ?_
                  refine wl_q rfl rfl rfl (qt_p tbok rfl) ?_
                  first | refine wl_g rfl rfl rfl rfl (qt_p tbok rfl) ?_ | refine wl_skip rfl rfl rfl rfl rfl ?_
                  first | refine wl_g rfl rfl rfl rfl (qt_p tbok rfl) ?_ | refine wl_g rfl rfl rfl rfl (qt_neqn tbok rfl rfl rfl) ?_ | refine wl_skip rfl rfl rfl rfl rfl ?_
                  refine wl_q rfl rfl rfl (qt_p tbok rfl) ?_
                  refine wl_q rfl rfl rfl (qt_p tbok rfl) ?_
                  first | refine wl_g rfl rfl rfl rfl (qt_p tbok rfl) ?_ | refine wl_skip rfl rfl rfl rfl rfl ?_
                  first | refine wl_g rfl rfl rfl rfl (qt_p tbok rfl) ?_ | refine wl_g rfl rfl rfl rfl (qt_neqn tbok rfl rfl rfl) ?_ | refine wl_skip rfl rfl rfl rfl rfl ?_
                  first | refine wl_g rfl rfl rfl rfl (qt_p tbok rfl) ?_ | refine wl_skip rfl rfl rfl rfl rfl ?_
                  first | refine wl_g rfl rfl rfl rfl (qt_p tbok rfl) ?_ | refine wl_skip rfl rfl rfl rfl rfl ?_
                  first | refine wl_g rfl rfl rfl rfl (qt_p tbok rfl) ?_ | refine wl_skip rfl rfl rfl rfl rfl ?_
                  first | refine wl_g rfl rfl rfl rfl (qt_l tbok rfl rfl rfl) ?_ | refine wl_g rfl rfl rfl rfl (qt_la tbok rfl rfl rfl) ?_ | refine wl_skip rfl rfl rfl rfl rfl ?_
                  first | refine wl_g rfl rfl rfl rfl (qt_l tbok rfl rfl rfl) ?_ | refine wl_g rfl rfl rfl rfl (qt_la tbok rfl rfl rfl) ?_ | refine wl_skip rfl rfl rfl rfl rfl ?_
                  first | refine wl_g rfl rfl rfl rfl (qt_p tbok rfl) ?_ | refine wl_skip rfl rfl rfl rfl rfl ?_
                  first | refine wl_g rfl rfl rfl rfl (qt_l tbok rfl rfl rfl) ?_ | refine wl_g rfl rfl rfl rfl (qt_la tbok rfl rfl rfl) ?_ | refine wl_skip rfl rfl rfl rfl rfl ?_
                  first | refine wl_g rfl rfl rfl rfl (qt_p tbok rfl) ?_ | refine wl_skip rfl rfl rfl rfl rfl ?_
                  first | refine wl_g rfl rfl rfl rfl (qt_l tbok rfl rfl rfl) ?_ | refine wl_g rfl rfl rfl rfl (qt_la tbok rfl rfl rfl) ?_ | refine wl_skip rfl rfl rfl rfl rfl ?_
                  first | refine wl_g rfl rfl rfl rfl (qt_p tbok rfl) ?_ | refine wl_skip rfl rfl rfl rfl rfl ?_
                  first | refine wl_g rfl rfl rfl rfl (qt_l tbok rfl rfl rfl) ?_ | refine wl_g rfl rfl rfl rfl (qt_la tbok rfl rfl rfl) ?_ | refine wl_skip rfl rfl rfl rfl rfl ?_
                  first | refine wl_g rfl rfl rfl rfl (qt_len tbok rfl rfl) ?_ | refine wl_skip rfl rfl rfl rfl rfl ?_
                  first | refine wl_g rfl rfl rfl rfl (qt_p tbok rfl) ?_ | refine wl_g rfl rfl rfl rfl (qt_neqn tbok rfl rfl rfl) ?_ | refine wl_skip rfl rfl rfl rfl rfl ?_
                  first | refine wl_g rfl rfl rfl rfl (qt_p tbok rfl) ?_ | refine wl_skip rfl rfl rfl rfl rfl ?_
                  refine wl_q rfl rfl rfl (qt_p tbok rfl) ?_
                  refine wl_done ?_
                  refine nk_code ?_
                  refine wc_no rfl ?_
                  refine wc_skip ?_
                  refine nk_code ?_
                  refine wc_region ?_
                  refine wl_q rfl rfl rfl (qt_p tbok rfl) ?_
                  refine wl_q rfl rfl rfl (qt_p tbok rfl) ?_
                  refine wl_done ?_
                  exact nk_round (i := j) (j + 1) hj' (by show A.length - (j + 1) < A.length - j; omega) ⟨rfl, rfl, rfl, rfl, rfl, trivial⟩ (fun w hw => st_cutN (A := [⟨.at b6 0, R.cs, 88, (0, 0), []⟩]) (Rm.sub_St (Rm.sub_St (Rm.sub_St hw .here (newKey hb21)) .here hk2) .here (newKey hb19)) (hT1))
          · refine wc_exit rfl ?_
            refine nk_code ?_
            refine wc_seq ?_
            refine wc_region ?_
            refine wl_q rfl rfl rfl (qt_p tbok rfl) ?_
            refine wl_done ?_
            refine nk_code ?_
            refine wc_ret ?_
            try dsimp only
            exact fin1 rfl (rv_tmp rfl) (fun w' hw => ⟨rfl, hw.all (new_cons (newKey hb6) new_nil)⟩)
        · refine wc_region ?_
          obtain ⟨⟨tr, z⟩, rfl⟩ := Option.ne_none_iff_exists'.1 ho2
          obtain ⟨hzo, hzk, hzr⟩ : z.own ∧ z.ok ∧ rootB z.x = true := hI
          replace hJ : z.x = R.x := hJ
          replace hN : ∀ p ∈ TB tr z :: rbs 32 z, ∀ k, p.key = some k → w.heap.size ≤ k := hN
          dsimp only [tB, tP, rbs, List.cons_append, List.nil_append]
          refine wl_q rfl rfl rfl (qt_p tbok rfl) ?_
          refine wl_q rfl rfl rfl (qt_len tbok rfl rfl) ?_
          refine wl_q rfl rfl rfl (qt_p tbok rfl) ?_
          refine wl_done ?_
          refine nk_code ?_
          refine wc_block ?_
          refine wc_loop (ι := Nat) (fun j => j ≤ A.length) (fun j => [(133, .c (.i64 (j : Int))), (132, .c (.i64 (A.length : Int))), (131, .c (.slc aa A.length ac)), (5, .c (.ptr (.at tr 0))), (6, .c (.ptr (.at b6 0)))]) (fun j => [TB tr z, rob 32 z.l, rob 32 z.t, rob 32 z.r, ⟨.at b6 0, R.cs, 88, (0, 0), []⟩]) (fun j => A.length - j) 0 (Nat.zero_le _) (nk_start ⟨rfl, rfl, rfl, rfl, rfl, trivial⟩ (fun w hw => hw)) (fun j hj => ?_)
          refine wc_seq ?_
          refine wc_region ?_
          refine wl_q rfl rfl rfl (qt_p tbok rfl) ?_
          refine wl_done ?_
          refine nk_code ?_
          refine wc_seq ?_
          refine wc_cond rfl (fun h134 => ?_) (fun h134 => ?_)
          · have hj' : j < A.length := (by have h0 := of_decide_eq_true h134; omega)
            obtain ⟨ar, ao, haa⟩ := cells_nn hA (by rw [rows_len (z := 4) asks_row]; omega)
            subst haa
            have hrow := rows_at (z := 4) asks_row hj'
            have hkk := hAk _ (el_mem hj')
            have hkl := hAL _ (el_mem hj')
            have hRb := R_bound hRk
            revert hrow hkk hkl
            generalize el A j = k
            intro hrow hkk hkl
            refine wc_skip ?_
            refine nk_code ?_
            refine wc_seq ?_
            refine wc_block ?_
            refine wc_seq ?_
            refine wc_region ?_
            refine wl_q rfl rfl rfl (qt_p tbok rfl) ?_
            refine wl_q rfl rfl rfl (qt_load_ag (l := k.row) tbok rfl rfl rfl rfl (rs_cells (hA.sub2 (m := j * 4) hrow) (off_all (new_cons (hN _ (.head _)) (new_cons (hN _ (.tail _ (.head _))) (new_cons (hN _ (.tail _ (.tail _ (.head _)))) (new_cons (hN _ (.tail _ (.tail _ (.tail _ (.head _))))) (new_cons (newKey hb6) new_nil)))))))) ?_
            refine wl_ef rfl (ef_alloc zero118 rfl rfl (fun b19 hb19 => ?_))
            refine wl_ef rfl (ef_store (cs' := k.row) tbok rfl rfl rfl rfl .here rfl (Nat.le_of_ble_eq_true rfl) (spl_all rfl) ?_)
            refine wl_done ?_
            refine nk_code ?_
            refine wc_seq ?_
            refine wc_seq ?_
            refine wc_region ?_
            refine wl_q rfl rfl rfl (qt_p tbok rfl) ?_
            refine wl_q rfl rfl rfl (qt_load (c := .slc k.la k.M.length k.lc) tbok rfl rfl rfl (rc_lk .here rfl)) ?_
            refine wl_q rfl rfl rfl (qt_len tbok rfl rfl) ?_
            refine wl_q rfl rfl rfl (qt_p tbok rfl) ?_
            refine wl_q rfl rfl rfl (qt_p tbok rfl) ?_
            refine wl_bool (fun hm5 => ?_) (fun hm5 => ?_)
            · first | refine wl_g rfl rfl rfl rfl (qt_p tbok rfl) ?_ | refine wl_skip rfl rfl rfl rfl rfl ?_
              first | refine wl_g rfl rfl rfl rfl (qt_p tbok rfl) ?_ | refine wl_skip rfl rfl rfl rfl rfl ?_
              first | refine wl_g rfl rfl rfl rfl (qt_l tbok rfl rfl rfl) ?_ | refine wl_g rfl rfl rfl rfl (qt_la tbok rfl rfl rfl) ?_ | refine wl_skip rfl rfl rfl rfl rfl ?_
              first | refine wl_g rfl rfl rfl rfl (qt_len tbok rfl rfl) ?_ | refine wl_skip rfl rfl rfl rfl rfl ?_
              first | refine wl_g rfl rfl rfl rfl (qt_p tbok rfl) ?_ | refine wl_skip rfl rfl rfl rfl rfl ?_
              first | refine wl_g rfl rfl rfl rfl (qt_p tbok rfl) ?_ | refine wl_skip rfl rfl rfl rfl rfl ?_
              first | refine wl_g rfl rfl rfl rfl (qt_l tbok rfl rfl rfl) ?_ | refine wl_g rfl rfl rfl rfl (qt_la tbok rfl rfl rfl) ?_ | refine wl_skip rfl rfl rfl rfl rfl ?_
              first | refine wl_g rfl rfl rfl rfl (qt_len tbok rfl rfl) ?_ | refine wl_skip rfl rfl rfl rfl rfl ?_
              first | refine wl_g rfl rfl rfl rfl (qt_p tbok rfl) ?_ | refine wl_skip rfl rfl rfl rfl rfl ?_
              first | refine wl_g rfl rfl rfl rfl (qt_p tbok rfl) ?_ | refine wl_skip rfl rfl rfl rfl rfl ?_
              refine wl_q rfl rfl rfl (qt_p tbok rfl) ?_
              refine wl_done ?_
              refine nk_code ?_
              refine wc_yes rfl ?_
              refine wc_seq ?_
              refine wc_region ?_
              refine wl_q rfl rfl rfl (qt_p tbok rfl) ?_
              refine wl_done ?_
              refine nk_code ?_
              refine wc_ret ?_
              try dsimp only
              exact fin1 rfl (rv_tmp rfl) (fun w' hw => ⟨rfl, hw.all (new_cons (newKey hb19) (new_cons (hN _ (.head _)) (new_cons (hN _ (.tail _ (.head _))) (new_cons (hN _ (.tail _ (.tail _ (.head _)))) (new_cons (hN _ (.tail _ (.tail _ (.tail _ (.head _))))) (new_cons (newKey hb6) new_nil))))))⟩)
            · first | refine wl_g rfl rfl rfl rfl (qt_p tbok rfl) ?_ | refine wl_skip rfl rfl rfl rfl rfl ?_
              first | refine wl_g rfl rfl rfl rfl (qt_p tbok rfl) ?_ | refine wl_skip rfl rfl rfl rfl rfl ?_
              refine wl_g rfl rfl rfl rfl (qt_load (c := .slc R.t.2.1 R.t.1.K.length R.t.2.2.1) tbok rfl rfl rfl (rc_lk (.there (.there (.there (.there (.there .here))))) rfl)) ?_
              first | refine wl_g rfl rfl rfl rfl (qt_len tbok rfl rfl) ?_ | refine wl_skip rfl rfl rfl rfl rfl ?_
              first | refine wl_g rfl rfl rfl rfl (qt_p tbok rfl) ?_ | refine wl_skip rfl rfl rfl rfl rfl ?_
              first | refine wl_g rfl rfl rfl rfl (qt_p tbok rfl) ?_ | refine wl_skip rfl rfl rfl rfl rfl ?_
              refine wl_g rfl rfl rfl rfl (qt_load (c := .slc R.l.2.1 R.l.1.K.length R.l.2.2.1) tbok rfl rfl rfl (rc_lk (.there (.there (.there (.there (.there .here))))) rfl)) ?_
              first | refine wl_g rfl rfl rfl rfl (qt_len tbok rfl rfl) ?_ | refine wl_skip rfl rfl rfl rfl rfl ?_
              first | refine wl_g rfl rfl rfl rfl (qt_p tbok rfl) ?_ | refine wl_skip rfl rfl rfl rfl rfl ?_
              first | refine wl_g rfl rfl rfl rfl (qt_p tbok rfl) ?_ | refine wl_skip rfl rfl rfl rfl rfl ?_
              refine wl_q rfl rfl rfl (qt_p tbok rfl) ?_
              refine wl_done ?_
              refine nk_code ?_
              refine wc_cond rfl (fun h152 => ?_) (fun h152 => ?_)
              · refine wc_seq ?_
                refine wc_region ?_
                refine wl_q rfl rfl rfl (qt_p tbok rfl) ?_
                refine wl_done ?_
                refine nk_code ?_
                refine wc_ret ?_
                try dsimp only
                exact fin1 rfl (rv_tmp rfl) (fun w' hw => ⟨rfl, hw.all (new_cons (newKey hb19) (new_cons (hN _ (.head _)) (new_cons (hN _ (.tail _ (.head _))) (new_cons (hN _ (.tail _ (.tail _ (.head _)))) (new_cons (hN _ (.tail _ (.tail _ (.tail _ (.head _))))) (new_cons (newKey hb6) new_nil))))))⟩)
              · refine wc_skip ?_
                refine nk_code ?_
                refine wc_seq ?_
                refine wc_draw (s0 := [⟨.at b19 0, k.row, 118, (0, 0), []⟩]) 10 follows ?_
                refine wh_q 0 rfl (by kernel_rfl) rfl rfl rfl (qt_p tbok rfl) (fun w hw => st_cut hw (new_cons (hN _ (.head _)) (new_cons (hN _ (.tail _ (.head _))) (new_cons (hN _ (.tail _ (.tail _ (.head _)))) (new_cons (hN _ (.tail _ (.tail _ (.tail _ (.head _))))) (new_cons (newKey hb6) new_nil)))))) ?_
                refine wh_q 1 rfl (by kernel_rfl) rfl rfl rfl (qt_p tbok rfl) (fun w hw => st_cut hw (new_cons (hN _ (.head _)) (new_cons (hN _ (.tail _ (.head _))) (new_cons (hN _ (.tail _ (.tail _ (.head _)))) (new_cons (hN _ (.tail _ (.tail _ (.tail _ (.head _))))) (new_cons (newKey hb6) new_nil)))))) ?_
                refine wh_q 2 rfl (by kernel_rfl) rfl rfl rfl (qt_load (c := .slc k.ma k.m.length k.mc) tbok rfl rfl rfl (rc_lk .here rfl)) (fun w hw => st_cut hw (new_cons (hN _ (.head _)) (new_cons (hN _ (.tail _ (.head _))) (new_cons (hN _ (.tail _ (.tail _ (.head _)))) (new_cons (hN _ (.tail _ (.tail _ (.tail _ (.head _))))) (new_cons (newKey hb6) new_nil)))))) ?_
                refine wh_q 3 rfl (by kernel_rfl) rfl rfl rfl (qt_p tbok rfl) (fun w hw => st_cut hw (new_cons (hN _ (.head _)) (new_cons (hN _ (.tail _ (.head _))) (new_cons (hN _ (.tail _ (.tail _ (.head _)))) (new_cons (hN _ (.tail _ (.tail _ (.tail _ (.head _))))) (new_cons (newKey hb6) new_nil)))))) ?_
                refine wh_q 4 rfl (by kernel_rfl) rfl rfl rfl (qt_load (c := .slc k.la k.M.length k.lc) tbok rfl rfl rfl (rc_lk .here rfl)) (fun w hw => st_cut hw (new_cons (hN _ (.head _)) (new_cons (hN _ (.tail _ (.head _))) (new_cons (hN _ (.tail _ (.tail _ (.head _)))) (new_cons (hN _ (.tail _ (.tail _ (.tail _ (.head _))))) (new_cons (newKey hb6) new_nil)))))) ?_
                refine wh_q 6 rfl (by kernel_rfl) rfl rfl rfl (qt_p tbok rfl) (fun w hw => st_cut hw (new_cons (hN _ (.head _)) (new_cons (hN _ (.tail _ (.head _))) (new_cons (hN _ (.tail _ (.tail _ (.head _)))) (new_cons (hN _ (.tail _ (.tail _ (.tail _ (.head _))))) (new_cons (newKey hb6) new_nil)))))) ?_
                refine wh_q 7 rfl (by kernel_rfl) rfl rfl rfl (qt_load (c := .i64 k.now) tbok rfl rfl rfl (rc_lk .here rfl)) (fun w hw => st_cut hw (new_cons (hN _ (.head _)) (new_cons (hN _ (.tail _ (.head _))) (new_cons (hN _ (.tail _ (.tail _ (.head _)))) (new_cons (hN _ (.tail _ (.tail _ (.tail _ (.head _))))) (new_cons (newKey hb6) new_nil)))))) ?_
                refine wh_one 5 (by kernel_rfl) (wo_ef rfl rfl (ef_freshT (I := CpD k.M) (by kernel_rfl) rfl rfl (fun w1 g1 => toMarks_c hkk.2.1 hkk.2.2 (cells_rd (rd_cells hkl.2.1 (off_all (new_cons (newKey hb19) (new_cons (hN _ (.head _)) (new_cons (hN _ (.tail _ (.head _))) (new_cons (hN _ (.tail _ (.tail _ (.head _)))) (new_cons (hN _ (.tail _ (.tail _ (.tail _ (.head _))))) (new_cons (newKey hb6) new_nil)))))))) g1) (fun p hpm => ⟨cells_rd (rd_cells (hkl.2.2 p hpm).1 (off_all (new_cons (newKey hb19) (new_cons (hN _ (.head _)) (new_cons (hN _ (.tail _ (.head _))) (new_cons (hN _ (.tail _ (.tail _ (.head _)))) (new_cons (hN _ (.tail _ (.tail _ (.tail _ (.head _))))) (new_cons (newKey hb6) new_nil)))))))) g1, (hkl.2.2 p hpm).2⟩)) (fun z1 hz1 hk2 hT1 => ⟨fun w hw => st_cut (hw.tail hk2) (new_cons (hN _ (.head _)) (new_cons (hN _ (.tail _ (.head _))) (new_cons (hN _ (.tail _ (.tail _ (.head _)))) (new_cons (hN _ (.tail _ (.tail _ (.tail _ (.head _))))) (new_cons (newKey hb6) hT1))))), ?_⟩)))
                dsimp only [rbs, List.cons_append, List.nil_append]
                refine wh_one 8 (by kernel_rfl) (wo_ef rfl rfl (ef_pure (v := .c (.i64 (ckE z.u z.t.1 k.m (k.M.map (·.1)) k.now))) (by kernel_rfl) rfl rfl (fun w1 g1 => by rw [← hz1.1, ← hz1.2.1]; exact tag_c (tr := tr) (y := z) (M := z1.1) (msg := k.m) (ma := k.ma) (la := z1.2.1) (mc := k.mc) (lc := z1.2.2.1) (now := k.now) (cells_own g1 (.there (.there .here))) hzk (RL.lies_own (T := 32) g1 (.there (.there (.there (.there (.there .here))))) (.there (.there (.there (.there .here)))) (.there (.there (.there .here)))) (cells_rd (rd_cells hkl.1 (off_all (new_cons hk2 (new_cons (newKey hb19) (new_cons (hN _ (.head _)) (new_cons (hN _ (.tail _ (.head _))) (new_cons (hN _ (.tail _ (.tail _ (.head _)))) (new_cons (hN _ (.tail _ (.tail _ (.tail _ (.head _))))) (new_cons (newKey hb6) hT1))))))))) g1) hkk.1 (ok_map hz1.2.1 hkk.2.1) (by rw [hz1.1]; exact hkk.2.2) (cells_own g1 .here) (hz1.lies g1 (fun b hb => .there (.there (.there (.there (.there (.there (.there (lk_mem hb)))))))))) ⟨fun w hw => st_cut (hw.tail hk2) (new_cons (hN _ (.head _)) (new_cons (hN _ (.tail _ (.head _))) (new_cons (hN _ (.tail _ (.tail _ (.head _)))) (new_cons (hN _ (.tail _ (.tail _ (.tail _ (.head _))))) (new_cons (newKey hb6) hT1))))), ?_⟩))
                refine wh_q 9 rfl (by kernel_rfl) rfl rfl rfl (qt_p tbok rfl) (fun w hw => st_cut (hw.tail hk2) (new_cons (hN _ (.head _)) (new_cons (hN _ (.tail _ (.head _))) (new_cons (hN _ (.tail _ (.tail _ (.head _)))) (new_cons (hN _ (.tail _ (.tail _ (.tail _ (.head _))))) (new_cons (newKey hb6) hT1)))))) ?_
                refine wh_done (by kernel_rfl) ?_
                refine nk_code ?_
                refine wc_seq ?_
                refine wc_region ?_
                refine wl_q rfl rfl rfl (qt_p tbok rfl) ?_
                refine wl_q rfl rfl rfl (qt_load_ag (l := rrow R.t) tbok rfl rfl rfl rfl (rs_lk (.there (.there (.there (.there (.there (.there .here)))))) (rl_t R))) ?_
                refine wl_ef rfl (ef_alloc zero68 rfl rfl (fun b21 hb21 => ?_))
                refine wl_ef rfl (ef_store (cs' := rrow R.t) tbok rfl rfl rfl rfl .here rfl (Nat.le_of_ble_eq_true rfl) (spl_all rfl) ?_)
                refine wl_done ?_
                refine nk_code ?_
                refine wc_seq ?_
                refine wc_seq ?_
                refine wc_region ?_
                refine wl_q rfl rfl rfl (qt_p tbok rfl) ?_
                refine wl_q rfl rfl rfl (qt_load (c := .bool k.hd) tbok rfl rfl rfl (rc_lk (.there (.there .here)) rfl)) ?_
                refine wl_done ?_
                refine nk_code ?_
                refine wc_cond rfl (fun h165 => ?_) (fun h165 => ?_)
                · refine wc_draw (s0 := [⟨.at b19 0, k.row, 118, (0, 0), []⟩, ⟨.at b6 0, R.cs, 88, (0, 0), []⟩]) 12 follows ?_
                  refine wh_q 0 rfl (by kernel_rfl) rfl rfl rfl (qt_p tbok rfl) (fun w hw => st_cutN (A := [⟨.at b19 0, k.row, 118, (0, 0), []⟩, ⟨.at b6 0, R.cs, 88, (0, 0), []⟩]) (Rm.sub_St (Rm.sub_St (Rm.sub_St (Rm.sub_St (Rm.sub_St (Rm.sub_St hw .here (newKey hb21)) .here hk2) (.there .here) (hN _ (.head _))) (.there .here) (hN _ (.tail _ (.head _)))) (.there .here) (hN _ (.tail _ (.tail _ (.head _))))) (.there .here) (hN _ (.tail _ (.tail _ (.tail _ (.head _)))))) (hT1)) ?_
                  refine wh_q 1 rfl (by kernel_rfl) rfl rfl rfl (qt_p tbok rfl) (fun w hw => st_cutN (A := [⟨.at b19 0, k.row, 118, (0, 0), []⟩, ⟨.at b6 0, R.cs, 88, (0, 0), []⟩]) (Rm.sub_St (Rm.sub_St (Rm.sub_St (Rm.sub_St (Rm.sub_St (Rm.sub_St hw .here (newKey hb21)) .here hk2) (.there .here) (hN _ (.head _))) (.there .here) (hN _ (.tail _ (.head _)))) (.there .here) (hN _ (.tail _ (.tail _ (.head _))))) (.there .here) (hN _ (.tail _ (.tail _ (.tail _ (.head _)))))) (hT1)) ?_
                  refine wh_q 2 rfl (by kernel_rfl) rfl rfl rfl (qt_load (c := .slc k.ma k.m.length k.mc) tbok rfl rfl rfl (rc_lk .here rfl)) (fun w hw => st_cutN (A := [⟨.at b19 0, k.row, 118, (0, 0), []⟩, ⟨.at b6 0, R.cs, 88, (0, 0), []⟩]) (Rm.sub_St (Rm.sub_St (Rm.sub_St (Rm.sub_St (Rm.sub_St (Rm.sub_St hw .here (newKey hb21)) .here hk2) (.there .here) (hN _ (.head _))) (.there .here) (hN _ (.tail _ (.head _)))) (.there .here) (hN _ (.tail _ (.tail _ (.head _))))) (.there .here) (hN _ (.tail _ (.tail _ (.tail _ (.head _)))))) (hT1)) ?_
                  refine wh_q 3 rfl (by kernel_rfl) rfl rfl rfl (qt_p tbok rfl) (fun w hw => st_cutN (A := [⟨.at b19 0, k.row, 118, (0, 0), []⟩, ⟨.at b6 0, R.cs, 88, (0, 0), []⟩]) (Rm.sub_St (Rm.sub_St (Rm.sub_St (Rm.sub_St (Rm.sub_St (Rm.sub_St hw .here (newKey hb21)) .here hk2) (.there .here) (hN _ (.head _))) (.there .here) (hN _ (.tail _ (.head _)))) (.there .here) (hN _ (.tail _ (.tail _ (.head _))))) (.there .here) (hN _ (.tail _ (.tail _ (.tail _ (.head _)))))) (hT1)) ?_
                  refine wh_q 4 rfl (by kernel_rfl) rfl rfl rfl (qt_load (c := .slc k.la k.M.length k.lc) tbok rfl rfl rfl (rc_lk .here rfl)) (fun w hw => st_cutN (A := [⟨.at b19 0, k.row, 118, (0, 0), []⟩, ⟨.at b6 0, R.cs, 88, (0, 0), []⟩]) (Rm.sub_St (Rm.sub_St (Rm.sub_St (Rm.sub_St (Rm.sub_St (Rm.sub_St hw .here (newKey hb21)) .here hk2) (.there .here) (hN _ (.head _))) (.there .here) (hN _ (.tail _ (.head _)))) (.there .here) (hN _ (.tail _ (.tail _ (.head _))))) (.there .here) (hN _ (.tail _ (.tail _ (.tail _ (.head _)))))) (hT1)) ?_
                  refine wh_q 6 rfl (by kernel_rfl) rfl rfl rfl (qt_p tbok rfl) (fun w hw => st_cutN (A := [⟨.at b19 0, k.row, 118, (0, 0), []⟩, ⟨.at b6 0, R.cs, 88, (0, 0), []⟩]) (Rm.sub_St (Rm.sub_St (Rm.sub_St (Rm.sub_St (Rm.sub_St (Rm.sub_St hw .here (newKey hb21)) .here hk2) (.there .here) (hN _ (.head _))) (.there .here) (hN _ (.tail _ (.head _)))) (.there .here) (hN _ (.tail _ (.tail _ (.head _))))) (.there .here) (hN _ (.tail _ (.tail _ (.tail _ (.head _)))))) (hT1)) ?_
                  refine wh_q 7 rfl (by kernel_rfl) rfl rfl rfl (qt_load (c := .i64 k.now) tbok rfl rfl rfl (rc_lk .here rfl)) (fun w hw => st_cutN (A := [⟨.at b19 0, k.row, 118, (0, 0), []⟩, ⟨.at b6 0, R.cs, 88, (0, 0), []⟩]) (Rm.sub_St (Rm.sub_St (Rm.sub_St (Rm.sub_St (Rm.sub_St (Rm.sub_St hw .here (newKey hb21)) .here hk2) (.there .here) (hN _ (.head _))) (.there .here) (hN _ (.tail _ (.head _)))) (.there .here) (hN _ (.tail _ (.tail _ (.head _))))) (.there .here) (hN _ (.tail _ (.tail _ (.tail _ (.head _)))))) (hT1)) ?_
                  refine wh_q 9 rfl (by kernel_rfl) rfl rfl rfl (qt_p tbok rfl) (fun w hw => st_cutN (A := [⟨.at b19 0, k.row, 118, (0, 0), []⟩, ⟨.at b6 0, R.cs, 88, (0, 0), []⟩]) (Rm.sub_St (Rm.sub_St (Rm.sub_St (Rm.sub_St (Rm.sub_St (Rm.sub_St hw .here (newKey hb21)) .here hk2) (.there .here) (hN _ (.head _))) (.there .here) (hN _ (.tail _ (.head _)))) (.there .here) (hN _ (.tail _ (.tail _ (.head _))))) (.there .here) (hN _ (.tail _ (.tail _ (.tail _ (.head _)))))) (hT1)) ?_
                  refine wh_q 10 rfl (by kernel_rfl) rfl rfl rfl (qt_load_ag (l := rrow R.l) tbok rfl rfl rfl rfl (rs_lk (.there .here) (rl_l R))) (fun w hw => st_cutN (A := [⟨.at b19 0, k.row, 118, (0, 0), []⟩, ⟨.at b6 0, R.cs, 88, (0, 0), []⟩]) (Rm.sub_St (Rm.sub_St (Rm.sub_St (Rm.sub_St (Rm.sub_St (Rm.sub_St hw .here (newKey hb21)) .here hk2) (.there .here) (hN _ (.head _))) (.there .here) (hN _ (.tail _ (.head _)))) (.there .here) (hN _ (.tail _ (.tail _ (.head _))))) (.there .here) (hN _ (.tail _ (.tail _ (.tail _ (.head _)))))) (hT1)) ?_
                  refine wh_one 5 (by kernel_rfl) (wo_ef rfl rfl (ef_freshT (I := CpD k.M) (by kernel_rfl) rfl rfl (fun w1 g1 => toMarks_c hkk.2.1 hkk.2.2 (cells_rd (rd_cells hkl.2.1 (off_all (new_cons (newKey hb21) (new_cons hk2 (new_cons (newKey hb19) (new_cons (hN _ (.head _)) (new_cons (hN _ (.tail _ (.head _))) (new_cons (hN _ (.tail _ (.tail _ (.head _)))) (new_cons (hN _ (.tail _ (.tail _ (.tail _ (.head _))))) (new_cons (newKey hb6) hT1)))))))))) g1) (fun p hpm => ⟨cells_rd (rd_cells (hkl.2.2 p hpm).1 (off_all (new_cons (newKey hb21) (new_cons hk2 (new_cons (newKey hb19) (new_cons (hN _ (.head _)) (new_cons (hN _ (.tail _ (.head _))) (new_cons (hN _ (.tail _ (.tail _ (.head _)))) (new_cons (hN _ (.tail _ (.tail _ (.tail _ (.head _))))) (new_cons (newKey hb6) hT1)))))))))) g1, (hkl.2.2 p hpm).2⟩)) (fun z3 hz3 hk3 hT3 => ⟨fun w hw => st_cutN (A := [⟨.at b19 0, k.row, 118, (0, 0), []⟩, ⟨.at b6 0, R.cs, 88, (0, 0), []⟩]) (Rm.sub_St (Rm.sub_St (Rm.sub_St (Rm.sub_St (Rm.sub_St (Rm.sub_St (Rm.sub_St hw .here hk3) .here (newKey hb21)) .here hk2) (.there .here) (hN _ (.head _))) (.there .here) (hN _ (.tail _ (.head _)))) (.there .here) (hN _ (.tail _ (.tail _ (.head _))))) (.there .here) (hN _ (.tail _ (.tail _ (.tail _ (.head _)))))) ((new_app hT1 hT3)), ?_⟩)))
                  dsimp only [rbs, List.cons_append, List.nil_append]
                  refine wh_one 8 (by kernel_rfl) (wo_ef rfl rfl (ef_pure (v := .c (.i64 (ckE z.u z.l.1 k.m (k.M.map (·.1)) k.now))) (by kernel_rfl) rfl rfl (fun w1 g1 => by rw [← hz3.1, ← hz3.2.1]; exact head_c (tr := tr) (y := z) (M := z3.1) (msg := k.m) (ma := k.ma) (la := z3.2.1) (mc := k.mc) (lc := z3.2.2.1) (now := k.now) (cells_own g1 (.there (.there (.there (.there .here))))) hzk (RL.lies_own (T := 32) g1 (.there (.there (.there (.there (.there (.there (.there .here))))))) (.there (.there (.there (.there (.there (.there .here)))))) (.there (.there (.there (.there (.there .here)))))) (cells_rd (rd_cells hkl.1 (off_all (new_cons hk3 (new_cons (newKey hb21) (new_cons hk2 (new_cons (newKey hb19) (new_cons (hN _ (.head _)) (new_cons (hN _ (.tail _ (.head _))) (new_cons (hN _ (.tail _ (.tail _ (.head _)))) (new_cons (hN _ (.tail _ (.tail _ (.tail _ (.head _))))) (new_cons (newKey hb6) ((new_app hT1 hT3))))))))))))) g1) hkk.1 (ok_map hz3.2.1 hkk.2.1) (by rw [hz3.1]; exact hkk.2.2) (cells_own g1 .here) (hz3.lies g1 (fun b hb => .there (.there (.there (.there (.there (.there (.there (.there (.there (lk_mem (List.mem_append.2 (.inr hb)))))))))))))) ⟨fun w hw => st_cutN (A := [⟨.at b19 0, k.row, 118, (0, 0), []⟩, ⟨.at b6 0, R.cs, 88, (0, 0), []⟩]) (Rm.sub_St (Rm.sub_St (Rm.sub_St (Rm.sub_St (Rm.sub_St (Rm.sub_St (Rm.sub_St hw .here hk3) .here (newKey hb21)) .here hk2) (.there .here) (hN _ (.head _))) (.there .here) (hN _ (.tail _ (.head _)))) (.there .here) (hN _ (.tail _ (.tail _ (.head _))))) (.there .here) (hN _ (.tail _ (.tail _ (.tail _ (.head _)))))) ((new_app hT1 hT3)), ?_⟩))
                  refine wh_q 11 rfl (by kernel_rfl) rfl rfl rfl (qt_p tbok rfl) (fun w hw => st_cutN (A := [⟨.at b19 0, k.row, 118, (0, 0), []⟩, ⟨.at b6 0, R.cs, 88, (0, 0), []⟩]) (Rm.sub_St (Rm.sub_St (Rm.sub_St (Rm.sub_St (Rm.sub_St (Rm.sub_St (Rm.sub_St hw .here hk3) .here (newKey hb21)) .here hk2) (.there .here) (hN _ (.head _))) (.there .here) (hN _ (.tail _ (.head _)))) (.there .here) (hN _ (.tail _ (.tail _ (.head _))))) (.there .here) (hN _ (.tail _ (.tail _ (.tail _ (.head _)))))) ((new_app hT1 hT3))) ?_
                  refine wh_one 12 (by kernel_rfl) (wo_fin rfl rfl (ef_store (cs' := rrow R.l) tbok rfl rfl rfl rfl (.there .here) rfl (Nat.le_of_ble_eq_true rfl) (spl_all rfl) ?_))
                  refine wh_done (by kernel_rfl) ?_
                  refine nk_code ?_
                  refine wc_seq ?_
                  refine wc_region ?_
                  refine wl_q rfl rfl rfl (qt_p tbok rfl) ?_
                  first | refine wl_q rfl rfl rfl (qt_p tbok rfl) ?_ | refine wl_q rfl rfl rfl (qt_eqn tbok rfl rfl rfl) ?_
                  refine wl_q rfl rfl rfl (qt_p tbok rfl) ?_
                  first | refine wl_g rfl rfl rfl rfl (qt_p tbok rfl) ?_ | refine wl_skip rfl rfl rfl rfl rfl ?_
                  first | refine wl_g rfl rfl rfl rfl (qt_p tbok rfl) ?_ | refine wl_g rfl rfl rfl rfl (qt_neqn tbok rfl rfl rfl) ?_ | refine wl_skip rfl rfl rfl rfl rfl ?_
                  refine wl_q rfl rfl rfl (qt_p tbok rfl) ?_
                  refine wl_q rfl rfl rfl (qt_p tbok rfl) ?_
                  first | refine wl_g rfl rfl rfl rfl (qt_p tbok rfl) ?_ | refine wl_skip rfl rfl rfl rfl rfl ?_
                  first | refine wl_g rfl rfl rfl rfl (qt_p tbok rfl) ?_ | refine wl_g rfl rfl rfl rfl (qt_neqn tbok rfl rfl rfl) ?_ | refine wl_skip rfl rfl rfl rfl rfl ?_
                  first | refine wl_g rfl rfl rfl rfl (qt_p tbok rfl) ?_ | refine wl_skip rfl rfl rfl rfl rfl ?_
                  first | refine wl_g rfl rfl rfl rfl (qt_p tbok rfl) ?_ | refine wl_skip rfl rfl rfl rfl rfl ?_
                  first | refine wl_g rfl rfl rfl rfl (qt_p tbok rfl) ?_ | refine wl_skip rfl rfl rfl rfl rfl ?_
                  refine wl_g rfl rfl rfl rfl (qt_load (c := .i64 R.u) tbok rfl rfl rfl (rc_lk (.there (.there (.there (.there (.there (.there (.there (.there .here)))))))) rfl)) ?_
                  refine wl_g rfl rfl rfl rfl (qt_load_ag (l := rrow R.l) tbok rfl rfl rfl rfl (rs_lk (.there .here) at0)) ?_
                  first | refine wl_g rfl rfl rfl rfl (qt_p tbok rfl) ?_ | refine wl_skip rfl rfl rfl rfl rfl ?_
                  refine wl_g rfl rfl rfl rfl (qt_load (c := .slc k.ma k.m.length k.mc) tbok rfl rfl rfl (rc_lk (.there (.there (.there .here))) rfl)) ?_
                  first | refine wl_g rfl rfl rfl rfl (qt_p tbok rfl) ?_ | refine wl_skip rfl rfl rfl rfl rfl ?_
                  refine wl_g rfl rfl rfl rfl (qt_load (c := .slc k.la k.M.length k.lc) tbok rfl rfl rfl (rc_lk (.there (.there (.there .here))) rfl)) ?_
                  first | refine wl_g rfl rfl rfl rfl (qt_p tbok rfl) ?_ | refine wl_skip rfl rfl rfl rfl rfl ?_
                  refine wl_g rfl rfl rfl rfl (qt_load (c := .i64 k.now) tbok rfl rfl rfl (rc_lk (.there (.there (.there .here))) rfl)) ?_
                  refine wl_gd rfl rfl (ef_pure (v := .c (.i64 (ckE z.u z.l.1 k.m (k.M.map (·.1)) k.now))) (by kernel_rfl) rfl rfl (fun w1 g1 => by rw [show z.u = R.u from congrArg Rx.u hJ, show z.l.1 = R.l.1 from congrArg Rx.l hJ]; exact checkR_c hRk.2.2 (cells_rd (rd_cells hRl.2.2 (off_all (new_cons hk3 (new_cons (newKey hb21) (new_cons hk2 (new_cons (newKey hb19) (new_cons (hN _ (.head _)) (new_cons (hN _ (.tail _ (.head _))) (new_cons (hN _ (.tail _ (.tail _ (.head _)))) (new_cons (hN _ (.tail _ (.tail _ (.tail _ (.head _))))) (new_cons (newKey hb6) ((new_app hT1 hT3))))))))))))) g1) (cells_rd (rd_cells hkl.1 (off_all (new_cons hk3 (new_cons (newKey hb21) (new_cons hk2 (new_cons (newKey hb19) (new_cons (hN _ (.head _)) (new_cons (hN _ (.tail _ (.head _))) (new_cons (hN _ (.tail _ (.tail _ (.head _)))) (new_cons (hN _ (.tail _ (.tail _ (.tail _ (.head _))))) (new_cons (newKey hb6) ((new_app hT1 hT3))))))))))))) g1) hkk.1 hkk.2.1 hkk.2.2 (cells_rd (rd_cells hkl.2.1 (off_all (new_cons hk3 (new_cons (newKey hb21) (new_cons hk2 (new_cons (newKey hb19) (new_cons (hN _ (.head _)) (new_cons (hN _ (.tail _ (.head _))) (new_cons (hN _ (.tail _ (.tail _ (.head _)))) (new_cons (hN _ (.tail _ (.tail _ (.tail _ (.head _))))) (new_cons (newKey hb6) ((new_app hT1 hT3))))))))))))) g1) (fun p hpm => ⟨cells_rd (rd_cells (hkl.2.2 p hpm).1 (off_all (new_cons hk3 (new_cons (newKey hb21) (new_cons hk2 (new_cons (newKey hb19) (new_cons (hN _ (.head _)) (new_cons (hN _ (.tail _ (.head _))) (new_cons (hN _ (.tail _ (.tail _ (.head _)))) (new_cons (hN _ (.tail _ (.tail _ (.tail _ (.head _))))) (new_cons (newKey hb6) ((new_app hT1 hT3))))))))))))) g1, (hkl.2.2 p hpm).2⟩)) ?_)
                  first | refine wl_g rfl rfl rfl rfl (qt_p tbok rfl) ?_ | refine wl_g rfl rfl rfl rfl (qt_neqn tbok rfl rfl rfl) ?_ | refine wl_skip rfl rfl rfl rfl rfl ?_
                  refine wl_as (v' := .c (.bool false)) (congrArg (fun b => V.c (C.bool (!b))) (decide_eq_true rfl)) ?_
                  first | refine wl_g rfl rfl rfl rfl (qt_p tbok rfl) ?_ | refine wl_skip rfl rfl rfl rfl rfl ?_
                  refine wl_q rfl rfl rfl (qt_p tbok rfl) ?_
                  refine wl_done ?_
                  refine nk_code ?_
                  refine wc_no rfl ?_
                  refine wc_skip ?_
                  refine nk_code ?_
                  refine wc_region ?_
                  refine wl_q rfl rfl rfl (qt_p tbok rfl) ?_
                  refine wl_q rfl rfl rfl (qt_p tbok rfl) ?_
                  refine wl_done ?_
                  exact nk_round (i := j) (j + 1) hj' (by show A.length - (j + 1) < A.length - j; omega) ⟨rfl, rfl, rfl, rfl, rfl, trivial⟩ (fun w hw => st_cutN (A := [TB tr z, rob 32 z.l, rob 32 z.t, rob 32 z.r, ⟨.at b6 0, R.cs, 88, (0, 0), []⟩]) (Rm.sub_St (Rm.sub_St (Rm.sub_St (Rm.sub_St hw .here hk3) .here (newKey hb21)) .here hk2) .here (newKey hb19)) ((new_app hT1 hT3)))
                · refine wc_skip ?_
                  refine nk_code ?_
                  refine wc_seq ?_
                  refine wc_region ?_
                  refine wl_q rfl rfl rfl (qt_p tbok rfl) ?_
                  first | refine wl_q rfl rfl rfl (qt_p tbok rfl) ?_ | refine wl_q rfl rfl rfl (qt_eqn tbok rfl rfl rfl) ?_
                  refine wl_q rfl rfl rfl (qt_p tbok rfl) ?_
                  first | refine wl_g rfl rfl rfl rfl (qt_p tbok rfl) ?_ | refine wl_skip rfl rfl rfl rfl rfl ?_
                  first | refine wl_g rfl rfl rfl rfl (qt_p tbok rfl) ?_ | refine wl_g rfl rfl rfl rfl (qt_neqn tbok rfl rfl rfl) ?_ | refine wl_skip rfl rfl rfl rfl rfl ?_
                  refine wl_q rfl rfl rfl (qt_p tbok rfl) ?_
                  refine wl_q rfl rfl rfl (qt_p tbok rfl) ?_
                  first | refine wl_g rfl rfl rfl rfl (qt_p tbok rfl) ?_ | refine wl_skip rfl rfl rfl rfl rfl ?_
                  first | refine wl_g rfl rfl rfl rfl (qt_p tbok rfl) ?_ | refine wl_g rfl rfl rfl rfl (qt_neqn tbok rfl rfl rfl) ?_ | refine wl_skip rfl rfl rfl rfl rfl ?_
                  first | refine wl_g rfl rfl rfl rfl (qt_p tbok rfl) ?_ | refine wl_skip rfl rfl rfl rfl rfl ?_
                  first | refine wl_g rfl rfl rfl rfl (qt_p tbok rfl) ?_ | refine wl_skip rfl rfl rfl rfl rfl ?_
                  first | refine wl_g rfl rfl rfl rfl (qt_p tbok rfl) ?_ | refine wl_skip rfl rfl rfl rfl rfl ?_
                  refine wl_g rfl rfl rfl rfl (qt_load (c := .i64 R.u) tbok rfl rfl rfl (rc_lk (.there (.there (.there (.there (.there (.there (.there .here))))))) rfl)) ?_
                  refine wl_g rfl rfl rfl rfl (qt_load_ag (l := rrow R.t) tbok rfl rfl rfl rfl (rs_lk .here at0)) ?_
                  first | refine wl_g rfl rfl rfl rfl (qt_p tbok rfl) ?_ | refine wl_skip rfl rfl rfl rfl rfl ?_
                  refine wl_g rfl rfl rfl rfl (qt_load (c := .slc k.ma k.m.length k.mc) tbok rfl rfl rfl (rc_lk (.there (.there .here)) rfl)) ?_
                  first | refine wl_g rfl rfl rfl rfl (qt_p tbok rfl) ?_ | refine wl_skip rfl rfl rfl rfl rfl ?_
                  refine wl_g rfl rfl rfl rfl (qt_load (c := .slc k.la k.M.length k.lc) tbok rfl rfl rfl (rc_lk (.there (.there .here)) rfl)) ?_
                  first | refine wl_g rfl rfl rfl rfl (qt_p tbok rfl) ?_ | refine wl_skip rfl rfl rfl rfl rfl ?_
                  refine wl_g rfl rfl rfl rfl (qt_load (c := .i64 k.now) tbok rfl rfl rfl (rc_lk (.there (.there .here)) rfl)) ?_
                  refine wl_gd rfl rfl (ef_pure (v := .c (.i64 (ckE z.u z.t.1 k.m (k.M.map (·.1)) k.now))) (by kernel_rfl) rfl rfl (fun w1 g1 => by rw [show z.u = R.u from congrArg Rx.u hJ, show z.t.1 = R.t.1 from congrArg Rx.t hJ]; exact checkR_c hRk.2.1 (cells_rd (rd_cells hRl.2.1 (off_all (new_cons (newKey hb21) (new_cons hk2 (new_cons (newKey hb19) (new_cons (hN _ (.head _)) (new_cons (hN _ (.tail _ (.head _))) (new_cons (hN _ (.tail _ (.tail _ (.head _)))) (new_cons (hN _ (.tail _ (.tail _ (.tail _ (.head _))))) (new_cons (newKey hb6) hT1)))))))))) g1) (cells_rd (rd_cells hkl.1 (off_all (new_cons (newKey hb21) (new_cons hk2 (new_cons (newKey hb19) (new_cons (hN _ (.head _)) (new_cons (hN _ (.tail _ (.head _))) (new_cons (hN _ (.tail _ (.tail _ (.head _)))) (new_cons (hN _ (.tail _ (.tail _ (.tail _ (.head _))))) (new_cons (newKey hb6) hT1)))))))))) g1) hkk.1 hkk.2.1 hkk.2.2 (cells_rd (rd_cells hkl.2.1 (off_all (new_cons (newKey hb21) (new_cons hk2 (new_cons (newKey hb19) (new_cons (hN _ (.head _)) (new_cons (hN _ (.tail _ (.head _))) (new_cons (hN _ (.tail _ (.tail _ (.head _)))) (new_cons (hN _ (.tail _ (.tail _ (.tail _ (.head _))))) (new_cons (newKey hb6) hT1)))))))))) g1) (fun p hpm => ⟨cells_rd (rd_cells (hkl.2.2 p hpm).1 (off_all (new_cons (newKey hb21) (new_cons hk2 (new_cons (newKey hb19) (new_cons (hN _ (.head _)) (new_cons (hN _ (.tail _ (.head _))) (new_cons (hN _ (.tail _ (.tail _ (.head _)))) (new_cons (hN _ (.tail _ (.tail _ (.tail _ (.head _))))) (new_cons (newKey hb6) hT1)))))))))) g1, (hkl.2.2 p hpm).2⟩)) ?_)
                  first | refine wl_g rfl rfl rfl rfl (qt_p tbok rfl) ?_ | refine wl_g rfl rfl rfl rfl (qt_neqn tbok rfl rfl rfl) ?_ | refine wl_skip rfl rfl rfl rfl rfl ?_
                  refine wl_as (v' := .c (.bool false)) (congrArg (fun b => V.c (C.bool (!b))) (decide_eq_true rfl)) ?_
                  first | refine wl_g rfl rfl rfl rfl (qt_p tbok rfl) ?_ | refine wl_skip rfl rfl rfl rfl rfl ?_
                  refine wl_q rfl rfl rfl (qt_p tbok rfl) ?_
                  refine wl_done ?_
                  refine nk_code ?_
                  refine wc_no rfl ?_
                  refine wc_skip ?_
                  refine nk_code ?_
                  refine wc_region ?_
                  refine wl_q rfl rfl rfl (qt_p tbok rfl) ?_
                  refine wl_q rfl rfl rfl (qt_p tbok rfl) ?_
                  refine wl_done ?_
                  exact nk_round (i := j) (j + 1) hj' (by show A.length - (j + 1) < A.length - j; omega) ⟨rfl, rfl, rfl, rfl, rfl, trivial⟩ (fun w hw => st_cutN (A := [TB tr z, rob 32 z.l, rob 32 z.t, rob 32 z.r, ⟨.at b6 0, R.cs, 88, (0, 0), []⟩]) (Rm.sub_St (Rm.sub_St (Rm.sub_St hw .here (newKey hb21)) .here hk2) .here (newKey hb19)) (hT1))
          · refine wc_exit rfl ?_
            refine nk_code ?_
            refine wc_seq ?_
            refine wc_region ?_
            refine wl_q rfl rfl rfl (qt_p tbok rfl) ?_
            refine wl_done ?_
            refine nk_code ?_
            refine wc_ret ?_
            try dsimp only
            exact fin1 rfl (rv_tmp rfl) (fun w' hw => ⟨rfl, hw.all (new_cons (hN _ (.head _)) (new_cons (hN _ (.tail _ (.head _))) (new_cons (hN _ (.tail _ (.tail _ (.head _)))) (new_cons (hN _ (.tail _ (.tail _ (.tail _ (.head _))))) (new_cons (newKey hb6) new_nil)))))⟩)
end Go.Proofs.Ytjhmcmadleabjaa
