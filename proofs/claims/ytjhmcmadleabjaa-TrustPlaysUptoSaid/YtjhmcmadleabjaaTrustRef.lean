/- hallmarkref17 New, Update and Check say what package trust says; what is asked of a trust. -/
import Derived.Test.YtjhmcmadleabjaaTrustMore
set_option linter.unusedVariables false
set_option maxRecDepth 100000
namespace Go.Proofs.Ytjhmcmadleabjaa
open Go Go.Hw Go.Proofs
theorem newR_c {w : World} {y : RL} {M : List (Mk × Os)} {la : Ad} {lc : Nat} (hk : y.ok) (hl : y.lies w) (hM : ∀ p ∈ M, p.1.ok) (hMl : M.length ≤ 1073741824) (hlm : Cells w la (M.flatMap mrow)) (hp : ∀ p ∈ M, Mk.lies w p) :
    CallsV Try.prog 57 [.agg y.cs, .c (.slc la M.length lc)] w fun en w' => en = .returned (V.c (.i64 (nwE y.x (M.map (·.1))))).den ∧ St w [] w' := by
  have hel := encR_len' hk
  refine calls_in (tb := tb) (fn := Try.f57) Try.func57 rfl rfl rfl [(0, .agg y.cs), (1, .c (.slc la M.length lc))] rfl [] (St.refl _) ?_
  refine wc_seq ?_
  refine wc_region ?_
  refine wl_ef rfl (ef_box rfl rfl rfl (fun b hb => ?_))
  refine wl_q rfl rfl rfl (qt_p tbok rfl) ?_
  refine wl_done ?_
  refine nk_code ?_
  refine wc_seq ?_
  refine wc_region ?_
  refine wl_q rfl rfl rfl (qt_load_ag (l := y.cs) tbok rfl rfl rfl rfl (rs_lk .here at0)) ?_
  refine wl_ef rfl (ef_fresh (b := fun z : Os => ob (encR y.x) z) (I := fun z : Os => Oi (encR y.x) z) (v := fun z : Os => .t2 (.c (.slc z.1 (encR y.x).length z.2.1)) (.c (.i64 (encE y.x)))) (by kernel_rfl) rfl rfl (fun w1 g1 => by exact encode2_c hk (hl.up (fun ad => off_new (newKey hb) off_nil) g1)) (fun e1 he1 he1k => ?_))
  refine wl_q rfl rfl rfl (qt_p tbok rfl) ?_
  refine wl_q rfl rfl rfl (qt_p tbok rfl) ?_
  refine wl_q rfl rfl rfl (qt_p tbok rfl) ?_
  refine wl_q rfl rfl rfl (qt_p tbok rfl) ?_
  refine wl_q rfl rfl rfl (qt_p tbok rfl) ?_
  refine wl_done ?_
  refine nk_code ?_
  refine wc_seq ?_
  refine wc_seq ?_
  refine wc_region ?_
  refine wl_q rfl rfl rfl (qt_p tbok rfl) ?_
  first | refine wl_q rfl rfl rfl (qt_p tbok rfl) ?_ | refine wl_q rfl rfl rfl (qt_neqn tbok rfl rfl rfl) ?_
  refine wl_done ?_
  refine nk_code ?_
  refine wc_cond rfl (fun h13 => ?_) (fun h13 => ?_)
  · have hr : rootB y.x = false := (by by_cases hh : rootB y.x = true; (rw [encE_0 hh] at h13; exact absurd h13 (by decide)); exact (Bool.not_eq_true _).mp hh)
    refine wc_seq ?_
    refine wc_region ?_
    refine wl_q rfl rfl rfl (qt_p tbok rfl) ?_
    refine wl_done ?_
    refine nk_code ?_
    refine wc_ret ?_
    try dsimp only
    exact fin1 rfl (rv_tmp rfl) (fun w' hw => ⟨by unfold nwE; rw [hr]; rfl, hw.all (new_cons he1k (new_cons (newKey hb) new_nil))⟩)
  · have hr : rootB y.x = true := (by by_cases hh : rootB y.x = true; exact hh; (rw [encE_1 hh] at h13; exact absurd h13 (by decide)))
    refine wc_skip ?_
    refine nk_code ?_
    refine wc_seq ?_
    refine wc_seq ?_
    refine wc_region ?_
    refine wl_q rfl rfl rfl (qt_p tbok rfl) ?_
    refine wl_q rfl rfl rfl (qt_load_ag (l := rrow y.r) tbok rfl rfl rfl rfl (rs_lk (.there .here) (rl_r y))) ?_
    refine wl_q rfl rfl rfl (qt_p tbok rfl) ?_
    refine wl_q rfl rfl rfl (qt_p tbok rfl) ?_
    refine wl_ef rfl (ef_pure (v := .c (.bool (meetsB y.r.1.n y.r.1.K (encR y.x) (M.map (·.1))))) (by kernel_rfl) rfl rfl ((fun w1 g1 => by exact meets2_c (n := y.r.1.n) (K := y.r.1.K) (M := M) (msg := encR y.x) (pa := y.r.2.1) (pc := y.r.2.2.1) (ma := e1.1) (mc := e1.2.1) (la := la) (lc := lc) hk.1.1 hk.1.2 (cells_rd (rd_cells hl.1 (off_new he1k (off_new (newKey hb) off_nil))) g1) (cells_own g1 .here) (by omega) hM hMl (cells_rd (rd_cells hlm (off_new he1k (off_new (newKey hb) off_nil))) g1) (fun p hpm => ⟨cells_rd (rd_cells (hp p hpm).1 (off_new he1k (off_new (newKey hb) off_nil))) g1, (hp p hpm).2⟩))) ?_)
    refine wl_q rfl rfl rfl (qt_p tbok rfl) ?_
    refine wl_done ?_
    refine nk_code ?_
    refine wc_cond rfl (fun h19 => ?_) (fun h19 => ?_)
    · refine wc_seq ?_
      refine wc_region ?_
      refine wl_q rfl rfl rfl (qt_p tbok rfl) ?_
      refine wl_done ?_
      refine nk_code ?_
      refine wc_ret ?_
      try dsimp only
      exact fin1 rfl (rv_tmp rfl) (fun w' hw => ⟨by rw [Bool.not_eq_true', encR_B hr] at h19; have h19' : meetsB y.x.r.n y.x.r.K (encB y.x) (M.map (·.1)) = false := h19; unfold nwE; rw [if_pos hr, h19']; rfl, hw.all (new_cons he1k (new_cons (newKey hb) new_nil))⟩)
    · refine wc_skip ?_
      refine nk_code ?_
      refine wc_seq ?_
      refine wc_region ?_
      refine wl_q rfl rfl rfl (qt_p tbok rfl) ?_
      refine wl_done ?_
      refine nk_code ?_
      refine wc_ret ?_
      try dsimp only
      exact fin1 rfl (rv_tmp rfl) (fun w' hw => ⟨by rw [Bool.not_eq_false', encR_B hr] at h19; rw [nw_ok (x := y.x) hr h19], hw.all (new_cons he1k (new_cons (newKey hb) new_nil))⟩)

theorem updR_c {w : World} {z y : RL} {M : List (Mk × Os)} {la : Ad} {lc : Nat} (hzk : z.ok) (hzl : z.lies w) (hk : y.ok) (hl : y.lies w) (hM : ∀ p ∈ M, p.1.ok) (hMl : M.length ≤ 1073741824) (hlm : Cells w la (M.flatMap mrow)) (hp : ∀ p ∈ M, Mk.lies w p) :
    CallsV Try.prog 58 [.agg z.cs, .agg y.cs, .c (.slc la M.length lc)] w fun en w' => en = .returned (V.c (.i64 (tuE z.x y.x (M.map (·.1))))).den ∧ St w [] w' := by
  have hel := encR_len' hk
  refine calls_in (tb := tb) (fn := Try.f58) Try.func58 rfl rfl rfl [(0, .agg z.cs), (1, .agg y.cs), (2, .c (.slc la M.length lc))] rfl [] (St.refl _) ?_
  refine wc_seq ?_
  refine wc_region ?_
  refine wl_ef rfl (ef_box rfl rfl rfl (fun b3 hb3 => ?_))
  refine wl_ef rfl (ef_box rfl rfl rfl (fun b hb => ?_))
  refine wl_q rfl rfl rfl (qt_p tbok rfl) ?_
  refine wl_done ?_
  refine nk_code ?_
  refine wc_seq ?_
  refine wc_region ?_
  refine wl_q rfl rfl rfl (qt_load_ag (l := y.cs) tbok rfl rfl rfl rfl (rs_lk .here at0)) ?_
  refine wl_ef rfl (ef_fresh (b := fun z : Os => ob (encR y.x) z) (I := fun z : Os => Oi (encR y.x) z) (v := fun z : Os => .t2 (.c (.slc z.1 (encR y.x).length z.2.1)) (.c (.i64 (encE y.x)))) (by kernel_rfl) rfl rfl (fun w1 g1 => by exact encode2_c hk (hl.up (fun ad => off_new (newKey hb) (off_new (newKey hb3) off_nil)) g1)) (fun e1 he1 he1k => ?_))
  refine wl_q rfl rfl rfl (qt_p tbok rfl) ?_
  refine wl_q rfl rfl rfl (qt_p tbok rfl) ?_
  refine wl_q rfl rfl rfl (qt_p tbok rfl) ?_
  refine wl_q rfl rfl rfl (qt_p tbok rfl) ?_
  refine wl_q rfl rfl rfl (qt_p tbok rfl) ?_
  refine wl_done ?_
  refine nk_code ?_
  refine wc_seq ?_
  refine wc_seq ?_
  refine wc_region ?_
  refine wl_q rfl rfl rfl (qt_p tbok rfl) ?_
  first | refine wl_q rfl rfl rfl (qt_p tbok rfl) ?_ | refine wl_q rfl rfl rfl (qt_neqn tbok rfl rfl rfl) ?_
  refine wl_done ?_
  refine nk_code ?_
  refine wc_cond rfl (fun h15 => ?_) (fun h15 => ?_)
  · have hr : rootB y.x = false := (by by_cases hh : rootB y.x = true; (rw [encE_0 hh] at h15; exact absurd h15 (by decide)); exact (Bool.not_eq_true _).mp hh)
    refine wc_seq ?_
    refine wc_region ?_
    refine wl_q rfl rfl rfl (qt_p tbok rfl) ?_
    refine wl_done ?_
    refine nk_code ?_
    refine wc_ret ?_
    try dsimp only
    exact fin1 rfl (rv_tmp rfl) (fun w' hw => ⟨by rw [up_bad hr], hw.all (new_cons he1k (new_cons (newKey hb) (new_cons (newKey hb3) new_nil)))⟩)
  · have hr : rootB y.x = true := (by by_cases hh : rootB y.x = true; exact hh; (rw [encE_1 hh] at h15; exact absurd h15 (by decide)))
    have hyv : 1 ≤ y.v ∧ y.v ≤ 1099511627776 := rootB_v hr
    refine wc_skip ?_
    refine nk_code ?_
    refine wc_seq ?_
    refine wc_seq ?_
    refine wc_region ?_
    refine wl_q rfl rfl rfl (qt_p tbok rfl) ?_
    refine wl_q rfl rfl rfl (qt_load (c := .i64 y.v) tbok rfl rfl rfl (rc_lk (.there .here) rfl)) ?_
    refine wl_q rfl rfl rfl (qt_p tbok rfl) ?_
    refine wl_q rfl rfl rfl (qt_p tbok rfl) ?_
    refine wl_q rfl rfl rfl (qt_load (c := .i64 z.v) tbok rfl rfl rfl (rc_lk (.there (.there .here)) rfl)) ?_
    first | refine wl_q rfl rfl rfl (qt_p tbok rfl) ?_ | refine wl_q rfl rfl rfl (qt_neqn tbok rfl rfl rfl) ?_
    refine wl_done ?_
    refine nk_code ?_
    refine wc_cond rfl (fun h21 => ?_) (fun h21 => ?_)
    · have hver : y.v ≠ z.v + 1 := (by have h0 : y.v - 1 ≠ z.v := (by simpa using h21); omega)
      refine wc_seq ?_
      refine wc_region ?_
      refine wl_q rfl rfl rfl (qt_p tbok rfl) ?_
      refine wl_done ?_
      refine nk_code ?_
      refine wc_ret ?_
      try dsimp only
      exact fin1 rfl (rv_tmp rfl) (fun w' hw => ⟨by rw [up_ver (o := z.x) (x := y.x) hr hver], hw.all (new_cons he1k (new_cons (newKey hb) (new_cons (newKey hb3) new_nil)))⟩)
    · have hver : y.v = z.v + 1 := (by have h0 : y.v - 1 = z.v := (by simpa using h21); omega)
      refine wc_skip ?_
      refine nk_code ?_
      refine wc_seq ?_
      refine wc_seq ?_
      refine wc_region ?_
      refine wl_q rfl rfl rfl (qt_p tbok rfl) ?_
      refine wl_q rfl rfl rfl (qt_load_ag (l := rrow z.r) tbok rfl rfl rfl rfl (rs_lk (.there (.there .here)) (rl_r z))) ?_
      refine wl_q rfl rfl rfl (qt_p tbok rfl) ?_
      refine wl_q rfl rfl rfl (qt_p tbok rfl) ?_
      refine wl_ef rfl (ef_pure (v := .c (.bool (meetsB z.r.1.n z.r.1.K (encR y.x) (M.map (·.1))))) (by kernel_rfl) rfl rfl ((fun w1 g1 => by exact meets2_c (n := z.r.1.n) (K := z.r.1.K) (M := M) (msg := encR y.x) (pa := z.r.2.1) (pc := z.r.2.2.1) (ma := e1.1) (mc := e1.2.1) (la := la) (lc := lc) hzk.1.1 hzk.1.2 (cells_rd (rd_cells hzl.1 (off_new he1k (off_new (newKey hb) (off_new (newKey hb3) off_nil)))) g1) (cells_own g1 .here) (by omega) hM hMl (cells_rd (rd_cells hlm (off_new he1k (off_new (newKey hb) (off_new (newKey hb3) off_nil)))) g1) (fun p hpm => ⟨cells_rd (rd_cells (hp p hpm).1 (off_new he1k (off_new (newKey hb) (off_new (newKey hb3) off_nil)))) g1, (hp p hpm).2⟩))) ?_)
      refine wl_bool (fun hm => ?_) (fun hm => ?_)
      · refine wl_q rfl rfl rfl (qt_p tbok rfl) ?_
        refine wl_q rfl rfl rfl (qt_p tbok rfl) ?_
        first | refine wl_g rfl rfl rfl rfl (qt_p tbok rfl) ?_ | refine wl_skip rfl rfl rfl rfl rfl ?_
        refine wl_g rfl rfl rfl rfl (qt_load_ag (l := rrow y.r) tbok rfl rfl rfl rfl (rs_lk (.there .here) (rl_r y))) ?_
        first | refine wl_g rfl rfl rfl rfl (qt_p tbok rfl) ?_ | refine wl_skip rfl rfl rfl rfl rfl ?_
        first | refine wl_g rfl rfl rfl rfl (qt_p tbok rfl) ?_ | refine wl_skip rfl rfl rfl rfl rfl ?_
        refine wl_gd rfl rfl (ef_pure (v := .c (.bool (meetsB y.r.1.n y.r.1.K (encR y.x) (M.map (·.1))))) (by kernel_rfl) rfl rfl ((fun w1 g1 => by exact meets2_c (n := y.r.1.n) (K := y.r.1.K) (M := M) (msg := encR y.x) (pa := y.r.2.1) (pc := y.r.2.2.1) (ma := e1.1) (mc := e1.2.1) (la := la) (lc := lc) hk.1.1 hk.1.2 (cells_rd (rd_cells hl.1 (off_new he1k (off_new (newKey hb) (off_new (newKey hb3) off_nil)))) g1) (cells_own g1 .here) (by omega) hM hMl (cells_rd (rd_cells hlm (off_new he1k (off_new (newKey hb) (off_new (newKey hb3) off_nil)))) g1) (fun p hpm => ⟨cells_rd (rd_cells (hp p hpm).1 (off_new he1k (off_new (newKey hb) (off_new (newKey hb3) off_nil)))) g1, (hp p hpm).2⟩))) ?_)
        refine wl_bool (fun hn => ?_) (fun hn => ?_)
        · first | refine wl_g rfl rfl rfl rfl (qt_p tbok rfl) ?_ | refine wl_skip rfl rfl rfl rfl rfl ?_
          refine wl_q rfl rfl rfl (qt_p tbok rfl) ?_
          refine wl_done ?_
          refine nk_code ?_
          refine wc_no rfl ?_
          refine wc_skip ?_
          refine nk_code ?_
          refine wc_seq ?_
          refine wc_region ?_
          refine wl_q rfl rfl rfl (qt_p tbok rfl) ?_
          refine wl_done ?_
          refine nk_code ?_
          refine wc_ret ?_
          try dsimp only
          exact fin1 rfl (rv_tmp rfl) (fun w' hw => ⟨by rw [encR_B hr] at hm hn; rw [up_ok (o := z.x) (x := y.x) hr hver hm hn], hw.all (new_cons he1k (new_cons (newKey hb) (new_cons (newKey hb3) new_nil)))⟩)
        · first | refine wl_g rfl rfl rfl rfl (qt_p tbok rfl) ?_ | refine wl_skip rfl rfl rfl rfl rfl ?_
          refine wl_q rfl rfl rfl (qt_p tbok rfl) ?_
          refine wl_done ?_
          refine nk_code ?_
          refine wc_yes rfl ?_
          refine wc_seq ?_
          refine wc_region ?_
          refine wl_q rfl rfl rfl (qt_p tbok rfl) ?_
          refine wl_done ?_
          refine nk_code ?_
          refine wc_ret ?_
          try dsimp only
          exact fin1 rfl (rv_tmp rfl) (fun w' hw => ⟨by rw [encR_B hr] at hm hn; rw [up_new (o := z.x) (x := y.x) hr hver hm hn], hw.all (new_cons he1k (new_cons (newKey hb) (new_cons (newKey hb3) new_nil)))⟩)
      · refine wl_q rfl rfl rfl (qt_p tbok rfl) ?_
        refine wl_q rfl rfl rfl (qt_p tbok rfl) ?_
        first | refine wl_g rfl rfl rfl rfl (qt_p tbok rfl) ?_ | refine wl_skip rfl rfl rfl rfl rfl ?_
        first | refine wl_g rfl rfl rfl rfl (qt_l tbok rfl rfl rfl) ?_ | refine wl_g rfl rfl rfl rfl (qt_la tbok rfl rfl rfl) ?_ | refine wl_skip rfl rfl rfl rfl rfl ?_
        first | refine wl_g rfl rfl rfl rfl (qt_p tbok rfl) ?_ | refine wl_skip rfl rfl rfl rfl rfl ?_
        first | refine wl_g rfl rfl rfl rfl (qt_p tbok rfl) ?_ | refine wl_skip rfl rfl rfl rfl rfl ?_
        first | refine wl_g rfl rfl rfl rfl (qt_len tbok rfl rfl) ?_ | refine wl_skip rfl rfl rfl rfl rfl ?_
        first | refine wl_g rfl rfl rfl rfl (qt_p tbok rfl) ?_ | refine wl_skip rfl rfl rfl rfl rfl ?_
        refine wl_q rfl rfl rfl (qt_p tbok rfl) ?_
        refine wl_done ?_
        refine nk_code ?_
        refine wc_yes rfl ?_
        refine wc_seq ?_
        refine wc_region ?_
        refine wl_q rfl rfl rfl (qt_p tbok rfl) ?_
        refine wl_done ?_
        refine nk_code ?_
        refine wc_ret ?_
        try dsimp only
        exact fin1 rfl (rv_tmp rfl) (fun w' hw => ⟨by rw [encR_B hr] at hm; rw [up_old (o := z.x) (x := y.x) hr hver hm], hw.all (new_cons he1k (new_cons (newKey hb) (new_cons (newKey hb3) new_nil)))⟩)

theorem checkR_c {w : World} {u : Int} {r : Ro × Os} {M : List (Mk × Os)} {msg : List UInt8} {ma la : Ad} {mc lc : Nat} {now : Int} (hk : r.1.ok) (hl : roL w r) (hm : Cells w ma (bc msg)) (hmax : msg.length ≤ 1073741000) (hM : ∀ p ∈ M, p.1.ok) (hMl : M.length ≤ 1073741824) (hlm : Cells w la (M.flatMap mrow)) (hp : ∀ p ∈ M, Mk.lies w p) :
    CallsV Try.prog 61 [.c (.i64 u), .agg (rrow r), .c (.slc ma msg.length mc), .c (.slc la M.length lc), .c (.i64 now)] w fun en w' => en = .returned (V.c (.i64 (ckE u r.1 msg (M.map (·.1)) now))).den ∧ St w [] w' := by
  refine calls_in (tb := tb) (fn := Try.f61) Try.func61 rfl rfl rfl [(0, .c (.i64 u)), (1, .agg (rrow r)), (2, .c (.slc ma msg.length mc)), (3, .c (.slc la M.length lc)), (4, .c (.i64 now))] rfl [] (St.refl _) ?_
  refine wc_seq ?_
  refine wc_region ?_
  refine wl_ef rfl (ef_box rfl rfl rfl (fun b hb => ?_))
  refine wl_q rfl rfl rfl (qt_p tbok rfl) ?_
  refine wl_done ?_
  refine nk_code ?_
  refine wc_seq ?_
  refine wc_seq ?_
  refine wc_region ?_
  refine wl_q rfl rfl rfl (qt_p tbok rfl) ?_
  refine wl_q rfl rfl rfl (qt_p tbok rfl) ?_
  refine wl_q rfl rfl rfl (qt_p tbok rfl) ?_
  refine wl_done ?_
  refine nk_code ?_
  refine wc_cond rfl (fun h13 => ?_) (fun h13 => ?_)
  · refine wc_seq ?_
    refine wc_region ?_
    refine wl_q rfl rfl rfl (qt_p tbok rfl) ?_
    refine wl_done ?_
    refine nk_code ?_
    refine wc_ret ?_
    try dsimp only
    exact fin1 rfl (rv_tmp rfl) (fun w' hw => ⟨by unfold ckE; rw [if_pos (of_decide_eq_true h13)], hw.tail (newKey hb)⟩)
  · refine wc_skip ?_
    refine nk_code ?_
    refine wc_seq ?_
    refine wc_seq ?_
    refine wc_region ?_
    refine wl_q rfl rfl rfl (qt_load_ag (l := rrow r) tbok rfl rfl rfl rfl (rs_lk .here at0)) ?_
    refine wl_q rfl rfl rfl (qt_p tbok rfl) ?_
    refine wl_q rfl rfl rfl (qt_p tbok rfl) ?_
    refine wl_ef rfl (ef_pure (v := .c (.bool (meetsB r.1.n r.1.K msg (M.map (·.1))))) (by kernel_rfl) rfl rfl ((fun w1 g1 => by exact meets2_c (n := r.1.n) (K := r.1.K) (M := M) (msg := msg) (pa := r.2.1) (pc := r.2.2.1) (ma := ma) (mc := mc) (la := la) (lc := lc) hk.1 hk.2 (cells_rd (rd_cells hl (off_new (newKey hb) off_nil)) g1) (cells_rd (rd_cells hm (off_new (newKey hb) off_nil)) g1) hmax hM hMl (cells_rd (rd_cells hlm (off_new (newKey hb) off_nil)) g1) (fun p hpm => ⟨cells_rd (rd_cells (hp p hpm).1 (off_new (newKey hb) off_nil)) g1, (hp p hpm).2⟩))) ?_)
    refine wl_q rfl rfl rfl (qt_p tbok rfl) ?_
    refine wl_done ?_
    refine nk_code ?_
    refine wc_cond rfl (fun h18 => ?_) (fun h18 => ?_)
    · refine wc_seq ?_
      refine wc_region ?_
      refine wl_q rfl rfl rfl (qt_p tbok rfl) ?_
      refine wl_done ?_
      refine nk_code ?_
      refine wc_ret ?_
      try dsimp only
      exact fin1 rfl (rv_tmp rfl) (fun w' hw => ⟨by rw [Bool.not_eq_true'] at h18; unfold ckE; rw [if_neg (of_decide_eq_false h13), h18]; rfl, hw.tail (newKey hb)⟩)
    · refine wc_skip ?_
      refine nk_code ?_
      refine wc_seq ?_
      refine wc_region ?_
      refine wl_q rfl rfl rfl (qt_p tbok rfl) ?_
      refine wl_done ?_
      refine nk_code ?_
      refine wc_ret ?_
      try dsimp only
      exact fin1 rfl (rv_tmp rfl) (fun w' hw => ⟨by rw [Bool.not_eq_false'] at h18; unfold ckE; rw [if_neg (of_decide_eq_false h13), h18]; rfl, hw.tail (newKey hb)⟩)

/-- What is asked: bytes, marks, a time, and whether of the head. -/
structure Ask where
  m : List UInt8
  ma : Ad
  mc : Nat
  M : List (Mk × Os)
  la : Ad
  lc : Nat
  now : Int
  hd : Bool
instance : Inhabited Ask := ⟨⟨[], .nil, 0, [], .nil, 0, 0, false⟩⟩
abbrev Ask.row (k : Ask) : List C := [.slc k.ma k.m.length k.mc, .slc k.la k.M.length k.lc, .i64 k.now, .bool k.hd]
def Ask.ok (k : Ask) : Prop := k.m.length ≤ 1073741000 ∧ (∀ p ∈ k.M, p.1.ok) ∧ k.M.length ≤ 1073741824
def Ask.lies (w : World) (k : Ask) : Prop := Cells w k.ma (bc k.m) ∧ Cells w k.la (k.M.flatMap mrow) ∧ ∀ p ∈ k.M, Mk.lies w p
theorem asks_row {A : List Ask} : ∀ k ∈ A, k.row.length = 4 := fun _ _ => rfl
def z4a : List C := [.slc .nil 0 0, .slc .nil 0 0, .i64 0, .bool false]
theorem zero118 : zeroIs Try.prog 118 (.agg z4a) := by unfold zeroIs; kernel_rfl
end Go.Proofs.Ytjhmcmadleabjaa
