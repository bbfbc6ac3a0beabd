/- package trust: Update, what it answers and what it turns; hallmarklaw17.signers and light; offers. -/
import Derived.Test.YtjhmcmadleabjaaTrustAwake
set_option linter.unusedVariables false
set_option maxRecDepth 100000
namespace Go.Hw
section
variable {X : Cx} {e : Env} {s : Hp} {Q : Exit → Act → World → Prop} {o : Oper} {KK : Env → Hp → Prop}
/-- A block that was there is taken into the list. -/
theorem St.take {w0 w : World} {s : Hp} {b : Blk} (h : St w0 s w) (h0 : St w0 [b] w0) (hn : ∀ p ∈ s, ∀ k, p.key = some k → w0.heap.size ≤ k) : St w0 (b :: s) w := by
  have lt : ∀ k, b.key = some k → k < w0.heap.size := fun k hk => h0.lt b (.head _) k hk
  have ne : ∀ k, b.key = some k → ∀ p ∈ s, p.key ≠ some k := fun k hk p hp e => by
    have h1 := hn p hp k e
    have h2 := lt k hk
    omega
  refine ⟨h.os, h.tape, h.output, h.size, fun k hk hp => h.old k hk fun p hps => hp p (.tail _ hps), fun p hp => ?_, List.pairwise_cons.2 ⟨fun p hp => ?_, h.nodup⟩⟩
  · rcases List.mem_cons.1 hp with rfl | hp
    · exact Blk.lies_of (h0.own p (.head _)) fun k hk => h.old k (lt k hk) (ne k hk)
    · exact h.own p hp
  · unfold apart
    cases hb : b.key with
    | none => exact .inl rfl
    | some k => exact .inr fun e => ne k hb p hp e.symm
theorem ef_take {b : Blk} (h : Ef X Q o e (b :: s) KK) (ht : ∀ w, St X.w0 s w → St X.w0 (b :: s) w) : Ef X Q o e s KK :=
  ⟨fun K hK a w hf hs => h.go K hK a w hf (ht w hs)⟩
/-- The first blocks, where the others are new. -/
theorem st_cutN {w0 w : World} {A T : Hp} (h : St w0 (A ++ T) w) (hT : ∀ p ∈ T, ∀ k, p.key = some k → w0.heap.size ≤ k) : St w0 A w :=
  h.sub (List.sublist_append_left A T) fun p hp hn => by
    rcases List.mem_append.1 hp with hp | hp
    · exact absurd hp hn
    · exact hT p hp
end
end Go.Hw
namespace Go.Proofs.Ytjhmcmadleabjaa
open Go Go.Hw Go.Proofs

theorem rootB_v {x : Rx} (h : rootB x = true) : 1 ≤ x.v ∧ x.v ≤ 1099511627776 := by
  unfold rootB at h
  simp only [Bool.and_eq_true, decide_eq_true_eq] at h
  exact ⟨h.1, h.2.1⟩
/-- What asking a trust to go from a root to another answers. -/
def tuE (old x : Rx) (M : List Mk) : Int := if rootB x = true then (if x.v = old.v + 1 then (if meetsB old.r.n old.r.K (encB x) M = true then (if meetsB x.r.n x.r.K (encB x) M = true then 0 else 161) else 161) else 162) else 160
theorem up_bad {o x : Rx} {M : List Mk} (h : rootB x = false) : tuE o x M = 160 := by unfold tuE; rw [h]; rfl
theorem up_ver {o x : Rx} {M : List Mk} (h : rootB x = true) (hv : x.v ≠ o.v + 1) : tuE o x M = 162 := by unfold tuE; rw [if_pos h, if_neg hv]
theorem up_old {o x : Rx} {M : List Mk} (h : rootB x = true) (hv : x.v = o.v + 1) (hm : meetsB o.r.n o.r.K (encB x) M = false) : tuE o x M = 161 := by unfold tuE; rw [if_pos h, if_pos hv, hm]; rfl
theorem up_new {o x : Rx} {M : List Mk} (h : rootB x = true) (hv : x.v = o.v + 1) (hm : meetsB o.r.n o.r.K (encB x) M = true) (hn : meetsB x.r.n x.r.K (encB x) M = false) : tuE o x M = 161 := by unfold tuE; rw [if_pos h, if_pos hv, hm, hn]; rfl
theorem up_ok {o x : Rx} {M : List Mk} (h : rootB x = true) (hv : x.v = o.v + 1) (hm : meetsB o.r.n o.r.K (encB x) M = true) (hn : meetsB x.r.n x.r.K (encB x) M = true) : tuE o x M = 0 := by unfold tuE; rw [if_pos h, if_pos hv, hm, hn]; rfl
theorem up_yes {o x : Rx} {M : List Mk} (h : tuE o x M = 0) : rootB x = true ∧ x.v = o.v + 1 ∧ meetsB o.r.n o.r.K (encB x) M = true ∧ meetsB x.r.n x.r.K (encB x) M = true := by
  unfold tuE at h
  by_cases h1 : rootB x = true
  · rw [if_pos h1] at h
    by_cases h2 : x.v = o.v + 1
    · rw [if_pos h2] at h
      by_cases h3 : meetsB o.r.n o.r.K (encB x) M = true
      · rw [if_pos h3] at h
        by_cases h4 : meetsB x.r.n x.r.K (encB x) M = true
        · exact ⟨h1, h2, h3, h4⟩
        · rw [if_neg h4] at h; cases h
      · rw [if_neg h3] at h; cases h
    · rw [if_neg h2] at h; cases h
  · rw [if_neg h1] at h; cases h
theorem encE_0 {x : Rx} (h : rootB x = true) : encE x = 0 := by unfold encE; rw [if_pos h]
theorem encE_1 {x : Rx} (h : ¬ rootB x = true) : encE x = 1 := by unfold encE; rw [if_neg h]
theorem encR_B {x : Rx} (h : rootB x = true) : encR x = encB x := by unfold encR; rw [if_pos h]
theorem upd_no_c {w : World} {tr : Nat} {z y : RL} {M : List (Mk × Os)} {la : Ad} {lc : Nat} (hs0 : St w [TB tr z] w) (hzk : z.ok) (hzr : rootB z.x = true) (hzl : z.lies w) (hk : y.ok) (hpl : y.pl) (hl : y.lies w) (hM : ∀ p ∈ M, p.1.ok) (hMl : M.length ≤ 1073741824) (hlm : Cells w la (M.flatMap mrow)) (hp : ∀ p ∈ M, Mk.lies w p) (hno : tuE z.x y.x (M.map (·.1)) ≠ 0) :
    CallsV Try.prog 56 [.c (.ptr (.at tr 0)), .agg y.cs, .c (.slc la M.length lc)] w fun en w' => en = .returned (V.c (.i64 (tuE z.x y.x (M.map (·.1))))).den ∧ St w [] w' := by
  have hel := encR_len' hk
  have ht : Cells w (.at tr 0) z.cs := cells_own hs0 .here
  have hzv : 1 ≤ z.v ∧ z.v ≤ 1099511627776 := rootB_v hzr
  refine calls_in (tb := tb) (fn := Try.f56) Try.func56 rfl rfl rfl [(0, .c (.ptr (.at tr 0))), (1, .agg y.cs), (2, .c (.slc la M.length lc))] rfl [] (St.refl _) ?_
  refine wc_seq ?_
  refine wc_region ?_
  refine wl_ef rfl (ef_box rfl rfl rfl (fun b hb => ?_))
  refine wl_q rfl rfl rfl (qt_p tbok rfl) ?_
  refine wl_done ?_
  refine nk_code ?_
  refine wc_seq ?_
  refine wc_seq ?_
  refine wc_region ?_
  refine wl_q rfl rfl rfl (qt_p tbok rfl) ?_
  first | refine wl_q rfl rfl rfl (qt_p tbok rfl) ?_ | refine wl_q rfl rfl rfl (qt_eqn tbok rfl rfl rfl) ?_
  refine wl_done ?_
  refine nk_code ?_
  refine wc_no rfl ?_
  refine wc_skip ?_
  refine nk_code ?_
  refine wc_seq ?_
  refine wc_region ?_
  refine wl_q rfl rfl rfl (qt_load_ag (l := y.cs) tbok rfl rfl rfl rfl (rs_lk .here at0)) ?_
  refine wl_ef rfl (ef_fresh (b := fun z : Os => ob (encR y.x) z) (I := fun z : Os => Oi (encR y.x) z) (v := fun z : Os => .t2 (.c (.slc z.1 (encR y.x).length z.2.1)) (.c (.i64 (encE y.x)))) (by kernel_rfl) rfl rfl (fun w1 g1 => by exact encode_c hk (hl.up (fun ad => off_new (newKey hb) off_nil) g1)) (fun e1 he1 he1k => ?_))
  refine wl_q rfl rfl rfl (qt_p tbok rfl) ?_
  refine wl_q rfl rfl rfl (qt_p tbok rfl) ?_
  refine wl_q rfl rfl rfl (qt_p tbok rfl) ?_
  refine wl_q rfl rfl rfl (qt_p tbok rfl) ?_
  refine wl_q rfl rfl rfl (qt_p tbok rfl) ?_
  refine wl_done ?_
  refine nk_code ?_
  refine wc_seq ?_
  refine wc_block ?_
  refine wc_seq ?_
  refine wc_region ?_
  refine wl_q rfl rfl rfl (qt_p tbok rfl) ?_
  first | refine wl_q rfl rfl rfl (qt_p tbok rfl) ?_ | refine wl_q rfl rfl rfl (qt_neqn tbok rfl rfl rfl) ?_
  refine wl_q rfl rfl rfl (qt_p tbok rfl) ?_
  refine wl_done ?_
  refine nk_code ?_
  refine wc_cond rfl (fun h16 => ?_) (fun h16 => ?_)
  · have hr : rootB y.x = false := (by by_cases hh : rootB y.x = true; (rw [encE_0 hh] at h16; exact absurd h16 (by decide)); exact (Bool.not_eq_true _).mp hh)
    refine wc_seq ?_
    refine wc_region ?_
    refine wl_q rfl rfl rfl (qt_p tbok rfl) ?_
    refine wl_done ?_
    refine nk_code ?_
    refine wc_ret ?_
    try dsimp only
    exact fin1 rfl (rv_tmp rfl) (fun w' hw => ⟨by rw [up_bad hr], hw.all (new_cons he1k (new_cons (newKey hb) new_nil))⟩)
  · have hr : rootB y.x = true := (by by_cases hh : rootB y.x = true; exact hh; (rw [encE_1 hh] at h16; exact absurd h16 (by decide)))
    refine wc_seq ?_
    refine wc_quiet follows (by kernel_rfl) ?_
    refine wq_q rfl rfl rfl (qt_p tbok rfl) ?_
    refine wq_q rfl rfl rfl (qt_load (c := .i64 y.v) tbok rfl rfl rfl (rc_lk (.there .here) rfl)) ?_
    refine wq_q rfl rfl rfl (qt_p tbok rfl) ?_
    refine wq_q rfl rfl rfl (qt_p tbok rfl) ?_
    refine wq_q rfl rfl rfl (qt_p tbok rfl) ?_
    refine wq_q rfl rfl rfl (qt_p tbok rfl) ?_
    refine wq_q rfl rfl rfl (qt_load (c := .i64 z.v) tbok rfl rfl rfl ((rs_cells ht (off_new he1k (off_new (newKey hb) off_nil))).rc (i := 0) rfl rfl)) ?_
    refine wq_q rfl rfl rfl (qt_p tbok rfl) ?_
    first | refine wq_q rfl rfl rfl (qt_p tbok rfl) ?_ | refine wq_q rfl rfl rfl (qt_neqn tbok rfl rfl rfl) ?_
    refine wq_q rfl rfl rfl (qt_p tbok rfl) ?_
    refine wq_done ?_
    refine wl_done ?_
    refine nk_code ?_
    refine wc_cond rfl (fun h19 => ?_) (fun h19 => ?_)
    · refine wc_seq ?_
      refine wc_region ?_
      refine wl_q rfl rfl rfl (qt_p tbok rfl) ?_
      refine wl_done ?_
      refine nk_code ?_
      refine wc_ret ?_
      try dsimp only
      exact fin1 rfl (rv_tmp rfl) (fun w' hw => ⟨by rw [up_ver (o := z.x) (x := y.x) hr (by simpa using h19 : y.v ≠ z.v + 1)], hw.all (new_cons he1k (new_cons (newKey hb) new_nil))⟩)
    · have hver : y.v = z.v + 1 := (by simpa using h19)
      refine wc_seq ?_
      refine wc_region ?_
      refine wl_q rfl rfl rfl (qt_p tbok rfl) ?_
      refine wl_q rfl rfl rfl (qt_p tbok rfl) ?_
      refine wl_q rfl rfl rfl (qt_p tbok rfl) ?_
      refine wl_q rfl rfl rfl (qt_p tbok rfl) ?_
      refine wl_q rfl rfl rfl (qt_load_ag (l := rrow z.r) tbok rfl rfl rfl rfl ((rs_cells ht (off_new he1k (off_new (newKey hb) off_nil))).part (k := 2) (rl_r z) rfl)) ?_
      refine wl_q rfl rfl rfl (qt_p tbok rfl) ?_
      refine wl_q rfl rfl rfl (qt_p tbok rfl) ?_
      refine wl_ef rfl (ef_pure (v := .c (.bool (meetsB z.r.1.n z.r.1.K (encR y.x) (M.map (·.1))))) (by kernel_rfl) rfl rfl ((fun w1 g1 => by exact meets_c (n := z.r.1.n) (K := z.r.1.K) (M := M) (msg := encR y.x) (pa := z.r.2.1) (pc := z.r.2.2.1) (ma := e1.1) (mc := e1.2.1) (la := la) (lc := lc) hzk.1.1 hzk.1.2 (cells_rd (rd_cells hzl.1 (off_new he1k (off_new (newKey hb) off_nil))) g1) (cells_own g1 .here) (by omega) hM hMl (cells_rd (rd_cells hlm (off_new he1k (off_new (newKey hb) off_nil))) g1) (fun p hpm => ⟨cells_rd (rd_cells (hp p hpm).1 (off_new he1k (off_new (newKey hb) off_nil))) g1, (hp p hpm).2⟩))) ?_)
      refine wl_bool (fun hm => ?_) (fun hm => ?_)
      · refine wl_q rfl rfl rfl (qt_p tbok rfl) ?_
        refine wl_q rfl rfl rfl (qt_p tbok rfl) ?_
        first | refine wl_g rfl rfl rfl rfl (qt_p tbok rfl) ?_ | refine wl_skip rfl rfl rfl rfl rfl ?_
        refine wl_g rfl rfl rfl rfl (qt_load_ag (l := rrow y.r) tbok rfl rfl rfl rfl (rs_lk (.there .here) (rl_r y))) ?_
        first | refine wl_g rfl rfl rfl rfl (qt_p tbok rfl) ?_ | refine wl_skip rfl rfl rfl rfl rfl ?_
        first | refine wl_g rfl rfl rfl rfl (qt_p tbok rfl) ?_ | refine wl_skip rfl rfl rfl rfl rfl ?_
        refine wl_gd rfl rfl (ef_pure (v := .c (.bool false)) (by kernel_rfl) rfl rfl (fun w1 g1 => by have hn : meetsB y.r.1.n y.r.1.K (encR y.x) (M.map (·.1)) = false := (by rw [encR_B hr]; rw [encR_B hr] at hm; exact (Bool.not_eq_true _).mp (fun hh => hno (up_ok (o := z.x) (x := y.x) hr hver hm hh))); have := ((fun w1 g1 => by exact meets_c (n := y.r.1.n) (K := y.r.1.K) (M := M) (msg := encR y.x) (pa := y.r.2.1) (pc := y.r.2.2.1) (ma := e1.1) (mc := e1.2.1) (la := la) (lc := lc) hk.1.1 hk.1.2 (cells_rd (rd_cells hl.1 (off_new he1k (off_new (newKey hb) off_nil))) g1) (cells_own g1 .here) (by omega) hM hMl (cells_rd (rd_cells hlm (off_new he1k (off_new (newKey hb) off_nil))) g1) (fun p hpm => ⟨cells_rd (rd_cells (hp p hpm).1 (off_new he1k (off_new (newKey hb) off_nil))) g1, (hp p hpm).2⟩))) w1 g1; rwa [hn] at this) ?_)
        first | refine wl_g rfl rfl rfl rfl (qt_p tbok rfl) ?_ | refine wl_skip rfl rfl rfl rfl rfl ?_
        refine wl_q rfl rfl rfl (qt_p tbok rfl) ?_
        refine wl_q rfl rfl rfl (qt_p tbok rfl) ?_
        refine wl_done ?_
        refine nk_code ?_
        refine wc_yes rfl ?_
        refine wc_seq ?_
        refine wc_region ?_
        refine wl_q rfl rfl rfl (qt_p tbok rfl) ?_
        refine wl_done ?_
        refine nk_code ?_
        refine wc_ret ?_
        try dsimp only
        exact fin1 rfl (rv_tmp rfl) (fun w' hw => ⟨by rw [up_new (o := z.x) (x := y.x) hr hver (by rw [encR_B hr] at hm; exact hm) ((Bool.not_eq_true _).mp (fun hh => hno (up_ok (o := z.x) (x := y.x) hr hver (by rw [encR_B hr] at hm; exact hm) hh)))], hw.all (new_cons he1k (new_cons (newKey hb) new_nil))⟩)
      · refine wl_q rfl rfl rfl (qt_p tbok rfl) ?_
        refine wl_q rfl rfl rfl (qt_p tbok rfl) ?_
        first | refine wl_g rfl rfl rfl rfl (qt_p tbok rfl) ?_ | refine wl_skip rfl rfl rfl rfl rfl ?_
        first | refine wl_g rfl rfl rfl rfl (qt_l tbok rfl rfl rfl) ?_ | refine wl_g rfl rfl rfl rfl (qt_la tbok rfl rfl rfl) ?_ | refine wl_skip rfl rfl rfl rfl rfl ?_
        first | refine wl_g rfl rfl rfl rfl (qt_p tbok rfl) ?_ | refine wl_skip rfl rfl rfl rfl rfl ?_
        first | refine wl_g rfl rfl rfl rfl (qt_p tbok rfl) ?_ | refine wl_skip rfl rfl rfl rfl rfl ?_
        first | refine wl_g rfl rfl rfl rfl (qt_len tbok rfl rfl) ?_ | refine wl_skip rfl rfl rfl rfl rfl ?_
        first | refine wl_g rfl rfl rfl rfl (qt_p tbok rfl) ?_ | refine wl_skip rfl rfl rfl rfl rfl ?_
        refine wl_q rfl rfl rfl (qt_p tbok rfl) ?_
        refine wl_q rfl rfl rfl (qt_p tbok rfl) ?_
        refine wl_done ?_
        refine nk_code ?_
        refine wc_yes rfl ?_
        refine wc_seq ?_
        refine wc_region ?_
        refine wl_q rfl rfl rfl (qt_p tbok rfl) ?_
        refine wl_done ?_
        refine nk_code ?_
        refine wc_ret ?_
        try dsimp only
        exact fin1 rfl (rv_tmp rfl) (fun w' hw => ⟨by rw [up_old (o := z.x) (x := y.x) hr hver (by rw [encR_B hr] at hm; exact hm)], hw.all (new_cons he1k (new_cons (newKey hb) new_nil))⟩)

theorem upd_ok_c {w : World} {tr : Nat} {z y : RL} {M : List (Mk × Os)} {la : Ad} {lc : Nat} (hs0 : St w [TB tr z] w) (hzk : z.ok) (hzr : rootB z.x = true) (hzl : z.lies w) (hk : y.ok) (hpl : y.pl) (hl : y.lies w) (hM : ∀ p ∈ M, p.1.ok) (hMl : M.length ≤ 1073741824) (hlm : Cells w la (M.flatMap mrow)) (hp : ∀ p ∈ M, Mk.lies w p) (hyes : tuE z.x y.x (M.map (·.1)) = 0) :
    CallsV Try.prog 56 [.c (.ptr (.at tr 0)), .agg y.cs, .c (.slc la M.length lc)] w fun en w' => ∃ x : RL, en = .returned (V.c (.i64 0)).den ∧ (x.x = y.x ∧ x.own) ∧ (∀ p ∈ rbs 32 x, ∀ k, p.key = some k → w.heap.size ≤ k) ∧ St w (TB tr x :: rbs 32 x) w' := by
  have hel := encR_len' hk
  have ht : Cells w (.at tr 0) z.cs := cells_own hs0 .here
  have hzv : 1 ≤ z.v ∧ z.v ≤ 1099511627776 := rootB_v hzr
  refine calls_in (tb := tb) (fn := Try.f56) Try.func56 rfl rfl rfl [(0, .c (.ptr (.at tr 0))), (1, .agg y.cs), (2, .c (.slc la M.length lc))] rfl [] (St.refl _) ?_
  refine wc_seq ?_
  refine wc_region ?_
  refine wl_ef rfl (ef_box rfl rfl rfl (fun b hb => ?_))
  refine wl_q rfl rfl rfl (qt_p tbok rfl) ?_
  refine wl_done ?_
  refine nk_code ?_
  refine wc_seq ?_
  refine wc_seq ?_
  refine wc_region ?_
  refine wl_q rfl rfl rfl (qt_p tbok rfl) ?_
  first | refine wl_q rfl rfl rfl (qt_p tbok rfl) ?_ | refine wl_q rfl rfl rfl (qt_eqn tbok rfl rfl rfl) ?_
  refine wl_done ?_
  refine nk_code ?_
  refine wc_no rfl ?_
  refine wc_skip ?_
  refine nk_code ?_
  refine wc_seq ?_
  refine wc_region ?_
  refine wl_q rfl rfl rfl (qt_load_ag (l := y.cs) tbok rfl rfl rfl rfl (rs_lk .here at0)) ?_
  refine wl_ef rfl (ef_fresh (b := fun z : Os => ob (encR y.x) z) (I := fun z : Os => Oi (encR y.x) z) (v := fun z : Os => .t2 (.c (.slc z.1 (encR y.x).length z.2.1)) (.c (.i64 (encE y.x)))) (by kernel_rfl) rfl rfl (fun w1 g1 => by exact encode_c hk (hl.up (fun ad => off_new (newKey hb) off_nil) g1)) (fun e1 he1 he1k => ?_))
  obtain ⟨hr, hver, hm, hn⟩ := up_yes hyes
  refine wl_q rfl rfl rfl (qt_p tbok rfl) ?_
  refine wl_q rfl rfl rfl (qt_p tbok rfl) ?_
  refine wl_q rfl rfl rfl (qt_p tbok rfl) ?_
  refine wl_q rfl rfl rfl (qt_p tbok rfl) ?_
  refine wl_q rfl rfl rfl (qt_p tbok rfl) ?_
  refine wl_done ?_
  refine nk_code ?_
  refine wc_seq ?_
  refine wc_block ?_
  refine wc_seq ?_
  refine wc_region ?_
  refine wl_q rfl rfl rfl (qt_p tbok rfl) ?_
  refine wl_as (v' := .c (.i64 0)) (by rw [encE_0 hr]) ?_
  first | refine wl_q rfl rfl rfl (qt_p tbok rfl) ?_ | refine wl_q rfl rfl rfl (qt_neqn tbok rfl rfl rfl) ?_
  refine wl_q rfl rfl rfl (qt_p tbok rfl) ?_
  refine wl_done ?_
  refine nk_code ?_
  refine wc_no rfl ?_
  refine wc_seq ?_
  refine wc_quiet follows (by kernel_rfl) ?_
  refine wq_q rfl rfl rfl (qt_p tbok rfl) ?_
  refine wq_q rfl rfl rfl (qt_load (c := .i64 y.v) tbok rfl rfl rfl (rc_lk (.there .here) rfl)) ?_
  refine wq_q rfl rfl rfl (qt_p tbok rfl) ?_
  refine wq_q rfl rfl rfl (qt_p tbok rfl) ?_
  refine wq_q rfl rfl rfl (qt_p tbok rfl) ?_
  refine wq_q rfl rfl rfl (qt_p tbok rfl) ?_
  refine wq_q rfl rfl rfl (qt_load (c := .i64 z.v) tbok rfl rfl rfl ((rs_cells ht (off_new he1k (off_new (newKey hb) off_nil))).rc (i := 0) rfl rfl)) ?_
  refine wq_q rfl rfl rfl (qt_p tbok rfl) ?_
  first | refine wq_q rfl rfl rfl (qt_p tbok rfl) ?_ | refine wq_q rfl rfl rfl (qt_neqn tbok rfl rfl rfl) ?_
  refine wq_as (v' := .c (.bool false)) (congrArg (fun b => V.c (C.bool (!b))) (decide_eq_true hver)) ?_
  refine wq_q rfl rfl rfl (qt_p tbok rfl) ?_
  refine wq_done ?_
  refine wl_done ?_
  refine nk_code ?_
  refine wc_no rfl ?_
  refine wc_seq ?_
  refine wc_region ?_
  refine wl_q rfl rfl rfl (qt_p tbok rfl) ?_
  refine wl_q rfl rfl rfl (qt_p tbok rfl) ?_
  refine wl_q rfl rfl rfl (qt_p tbok rfl) ?_
  refine wl_q rfl rfl rfl (qt_p tbok rfl) ?_
  refine wl_q rfl rfl rfl (qt_load_ag (l := rrow z.r) tbok rfl rfl rfl rfl ((rs_cells ht (off_new he1k (off_new (newKey hb) off_nil))).part (k := 2) (rl_r z) rfl)) ?_
  refine wl_q rfl rfl rfl (qt_p tbok rfl) ?_
  refine wl_q rfl rfl rfl (qt_p tbok rfl) ?_
  refine wl_ef rfl (ef_pure (v := .c (.bool (meetsB z.r.1.n z.r.1.K (encR y.x) (M.map (·.1))))) (by kernel_rfl) rfl rfl ((fun w1 g1 => by exact meets_c (n := z.r.1.n) (K := z.r.1.K) (M := M) (msg := encR y.x) (pa := z.r.2.1) (pc := z.r.2.2.1) (ma := e1.1) (mc := e1.2.1) (la := la) (lc := lc) hzk.1.1 hzk.1.2 (cells_rd (rd_cells hzl.1 (off_new he1k (off_new (newKey hb) off_nil))) g1) (cells_own g1 .here) (by omega) hM hMl (cells_rd (rd_cells hlm (off_new he1k (off_new (newKey hb) off_nil))) g1) (fun p hpm => ⟨cells_rd (rd_cells (hp p hpm).1 (off_new he1k (off_new (newKey hb) off_nil))) g1, (hp p hpm).2⟩))) ?_)
  refine wl_as (v' := .c (.bool true)) (congrArg (fun b => V.c (C.bool b)) (by rw [encR_B hr]; exact hm)) ?_
  refine wl_q rfl rfl rfl (qt_p tbok rfl) ?_
  refine wl_q rfl rfl rfl (qt_p tbok rfl) ?_
  first | refine wl_g rfl rfl rfl rfl (qt_p tbok rfl) ?_ | refine wl_skip rfl rfl rfl rfl rfl ?_
  refine wl_g rfl rfl rfl rfl (qt_load_ag (l := rrow y.r) tbok rfl rfl rfl rfl (rs_lk (.there .here) (rl_r y))) ?_
  first | refine wl_g rfl rfl rfl rfl (qt_p tbok rfl) ?_ | refine wl_skip rfl rfl rfl rfl rfl ?_
  first | refine wl_g rfl rfl rfl rfl (qt_p tbok rfl) ?_ | refine wl_skip rfl rfl rfl rfl rfl ?_
  refine wl_gd rfl rfl (ef_pure (v := .c (.bool true)) (by kernel_rfl) rfl rfl (fun w1 g1 => by have hn2 : meetsB y.r.1.n y.r.1.K (encR y.x) (M.map (·.1)) = true := (by rw [encR_B hr]; exact hn); have := ((fun w1 g1 => by exact meets_c (n := y.r.1.n) (K := y.r.1.K) (M := M) (msg := encR y.x) (pa := y.r.2.1) (pc := y.r.2.2.1) (ma := e1.1) (mc := e1.2.1) (la := la) (lc := lc) hk.1.1 hk.1.2 (cells_rd (rd_cells hl.1 (off_new he1k (off_new (newKey hb) off_nil))) g1) (cells_own g1 .here) (by omega) hM hMl (cells_rd (rd_cells hlm (off_new he1k (off_new (newKey hb) off_nil))) g1) (fun p hpm => ⟨cells_rd (rd_cells (hp p hpm).1 (off_new he1k (off_new (newKey hb) off_nil))) g1, (hp p hpm).2⟩))) w1 g1; rwa [hn2] at this) ?_)
  first | refine wl_g rfl rfl rfl rfl (qt_p tbok rfl) ?_ | refine wl_skip rfl rfl rfl rfl rfl ?_
  refine wl_q rfl rfl rfl (qt_p tbok rfl) ?_
  refine wl_q rfl rfl rfl (qt_p tbok rfl) ?_
  refine wl_done ?_
  refine nk_code ?_
  refine wc_no rfl ?_
  refine wc_skip ?_
  refine nk_code ?_
  refine wc_seq ?_
  refine wc_region ?_
  refine wl_q rfl rfl rfl (qt_p tbok rfl) ?_
  refine wl_q rfl rfl rfl (qt_load_ag (l := y.cs) tbok rfl rfl rfl rfl (rs_lk (.there .here) at0)) ?_
  refine wl_ef rfl (ef_freshL (B := fun z : RL => rbs 32 z) (I := fun z : RL => z.x = y.x ∧ z.own) (v := fun z : RL => .agg z.cs) (by kernel_rfl) rfl rfl (fun w1 g1 => by exact copied_c hk hpl (hl.up (fun ad => (off_new he1k (off_new (newKey hb) off_nil))) g1)) (fun x hx hxk => ?_))
  refine wl_q rfl rfl rfl (qt_p tbok rfl) ?_
  refine wl_q rfl rfl rfl (qt_p tbok rfl) ?_
  refine wl_ef rfl (ef_take (b := TB tr z) (ef_store (cs' := x.cs) tbok rfl rfl rfl rfl .here rfl (Nat.le_of_ble_eq_true rfl) rfl ?_) (fun w1 g1 => g1.take hs0 (new_app hxk (new_cons he1k (new_cons (newKey hb) new_nil)))))
  refine wl_done ?_
  refine nk_code ?_
  refine wc_seq ?_
  refine wc_region ?_
  refine wl_q rfl rfl rfl (qt_p tbok rfl) ?_
  refine wl_done ?_
  refine nk_code ?_
  refine wc_ret ?_
  try dsimp only
  exact fin1 rfl (rv_tmp rfl) (fun w' hw => ⟨x, rfl, hx, hxk, st_cutN (A := TB tr x :: rbs 32 x) hw (new_cons he1k (new_cons (newKey hb) new_nil))⟩)

end Go.Proofs.Ytjhmcmadleabjaa

set_option maxRecDepth 100000
namespace Go.Hw
section
variable {X : Cx} {e : Env} {s : Hp} {Q : Exit → Act → World → Prop} {KK : Env → Hp → Prop} {d : Option Nat} {f ty : Nat} {args : List Operand} {ats : Array TypeId} {pos : String} {af : Array Edge} {gd : Option (Nat × Bool)} {vs : List V} {α : Type} {I : α → Prop} {v : α → V}
/-- A call that turns a block, and hands back others that are new. -/
theorem ef_turnN {b : Blk} {b' : α → Blk} {B S' : α → Hp} (hc : callable X.P f = true) (hv : evl e args = some vs) (hd : okDst X.n d = true) (hu : ∀ x, Up s b (b' x) (S' x)) (hb : ∀ x, (b' x).key = b.key)
    (h : ∀ w, St X.w0 s w → CallsV X.P f vs w fun en w' => ∃ x, en = .returned (v x).den ∧ I x ∧ (∀ p ∈ B x, ∀ k, p.key = some k → w.heap.size ≤ k) ∧ St w (b' x :: B x) w')
    (hk : ∀ x, I x → (∀ p ∈ B x, ∀ k, p.key = some k → X.w0.heap.size ≤ k) → KK (Env.put d (v x) e) (B x ++ S' x)) :
    Ef X Q ⟨d, .call ⟨.value (.func f), args.toArray, ats⟩, ty, pos, af, gd⟩ e s KK :=
  ef_call hc hv hd fun w hw => (h w hw).mono fun en w' ⟨x, he, hi, hcn, hst⟩ => ⟨v x, B x ++ S' x, he, hw.upN (hu x) (hb x) hst hcn, hk x hi fun p hp k hk' => Nat.le_trans hw.size (hcn p hp k hk')⟩
end
end Go.Hw
namespace Go.Proofs.Ytjhmcmadleabjaa
open Go Go.Hw Go.Proofs

def z9 : List C := z8 ++ [.slc .nil 0 0]
theorem zero109 : zeroIs Try.prog 109 (.agg z9) := by unfold zeroIs; kernel_rfl
/-- An offer: a root, marks of it, and where they lie. -/
structure Of where
  y : RL
  M : List (Mk × Os)
  a : Ad
  c : Nat
instance : Inhabited Of := ⟨⟨⟨0, 0, (⟨0, []⟩, .nil, 0, []), (⟨0, []⟩, .nil, 0, []), (⟨0, []⟩, .nil, 0, [])⟩, [], .nil, 0⟩⟩
abbrev Of.row (o : Of) : List C := o.y.cs ++ [.slc o.a o.M.length o.c]
theorem Of.row_len (o : Of) : o.row.length = 9 := rfl
theorem Of.row_y (o : Of) : ∀ (j : Nat) c, o.y.cs[j]? = some c → o.row[0 + j]? = some c := get_at (A := []) (B := o.y.cs) (D := [.slc o.a o.M.length o.c]) rfl
theorem Of.row_r (o : Of) : ∀ (j : Nat) c, (rrow o.y.r)[j]? = some c → o.row[2 + j]? = some c := get_at (A := [.i64 o.y.v, .i64 o.y.u]) (B := rrow o.y.r) (D := rrow o.y.t ++ rrow o.y.l ++ [.slc o.a o.M.length o.c]) rfl
def Of.ok (o : Of) : Prop := o.y.ok ∧ (∀ p ∈ o.M, p.1.ok) ∧ o.M.length ≤ 1073741824
def Of.lies (w : World) (o : Of) : Prop := o.y.lies w ∧ Cells w o.a (o.M.flatMap mrow) ∧ ∀ p ∈ o.M, Mk.lies w p
theorem Of.lies.up {w0 w : World} {s : Hp} {o : Of} (h : o.lies w0) (ho : ∀ ad, Off w0 ad s) (hs : St w0 s w) : o.lies w :=
  ⟨h.1.up ho hs, cells_rd (rd_cells h.2.1 (ho _)) hs, fun p hp => ⟨cells_rd (rd_cells (h.2.2 p hp).1 (ho _)) hs, (h.2.2 p hp).2⟩⟩
abbrev yZ : RL := ⟨0, 0, (⟨0, []⟩, .nil, 0, []), (⟨0, []⟩, .nil, 0, []), (⟨0, []⟩, .nil, 0, [])⟩
theorem yZ_ok : yZ.ok := ⟨⟨(fun k h => by cases h), Nat.zero_le _⟩, ⟨(fun k h => by cases h), Nat.zero_le _⟩, ⟨(fun k h => by cases h), Nat.zero_le _⟩⟩
theorem yZ_lies (w : World) : yZ.lies w := ⟨cells_none, cells_none, cells_none⟩
def tB : Option (Nat × RL) → Hp
  | none => []
  | some x => TB x.1 x.2 :: rbs 32 x.2
def tP : Option (Nat × RL) → Ad
  | none => .nil
  | some x => .at x.1 0
/-- What is believed may be believed. -/
def tI : Option (Nat × RL) → Prop
  | none => True
  | some x => x.2.own ∧ x.2.ok ∧ rootB x.2.x = true
theorem offs_row {O : List Of} : ∀ o ∈ O, o.row.length = 9 := fun _ _ => rfl
/-! ### New, where it refuses -/
theorem nw_yes {x : Rx} {M : List Mk} (h : nwE x M = 0) : rootB x = true ∧ meetsB x.r.n x.r.K (encB x) M = true := by
  unfold nwE at h
  by_cases h1 : rootB x = true
  · rw [if_pos h1] at h
    by_cases h2 : meetsB x.r.n x.r.K (encB x) M = true
    · exact ⟨h1, h2⟩
    · rw [if_neg h2] at h; cases h
  · rw [if_neg h1] at h; cases h
theorem nw_ok {x : Rx} {M : List Mk} (h : rootB x = true) (h2 : meetsB x.r.n x.r.K (encB x) M = true) : nwE x M = 0 := by unfold nwE; rw [if_pos h, if_pos h2]
theorem new_no_c {w : World} {y : RL} {M : List (Mk × Os)} {la : Ad} {lc : Nat} (hk : y.ok) (hpl : y.pl) (hl : y.lies w) (hM : ∀ p ∈ M, p.1.ok) (hMl : M.length ≤ 1073741824) (hlm : Cells w la (M.flatMap mrow)) (hp : ∀ p ∈ M, Mk.lies w p) (hn : nwE y.x (M.map (·.1)) ≠ 0) :
    CallsV Try.prog 53 [.agg y.cs, .c (.slc la M.length lc)] w fun en w' => en = .returned (V.t2 (.c (.ptr .nil)) (.c (.i64 (nwE y.x (M.map (·.1)))))).den ∧ St w [] w' := by
  by_cases hr : rootB y.x = true
  · have hm : meetsB y.x.r.n y.x.r.K (encB y.x) (M.map (·.1)) = false := (Bool.not_eq_true _).mp fun h => hn (nw_ok hr h)
    rw [show nwE y.x (M.map (·.1)) = 161 from by unfold nwE; rw [if_pos hr, hm]; rfl]
    exact new_few_c hk hpl hl hM hMl hlm hp hr hm
  · rw [show nwE y.x (M.map (·.1)) = 160 from by unfold nwE; rw [if_neg hr]]
    exact new_bad_c hk hpl hl hM hMl hlm hp ((Bool.not_eq_true _).mp hr)

/-! ### signers -/
def fnd (k : Int × List UInt8) (msg : List UInt8) (M : List (Mk × Os)) (j : Nat) : Bool := sgd k msg ((M.take j).map (·.1))
theorem fnd_0 {k : Int × List UInt8} {msg : List UInt8} {M : List (Mk × Os)} : fnd k msg M 0 = false := rfl
theorem fnd_all {k : Int × List UInt8} {msg : List UInt8} {M : List (Mk × Os)} : fnd k msg M M.length = sgd k msg (M.map (·.1)) := by unfold fnd; rw [List.take_length]
theorem fnd_snoc {k : Int × List UInt8} {msg : List UInt8} {M : List (Mk × Os)} {j : Nat} (h : j < M.length) : fnd k msg M (j + 1) = (fnd k msg M j || (el M j).1.sg k msg) := by
  unfold fnd sgd
  rw [el_take h, List.map_append, List.any_append]
  simp
theorem signers_c {w : World} {n : Int} {K : List (Int × List UInt8)} {M : List (Mk × Os)} {msg : List UInt8} {pa ma la : Ad} {pc mc lc : Nat} (hK : K32 K) (hKl : K.length ≤ 1073741824) (hc : Cells w pa (K.flatMap kr)) (hm : Cells w ma (bc msg)) (hmax : msg.length ≤ 1073741000)
    (hM : ∀ p ∈ M, p.1.ok) (hMl : M.length ≤ 1073741824) (hl : Cells w la (M.flatMap mrow)) (hp : ∀ p ∈ M, Mk.lies w p) :
    CallsV Try.prog 54 [.agg [.i64 n, .slc pa K.length pc], .c (.slc ma msg.length mc), .c (.slc la M.length lc)] w fun en w' => en = .returned (V.c (.i64 (cntK K msg (M.map (·.1)) : Nat))).den ∧ St w [] w' := by
  refine calls_in (tb := tb) (fn := Try.f54) Try.func54 rfl rfl rfl [(0, .agg [.i64 n, .slc pa K.length pc]), (1, .c (.slc ma msg.length mc)), (2, .c (.slc la M.length lc))] rfl [] (St.refl _) ?_
  refine wc_seq ?_
  refine wc_region ?_
  refine wl_ef rfl (ef_box rfl rfl rfl (fun b hb => ?_))
  refine wl_q rfl rfl rfl (qt_p tbok rfl) ?_
  refine wl_done ?_
  refine nk_code ?_
  refine wc_seq ?_
  refine wc_region ?_
  refine wl_q rfl rfl rfl (qt_p tbok rfl) ?_
  refine wl_done ?_
  refine nk_code ?_
  refine wc_seq ?_
  refine wc_seq ?_
  refine wc_region ?_
  refine wl_q rfl rfl rfl (qt_p tbok rfl) ?_
  first | refine wl_q rfl rfl rfl (qt_l tbok rfl rfl rfl) ?_ | refine wl_q rfl rfl rfl (qt_la tbok rfl rfl rfl) ?_
  refine wl_q rfl rfl rfl (qt_len tbok rfl rfl) ?_
  refine wl_q rfl rfl rfl (qt_p tbok rfl) ?_
  refine wl_done ?_
  refine nk_code ?_
  refine wc_block ?_
  refine wc_loop (ι := Nat) (fun i => i ≤ K.length) (fun i => [(16, .c (.i64 (i : Int))), (15, .c (.i64 (K.length : Int))), (14, .c (.slc pa K.length pc)), (7, .c (.i64 (cntK (K.take i) msg (M.map (·.1)) : Nat))), (1, .c (.slc ma msg.length mc)), (2, .c (.slc la M.length lc)), (3, .c (.ptr (.at b 0)))]) (fun i => [⟨.at b 0, [.i64 n, .slc pa K.length pc], 68, (0, 0), []⟩]) (fun i => K.length - i) 0 (Nat.zero_le _) (nk_start ⟨rfl, rfl, rfl, rfl, rfl, rfl, rfl, trivial⟩ (fun w hw => hw)) (fun i hi => ?_)
  refine wc_seq ?_
  refine wc_region ?_
  refine wl_q rfl rfl rfl (qt_p tbok rfl) ?_
  refine wl_done ?_
  refine nk_code ?_
  refine wc_seq ?_
  refine wc_cond rfl (fun h17 => ?_) (fun h17 => ?_)
  · have hi' : i < K.length := (by have h0 := of_decide_eq_true h17; omega)
    have hgl := hK.row _ (el_mem hi')
    have hgk := hK _ (el_mem hi')
    have hcl := cntK_le (K.take i) msg (M.map (·.1))
    rw [List.length_take] at hcl
    obtain ⟨pr, po, hpa⟩ := cells_nn hc (by rw [rows_len hK.row]; omega)
    subst hpa
    refine wc_skip ?_
    refine nk_code ?_
    refine wc_seq ?_
    refine wc_block ?_
    refine wc_seq ?_
    refine wc_region ?_
    refine wl_q rfl rfl rfl (qt_p tbok rfl) ?_
    refine wl_q rfl rfl rfl (qt_load_ag (l := kr (el K i)) tbok rfl rfl rfl hgl (rs_cells (hc.sub2 (m := i * 33) (rows_at hK.row hi')) (off_new (newKey hb) off_nil))) ?_
    refine wl_ef rfl (ef_alloc zero24 rfl rfl (fun x9 h9 => ?_))
    refine wl_ef rfl (ef_store (cs' := kr (el K i)) tbok rfl rfl rfl rfl .here hgl (Nat.le_of_ble_eq_true rfl) (spl_all hgl) ?_)
    refine wl_done ?_
    refine nk_code ?_
    refine wc_seq ?_
    refine wc_region ?_
    refine wl_q rfl rfl rfl (qt_p tbok rfl) ?_
    refine wl_done ?_
    refine nk_code ?_
    refine wc_seq ?_
    refine wc_seq ?_
    refine wc_region ?_
    refine wl_q rfl rfl rfl (qt_p tbok rfl) ?_
    refine wl_q rfl rfl rfl (qt_len tbok rfl rfl) ?_
    refine wl_q rfl rfl rfl (qt_p tbok rfl) ?_
    refine wl_done ?_
    refine nk_code ?_
    refine wc_block ?_
    refine wc_loop (ι := Nat) (fun j => j ≤ M.length) (fun j => [(22, .c (.i64 (j : Int))), (21, .c (.i64 (M.length : Int))), (20, .c (.slc la M.length lc)), (10, .c (.bool (fnd (el K i) msg M j))), (9, .c (.ptr (.at x9 0))), (16, .c (.i64 (i : Int))), (15, .c (.i64 (K.length : Int))), (14, .c (.slc (.at pr po) K.length pc)), (7, .c (.i64 (cntK (K.take i) msg (M.map (·.1)) : Nat))), (1, .c (.slc ma msg.length mc)), (2, .c (.slc la M.length lc)), (3, .c (.ptr (.at b 0)))]) (fun j => [⟨.at x9 0, kr (el K i), 24, (0, 0), []⟩, ⟨.at b 0, [.i64 n, .slc (.at pr po) K.length pc], 68, (0, 0), []⟩]) (fun j => M.length - j) 0 (Nat.zero_le _) (nk_start ⟨rfl, rfl, rfl, rfl, rfl, rfl, rfl, rfl, rfl, rfl, rfl, rfl, trivial⟩ (fun w hw => hw)) (fun j hj => ?_)
    refine wc_seq ?_
    refine wc_region ?_
    refine wl_q rfl rfl rfl (qt_p tbok rfl) ?_
    refine wl_done ?_
    refine nk_code ?_
    refine wc_seq ?_
    refine wc_cond rfl (fun h23 => ?_) (fun h23 => ?_)
    · have hj' : j < M.length := (by have h0 := of_decide_eq_true h23; omega)
      have hok := hM _ (el_mem hj')
      have hml := mrow_len hok
      have hfl := hok.fl
      have hpl := hp _ (el_mem hj')
      obtain ⟨lr, lo, hla⟩ := cells_nn hl (by rw [rows_len (mrows_len hM)]; omega)
      subst hla
      refine wc_skip ?_
      refine nk_code ?_
      refine wc_seq ?_
      refine wc_block ?_
      refine wc_seq ?_
      refine wc_region ?_
      refine wl_q rfl rfl rfl (qt_p tbok rfl) ?_
      refine wl_q rfl rfl rfl (qt_load_ag (l := mrow (el M j)) tbok rfl rfl rfl hml (rs_cells (hl.sub2 (m := j * 2178) (rows_at (mrows_len hM) hj')) (off_new (newKey h9) (off_new (newKey hb) off_nil)))) ?_
      refine wl_ef rfl (ef_alloc zero147 rfl rfl (fun x12 h12 => ?_))
      refine wl_ef rfl (ef_store (cs' := mrow (el M j)) tbok rfl rfl rfl rfl .here hml (by show 0 + 2178 ≤ z2178.length; rw [z2178_len]; decide) (spl_all (by show (mrow _).length = z2178.length; rw [hml, z2178_len])) ?_)
      refine wl_done ?_
      refine nk_code ?_
      refine wc_quiet follows (by kernel_rfl) ?_
      refine wq_q rfl rfl rfl (qt_p tbok rfl) ?_
      refine wq_q rfl rfl rfl (qt_p tbok rfl) ?_
      refine wq_bool (fun hf => ?_) (fun hf => ?_)
      · first | refine wq_gd rfl rfl rfl rfl (qt_p tbok rfl) ?_ | refine wq_skip rfl rfl rfl rfl rfl ?_
        first | refine wq_gd rfl rfl rfl rfl (qt_l tbok rfl rfl rfl) ?_ | refine wq_gd rfl rfl rfl rfl (qt_la tbok rfl rfl rfl) ?_ | refine wq_skip rfl rfl rfl rfl rfl ?_
        first | refine wq_gd rfl rfl rfl rfl (qt_l tbok rfl rfl rfl) ?_ | refine wq_gd rfl rfl rfl rfl (qt_la tbok rfl rfl rfl) ?_ | refine wq_skip rfl rfl rfl rfl rfl ?_
        first | refine wq_gd rfl rfl rfl rfl (qt_len tbok rfl rfl) ?_ | refine wq_skip rfl rfl rfl rfl rfl ?_
        first | refine wq_gd rfl rfl rfl rfl (qt_p tbok rfl) ?_ | refine wq_gd rfl rfl rfl rfl (qt_eqn tbok rfl rfl rfl) ?_ | refine wq_skip rfl rfl rfl rfl rfl ?_
        first | refine wq_gd rfl rfl rfl rfl (qt_p tbok rfl) ?_ | refine wq_skip rfl rfl rfl rfl rfl ?_
        refine wq_skip0 rfl rfl rfl rfl ?_
        refine wq_skip0 rfl rfl rfl rfl ?_
        refine wq_skip0 rfl rfl rfl rfl ?_
        refine wq_skip0 rfl rfl rfl rfl ?_
        refine wq_skip0 rfl rfl rfl rfl ?_
        first | refine wq_gd rfl rfl rfl rfl (qt_p tbok rfl) ?_ | refine wq_skip rfl rfl rfl rfl rfl ?_
        refine wq_q rfl rfl rfl (qt_p tbok rfl) ?_
        refine wq_q rfl rfl rfl (qt_p tbok rfl) ?_
        refine wq_done ?_
        refine wl_done ?_
        refine nk_code ?_
        refine wc_region ?_
        refine wl_q rfl rfl rfl (qt_p tbok rfl) ?_
        refine wl_q rfl rfl rfl (qt_p tbok rfl) ?_
        refine wl_done ?_
        exact nk_round (i := j) (j + 1) hj' (by show M.length - (j + 1) < M.length - j; omega) ⟨rfl, rfl, rfl, congrArg (fun b => some (V.c (C.bool b))) (by rw [fnd_snoc hj', hf, Bool.true_or]), rfl, rfl, rfl, rfl, rfl, rfl, rfl, rfl, trivial⟩ (fun w hw => hw.tail (newKey h12))
      · first | refine wq_gd rfl rfl rfl rfl (qt_p tbok rfl) ?_ | refine wq_skip rfl rfl rfl rfl rfl ?_
        refine wq_gd rfl rfl rfl rfl (qt_load_ag (l := bc (el M j).1.id) tbok rfl rfl rfl (by rw [bc_len]; exact hok.1) (rs_lk .here mrow_id)) ?_
        refine wq_gd rfl rfl rfl rfl (qt_load_ag (l := kr (el K i)) tbok rfl rfl rfl hgl (rs_lk (.there .here) at0)) ?_
        refine wq_callg (.agg (bc (kid (el K i)))) rfl (by kernel_rfl) rfl rfl (fun w1 h1 => id2_c hgk) ?_
        refine wq_gd rfl rfl rfl rfl (qt_eq_bytes eq22 ng22 rfl rfl hok.1 (sha_len _)) ?_
        refine wq_bool (fun hq => ?_) (fun hq => ?_)
        · first | refine wq_gd rfl rfl rfl rfl (qt_p tbok rfl) ?_ | refine wq_skip rfl rfl rfl rfl rfl ?_
          refine wq_gd rfl rfl rfl rfl (qt_load_ag (l := kr (el K i)) tbok rfl rfl rfl hgl (rs_lk (.there .here) at0)) ?_
          first | refine wq_gd rfl rfl rfl rfl (qt_p tbok rfl) ?_ | refine wq_skip rfl rfl rfl rfl rfl ?_
          first | refine wq_gd rfl rfl rfl rfl (qt_p tbok rfl) ?_ | refine wq_skip rfl rfl rfl rfl rfl ?_
          refine wq_gd rfl rfl rfl rfl (qt_load_ag (l := scs (el M j).1.ix (el M j).1.ch.flatten (el M j).2.1 (el M j).1.pt.length (el M j).2.2.1) tbok rfl rfl rfl (scs_len hfl) (rs_lk .here (mrow_sig hok))) ?_
          refine wq_callg (.c (.bool (verB (el K i).1 (el K i).2 msg (el M j).1.ix (el M j).1.ch (el M j).1.pt))) rfl (by kernel_rfl) rfl rfl (fun w1 h1 => ver18_c hgk hok.2.1 hok.2.2.1 hok.2.2.2.1 hpl.2 (cells_rd (rd_cells hpl.1 (off_new (newKey h12) (off_new (newKey h9) (off_new (newKey hb) off_nil)))) h1) (cells_rd (rd_cells hm (off_new (newKey h12) (off_new (newKey h9) (off_new (newKey hb) off_nil)))) h1) hmax) ?_
          refine wq_bool (fun hv => ?_) (fun hv => ?_)
          · first | refine wq_gd rfl rfl rfl rfl (qt_p tbok rfl) ?_ | refine wq_skip rfl rfl rfl rfl rfl ?_
            refine wq_q rfl rfl rfl (qt_p tbok rfl) ?_
            refine wq_q rfl rfl rfl (qt_p tbok rfl) ?_
            refine wq_done ?_
            refine wl_done ?_
            refine nk_code ?_
            refine wc_region ?_
            refine wl_q rfl rfl rfl (qt_p tbok rfl) ?_
            refine wl_q rfl rfl rfl (qt_p tbok rfl) ?_
            refine wl_done ?_
            exact nk_round (i := j) (j + 1) hj' (by show M.length - (j + 1) < M.length - j; omega) ⟨rfl, rfl, rfl, congrArg (fun b => some (V.c (C.bool b))) (by rw [fnd_snoc hj', hf, sg_yes hq hv]; rfl), rfl, rfl, rfl, rfl, rfl, rfl, rfl, rfl, trivial⟩ (fun w hw => hw.tail (newKey h12))
          · first | refine wq_gd rfl rfl rfl rfl (qt_p tbok rfl) ?_ | refine wq_skip rfl rfl rfl rfl rfl ?_
            refine wq_q rfl rfl rfl (qt_p tbok rfl) ?_
            refine wq_q rfl rfl rfl (qt_p tbok rfl) ?_
            refine wq_done ?_
            refine wl_done ?_
            refine nk_code ?_
            refine wc_region ?_
            refine wl_q rfl rfl rfl (qt_p tbok rfl) ?_
            refine wl_q rfl rfl rfl (qt_p tbok rfl) ?_
            refine wl_done ?_
            exact nk_round (i := j) (j + 1) hj' (by show M.length - (j + 1) < M.length - j; omega) ⟨rfl, rfl, rfl, congrArg (fun b => some (V.c (C.bool b))) (by rw [fnd_snoc hj', hf, sg_no hq hv]; rfl), rfl, rfl, rfl, rfl, rfl, rfl, rfl, rfl, trivial⟩ (fun w hw => hw.tail (newKey h12))
        · first | refine wq_gd rfl rfl rfl rfl (qt_p tbok rfl) ?_ | refine wq_skip rfl rfl rfl rfl rfl ?_
          first | refine wq_gd rfl rfl rfl rfl (qt_l tbok rfl rfl rfl) ?_ | refine wq_gd rfl rfl rfl rfl (qt_la tbok rfl rfl rfl) ?_ | refine wq_skip rfl rfl rfl rfl rfl ?_
          first | refine wq_gd rfl rfl rfl rfl (qt_p tbok rfl) ?_ | refine wq_skip rfl rfl rfl rfl rfl ?_
          first | refine wq_gd rfl rfl rfl rfl (qt_p tbok rfl) ?_ | refine wq_skip rfl rfl rfl rfl rfl ?_
          first | refine wq_gd rfl rfl rfl rfl (qt_l tbok rfl rfl rfl) ?_ | refine wq_gd rfl rfl rfl rfl (qt_la tbok rfl rfl rfl) ?_ | refine wq_skip rfl rfl rfl rfl rfl ?_
          first | refine wq_gd rfl rfl rfl rfl (qt_len tbok rfl rfl) ?_ | refine wq_skip rfl rfl rfl rfl rfl ?_
          first | refine wq_gd rfl rfl rfl rfl (qt_p tbok rfl) ?_ | refine wq_skip rfl rfl rfl rfl rfl ?_
          refine wq_q rfl rfl rfl (qt_p tbok rfl) ?_
          refine wq_q rfl rfl rfl (qt_p tbok rfl) ?_
          refine wq_done ?_
          refine wl_done ?_
          refine nk_code ?_
          refine wc_region ?_
          refine wl_q rfl rfl rfl (qt_p tbok rfl) ?_
          refine wl_q rfl rfl rfl (qt_p tbok rfl) ?_
          refine wl_done ?_
          exact nk_round (i := j) (j + 1) hj' (by show M.length - (j + 1) < M.length - j; omega) ⟨rfl, rfl, rfl, congrArg (fun b => some (V.c (C.bool b))) (by rw [fnd_snoc hj', hf, sg_no' hq]; rfl), rfl, rfl, rfl, rfl, rfl, rfl, rfl, rfl, trivial⟩ (fun w hw => hw.tail (newKey h12))
    · have he : j = M.length := (by have h0 := of_decide_eq_false h23; omega)
      subst he
      rw [fnd_all]
      refine wc_exit rfl ?_
      refine nk_code ?_
      refine wc_seq ?_
      refine wc_region ?_
      refine wl_q rfl rfl rfl (qt_p tbok rfl) ?_
      refine wl_done ?_
      refine nk_code ?_
      refine wc_cond rfl (fun h42 => ?_) (fun h42 => ?_)
      · refine wc_region ?_
        refine wl_q rfl rfl rfl (qt_p tbok rfl) ?_
        refine wl_q rfl rfl rfl (qt_p tbok rfl) ?_
        refine wl_q rfl rfl rfl (qt_p tbok rfl) ?_
        refine wl_done ?_
        refine nk_code ?_
        refine wc_region ?_
        refine wl_q rfl rfl rfl (qt_p tbok rfl) ?_
        refine wl_q rfl rfl rfl (qt_p tbok rfl) ?_
        refine wl_done ?_
        exact nk_round (i := i) (i + 1) hi' (by show K.length - (i + 1) < K.length - i; omega) ⟨rfl, rfl, rfl, cnt_eq (by rw [cntK_snoc hi', h42, if_pos rfl]), rfl, rfl, rfl, trivial⟩ (fun w hw => hw.tail (newKey h9))
      · refine wc_skip ?_
        refine nk_code ?_
        refine wc_region ?_
        refine wl_q rfl rfl rfl (qt_p tbok rfl) ?_
        refine wl_q rfl rfl rfl (qt_p tbok rfl) ?_
        refine wl_done ?_
        exact nk_round (i := i) (i + 1) hi' (by show K.length - (i + 1) < K.length - i; omega) ⟨rfl, rfl, rfl, cnt_eq0 (by rw [cntK_snoc hi', h42, if_neg (by decide)]; rfl), rfl, rfl, rfl, trivial⟩ (fun w hw => hw.tail (newKey h9))
  · have he : i = K.length := (by have h0 := of_decide_eq_false h17; omega)
    subst he
    rw [List.take_length]
    refine wc_exit rfl ?_
    refine nk_code ?_
    refine wc_seq ?_
    refine wc_region ?_
    refine wl_q rfl rfl rfl (qt_p tbok rfl) ?_
    refine wl_q rfl rfl rfl (qt_p tbok rfl) ?_
    refine wl_done ?_
    refine nk_code ?_
    refine wc_ret ?_
    try dsimp only
    exact fin1 rfl (rv_tmp rfl) (fun w' hw => ⟨rfl, hw.all (new_cons (newKey hb) new_nil)⟩)
/-! ### light -/
theorem light_c {w : World} {O : List Of} {oa : Ad} {oc : Nat} (hO : Cells w oa (O.flatMap Of.row)) (hOl : O.length ≤ 1073741824) :
    CallsV Try.prog 52 [.c (.slc oa O.length oc)] w fun en w' => ∃ b : Bool, en = .returned (V.c (.bool b)).den ∧ True ∧ (∀ p ∈ ([] : Hp), ∀ k, p.key = some k → w.heap.size ≤ k) ∧ St w [] w' := by
  refine calls_in (tb := tb) (fn := Try.f52) Try.func52 rfl rfl rfl [(0, .c (.slc oa O.length oc))] rfl [] (St.refl _) ?_
  refine wc_seq ?_
  refine wc_region ?_
  refine wl_q rfl rfl rfl (qt_p tbok rfl) ?_
  refine wl_done ?_
  refine nk_code ?_
  refine wc_seq ?_
  refine wc_seq ?_
  refine wc_region ?_
  refine wl_q rfl rfl rfl (qt_p tbok rfl) ?_
  refine wl_q rfl rfl rfl (qt_len tbok rfl rfl) ?_
  refine wl_q rfl rfl rfl (qt_p tbok rfl) ?_
  refine wl_done ?_
  refine nk_code ?_
  refine wc_block ?_
  refine wc_loop (ι := Nat) (fun j => j ≤ O.length) (fun j => [(7, .c (.i64 (j : Int))), (6, .c (.i64 (O.length : Int))), (5, .c (.slc oa O.length oc)), (0, .c (.slc oa O.length oc))]) (fun j => []) (fun j => O.length - j) 0 (Nat.zero_le _) (nk_start ⟨rfl, rfl, rfl, rfl, trivial⟩ (fun w hw => hw)) (fun j hj => ?_)
  refine wc_seq ?_
  refine wc_region ?_
  refine wl_q rfl rfl rfl (qt_p tbok rfl) ?_
  refine wl_done ?_
  refine nk_code ?_
  refine wc_seq ?_
  refine wc_cond rfl (fun h8 => ?_) (fun h8 => ?_)
  · have hj' : j < O.length := (by have h0 := of_decide_eq_true h8; omega)
    obtain ⟨lr, lo, hla⟩ := cells_nn hO (by rw [rows_len (z := 9) offs_row]; omega)
    subst hla
    refine wc_skip ?_
    refine nk_code ?_
    refine wc_seq ?_
    refine wc_block ?_
    refine wc_seq ?_
    refine wc_region ?_
    refine wl_q rfl rfl rfl (qt_p tbok rfl) ?_
    refine wl_q rfl rfl rfl (qt_load_ag (l := (el O j).row) tbok rfl rfl rfl rfl (rs_cells (hO.sub2 (m := j * 9) (rows_at (z := 9) offs_row hj')) off_nil)) ?_
    refine wl_ef rfl (ef_alloc zero109 rfl rfl (fun x4 h4 => ?_))
    refine wl_ef rfl (ef_store (cs' := (el O j).row) tbok rfl rfl rfl rfl .here rfl (Nat.le_of_ble_eq_true rfl) (spl_all rfl) ?_)
    refine wl_done ?_
    refine nk_code ?_
    refine wc_seq ?_
    refine wc_region ?_
    refine wl_q rfl rfl rfl (qt_p tbok rfl) ?_
    refine wl_q rfl rfl rfl (qt_p tbok rfl) ?_
    refine wl_q rfl rfl rfl (qt_p tbok rfl) ?_
    refine wl_q rfl rfl rfl (qt_load (c := .slc (el O j).y.r.2.1 (el O j).y.r.1.K.length (el O j).y.r.2.2.1) tbok rfl rfl rfl (rc_lk .here rfl)) ?_
    refine wl_q rfl rfl rfl (qt_len tbok rfl rfl) ?_
    refine wl_q rfl rfl rfl (qt_p tbok rfl) ?_
    refine wl_q rfl rfl rfl (qt_p tbok rfl) ?_
    refine wl_bool (fun hs => ?_) (fun hs => ?_)
    · first | refine wl_g rfl rfl rfl rfl (qt_p tbok rfl) ?_ | refine wl_skip rfl rfl rfl rfl rfl ?_
      first | refine wl_g rfl rfl rfl rfl (qt_l tbok rfl rfl rfl) ?_ | refine wl_g rfl rfl rfl rfl (qt_la tbok rfl rfl rfl) ?_ | refine wl_skip rfl rfl rfl rfl rfl ?_
      first | refine wl_g rfl rfl rfl rfl (qt_len tbok rfl rfl) ?_ | refine wl_skip rfl rfl rfl rfl rfl ?_
      first | refine wl_g rfl rfl rfl rfl (qt_p tbok rfl) ?_ | refine wl_skip rfl rfl rfl rfl rfl ?_
      refine wl_q rfl rfl rfl (qt_p tbok rfl) ?_
      refine wl_done ?_
      refine nk_code ?_
      refine wc_yes rfl ?_
      refine wc_seq ?_
      refine wc_region ?_
      refine wl_q rfl rfl rfl (qt_p tbok rfl) ?_
      refine wl_done ?_
      refine nk_code ?_
      refine wc_ret ?_
      try dsimp only
      exact fin1 rfl (rv_tmp rfl) (fun w' hw => ⟨false, rfl, trivial, new_nil, hw.tail (newKey h4)⟩)
    · first | refine wl_g rfl rfl rfl rfl (qt_p tbok rfl) ?_ | refine wl_skip rfl rfl rfl rfl rfl ?_
      refine wl_g rfl rfl rfl rfl (qt_load (c := .slc (el O j).a (el O j).M.length (el O j).c) tbok rfl rfl rfl (rc_lk .here rfl)) ?_
      first | refine wl_g rfl rfl rfl rfl (qt_len tbok rfl rfl) ?_ | refine wl_skip rfl rfl rfl rfl rfl ?_
      first | refine wl_g rfl rfl rfl rfl (qt_p tbok rfl) ?_ | refine wl_skip rfl rfl rfl rfl rfl ?_
      refine wl_q rfl rfl rfl (qt_p tbok rfl) ?_
      refine wl_done ?_
      refine nk_code ?_
      refine wc_cond rfl (fun h22 => ?_) (fun h22 => ?_)
      · refine wc_seq ?_
        refine wc_region ?_
        refine wl_q rfl rfl rfl (qt_p tbok rfl) ?_
        refine wl_done ?_
        refine nk_code ?_
        refine wc_ret ?_
        try dsimp only
        exact fin1 rfl (rv_tmp rfl) (fun w' hw => ⟨false, rfl, trivial, new_nil, hw.tail (newKey h4)⟩)
      · refine wc_skip ?_
        refine nk_code ?_
        refine wc_region ?_
        refine wl_q rfl rfl rfl (qt_p tbok rfl) ?_
        refine wl_q rfl rfl rfl (qt_p tbok rfl) ?_
        refine wl_done ?_
        exact nk_round (i := j) (j + 1) hj' (by show O.length - (j + 1) < O.length - j; omega) ⟨rfl, rfl, rfl, rfl, trivial⟩ (fun w hw => hw.tail (newKey h4))
  · refine wc_exit rfl ?_
    refine nk_code ?_
    refine wc_seq ?_
    refine wc_region ?_
    refine wl_q rfl rfl rfl (qt_p tbok rfl) ?_
    refine wl_q rfl rfl rfl (qt_len tbok rfl rfl) ?_
    refine wl_q rfl rfl rfl (qt_p tbok rfl) ?_
    refine wl_q rfl rfl rfl (qt_p tbok rfl) ?_
    refine wl_done ?_
    refine nk_code ?_
    refine wc_ret ?_
    try dsimp only
    exact fin1 rfl (rv_tmp rfl) (fun w' hw => ⟨_, rfl, trivial, new_nil, hw⟩)
end Go.Proofs.Ytjhmcmadleabjaa
