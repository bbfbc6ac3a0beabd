/- ToMarks copies marks; more rules: what a guard leaves out, an index of whatever kind. -/
import Derived.Test.YtjhmcmadleabjaaRole
set_option linter.unusedVariables false
set_option maxRecDepth 100000
namespace Go.Proofs.Ytjhmcmadleabjaa
open Go Go.Hw Go.Proofs

theorem el84 : elOk Try.prog 84 2178 2208 (.agg z2178) = true := by kernel_rfl
/-- The block of a copied list of marks; those of their paths. -/
abbrev mob (M : List (Mk × Os)) (y : Os) : Blk := ⟨y.1, M.flatMap mrow, 84, (0, 0), y.2.2⟩
def pbs (M : List (Mk × Os)) : Hp := (M.map fun p => dob 30 p.1.pt p.2).reverse
theorem pbs_snoc (M : List (Mk × Os)) (p : Mk × Os) : pbs (M ++ [p]) = dob 30 p.1.pt p.2 :: pbs M := by simp [pbs]
theorem pbs_new {w : World} {M : List (Mk × Os)} (h : ∀ p ∈ M, ∀ k, p.2.1.key = some k → w.heap.size ≤ k) : ∀ b ∈ pbs M, ∀ k, b.key = some k → w.heap.size ≤ k := fun b hb => by
  unfold pbs at hb
  rw [List.mem_reverse] at hb
  obtain ⟨p, hp, rfl⟩ := List.mem_map.1 hb
  exact h p hp
theorem pbs_mem {M : List (Mk × Os)} {p : Mk × Os} (h : p ∈ M) : dob 30 p.1.pt p.2 ∈ pbs M := by
  unfold pbs; rw [List.mem_reverse]; exact List.mem_map_of_mem (f := fun p : Mk × Os => dob 30 p.1.pt p.2) h
theorem ok_map {M N : List (Mk × Os)} (h : N.map (·.1) = M.map (·.1)) (hM : ∀ p ∈ M, p.1.ok) : ∀ p ∈ N, p.1.ok := fun p hp => by
  have : p.1 ∈ M.map (·.1) := by rw [← h]; exact List.mem_map_of_mem (f := fun p : Mk × Os => p.1) hp
  obtain ⟨q, hq, e⟩ := List.mem_map.1 this
  rw [← e]; exact hM q hq
/-- A copy of marks, as far as it goes. -/
def CpI (M N : List (Mk × Os)) (y : Os) : Prop := N.length ≤ M.length ∧ N.map (·.1) = (M.take N.length).map (·.1) ∧ OwnS y.1 N.length y.2.1 2178 (N.flatMap mrow) y.2.2 ∧ ∀ p ∈ N, Doi p.1.pt p.2
theorem cp_nil (M : List (Mk × Os)) : CpI M [] (.nil, 0, []) := ⟨Nat.zero_le _, by simp, ⟨rfl, rfl, rfl, rfl⟩, fun p hp => by cases hp⟩
theorem cp_snoc {M N : List (Mk × Os)} {y x : Os} (h : CpI M N y) (hn : N.length < M.length) {a2 : Ad} {c2 : Nat} {t2 : List Value} (ho : OwnS a2 (N.length + 1) c2 2178 (N.flatMap mrow ++ mrow ((el M N.length).1, x)) t2) (hx : Doi (el M N.length).1.pt x) :
    CpI M (N ++ [((el M N.length).1, x)]) (a2, c2, t2) := by
  obtain ⟨_, h2, _, h4⟩ := h
  refine ⟨by simp; omega, ?_, ?_, fun p hp => ?_⟩
  · rw [List.map_append, h2, List.length_append, List.length_singleton, el_take hn, List.map_append]; rfl
  · rw [List.length_append, List.length_singleton, List.flatMap_append]
    simpa using ho
  · rcases List.mem_append.1 hp with hp | hp
    · exact h4 p hp
    · rw [List.mem_singleton.1 hp]; exact hx

set_option maxHeartbeats 4000000 in
theorem toMarks_c {w : World} {M : List (Mk × Os)} {la : Ad} {lc : Nat} (hM : ∀ p ∈ M, p.1.ok) (hMl : M.length ≤ 1073741824) (hl : Cells w la (M.flatMap mrow)) (hp : ∀ p ∈ M, Mk.lies w p) :
    CallsV Try.prog 37 [.c (.slc la M.length lc)] w fun en w' => ∃ y : List (Mk × Os) × Os, en = .returned (V.c (.slc y.2.1 M.length y.2.2.1)).den ∧ (y.1.length = M.length ∧ y.1.map (·.1) = M.map (·.1) ∧ OwnS y.2.1 M.length y.2.2.1 2178 (y.1.flatMap mrow) y.2.2.2 ∧ ∀ p ∈ y.1, Doi p.1.pt p.2) ∧ (∀ p ∈ mob y.1 y.2 :: pbs y.1, ∀ k, p.key = some k → w.heap.size ≤ k) ∧ St w (mob y.1 y.2 :: pbs y.1) w' := by
  refine calls_in (tb := tb) (fn := Try.f37) Try.func37 rfl rfl rfl [(0, .c (.slc la M.length lc))] rfl [] (St.refl _) ?_
  refine wc_seq ?_
  refine wc_region ?_
  refine wl_q rfl rfl rfl (qt_p tbok rfl) ?_
  refine wl_done ?_
  refine nk_code ?_
  refine wc_seq ?_
  refine wc_region ?_
  refine wl_q rfl rfl rfl (qt_p tbok rfl) ?_
  refine wl_done ?_
  refine nk_code ?_
  refine wc_seq ?_
  refine wc_seq ?_
  refine wc_region ?_
  refine wl_q rfl rfl rfl (qt_p tbok rfl) ?_
  refine wl_q rfl rfl rfl (qt_len tbok rfl rfl) ?_
  refine wl_q rfl rfl rfl (qt_p tbok rfl) ?_
  refine wl_done ?_
  refine nk_code ?_
  refine wc_block ?_
  refine wc_loop (ι := List (Mk × Os) × Os) (fun j => CpI M j.1 j.2 ∧ (∀ k, j.2.1.key = some k → w.heap.size ≤ k) ∧ ∀ p ∈ j.1, ∀ k, p.2.1.key = some k → w.heap.size ≤ k) (fun j => [(13, .c (.i64 (j.1.length : Int))), (12, .c (.i64 (M.length : Int))), (11, .c (.slc la M.length lc)), (3, .c (.slc j.2.1 j.1.length j.2.2.1))]) (fun j => mob j.1 j.2 :: pbs j.1) (fun j => M.length - j.1.length) ([], .nil, 0, []) ⟨cp_nil M, nil_new, fun p hp => by cases hp⟩ (nk_start ⟨rfl, rfl, rfl, rfl, trivial⟩ (fun w hw => st_none hw)) (fun ⟨N, y⟩ ⟨hN, hky, hkp⟩ => ?_)
  replace hN : CpI M N y := hN
  replace hky : ∀ k, y.1.key = some k → w.heap.size ≤ k := hky
  replace hkp : ∀ p ∈ N, ∀ k, p.2.1.key = some k → w.heap.size ≤ k := hkp
  have hNl := hN.1
  have hkb := pbs_new hkp
  dsimp only
  refine wc_seq ?_
  refine wc_region ?_
  refine wl_q rfl rfl rfl (qt_p tbok rfl) ?_
  refine wl_done ?_
  refine nk_code ?_
  refine wc_seq ?_
  refine wc_cond rfl (fun h14 => ?_) (fun h14 => ?_)
  · have hi' : N.length < M.length := (by have h0 := of_decide_eq_true h14; omega)
    have hok := hM _ (el_mem hi')
    have hml := mrow_len hok
    have hfl := hok.fl
    have hfb : (bc (el M N.length).1.ch.flatten).length = 2144 := (by rw [bc_len, hfl])
    have hpl := hp _ (el_mem hi')
    obtain ⟨hidl, hC, hCl, hP, hPl⟩ := hok
    have hok : (el M N.length).1.ok := ⟨hidl, hC, hCl, hP, hPl⟩
    obtain ⟨m, hm⟩ : ∃ m : Mk × Os, m = el M N.length := ⟨_, rfl⟩
    have hfA : ∀ j, j < 67 → (gf m.1.ch j).length = 32 := (fun j hj => gf_len (by rw [hm]; exact hC) (by rw [hm]; omega))
    have hul : ∀ j, j ≤ 67 → (upE (gf m.1.ch) Z67 j).flatten.length = 2144 := (fun j hj => by rw [flat_len (upE_A hfA Z67_A), upE_len Z67_len hj])
    have hfull : upE (gf m.1.ch) Z67 67 = m.1.ch := (by rw [upE_full Z67_len, gf_map (by rw [hm]; exact hCl)])
    obtain ⟨lr, lo, hla⟩ := cells_nn hl (by rw [rows_len (mrows_len hM)]; omega)
    subst hla
    have hra := rows_at (mrows_len hM) hi'
    rw [← hm] at hok hml hfl hfb hpl hidl hC hCl hP hPl hra
    refine wc_skip ?_
    refine nk_code ?_
    refine wc_seq ?_
    refine wc_block ?_
    refine wc_seq ?_
    refine wc_region ?_
    refine wl_q rfl rfl rfl (qt_p tbok rfl) ?_
    refine wl_q rfl rfl rfl (qt_load_ag (l := mrow m) tbok rfl rfl rfl hml (rs_cells (hl.sub2 (m := N.length * 2178) hra) (off_new hky (off_all hkb)))) ?_
    refine wl_ef rfl (ef_alloc zero147 rfl rfl (fun x5 h5 => ?_))
    refine wl_ef rfl (ef_store (cs' := mrow m) tbok rfl rfl rfl rfl .here hml (by show 0 + 2178 ≤ z2178.length; rw [z2178_len]; decide) (spl_all (by show (mrow _).length = z2178.length; rw [hml, z2178_len])) ?_)
    refine wl_done ?_
    refine nk_code ?_
    refine wc_seq ?_
    refine wc_region ?_
    refine wl_q rfl rfl rfl (qt_p tbok rfl) ?_
    refine wl_q rfl rfl rfl (qt_p tbok rfl) ?_
    refine wl_q rfl rfl rfl (qt_load (c := .i64 m.1.ix) tbok rfl rfl rfl (rc_lk .here (mrow_sig hok 0 _ (scs_get hfl).1))) ?_
    refine wl_q rfl rfl rfl (qt_build (vs := [(0, .c (.i64 m.1.ix))]) (l := scs m.1.ix (List.replicate 2144 0) .nil 0 0) tbok rfl zero38 rfl sfill1) ?_
    refine wl_ef rfl (ef_alloc zero38 rfl rfl (fun x6 h6 => ?_))
    refine wl_ef rfl (ef_store (cs' := scs m.1.ix (List.replicate 2144 0) .nil 0 0) tbok rfl rfl rfl rfl .here (scs_len (by simp)) (by show 0 + 2146 ≤ z38.length; rw [z38_len]; decide) (spl_all (by show (scs _ _ _ _ _).length = z38.length; rw [scs_len (by simp), z38_len])) ?_)
    refine wl_done ?_
    refine nk_code ?_
    refine wc_seq ?_
    refine wc_seq ?_
    refine wc_region ?_
    refine wl_q rfl rfl rfl (qt_p tbok rfl) ?_
    refine wl_q rfl rfl rfl (qt_p tbok rfl) ?_
    refine wl_q rfl rfl rfl (qt_load_ag (l := bc m.1.ch.flatten) tbok rfl rfl rfl hfb (rs_lk (.there .here) (fun j c hj => by have := mrow_sig hok (1 + j) c ((scs_get hfl).2.1 j c hj); rw [← Nat.add_assoc] at this; exact this))) ?_
    refine wl_q rfl rfl rfl (qt_p tbok rfl) ?_
    refine wl_done ?_
    refine nk_code ?_
    refine wc_block ?_
    refine wc_loop (ι := Nat) (fun k => k ≤ 67) (fun k => [(24, .c (.i64 (k : Int))), (23, .agg (bc m.1.ch.flatten)), (5, .c (.ptr (.at x5 0))), (6, .c (.ptr (.at x6 0))), (13, .c (.i64 (N.length : Int))), (12, .c (.i64 (M.length : Int))), (11, .c (.slc (.at lr lo) M.length lc)), (3, .c (.slc y.1 N.length y.2.1))]) (fun k => ⟨.at x6 0, scs m.1.ix (upE (gf m.1.ch) Z67 k).flatten .nil 0 0, 38, (0, 0), []⟩ :: ⟨.at x5 0, mrow m, 147, (0, 0), []⟩ :: mob N y :: pbs N) (fun k => 67 - k) 0 (by omega) (nk_start ⟨rfl, rfl, rfl, rfl, rfl, rfl, rfl, rfl, trivial⟩ (fun w hw => by rw [upE_zero, show Z67.flatten = List.replicate 2144 0 by kernel_rfl]; exact hw)) (fun k hk => ?_)
    refine wc_seq ?_
    refine wc_region ?_
    refine wl_q rfl rfl rfl (qt_p tbok rfl) ?_
    refine wl_done ?_
    refine nk_code ?_
    refine wc_seq ?_
    refine wc_cond rfl (fun h25 => ?_) (fun h25 => ?_)
    · have hk' : k < 67 := (by have h0 := of_decide_eq_true h25; omega)
      have hfk := hul k hk
      have hgl : (bc (gf m.1.ch k)).length = 32 := (by rw [bc_len, hfA k hk'])
      refine wc_skip ?_
      refine nk_code ?_
      refine wc_seq ?_
      refine wc_block ?_
      refine wc_seq ?_
      refine wc_region ?_
      refine wl_q rfl rfl rfl (qt_p tbok rfl) ?_
      refine wl_q rfl rfl rfl (qt_index_ag tbok rfl rfl rfl rfl rfl ⟨by omega, by omega⟩ (l' := bc (gf m.1.ch k)) (by rw [Int.toNat_natCast]; exact flat_mid hC (by omega))) ?_
      refine wl_ef rfl (ef_alloc zero22 rfl rfl (fun x hx => ?_))
      refine wl_q rfl rfl rfl (qt_p tbok rfl) ?_
      refine wl_ef rfl (ef_store (cs' := bc (gf m.1.ch k)) tbok rfl rfl rfl rfl .here hgl (Nat.le_of_ble_eq_true rfl) (spl_all hgl) ?_)
      refine wl_done ?_
      refine nk_code ?_
      refine wc_region ?_
      refine wl_q rfl rfl rfl (qt_p tbok rfl) ?_
      refine wl_q rfl rfl rfl (qt_load_ag (l := bc (gf m.1.ch k)) tbok rfl rfl rfl hgl (rs_lk .here at0)) ?_
      refine wl_q rfl rfl rfl (qt_p tbok rfl) ?_
      refine wl_q rfl rfl rfl (qt_p tbok rfl) ?_
      refine wl_ef rfl (ef_store (cs' := scs m.1.ix (upE (gf m.1.ch) Z67 (k + 1)).flatten .nil 0 0) tbok rfl rfl rfl rfl (.there .here) hgl (by rw [scs_len hfk]; omega) (by rw [show 0 + 1 + (k : Int).toNat * 32 = 1 + k * 32 by omega]; exact scs_setk (by show k * 32 + (bc (gf m.1.ch k)).length ≤ _; rw [hgl, hfk]; omega) (upE_set hfA Z67_A Z67_len hk')) ?_)
      refine wl_done ?_
      refine nk_code ?_
      refine wc_region ?_
      refine wl_q rfl rfl rfl (qt_p tbok rfl) ?_
      refine wl_q rfl rfl rfl (qt_p tbok rfl) ?_
      refine wl_done ?_
      exact nk_round (k + 1) (by omega) (by omega) ⟨rfl, rfl, rfl, rfl, rfl, rfl, rfl, rfl, trivial⟩ (fun _ h => h.tail (newKey hx))
    · have he : k = 67 := (by have h0 := of_decide_eq_false h25; omega)
      subst he
      rw [hfull]
      refine wc_exit rfl ?_
      refine nk_code ?_
      refine wc_seq ?_
      refine wc_seq ?_
      refine wc_region ?_
      refine wl_q rfl rfl rfl (qt_p tbok rfl) ?_
      refine wl_q rfl rfl rfl (qt_p tbok rfl) ?_
      refine wl_q rfl rfl rfl (qt_load (c := .slc m.2.1 m.1.pt.length m.2.2.1) tbok rfl rfl rfl (rc_lk (.there .here) (mrow_sig hok 2145 _ (scs_get hfl).2.2))) ?_
      refine wl_q rfl rfl rfl (qt_len tbok rfl rfl) ?_
      refine wl_q rfl rfl rfl (qt_p tbok rfl) ?_
      refine wl_done ?_
      refine nk_code ?_
      refine wc_block ?_
      refine wc_loop (ι := Nat × Os) (fun j => j.1 ≤ m.1.pt.length ∧ OwnS j.2.1 j.1 j.2.2.1 32 (bc (m.1.pt.take j.1).flatten) j.2.2.2 ∧ (∀ k, j.2.1.key = some k → w.heap.size ≤ k)) (fun j => [(37, .c (.i64 (j.1 : Int))), (36, .c (.i64 (m.1.pt.length : Int))), (35, .c (.slc m.2.1 m.1.pt.length m.2.2.1)), (5, .c (.ptr (.at x5 0))), (6, .c (.ptr (.at x6 0))), (13, .c (.i64 (N.length : Int))), (12, .c (.i64 (M.length : Int))), (11, .c (.slc (.at lr lo) M.length lc)), (3, .c (.slc y.1 N.length y.2.1))]) (fun j => dob 30 (m.1.pt.take j.1) j.2 :: ⟨.at x6 0, scs m.1.ix m.1.ch.flatten j.2.1 j.1 j.2.2.1, 38, (0, 0), []⟩ :: ⟨.at x5 0, mrow m, 147, (0, 0), []⟩ :: mob N y :: pbs N) (fun j => m.1.pt.length - j.1) (0, .nil, 0, []) ⟨Nat.zero_le _, doi_nil, nil_new⟩ (nk_start ⟨rfl, rfl, rfl, rfl, rfl, rfl, rfl, rfl, rfl, trivial⟩ (fun w hw => st_none hw)) (fun ⟨k, z⟩ ⟨hk, hz, hkz⟩ => ?_)
      replace hk : k ≤ m.1.pt.length := hk
      replace hz : OwnS z.1 k z.2.1 32 (bc (m.1.pt.take k).flatten) z.2.2 := hz
      replace hkz : ∀ k, z.1.key = some k → w.heap.size ≤ k := hkz
      dsimp only
      refine wc_seq ?_
      refine wc_region ?_
      refine wl_q rfl rfl rfl (qt_p tbok rfl) ?_
      refine wl_done ?_
      refine nk_code ?_
      refine wc_seq ?_
      refine wc_cond rfl (fun h38 => ?_) (fun h38 => ?_)
      · have hk' : k < m.1.pt.length := (by have h0 := of_decide_eq_true h38; omega)
        have hgl : (bc (gf m.1.pt k)).length = 32 := (by rw [bc_len, gf_len hP hk'])
        obtain ⟨pr, po, hpa⟩ := cells_nn hpl.1 (by rw [bc_len, flat_len hP]; omega)
        have hpc := hpl.1
        rw [hpa] at hpc ⊢
        refine wc_skip ?_
        refine nk_code ?_
        refine wc_seq ?_
        refine wc_block ?_
        refine wc_seq ?_
        refine wc_region ?_
        refine wl_q rfl rfl rfl (qt_p tbok rfl) ?_
        refine wl_q rfl rfl rfl (qt_load_ag (l := bc (gf m.1.pt k)) tbok rfl rfl rfl hgl (rs_cells (hpc.sub2 (m := k * 32) (flat_gf hP hk')) (off_new hkz (off_new (newKey h6) (off_new (newKey h5) (off_new hky (off_all hkb))))))) ?_
        refine wl_ef rfl (ef_alloc zero22 rfl rfl (fun x hx => ?_))
        refine wl_ef rfl (ef_store (cs' := bc (gf m.1.pt k)) tbok rfl rfl rfl rfl .here hgl (Nat.le_of_ble_eq_true rfl) (spl_all hgl) ?_)
        refine wl_done ?_
        refine nk_code ?_
        refine wc_region ?_
        refine wl_q rfl rfl rfl (qt_p tbok rfl) ?_
        refine wl_q rfl rfl rfl (qt_load tbok rfl rfl rfl (rc_lk (.there (.there .here)) (scs_get hfl).2.2)) ?_
        refine wl_q rfl rfl rfl (qt_load_ag (l := bc (gf m.1.pt k)) tbok rfl rfl rfl hgl (rs_lk .here at0)) ?_
        refine wl_ef rfl (ef_buildSlice (vs := [(0, .agg (bc (gf m.1.pt k)))]) (l := bc (gf m.1.pt k)) tbok rfl zero30 rfl rfl rfl (by decide) (fill_one rfl hgl) rfl (fun br hb2 => ?_))
        refine wl_ef rfl (ef_append tbok rfl el30 zero30 rfl rfl rfl (.there (.there .here)) hz hkz (m := 1) (news := bc (gf m.1.pt k)) hgl (rs_lk .here at0) (by omega) (by simp only [maxLen]; omega) (fun a2 c2 t2 hown2 hk2 hnn _ => ?_))
        refine wl_q rfl rfl rfl (qt_p tbok rfl) ?_
        refine wl_ef rfl (ef_store (cs' := scs m.1.ix m.1.ch.flatten a2 (k + 1) c2) tbok rfl rfl rfl rfl (.there (.there (.there .here))) rfl (by rw [scs_len hfl]; decide) (scs_set2 hfl) ?_)
        refine wl_done ?_
        refine nk_code ?_
        refine wc_region ?_
        refine wl_q rfl rfl rfl (qt_p tbok rfl) ?_
        refine wl_q rfl rfl rfl (qt_p tbok rfl) ?_
        refine wl_done ?_
        exact nk_round (i := (k, z)) (k + 1, a2, c2, t2) ⟨hk', by show OwnS a2 (k + 1) c2 32 (bc (m.1.pt.take (k + 1)).flatten) t2; rw [gf_take hk', ← flat_snoc]; exact hown2, hk2⟩ (by show m.1.pt.length - (k + 1) < m.1.pt.length - k; omega) ⟨rfl, rfl, rfl, rfl, rfl, rfl, rfl, rfl, rfl, trivial⟩ (fun w hw => by have h2 := Rm.sub_St (Rm.sub_St hw (.there .here) (newKey hb2)) (.there .here) (newKey hx); rw [flat_snoc, ← gf_take hk'] at h2; exact h2)
      · have he2 : k = m.1.pt.length := (by have h0 := of_decide_eq_false h38; omega)
        subst he2
        rw [List.take_length] at hz ⊢
        refine wc_exit rfl ?_
        refine nk_code ?_
        refine wc_region ?_
        refine wl_q rfl rfl rfl (qt_p tbok rfl) ?_
        refine wl_q rfl rfl rfl (qt_p tbok rfl) ?_
        refine wl_q rfl rfl rfl (qt_load_ag (l := bc m.1.id) tbok rfl rfl rfl (by rw [bc_len]; exact hidl) (rs_lk (.there (.there .here)) mrow_id)) ?_
        refine wl_q rfl rfl rfl (qt_load_ag (l := scs m.1.ix m.1.ch.flatten z.1 m.1.pt.length z.2.1) tbok rfl rfl rfl (scs_len hfl) (rs_lk (.there .here) at0)) ?_
        refine wl_q rfl rfl rfl (qt_build (vs := [(0, .agg (bc m.1.id)), (1, .agg (scs m.1.ix m.1.ch.flatten z.1 m.1.pt.length z.2.1))]) (l := mrow (m.1, z)) tbok rfl zero84 rfl (mfill hidl (scs_len hfl))) ?_
        refine wl_ef rfl (ef_buildSlice (vs := [(0, .agg (mrow (m.1, z)))]) (l := mrow (m.1, z)) tbok rfl zero84 rfl z2178_len rfl (by decide) (fill_oneN z2178_len (mrow_len hok)) rfl (fun br hb2 => ?_))
        refine wl_ef rfl (ef_append tbok rfl el84 zero84 rfl rfl rfl (.there (.there (.there (.there .here)))) hN.2.2.1 hky (m := 1) (news := mrow (m.1, z)) (mrow_len hok) (rs_lk .here at0) (by omega) (by simp only [maxLen]; omega) (fun a2 c2 t2 hown2 hk2 hnn _ => ?_))
        refine wl_q rfl rfl rfl (qt_p tbok rfl) ?_
        refine wl_done ?_
        refine nk_code ?_
        refine wc_region ?_
        refine wl_q rfl rfl rfl (qt_p tbok rfl) ?_
        refine wl_q rfl rfl rfl (qt_p tbok rfl) ?_
        refine wl_done ?_
        exact nk_round (i := (N, y)) (N ++ [(m.1, z)], a2, c2, t2) ⟨by subst hm; exact cp_snoc hN hi' hown2 hz, hk2, fun p hpm => by rcases List.mem_append.1 hpm with h9 | h9; exact hkp p h9; rw [List.mem_singleton.1 h9]; exact hkz⟩ (by show M.length - (N ++ [(m.1, z)]).length < M.length - N.length; rw [List.length_append]; simp; omega) ⟨by rw [List.length_append]; rfl, rfl, rfl, by rw [List.length_append]; rfl, trivial⟩ (fun w hw => by have h2 := Rm.sub_St (Rm.sub_St (Rm.sub_St hw (.there .here) (newKey hb2)) (.there (.there .here)) (newKey h6)) (.there (.there .here)) (newKey h5); rw [pbs_snoc]; show St _ (⟨a2, (N ++ [(m.1, z)]).flatMap mrow, 84, (0, 0), t2⟩ :: dob 30 m.1.pt z :: pbs N) _; rw [show (N ++ [(m.1, z)]).flatMap mrow = N.flatMap mrow ++ mrow (m.1, z) by simp]; exact h2)
  · have he : N.length = M.length := (by have h0 := of_decide_eq_false h14; omega)
    refine wc_exit rfl ?_
    refine nk_code ?_
    refine wc_seq ?_
    refine wc_region ?_
    refine wl_q rfl rfl rfl (qt_p tbok rfl) ?_
    refine wl_q rfl rfl rfl (qt_p tbok rfl) ?_
    refine wl_done ?_
    refine nk_code ?_
    refine wc_ret ?_
    try dsimp only
    exact fin1 rfl (rv_tmp rfl) (fun w' hw => ⟨(N, y), by rw [he], ⟨he, by rw [hN.2.1, he, List.take_length], by rw [← he]; exact hN.2.2.1, hN.2.2.2⟩, new_cons hky hkb, hw⟩)
end Go.Proofs.Ytjhmcmadleabjaa

set_option maxRecDepth 100000
namespace Go.Hw
section
variable {X : Cx} {Q : Exit → Act → World → Prop} {ops : Array Oper} {l : List Oper} {o : Oper} {e : Env} {s : Hp}
/-- The one that a guard asks was left out. -/
def gT0 (ops : Array Oper) (e : Env) (j : Nat) : Bool := match (ops[j]?).bind (·.dst) with
  | some d => match e.get d with
    | some .t0 => true
    | _ => false
  | none => false
theorem yielded_t0 {n : Nat} {a : Act} {j : Nat} (hf : Fits n e a) (hv : gT0 ops e j = true) : yielded ops a.tmps j = none := by
  unfold gT0 at hv
  unfold yielded
  split at hv
  · rename_i d' hd'
    split at hv
    · rename_i hb
      obtain ⟨h1, h2⟩ := hf.get _ _ hb
      have hsz := hf.size
      have h3 : d' < a.tmps.size := by rw [hsz]; exact h1
      have : a.tmps[d']? = some (.tuple #[]) := by
        rw [Array.getD_eq_getD_getElem?, Array.getElem?_eq_getElem h3] at h2
        rw [Array.getElem?_eq_getElem h3]
        exact congrArg some h2
      rw [hd']
      simp [this]
    · cases hv
  · cases hv
theorem wl_skip0 {j : Nat} {b : Bool} {d : Nat} (hg : o.guard = some (j, b)) (hd : o.dst = some d) (hn : Nat.blt d X.n = true) (hv : gT0 ops e j = true) (h : WL X Q ops l ((d, .t0) :: e) s) : WL X Q ops (o :: l) e s := by
  refine ⟨fun a w hf hs => ?_⟩
  unfold wpList
  rw [if_neg (by simp [Region.wanted, hg, yielded_t0 hf hv]), hd]
  exact h.go _ _ (hf.put (by simpa [Nat.blt_eq] using hn) .t0) hs
theorem wq_skip0 {tl : List Oper} {j : Nat} {b : Bool} {d : Nat} (hg : o.guard = some (j, b)) (hd : o.dst = some d) (hn : Nat.blt d X.n = true) (hv : gT0 ops e j = true) (h : WQ X Q ops tl l ((d, .t0) :: e) s) : WQ X Q ops tl (o :: l) e s := by
  refine ⟨fun a hf => ?_⟩
  unfold wpQuiet
  rw [if_neg (by simp [Region.wanted, hg, yielded_t0 hf hv]), hd]
  exact h.go _ (hf.put (by simpa [Nat.blt_eq] using hn) .t0)
variable {d : Option Nat} {ty : Nat} {pos : String} {af : Array Edge} {gd : Option (Nat × Bool)}
theorem qt_idx64 {t el z sz : Nat} {x i : Operand} {r off len cap : Nat} {u : UInt64} (ht : TbOk X.P X.tb) (htt : X.tb.get t = some (.slice el z, sz)) (hx : ev e x = some (.c (.slc (.at r off) len cap))) (hi : ev e i = some (.c (.u64 u))) (hl : u.toNat < len) :
    Qt X ⟨d, .indexAddr t x i, ty, pos, af, gd⟩ e s (.c (.ptr (.at r (off + u.toNat * z)))) := by
  refine ⟨fun a w hf hs => ?_⟩
  obtain ⟨hu, hz⟩ := und_slice ht htt
  simp only [execOp]; rw [hf.ev hx, hf.ev hi]
  simp [V.den, C.den, Ad.den, Instr.indexAt, run_underlying hu, asIntOf, run_sizeOf' hz, add_addr, Result.andThen, Sem.run_bind, hl]
theorem qt_idxA {t el z sz : Nat} {x i : Operand} {ad : Ad} {r off len cap : Nat} {k : Int} (ht : TbOk X.P X.tb) (htt : X.tb.get t = some (.slice el z, sz)) (hx : ev e x = some (.c (.slc ad len cap))) (hi : ev e i = some (.c (.i64 k))) (ha : ad = .at r off) (hl : 0 ≤ k ∧ k < (len : Int)) :
    Qt X ⟨d, .indexAddr t x i, ty, pos, af, gd⟩ e s (.c (.ptr (.at r (off + k.toNat * z)))) := by
  subst ha
  refine qt_pure ht (p := 0 ≤ k ∧ k < (len : Int)) ?_ hl
  simp only [pureS, htt, hx, hi]
theorem qt_idxB {t el z sz : Nat} {x i : Operand} {ad : Ad} {r off len cap : Nat} {u : UInt64} (ht : TbOk X.P X.tb) (htt : X.tb.get t = some (.slice el z, sz)) (hx : ev e x = some (.c (.slc ad len cap))) (hi : ev e i = some (.c (.u64 u))) (ha : ad = .at r off) (hl : u.toNat < len) :
    Qt X ⟨d, .indexAddr t x i, ty, pos, af, gd⟩ e s (.c (.ptr (.at r (off + u.toNat * z)))) := by
  subst ha
  exact qt_idx64 ht htt hx hi hl
end
end Go.Hw
namespace Go.Proofs.Ytjhmcmadleabjaa
open Go Go.Hw Go.Proofs

theorem rs_of {w0 : World} {s : Hp} {ad : Ad} {l : List C} {r o : Nat} (h : RdS w0 s ad l) (he : ad = .at r o) : RS w0 s r o l := by rw [he] at h; exact h
theorem own_at {ad : Ad} {n cap z : Nat} {cs : List C} {tl : List Value} (h : OwnS ad n cap z cs tl) (hn : 0 < n) : ∃ r, ad = .at r 0 := by
  cases ad with
  | nil => have h1 : n = 0 := h.1; omega
  | raw _ => exact h.elim
  | mp _ _ => exact h.elim
  | «at» r o => have h1 : o = 0 := h.1; exact ⟨r, by rw [h1]⟩
theorem rd_own {w0 : World} {s : Hp} {ad : Ad} {n cap z T : Nat} {fr : Nat × Nat} {cs : List C} {tl tl2 : List Value} (h : OwnS ad n cap z cs tl) (hl : Lk s ⟨ad, cs, T, fr, tl2⟩) : RdS w0 s ad cs := by
  cases ad with
  | nil => exact h.2.2.1
  | raw _ => exact h.elim
  | mp _ _ => exact h.elim
  | «at» r o =>
    have h1 : o = 0 := h.1
    subst h1
    exact rs_lk hl at0
theorem own_z {b z : Nat} {cs : List C} (h : cs.length = z) : OwnS (.at b 0) 1 1 z cs [] := ⟨rfl, Nat.le_refl _, by decide, by rw [h, Nat.one_mul], by rw [h, Nat.one_mul]; rfl⟩
theorem own_z0 {b z : Nat} : OwnS (.at b 0) 0 0 z [] [] := ⟨rfl, Nat.le_refl _, by decide, by simp, by simp⟩
theorem st_cut {w0 w : World} {c : Blk} {T : Hp} (h : St w0 (c :: T) w) (hT : ∀ p ∈ T, ∀ k, p.key = some k → w0.heap.size ≤ k) : St w0 [c] w :=
  h.sub (List.Sublist.cons_cons c (List.nil_sublist T)) fun p hp hn => by
    rcases List.mem_cons.1 hp with rfl | hp
    · exact absurd (List.mem_singleton.2 rfl) hn
    · exact hT p hp
/-- What a copy of marks is: as long, of the same marks, owned. -/
def CpD (M : List (Mk × Os)) (y : List (Mk × Os) × Os) : Prop := y.1.length = M.length ∧ y.1.map (·.1) = M.map (·.1) ∧ OwnS y.2.1 M.length y.2.2.1 2178 (y.1.flatMap mrow) y.2.2.2 ∧ ∀ p ∈ y.1, Doi p.1.pt p.2
theorem CpD.lies {M : List (Mk × Os)} {y : List (Mk × Os) × Os} (h : CpD M y) {w0 w : World} {s : Hp} (hs : St w0 s w) (hl : ∀ b ∈ pbs y.1, Lk s b) : ∀ p ∈ y.1, Mk.lies w p := fun p hp => ⟨cells_own hs (hl _ (pbs_mem hp)), OwnS.le (h.2.2.2 p hp)⟩

end Go.Proofs.Ytjhmcmadleabjaa
