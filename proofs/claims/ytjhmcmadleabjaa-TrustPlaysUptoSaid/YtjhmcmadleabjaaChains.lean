/- Steps, climbs, secrets, digits and Recover of package chain and of hallmarkref04 are the same functions. -/
import Derived.Test.YtjhmcmadleabjaaTrees
set_option linter.unusedVariables false
set_option maxRecDepth 100000
namespace Go.Proofs.Ytjhmcmadleabjaa
open Go Go.Hw Go.Proofs

/-- One step up a chain. -/
def stepB (n : UInt32) (c i : UInt8) (x : List UInt8) : List UInt8 := 2 :: be n.toUInt64 4 ++ [c, i] ++ x
def stepH (n : UInt32) (c i : UInt8) (x : List UInt8) : List UInt8 := sha (stepB n c i x)
def secB (seed : List UInt8) (n : UInt32) (c : UInt8) : List UInt8 := 4 :: seed ++ be n.toUInt64 4 ++ [c]
def secH (seed : List UInt8) (n : UInt32) (c : UInt8) : List UInt8 := sha (secB seed n c)
theorem stepB_len {n : UInt32} {c i : UInt8} {x : List UInt8} (hx : x.length = 32) : (stepB n c i x).length = 39 := by simp [stepB, be_len, hx]
theorem stepB_bc (n : UInt32) (c i : UInt8) (x : List UInt8) : (((([] : List C) ++ [C.u8 2]) ++ bc (be n.toUInt64 4)) ++ [C.u8 c, C.u8 i]) ++ bc x = bc (stepB n c i x) := by simp [stepB, bc]

theorem step_c {w : World} {n : UInt32} {c i : UInt8} {x : List UInt8} (hx : x.length = 32) :
    CallsV Try.prog 120 [.agg [.u32 n, .u8 c, .u8 i], .agg (bc x)] w fun en w' => en = .returned (V.agg (bc (stepH n c i x))).den ∧ St w [] w' := by
  have hxl : (bc x).length = 32 := by rw [bc_len, hx]
  refine calls_in (tb := tb) (fn := Try.f120) Try.func120 rfl rfl rfl [(0, .agg [.u32 n, .u8 c, .u8 i]), (1, .agg (bc x))] rfl [] (St.refl _) ?_
  refine wc_seq ?_
  refine wc_region ?_
  refine wl_ef rfl (ef_box rfl rfl rfl (fun b hb => ?_))
  refine wl_ef rfl (ef_box rfl rfl rfl (fun b2 hb2 => ?_))
  refine wl_ef rfl (ef_alloc zero30 rfl rfl (fun o ho => ?_))
  refine wl_done ?_
  refine nk_code ?_
  refine wc_seq ?_
  refine wc_region ?_
  refine wl_ef rfl (ef_make tbok rfl el5 zero5 (l := 0) (c := 39) rfl rfl rfl (by omega) (by omega) (by simp only [maxLen]; omega) (fun pr hp => ?_))
  refine wl_ef rfl (ef_buildSlice (vs := [(0, .c (.u8 2))]) (l := [.u8 2]) tbok rfl zero5 rfl rfl rfl (by decide) rfl rfl (fun br hbr => ?_))
  refine wl_ef rfl (ef_append tbok rfl el5 zero5 rfl rfl rfl (.there .here) ⟨rfl, by omega, by simp only [maxLen]; omega, rfl, rfl⟩ (newKey hp) (m := 1) (news := [.u8 2]) rfl (rs_lk .here at0) (by omega) (by simp only [maxLen]; omega) (fun a1 c1 t1 hown1 hk1 hnn1 _ => ?_))
  refine wl_q rfl rfl rfl (qt_p tbok rfl) ?_
  refine wl_done ?_
  refine nk_code ?_
  refine wc_seq ?_
  refine wc_region ?_
  refine wl_q rfl rfl rfl (qt_p tbok rfl) ?_
  refine wl_q rfl rfl rfl (qt_p tbok rfl) ?_
  refine wl_q rfl rfl rfl (qt_load (c := .u32 n) tbok rfl rfl rfl (rc_lk (.there (.there (.there (.there .here)))) rfl)) ?_
  refine wl_q rfl rfl rfl (qt_p tbok rfl) ?_
  refine wl_ef rfl (ef_fresh (by kernel_rfl) rfl rfl (fun w1 h1 => put81_c _ 4 (by omega) (by omega) w1) (fun q _ hq => ?_))
  refine wl_ef rfl (ef_append tbok rfl el5 zero5 rfl rfl rfl (.there .here) hown1 hk1 (m := 4) (news := bc (be n.toUInt64 4)) rfl (rs_lk .here at0) (by omega) (by simp only [maxLen]; omega) (fun a2 c2 t2 hown2 hk2 hnn2 _ => ?_))
  refine wl_q rfl rfl rfl (qt_p tbok rfl) ?_
  refine wl_done ?_
  refine nk_code ?_
  refine wc_seq ?_
  refine wc_region ?_
  refine wl_q rfl rfl rfl (qt_p tbok rfl) ?_
  refine wl_q rfl rfl rfl (qt_p tbok rfl) ?_
  refine wl_q rfl rfl rfl (qt_load (c := .u8 c) tbok rfl rfl rfl (rc_lk (.there (.there (.there (.there (.there .here))))) rfl)) ?_
  refine wl_q rfl rfl rfl (qt_p tbok rfl) ?_
  refine wl_q rfl rfl rfl (qt_load (c := .u8 i) tbok rfl rfl rfl (rc_lk (.there (.there (.there (.there (.there .here))))) rfl)) ?_
  refine wl_ef rfl (ef_buildSlice (vs := [(0, .c (.u8 c)), (1, .c (.u8 i))]) (l := [.u8 c, .u8 i]) tbok rfl zero5 rfl rfl rfl (by decide) rfl rfl (fun b3 hb3 => ?_))
  refine wl_ef rfl (ef_append tbok rfl el5 zero5 rfl rfl rfl (.there .here) hown2 hk2 (m := 2) (news := [.u8 c, .u8 i]) rfl (rs_lk .here at0) (by omega) (by simp only [maxLen]; omega) (fun a3 c3 t3 hown3 hk3 hnn3 _ => ?_))
  refine wl_q rfl rfl rfl (qt_p tbok rfl) ?_
  refine wl_done ?_
  refine nk_code ?_
  refine wc_seq ?_
  refine wc_region ?_
  refine wl_q rfl rfl rfl (qt_p tbok rfl) ?_
  first | refine wl_q rfl rfl rfl (qt_sl tbok rfl rfl rfl rfl) ?_ | refine wl_q rfl rfl rfl (qt_sa tbok rfl rfl rfl rfl) ?_
  refine wl_ef rfl (ef_append tbok rfl el5 zero5 rfl rfl rfl .here hown3 hk3 (m := 32) (news := bc x) (by rw [hxl]) (rs_lk (.there (.there (.there (.there (.there .here))))) at0) (by omega) (by simp only [maxLen]; omega) (fun a4 c4 t4 hown4 hk4 hnn4 _ => ?_))
  refine wl_ef rfl (ef_pure (v := .agg (bc (stepH n c i x))) (by kernel_rfl) rfl rfl (fun w1 h1 => sum_c (p := stepB n c i x) (by rw [← stepB_bc]; exact cells_own h1 .here) (lives_own h1 .here) (by rw [stepB_len hx]) (OwnS.le hown4) (by rw [stepB_len hx]; omega)) ?_)
  refine wl_ef rfl (ef_store (cs' := bc (stepH n c i x)) tbok rfl rfl rfl rfl (.there (.there (.there (.there .here)))) rfl (Nat.le_of_ble_eq_true rfl) (spl_all rfl) ?_)
  refine wl_done ?_
  refine nk_code ?_
  refine wc_ret ?_
  try dsimp only
  exact fin1 rfl (rv_ag (l := bc (stepH n c i x)) tbok rfl rfl rfl rfl (rs_lk (.there (.there (.there (.there .here)))) at0)) (fun w' hw => ⟨rfl, hw.all (new_cons hk4 (new_cons (newKey hb3) (new_cons hq (new_cons (newKey hbr) (new_cons (newKey ho) (new_cons (newKey hb2) (new_cons (newKey hb) new_nil)))))))⟩)
end Go.Proofs.Ytjhmcmadleabjaa

set_option maxRecDepth 100000
namespace Go.Proofs.Ytjhmcmadleabjaa
open Go Go.Hw Go.Proofs

theorem base_bc (n : UInt32) (c j : UInt8) (x : List UInt8) : ((([C.u8 2] ++ bc (be n.toUInt64 4)) ++ [C.u8 c]) ++ [C.u8 j]) = bc ((2 :: be n.toUInt64 4 ++ [c, j]) ++ x.take 0) := by simp [bc]
theorem bytes_c {w : World} {n : UInt32} {c j : UInt8} {x0 : List UInt8} (hr : x0.length = 32) :
    CallsV Try.prog 134 [.c (.u32 n), .c (.u8 c), .c (.u8 j), .agg (bc x0)] w fun en w' => ∃ y, en = .returned (ov (stepB n c j x0) y).den ∧ Oi (stepB n c j x0) y ∧ (∀ k, (ob (stepB n c j x0) y).key = some k → w.heap.size ≤ k) ∧ St w [ob (stepB n c j x0) y] w' := by
  have hbl := be_len n.toUInt64 4
  refine calls_in (tb := tb) (fn := Try.f134) Try.func134 rfl rfl rfl [(0, .c (.u32 n)), (1, .c (.u8 c)), (2, .c (.u8 j)), (3, .agg (bc x0))] rfl [] (St.refl _) ?_
  refine wc_seq ?_
  refine wc_region ?_
  refine wl_ef rfl (ef_box rfl rfl rfl (fun b hb => ?_))
  refine wl_q rfl rfl rfl (qt_p tbok rfl) ?_
  refine wl_done ?_
  refine nk_code ?_
  refine wc_seq ?_
  refine wc_region ?_
  refine wl_ef rfl (ef_buildSlice (vs := [(0, .c (.u8 2))]) (l := [.u8 2]) tbok rfl zero5 rfl rfl rfl (by decide) rfl rfl (fun b1 hb1 => ?_))
  refine wl_q rfl rfl rfl (qt_p tbok rfl) ?_
  refine wl_q rfl rfl rfl (qt_p tbok rfl) ?_
  refine wl_ef rfl (ef_fresh (by kernel_rfl) rfl rfl (fun w1 h1 => put83_c _ 4 (by omega) (by omega) w1) (fun q hq1 hq => ?_))
  refine wl_ef rfl (ef_append tbok rfl el5 zero5 rfl rfl rfl (.there .here) (own_of rfl (by omega)) (newKey hb1) (m := 4) (news := bc (be n.toUInt64 4)) rfl (rd_oi hq1 .here) (by omega) (by simp only [maxLen]; omega) (fun a1 c1 t1 hown1 hk1 hnn1 _ => ?_))
  refine wl_q rfl rfl rfl (qt_p tbok rfl) ?_
  refine wl_done ?_
  refine nk_code ?_
  refine wc_seq ?_
  refine wc_region ?_
  refine wl_q rfl rfl rfl (qt_p tbok rfl) ?_
  refine wl_q rfl rfl rfl (qt_p tbok rfl) ?_
  refine wl_ef rfl (ef_buildSlice (vs := [(0, .c (.u8 c))]) (l := [.u8 c]) tbok rfl zero5 rfl rfl rfl (by decide) rfl rfl (fun b2 hb2 => ?_))
  refine wl_ef rfl (ef_append tbok rfl el5 zero5 rfl rfl rfl (.there .here) hown1 hk1 (m := 1) (news := [.u8 c]) rfl (rs_lk .here at0) (by omega) (by simp only [maxLen]; omega) (fun a2 c2 t2 hown2 hk2 hnn2 _ => ?_))
  refine wl_q rfl rfl rfl (qt_p tbok rfl) ?_
  refine wl_done ?_
  refine nk_code ?_
  refine wc_seq ?_
  refine wc_region ?_
  refine wl_q rfl rfl rfl (qt_p tbok rfl) ?_
  refine wl_q rfl rfl rfl (qt_p tbok rfl) ?_
  refine wl_ef rfl (ef_buildSlice (vs := [(0, .c (.u8 j))]) (l := [.u8 j]) tbok rfl zero5 rfl rfl rfl (by decide) rfl rfl (fun b3 hb3 => ?_))
  refine wl_ef rfl (ef_append tbok rfl el5 zero5 rfl rfl rfl (.there .here) hown2 hk2 (m := 1) (news := [.u8 j]) rfl (rs_lk .here at0) (by omega) (by simp only [maxLen]; omega) (fun a3 c3 t3 hown3 hk3 hnn3 _ => ?_))
  refine wl_q rfl rfl rfl (qt_p tbok rfl) ?_
  refine wl_done ?_
  refine nk_code ?_
  refine wc_seq ?_
  refine wc_seq ?_
  refine wc_region ?_
  refine wl_q rfl rfl rfl (qt_p tbok rfl) ?_
  refine wl_done ?_
  refine nk_code ?_
  refine wc_block ?_
  refine wc_loop (ι := Nat × Os) (fun i => i.1 ≤ 32 ∧ Oi ((2 :: be n.toUInt64 4 ++ [c, j]) ++ x0.take i.1) i.2 ∧ (∀ k, i.2.1.key = some k → w.heap.size ≤ k)) (fun i => [(10, .c (.i64 (i.1 : Int))), (9, .c (.slc i.2.1 ((2 :: be n.toUInt64 4 ++ [c, j]) ++ x0.take i.1).length i.2.2.1)), (7, .c (.ptr (.at b 0)))]) (fun i => [ob ((2 :: be n.toUInt64 4 ++ [c, j]) ++ x0.take i.1) i.2, ⟨.at b 0, bc x0, 22, (0, 0), []⟩]) (fun i => 32 - i.1) (0, a3, c3, t3) ⟨Nat.zero_le _, by have h2 := hown3; rw [base_bc n c j x0] at h2; exact h2, hk3⟩ (nk_start ⟨rfl, rfl, rfl, trivial⟩ (fun w hw => by have h2 := Rm.sub_St (Rm.sub_St (Rm.sub_St hw (.there .here) (newKey hb3)) (.there .here) (newKey hb2)) (.there .here) hq; rw [base_bc n c j x0] at h2; exact h2)) (fun ⟨i, x⟩ ⟨hi, hx, hk⟩ => ?_)
  replace hi : i ≤ 32 := hi
  replace hx : Oi ((2 :: be n.toUInt64 4 ++ [c, j]) ++ x0.take i) x := hx
  replace hk : ∀ k, x.1.key = some k → w.heap.size ≤ k := hk
  have hl : ((2 :: be n.toUInt64 4 ++ [c, j]) ++ x0.take i).length ≤ 100 := (by simp [hr, hbl]; try omega)
  dsimp only
  refine wc_seq ?_
  refine wc_seq ?_
  refine wc_region ?_
  refine wl_q rfl rfl rfl (qt_p tbok rfl) ?_
  refine wl_q rfl rfl rfl (qt_p tbok rfl) ?_
  refine wl_done ?_
  refine nk_code ?_
  refine wc_cond rfl (fun h25 => ?_) (fun h25 => ?_)
  · have hi' : i < x0.length := (by have h0 := of_decide_eq_true h25; omega)
    refine wc_skip ?_
    refine nk_code ?_
    refine wc_seq ?_
    refine wc_block ?_
    refine wc_region ?_
    refine wl_q rfl rfl rfl (qt_p tbok rfl) ?_
    refine wl_q rfl rfl rfl (qt_p tbok rfl) ?_
    refine wl_q rfl rfl rfl (qt_p tbok rfl) ?_
    refine wl_q rfl rfl rfl (qt_load (c := .u8 (x0.getD i 0)) tbok rfl rfl rfl (rc_lk (.there .here) (by rw [show 0 + (i : Int).toNat * 1 = i by omega]; exact bc_getD hi'))) ?_
    refine wl_ef rfl (ef_buildSlice (vs := [(0, .c (.u8 (x0.getD i 0)))]) (l := [.u8 (x0.getD i 0)]) tbok rfl zero5 rfl rfl rfl (by decide) rfl rfl (fun br hb2 => ?_))
    refine wl_ef rfl (ef_append tbok rfl el5 zero5 rfl rfl rfl (.there .here) hx hk (m := 1) (news := [.u8 (x0.getD i 0)]) rfl (rs_lk .here at0) (by omega) (by simp only [maxLen]; omega) (fun a2 c2 t2 hown2 hk2 hnn _ => ?_))
    refine wl_q rfl rfl rfl (qt_p tbok rfl) ?_
    refine wl_done ?_
    refine nk_code ?_
    refine wc_region ?_
    refine wl_q rfl rfl rfl (qt_p tbok rfl) ?_
    refine wl_q rfl rfl rfl (qt_p tbok rfl) ?_
    refine wl_q rfl rfl rfl (qt_p tbok rfl) ?_
    refine wl_done ?_
    exact nk_round (i := (i, x)) (i + 1, a2, c2, t2) ⟨by show i + 1 ≤ 32; omega, by show Oi ((2 :: be n.toUInt64 4 ++ [c, j]) ++ x0.take (i + 1)) (a2, c2, t2); rw [take_snoc hi', ← List.append_assoc]; exact oi_app hown2 rfl, hk2⟩ (by show 32 - (i + 1) < 32 - i; omega) ⟨rfl, by show some (V.c (C.slc a2 (((2 :: be n.toUInt64 4 ++ [c, j]) ++ x0.take i).length + 1) c2)) = some (V.c (C.slc a2 ((2 :: be n.toUInt64 4 ++ [c, j]) ++ x0.take (i + 1)).length c2)); rw [take_len1 hi'], rfl, trivial⟩ (fun w hw => by have h2 := Rm.sub_St hw (.there .here) (newKey hb2); rw [bc_snoc, List.append_assoc, ← take_snoc hi'] at h2; exact h2)
  · have he : i = 32 := (by have h0 := of_decide_eq_false h25; omega)
    have htk : x0.take i = x0 := List.take_of_length_le (by omega)
    rw [htk] at hx
    rw [htk]
    refine wc_exit rfl ?_
    refine nk_code ?_
    refine wc_seq ?_
    refine wc_region ?_
    refine wl_q rfl rfl rfl (qt_p tbok rfl) ?_
    refine wl_q rfl rfl rfl (qt_p tbok rfl) ?_
    refine wl_done ?_
    refine nk_code ?_
    refine wc_ret ?_
    try dsimp only
    exact fin1 rfl (rv_tmp rfl) (fun w' hw => ⟨x, rfl, hx, hk, Rm.sub_St hw (.there .here) (newKey hb)⟩)

theorem step2_c {w : World} {n : UInt32} {c i : UInt8} {x0 : List UInt8} (hx : x0.length = 32) :
    CallsV Try.prog 127 [.c (.u32 n), .c (.u8 c), .c (.u8 i), .agg (bc x0)] w fun en w' => en = .returned (V.agg (bc (stepH n c i x0))).den ∧ St w [] w' := by
  have hxl : (bc x0).length = 32 := by rw [bc_len, hx]
  refine calls_in (tb := tb) (fn := Try.f127) Try.func127 rfl rfl rfl [(0, .c (.u32 n)), (1, .c (.u8 c)), (2, .c (.u8 i)), (3, .agg (bc x0))] rfl [] (St.refl _) ?_
  refine wc_seq ?_
  refine wc_region ?_
  refine wl_ef rfl (ef_box rfl rfl rfl (fun b hb => ?_))
  refine wl_ef rfl (ef_alloc zero22 rfl rfl (fun o ho => ?_))
  refine wl_done ?_
  refine nk_code ?_
  refine wc_seq ?_
  refine wc_region ?_
  refine wl_q rfl rfl rfl (qt_p tbok rfl) ?_
  refine wl_q rfl rfl rfl (qt_p tbok rfl) ?_
  refine wl_q rfl rfl rfl (qt_p tbok rfl) ?_
  refine wl_q rfl rfl rfl (qt_load_ag (l := bc x0) tbok rfl rfl rfl hxl (rs_lk (.there .here) at0)) ?_
  refine wl_ef rfl (ef_fresh (by kernel_rfl) rfl rfl (fun w1 h1 => bytes_c hx) (fun y hy hk => ?_))
  refine wl_ef rfl (ef_pure (v := .agg (bc (stepH n c i x0))) (by kernel_rfl) rfl rfl (fun w1 h1 => sum2_c (p := stepB n c i x0) (cells_own h1 .here) (by rw [stepB_len hx]; omega)) ?_)
  refine wl_ef rfl (ef_store (cs' := bc (stepH n c i x0)) tbok rfl rfl rfl rfl (.there .here) rfl (Nat.le_of_ble_eq_true rfl) (spl_all rfl) ?_)
  refine wl_done ?_
  refine nk_code ?_
  refine wc_ret ?_
  try dsimp only
  exact fin1 rfl (rv_ag (l := bc (stepH n c i x0)) tbok rfl rfl rfl rfl (rs_lk (.there .here) at0)) (fun w' hw => ⟨rfl, hw.all (new_cons hk (new_cons (newKey ho) (new_cons (newKey hb) new_nil)))⟩)
end Go.Proofs.Ytjhmcmadleabjaa

set_option maxRecDepth 100000
namespace Go.Proofs.Ytjhmcmadleabjaa
open Go Go.Hw Go.Proofs

/-- k steps up a chain, from place i. -/
def clm (n : UInt32) (c : UInt8) : Nat → Nat → List UInt8 → List UInt8
  | _, 0, x => x
  | i, k + 1, x => clm n c (i + 1) k (stepH n c (UInt8.ofInt (i : Int)) x)
theorem clm_len (n : UInt32) (c : UInt8) : ∀ (k i : Nat) (x : List UInt8), x.length = 32 → (clm n c i k x).length = 32
  | 0, _, _, h => h
  | k + 1, i, x, h => clm_len n c k (i + 1) _ rfl
theorem clm_add (n : UInt32) (c : UInt8) : ∀ (k i m : Nat) (x : List UInt8), clm n c (i + k) m (clm n c i k x) = clm n c i (k + m) x
  | 0, i, m, x => by rw [Nat.zero_add]; rfl
  | k + 1, i, m, x => by
    rw [show k + 1 + m = (k + m) + 1 by omega]
    show clm n c (i + (k + 1)) m (clm n c (i + 1) k _) = clm n c (i + 1) (k + m) _
    rw [show i + (k + 1) = (i + 1) + k by omega, clm_add n c k (i + 1) m]

theorem zero201 : zeroIs Try.prog 201 (.agg [.u32 0, .u8 0, .u8 0]) := by unfold zeroIs; kernel_rfl
theorem climb95_c {w : World} {n : UInt32} {c : UInt8} {a q : Nat} {x : List UInt8} (hx : x.length = 32) (ha : a ≤ q) (hq : q ≤ 15) :
    CallsV Try.prog 95 [.c (.u32 n), .c (.u8 c), .agg (bc x), .c (.i64 (a : Int)), .c (.i64 (q : Int))] w fun en w' => en = .returned (V.t2 (.agg (bc (clm n c a (q - a) x))) (.c (.i64 0))).den ∧ St w [] w' := by
  have hxl : (bc x).length = 32 := by rw [bc_len, hx]
  refine calls_in (tb := tb) (fn := Try.f95) Try.func95 rfl rfl rfl [(0, .c (.u32 n)), (1, .c (.u8 c)), (2, .agg (bc x)), (3, .c (.i64 (a : Int))), (4, .c (.i64 (q : Int)))] rfl [] (St.refl _) ?_
  refine wc_seq ?_
  refine wc_region ?_
  refine wl_ef rfl (ef_box rfl rfl rfl (fun b hb => ?_))
  refine wl_ef rfl (ef_alloc zero30 rfl rfl (fun o ho => ?_))
  refine wl_q rfl rfl rfl (qt_p tbok rfl) ?_
  refine wl_done ?_
  refine nk_code ?_
  refine wc_seq ?_
  refine wc_seq ?_
  refine wc_region ?_
  refine wl_q rfl rfl rfl (qt_p tbok rfl) ?_
  refine wl_q rfl rfl rfl (qt_p tbok rfl) ?_
  refine wl_as (v' := .c (.bool false)) (congrArg (fun z => V.c (C.bool z)) (decide_eq_false (by omega))) ?_
  refine wl_q rfl rfl rfl (qt_p tbok rfl) ?_
  first | refine wl_g rfl rfl rfl rfl (qt_p tbok rfl) ?_ | refine wl_skip rfl rfl rfl rfl rfl ?_
  first | refine wl_g rfl rfl rfl rfl (qt_p tbok rfl) ?_ | refine wl_skip rfl rfl rfl rfl rfl ?_
  refine wl_as (v' := .c (.bool false)) (congrArg (fun z => V.c (C.bool z)) (decide_eq_false (by omega))) ?_
  refine wl_q rfl rfl rfl (qt_p tbok rfl) ?_
  refine wl_q rfl rfl rfl (qt_p tbok rfl) ?_
  first | refine wl_g rfl rfl rfl rfl (qt_p tbok rfl) ?_ | refine wl_skip rfl rfl rfl rfl rfl ?_
  first | refine wl_g rfl rfl rfl rfl (qt_p tbok rfl) ?_ | refine wl_skip rfl rfl rfl rfl rfl ?_
  first | refine wl_g rfl rfl rfl rfl (qt_p tbok rfl) ?_ | refine wl_skip rfl rfl rfl rfl rfl ?_
  refine wl_as (v' := .c (.bool false)) (congrArg (fun z => V.c (C.bool z)) (decide_eq_false (by omega))) ?_
  refine wl_q rfl rfl rfl (qt_p tbok rfl) ?_
  refine wl_done ?_
  refine nk_code ?_
  refine wc_no rfl ?_
  refine wc_skip ?_
  refine nk_code ?_
  refine wc_seq ?_
  refine wc_seq ?_
  refine wc_region ?_
  refine wl_q rfl rfl rfl (qt_p tbok rfl) ?_
  refine wl_q rfl rfl rfl (qt_p tbok rfl) ?_
  refine wl_done ?_
  refine nk_code ?_
  refine wc_block ?_
  refine wc_loop (ι := Nat × List UInt8) (fun y => y.1 ≤ q ∧ y.2.length = 32 ∧ clm n c y.1 (q - y.1) y.2 = clm n c a (q - a) x) (fun y => [(12, .c (.i64 (y.1 : Int))), (4, .c (.i64 (q : Int))), (0, .c (.u32 n)), (1, .c (.u8 c)), (7, .c (.ptr (.at b 0))), (10, .c (.ptr (.at o 0)))]) (fun y => [⟨.at o 0, bc (List.replicate 32 0), 30, (0, 0), []⟩, ⟨.at b 0, bc y.2, 30, (0, 0), []⟩]) (fun y => q - y.1) (a, x) ⟨ha, hx, rfl⟩ (nk_start ⟨rfl, rfl, rfl, rfl, rfl, rfl, trivial⟩ (fun w hw => hw)) (fun ⟨i, y⟩ ⟨g1, g2, g3⟩ => ?_)
  replace g1 : i ≤ q := g1
  replace g2 : y.length = 32 := g2
  replace g3 : clm n c i (q - i) y = clm n c a (q - a) x := g3
  have hyl : (bc y).length = 32 := (by rw [bc_len, g2])
  dsimp only
  refine wc_seq ?_
  refine wc_seq ?_
  refine wc_region ?_
  refine wl_q rfl rfl rfl (qt_p tbok rfl) ?_
  refine wl_q rfl rfl rfl (qt_p tbok rfl) ?_
  refine wl_q rfl rfl rfl (qt_p tbok rfl) ?_
  refine wl_done ?_
  refine nk_code ?_
  refine wc_cond rfl (fun h28 => ?_) (fun h28 => ?_)
  · have hi' : i < q := (by have h0 := of_decide_eq_true h28; exact Int.ofNat_lt.1 h0)
    refine wc_skip ?_
    refine nk_code ?_
    refine wc_seq ?_
    refine wc_block ?_
    refine wc_region ?_
    refine wl_q rfl rfl rfl (qt_p tbok rfl) ?_
    refine wl_q rfl rfl rfl (qt_p tbok rfl) ?_
    refine wl_q rfl rfl rfl (qt_p tbok rfl) ?_
    refine wl_q rfl rfl rfl (qt_p tbok rfl) ?_
    refine wl_q rfl rfl rfl (qt_build (vs := [(0, .c (.u32 n)), (1, .c (.u8 c)), (2, .c (.u8 (UInt8.ofInt (i : Int))))]) (l := [.u32 n, .u8 c, .u8 (UInt8.ofInt (i : Int))]) tbok rfl zero201 rfl rfl) ?_
    refine wl_q rfl rfl rfl (qt_load_ag (l := bc y) tbok rfl rfl rfl hyl (rs_lk (.there .here) at0)) ?_
    refine wl_ef rfl (ef_pure (v := .agg (bc (stepH n c (UInt8.ofInt (i : Int)) y))) (by kernel_rfl) rfl rfl (fun w1 _ => step_c g2) ?_)
    refine wl_ef rfl (ef_store (cs' := bc (stepH n c (UInt8.ofInt (i : Int)) y)) tbok rfl rfl rfl rfl (.there .here) rfl (by rw [hyl]; decide) (spl_all (by rw [hyl]; rfl)) ?_)
    refine wl_done ?_
    refine nk_code ?_
    refine wc_region ?_
    refine wl_q rfl rfl rfl (qt_p tbok rfl) ?_
    refine wl_q rfl rfl rfl (qt_p tbok rfl) ?_
    refine wl_q rfl rfl rfl (qt_p tbok rfl) ?_
    refine wl_done ?_
    exact nk_round (i := (i, y)) (i + 1, stepH n c (UInt8.ofInt (i : Int)) y) ⟨hi', rfl, by show clm n c (i + 1) (q - (i + 1)) (stepH n c (UInt8.ofInt (i : Int)) y) = _; rw [← g3, show q - i = (q - (i + 1)) + 1 by omega]; rfl⟩ (by show q - (i + 1) < q - i; omega) ⟨rfl, rfl, rfl, rfl, rfl, rfl, trivial⟩ (fun _ h => h)
  · have he : i = q := (by have h0 := of_decide_eq_false h28; have h1 : ¬ i < q := fun h => h0 (Int.ofNat_lt.2 h); omega)
    have hfin : y = clm n c a (q - a) x := (by rw [← g3, he, Nat.sub_self]; rfl)
    refine wc_exit rfl ?_
    refine nk_code ?_
    refine wc_seq ?_
    refine wc_region ?_
    refine wl_q rfl rfl rfl (qt_load_ag (l := bc y) tbok rfl rfl rfl hyl (rs_lk (.there .here) at0)) ?_
    refine wl_ef rfl (ef_store (cs' := bc y) tbok rfl rfl rfl rfl .here hyl (Nat.le_of_ble_eq_true rfl) (spl_all hyl) ?_)
    refine wl_q rfl rfl rfl (qt_p tbok rfl) ?_
    refine wl_done ?_
    refine nk_code ?_
    refine wc_ret ?_
    try dsimp only
    rw [← hfin]
    exact fin2 rfl (rv_ag (l := bc y) tbok rfl rfl rfl hyl (rs_lk .here at0)) (rv_tmp rfl) (fun w' hw => ⟨rfl, hw.all (new_cons (newKey ho) (new_cons (newKey hb) new_nil))⟩)

theorem climb115_c {w : World} {n : UInt32} {c : UInt8} {a q : Nat} {x : List UInt8} (hx : x.length = 32) (ha : a ≤ q) (hq : q ≤ 15) :
    CallsV Try.prog 115 [.c (.u32 n), .c (.u8 c), .agg (bc x), .c (.i64 (a : Int)), .c (.i64 (q : Int))] w fun en w' => en = .returned (V.agg (bc (clm n c a (q - a) x))).den ∧ St w [] w' := by
  have hxl : (bc x).length = 32 := by rw [bc_len, hx]
  refine calls_in (tb := tb) (fn := Try.f115) Try.func115 rfl rfl rfl [(0, .c (.u32 n)), (1, .c (.u8 c)), (2, .agg (bc x)), (3, .c (.i64 (a : Int))), (4, .c (.i64 (q : Int)))] rfl [] (St.refl _) ?_
  refine wc_seq ?_
  refine wc_region ?_
  refine wl_ef rfl (ef_box rfl rfl rfl (fun b hb => ?_))
  refine wl_ef rfl (ef_alloc zero22 rfl rfl (fun o ho => ?_))
  refine wl_done ?_
  refine nk_code ?_
  refine wc_seq ?_
  refine wc_seq ?_
  refine wc_region ?_
  refine wl_q rfl rfl rfl (qt_p tbok rfl) ?_
  refine wl_q rfl rfl rfl (qt_p tbok rfl) ?_
  refine wl_done ?_
  refine nk_code ?_
  refine wc_block ?_
  refine wc_loop (ι := Nat × List UInt8) (fun y => y.1 ≤ q ∧ y.2.length = 32 ∧ clm n c y.1 (q - y.1) y.2 = clm n c a (q - a) x) (fun y => [(11, .c (.i64 (y.1 : Int))), (4, .c (.i64 (q : Int))), (0, .c (.u32 n)), (1, .c (.u8 c)), (7, .c (.ptr (.at b 0))), (10, .c (.ptr (.at o 0)))]) (fun y => [⟨.at o 0, bc (List.replicate 32 0), 22, (0, 0), []⟩, ⟨.at b 0, bc y.2, 22, (0, 0), []⟩]) (fun y => q - y.1) (a, x) ⟨ha, hx, rfl⟩ (nk_start ⟨rfl, rfl, rfl, rfl, rfl, rfl, trivial⟩ (fun w hw => hw)) (fun ⟨i, y⟩ ⟨g1, g2, g3⟩ => ?_)
  replace g1 : i ≤ q := g1
  replace g2 : y.length = 32 := g2
  replace g3 : clm n c i (q - i) y = clm n c a (q - a) x := g3
  have hyl : (bc y).length = 32 := (by rw [bc_len, g2])
  dsimp only
  refine wc_seq ?_
  refine wc_seq ?_
  refine wc_region ?_
  refine wl_q rfl rfl rfl (qt_p tbok rfl) ?_
  refine wl_q rfl rfl rfl (qt_p tbok rfl) ?_
  refine wl_q rfl rfl rfl (qt_p tbok rfl) ?_
  refine wl_done ?_
  refine nk_code ?_
  refine wc_cond rfl (fun h15 => ?_) (fun h15 => ?_)
  · have hi' : i < q := (by have h0 := of_decide_eq_true h15; exact Int.ofNat_lt.1 h0)
    refine wc_skip ?_
    refine nk_code ?_
    refine wc_seq ?_
    refine wc_block ?_
    refine wc_region ?_
    refine wl_q rfl rfl rfl (qt_p tbok rfl) ?_
    refine wl_q rfl rfl rfl (qt_p tbok rfl) ?_
    refine wl_q rfl rfl rfl (qt_p tbok rfl) ?_
    refine wl_q rfl rfl rfl (qt_p tbok rfl) ?_
    refine wl_q rfl rfl rfl (qt_load_ag (l := bc y) tbok rfl rfl rfl hyl (rs_lk (.there .here) at0)) ?_
    refine wl_ef rfl (ef_pure (v := .agg (bc (stepH n c (UInt8.ofInt (i : Int)) y))) (by kernel_rfl) rfl rfl (fun w1 _ => step2_c g2) ?_)
    refine wl_ef rfl (ef_store (cs' := bc (stepH n c (UInt8.ofInt (i : Int)) y)) tbok rfl rfl rfl rfl (.there .here) rfl (by rw [hyl]; decide) (spl_all (by rw [hyl]; rfl)) ?_)
    refine wl_done ?_
    refine nk_code ?_
    refine wc_region ?_
    refine wl_q rfl rfl rfl (qt_p tbok rfl) ?_
    refine wl_q rfl rfl rfl (qt_p tbok rfl) ?_
    refine wl_q rfl rfl rfl (qt_p tbok rfl) ?_
    refine wl_done ?_
    exact nk_round (i := (i, y)) (i + 1, stepH n c (UInt8.ofInt (i : Int)) y) ⟨hi', rfl, by show clm n c (i + 1) (q - (i + 1)) (stepH n c (UInt8.ofInt (i : Int)) y) = _; rw [← g3, show q - i = (q - (i + 1)) + 1 by omega]; rfl⟩ (by show q - (i + 1) < q - i; omega) ⟨rfl, rfl, rfl, rfl, rfl, rfl, trivial⟩ (fun _ h => h)
  · have he : i = q := (by have h0 := of_decide_eq_false h15; have h1 : ¬ i < q := fun h => h0 (Int.ofNat_lt.2 h); omega)
    have hfin : y = clm n c a (q - a) x := (by rw [← g3, he, Nat.sub_self]; rfl)
    refine wc_exit rfl ?_
    refine nk_code ?_
    refine wc_seq ?_
    refine wc_region ?_
    refine wl_q rfl rfl rfl (qt_load_ag (l := bc y) tbok rfl rfl rfl hyl (rs_lk (.there .here) at0)) ?_
    refine wl_ef rfl (ef_store (cs' := bc y) tbok rfl rfl rfl rfl .here hyl (Nat.le_of_ble_eq_true rfl) (spl_all hyl) ?_)
    refine wl_done ?_
    refine nk_code ?_
    refine wc_ret ?_
    try dsimp only
    rw [← hfin]
    exact fin1 rfl (rv_ag (l := bc y) tbok rfl rfl rfl hyl (rs_lk .here at0)) (fun w' hw => ⟨rfl, hw.all (new_cons (newKey ho) (new_cons (newKey hb) new_nil))⟩)
end Go.Proofs.Ytjhmcmadleabjaa

set_option maxRecDepth 100000
namespace Go.Proofs.Ytjhmcmadleabjaa
open Go Go.Hw Go.Proofs

theorem secB_bc (sd : List UInt8) (n : UInt32) (c : UInt8) : ((([C.u8 4] ++ bc sd) ++ bc (be n.toUInt64 4)) ++ [C.u8 c]) = bc (secB sd n c) := by simp [secB, bc]
theorem secB_len {sd : List UInt8} {n : UInt32} {c : UInt8} (h : sd.length = 32) : (secB sd n c).length = 38 := by simp [secB, be_len, h]

theorem sec_c {w : World} {sd : List UInt8} {n : UInt32} {c : UInt8} (hr : sd.length = 32) :
    CallsV Try.prog 109 [.agg (bc sd), .c (.u32 n), .c (.u8 c)] w fun en w' => en = .returned (V.agg (bc (secH sd n c))).den ∧ St w [] w' := by
  have hsl : (bc sd).length = 32 := by rw [bc_len, hr]
  refine calls_in (tb := tb) (fn := Try.f109) Try.func109 rfl rfl rfl [(0, .agg (bc sd)), (1, .c (.u32 n)), (2, .c (.u8 c))] rfl [] (St.refl _) ?_
  refine wc_seq ?_
  refine wc_region ?_
  refine wl_ef rfl (ef_box rfl rfl rfl (fun b hb => ?_))
  refine wl_ef rfl (ef_alloc zero30 rfl rfl (fun o ho => ?_))
  refine wl_done ?_
  refine nk_code ?_
  refine wc_seq ?_
  refine wc_region ?_
  refine wl_ef rfl (ef_buildSlice (vs := [(0, .c (.u8 4))]) (l := [.u8 4]) tbok rfl zero5 rfl rfl rfl (by decide) rfl rfl (fun b1 hb1 => ?_))
  first | refine wl_q rfl rfl rfl (qt_sl tbok rfl rfl rfl rfl) ?_ | refine wl_q rfl rfl rfl (qt_sa tbok rfl rfl rfl rfl) ?_
  refine wl_ef rfl (ef_append tbok rfl el5 zero5 rfl rfl rfl .here (own_of rfl (by omega)) (newKey hb1) (m := 32) (news := bc sd) (by rw [hsl]) (rs_lk (.there (.there .here)) at0) (by omega) (by simp only [maxLen]; omega) (fun a1 c1 t1 hown1 hk1 hnn1 _ => ?_))
  refine wl_q rfl rfl rfl (qt_p tbok rfl) ?_
  refine wl_done ?_
  refine nk_code ?_
  refine wc_seq ?_
  refine wc_region ?_
  refine wl_q rfl rfl rfl (qt_p tbok rfl) ?_
  refine wl_q rfl rfl rfl (qt_p tbok rfl) ?_
  refine wl_q rfl rfl rfl (qt_p tbok rfl) ?_
  refine wl_ef rfl (ef_fresh (by kernel_rfl) rfl rfl (fun w1 h1 => put81_c _ 4 (by omega) (by omega) w1) (fun q _ hq => ?_))
  refine wl_ef rfl (ef_append tbok rfl el5 zero5 rfl rfl rfl (.there .here) hown1 hk1 (m := 4) (news := bc (be n.toUInt64 4)) rfl (rs_lk .here at0) (by omega) (by simp only [maxLen]; omega) (fun a2 c2 t2 hown2 hk2 hnn2 _ => ?_))
  refine wl_q rfl rfl rfl (qt_p tbok rfl) ?_
  refine wl_done ?_
  refine nk_code ?_
  refine wc_seq ?_
  refine wc_region ?_
  refine wl_q rfl rfl rfl (qt_p tbok rfl) ?_
  refine wl_q rfl rfl rfl (qt_p tbok rfl) ?_
  refine wl_ef rfl (ef_buildSlice (vs := [(0, .c (.u8 c))]) (l := [.u8 c]) tbok rfl zero5 rfl rfl rfl (by decide) rfl rfl (fun b3 hb3 => ?_))
  refine wl_ef rfl (ef_append tbok rfl el5 zero5 rfl rfl rfl (.there .here) hown2 hk2 (m := 1) (news := [.u8 c]) rfl (rs_lk .here at0) (by omega) (by simp only [maxLen]; omega) (fun a3 c3 t3 hown3 hk3 hnn3 _ => ?_))
  refine wl_ef rfl (ef_pure (v := .agg (bc (secH sd n c))) (by kernel_rfl) rfl rfl (fun w1 h1 => sum_c (p := secB sd n c) (by rw [← secB_bc]; exact cells_own h1 .here) (lives_own h1 .here) (by rw [secB_len hr]) (OwnS.le hown3) (by rw [secB_len hr]; omega)) ?_)
  refine wl_ef rfl (ef_store (cs' := bc (secH sd n c)) tbok rfl rfl rfl rfl (.there (.there (.there .here))) rfl (Nat.le_of_ble_eq_true rfl) (spl_all rfl) ?_)
  refine wl_done ?_
  refine nk_code ?_
  refine wc_ret ?_
  try dsimp only
  exact fin1 rfl (rv_ag (l := bc (secH sd n c)) tbok rfl rfl rfl rfl (rs_lk (.there (.there (.there .here))) at0)) (fun w' hw => ⟨rfl, hw.all (new_cons hk3 (new_cons (newKey hb3) (new_cons hq (new_cons (newKey ho) (new_cons (newKey hb) new_nil)))))⟩)

theorem sec2_c {w : World} {sd : List UInt8} {n : UInt32} {c : UInt8} (hr : sd.length = 32) :
    CallsV Try.prog 116 [.agg (bc sd), .c (.u32 n), .c (.u8 c)] w fun en w' => en = .returned (V.agg (bc (secH sd n c))).den ∧ St w [] w' := by
  have hbl := be_len n.toUInt64 4
  refine calls_in (tb := tb) (fn := Try.f116) Try.func116 rfl rfl rfl [(0, .agg (bc sd)), (1, .c (.u32 n)), (2, .c (.u8 c))] rfl [] (St.refl _) ?_
  refine wc_seq ?_
  refine wc_region ?_
  refine wl_ef rfl (ef_box rfl rfl rfl (fun b hb => ?_))
  refine wl_ef rfl (ef_alloc zero22 rfl rfl (fun o ho => ?_))
  refine wl_done ?_
  refine nk_code ?_
  refine wc_seq ?_
  refine wc_region ?_
  refine wl_ef rfl (ef_buildSlice (vs := [(0, .c (.u8 4))]) (l := [.u8 4]) tbok rfl zero5 rfl rfl rfl (by decide) rfl rfl (fun b0 hb0 => ?_))
  refine wl_q rfl rfl rfl (qt_p tbok rfl) ?_
  refine wl_done ?_
  refine nk_code ?_
  refine wc_seq ?_
  refine wc_seq ?_
  refine wc_region ?_
  refine wl_q rfl rfl rfl (qt_p tbok rfl) ?_
  refine wl_done ?_
  refine nk_code ?_
  refine wc_block ?_
  refine wc_loop (ι := Nat × Os) (fun i => i.1 ≤ 32 ∧ Oi ([4] ++ sd.take i.1) i.2 ∧ (∀ k, i.2.1.key = some k → w.heap.size ≤ k)) (fun i => [(8, .c (.i64 (i.1 : Int))), (7, .c (.slc i.2.1 ([4] ++ sd.take i.1).length i.2.2.1)), (3, .c (.ptr (.at b 0))), (6, .c (.ptr (.at o 0))), (1, .c (.u32 n)), (2, .c (.u8 c))]) (fun i => [ob ([4] ++ sd.take i.1) i.2, ⟨.at o 0, bc (List.replicate 32 0), 22, (0, 0), []⟩, ⟨.at b 0, bc sd, 22, (0, 0), []⟩]) (fun i => 32 - i.1) (0, .at b0 0, 1, []) ⟨Nat.zero_le _, own_of (n := 1) (cs := [C.u8 4]) rfl (by decide), newKey hb0⟩ (nk_start ⟨rfl, rfl, rfl, rfl, rfl, rfl, trivial⟩ (fun w hw => by show St _ [⟨.at b0 0, bc ([4] ++ sd.take 0), 5, (0, 0), []⟩, _, _] w; rw [show bc ([4] ++ sd.take 0) = [C.u8 4] from rfl]; exact hw)) (fun ⟨i, x⟩ ⟨hi, hx, hk⟩ => ?_)
  replace hi : i ≤ 32 := hi
  replace hx : Oi ([4] ++ sd.take i) x := hx
  replace hk : ∀ k, x.1.key = some k → w.heap.size ≤ k := hk
  have hl : ([4] ++ sd.take i).length ≤ 100 := (by simp [hr]; try omega)
  dsimp only
  refine wc_seq ?_
  refine wc_seq ?_
  refine wc_region ?_
  refine wl_q rfl rfl rfl (qt_p tbok rfl) ?_
  refine wl_q rfl rfl rfl (qt_p tbok rfl) ?_
  refine wl_done ?_
  refine nk_code ?_
  refine wc_cond rfl (fun h11 => ?_) (fun h11 => ?_)
  · have hi' : i < sd.length := (by have h0 := of_decide_eq_true h11; omega)
    refine wc_skip ?_
    refine nk_code ?_
    refine wc_seq ?_
    refine wc_block ?_
    refine wc_region ?_
    refine wl_q rfl rfl rfl (qt_p tbok rfl) ?_
    refine wl_q rfl rfl rfl (qt_p tbok rfl) ?_
    refine wl_q rfl rfl rfl (qt_p tbok rfl) ?_
    refine wl_q rfl rfl rfl (qt_load (c := .u8 (sd.getD i 0)) tbok rfl rfl rfl (rc_lk (.there (.there .here)) (by rw [show 0 + (i : Int).toNat * 1 = i by omega]; exact bc_getD hi'))) ?_
    refine wl_ef rfl (ef_buildSlice (vs := [(0, .c (.u8 (sd.getD i 0)))]) (l := [.u8 (sd.getD i 0)]) tbok rfl zero5 rfl rfl rfl (by decide) rfl rfl (fun br hb2 => ?_))
    refine wl_ef rfl (ef_append tbok rfl el5 zero5 rfl rfl rfl (.there .here) hx hk (m := 1) (news := [.u8 (sd.getD i 0)]) rfl (rs_lk .here at0) (by omega) (by simp only [maxLen]; omega) (fun a2 c2 t2 hown2 hk2 hnn _ => ?_))
    refine wl_q rfl rfl rfl (qt_p tbok rfl) ?_
    refine wl_done ?_
    refine nk_code ?_
    refine wc_region ?_
    refine wl_q rfl rfl rfl (qt_p tbok rfl) ?_
    refine wl_q rfl rfl rfl (qt_p tbok rfl) ?_
    refine wl_q rfl rfl rfl (qt_p tbok rfl) ?_
    refine wl_done ?_
    exact nk_round (i := (i, x)) (i + 1, a2, c2, t2) ⟨by show i + 1 ≤ 32; omega, by show Oi ([4] ++ sd.take (i + 1)) (a2, c2, t2); rw [take_snoc hi', ← List.append_assoc]; exact oi_app hown2 rfl, hk2⟩ (by show 32 - (i + 1) < 32 - i; omega) ⟨rfl, by show some (V.c (C.slc a2 (([4] ++ sd.take i).length + 1) c2)) = some (V.c (C.slc a2 ([4] ++ sd.take (i + 1)).length c2)); rw [take_len1 hi'], rfl, rfl, rfl, rfl, trivial⟩ (fun w hw => by have h2 := Rm.sub_St hw (.there .here) (newKey hb2); rw [bc_snoc, List.append_assoc, ← take_snoc hi'] at h2; exact h2)
  · have he : i = 32 := (by have h0 := of_decide_eq_false h11; omega)
    have htk : sd.take i = sd := List.take_of_length_le (by omega)
    rw [htk] at hx
    rw [htk]
    refine wc_exit rfl ?_
    refine nk_code ?_
    refine wc_seq ?_
    refine wc_region ?_
    refine wl_q rfl rfl rfl (qt_p tbok rfl) ?_
    refine wl_q rfl rfl rfl (qt_p tbok rfl) ?_
    refine wl_q rfl rfl rfl (qt_p tbok rfl) ?_
    refine wl_ef rfl (ef_fresh (by kernel_rfl) rfl rfl (fun w1 h1 => put83_c _ 4 (by omega) (by omega) w1) (fun q hq1 hq => ?_))
    refine wl_ef rfl (ef_append tbok rfl el5 zero5 rfl rfl rfl (.there .here) hx hk (m := 4) (news := bc (be n.toUInt64 4)) rfl (rd_oi hq1 .here) (by simp [hr]) (by simp [hr, maxLen]) (fun a3 c3 t3 hown3 hk3 hnn3 _ => ?_))
    refine wl_q rfl rfl rfl (qt_p tbok rfl) ?_
    refine wl_done ?_
    refine nk_code ?_
    refine wc_seq ?_
    refine wc_region ?_
    refine wl_q rfl rfl rfl (qt_p tbok rfl) ?_
    refine wl_q rfl rfl rfl (qt_p tbok rfl) ?_
    refine wl_ef rfl (ef_buildSlice (vs := [(0, .c (.u8 c))]) (l := [.u8 c]) tbok rfl zero5 rfl rfl rfl (by decide) rfl rfl (fun b3 hb3 => ?_))
    refine wl_ef rfl (ef_append tbok rfl el5 zero5 rfl rfl rfl (.there .here) hown3 hk3 (m := 1) (news := [.u8 c]) rfl (rs_lk .here at0) (by simp [hr]) (by simp [hr, maxLen]) (fun a4 c4 t4 hown4 hk4 hnn4 _ => ?_))
    have hlen : ([4] ++ sd).length + 4 + 1 = (secB sd n c).length := (by rw [secB_len hr]; simp [hr])
    rw [hlen]
    refine wl_ef rfl (ef_pure (v := .agg (bc (secH sd n c))) (by kernel_rfl) rfl rfl (fun w1 h1 => sum2_c (p := secB sd n c) (by rw [← secB_bc]; exact cells_own h1 .here) (by rw [secB_len hr]; omega)) ?_)
    refine wl_ef rfl (ef_store (cs' := bc (secH sd n c)) tbok rfl rfl rfl rfl (.there (.there (.there .here))) rfl (Nat.le_of_ble_eq_true rfl) (spl_all rfl) ?_)
    refine wl_done ?_
    refine nk_code ?_
    refine wc_ret ?_
    try dsimp only
    exact fin1 rfl (rv_ag (l := bc (secH sd n c)) tbok rfl rfl rfl rfl (rs_lk (.there (.there (.there .here))) at0)) (fun w' hw => ⟨rfl, hw.all (new_cons hk4 (new_cons (newKey hb3) (new_cons hq (new_cons (newKey ho) (new_cons (newKey hb) new_nil)))))⟩)
end Go.Proofs.Ytjhmcmadleabjaa

set_option maxRecDepth 100000
namespace Go.Proofs.Ytjhmcmadleabjaa
open Go Go.Hw Go.Proofs

/-- The digits of a word: 64 half bytes and three for their sum. -/
def nib (x : List UInt8) (i : Nat) : UInt8 := if i % 2 = 1 then x.getD (i / 2) 0 &&& 15 else x.getD (i / 2) 0 >>> 4
def chk (x : List UInt8) : Nat → Nat
  | 0 => 0
  | i + 1 => chk x i + (15 - (nib x i).toNat)
def dg (x : List UInt8) (j : Nat) : UInt8 := if j < 64 then nib x j else if j = 64 then UInt8.ofNat (chk x 64 / 256) else if j = 65 then UInt8.ofNat (chk x 64 / 16 % 16) else UInt8.ofNat (chk x 64 % 16)
/-- The digits laid so far: those below a, and those from b on. -/
def dgP (x : List UInt8) (a b : Nat) : List C := (List.range 67).map fun j => C.u8 (if j < a ∨ b ≤ j then dg x j else 0)
theorem nib_lt (x : List UInt8) (i : Nat) : (nib x i).toNat < 16 := by
  unfold nib
  split
  · rw [UInt8.toNat_and]; exact Nat.lt_of_le_of_lt Nat.and_le_right (by decide)
  · generalize x.getD (i / 2) 0 = v
    have := v.toNat_lt
    simp [Nat.shiftRight_eq_div_pow]; omega
theorem chk_le (x : List UInt8) : ∀ i, chk x i ≤ 15 * i
  | 0 => Nat.le_refl _
  | i + 1 => by have := chk_le x i; show chk x i + _ ≤ _; omega
theorem dgP_len (x : List UInt8) (a b : Nat) : (dgP x a b).length = 67 := by simp [dgP]
theorem dgP_lo {x : List UInt8} {a : Nat} (h : a < 64) {v : UInt8} (hv : v = nib x a) : spl (dgP x a 67) a [C.u8 v] = dgP x (a + 1) 67 := by
  refine spl_upd (fun j => C.u8 (if j < a ∨ 67 ≤ j then dg x j else 0)) (fun j => C.u8 (if j < a + 1 ∨ 67 ≤ j then dg x j else 0)) a (by omega) (fun j hj hne => ?_) ?_
  · have e : (j < a ∨ 67 ≤ j) = (j < a + 1 ∨ 67 ≤ j) := by simp; omega
    simp only [e]
  · simp only [show (a < a + 1 ∨ 67 ≤ a) by omega, if_true, hv]
    unfold dg; rw [if_pos h]
theorem dgP_hi {x : List UInt8} {b : Nat} (h : 64 ≤ b) (h2 : b < 67) {v : UInt8} (hv : v = dg x b) : spl (dgP x 64 (b + 1)) b [C.u8 v] = dgP x 64 b := by
  refine spl_upd (fun j => C.u8 (if j < 64 ∨ b + 1 ≤ j then dg x j else 0)) (fun j => C.u8 (if j < 64 ∨ b ≤ j then dg x j else 0)) b (by omega) (fun j hj hne => ?_) ?_
  · have e : (j < 64 ∨ b + 1 ≤ j) = (j < 64 ∨ b ≤ j) := by simp; omega
    simp only [e]
  · simp only [show (b < 64 ∨ b ≤ b) by omega, if_true, hv]
def dgs (x : List UInt8) : List UInt8 := (List.range 67).map (dg x)
theorem dgP_full (x : List UInt8) : dgP x 64 64 = bc (dgs x) := by
  simp only [dgP, bc, dgs, List.map_map]
  exact List.map_congr_left fun j hj => by
    have := List.mem_range.1 hj
    simp only [Function.comp]; rw [if_pos (by omega)]
theorem zero167 : zeroIs Try.prog 167 (.agg (bc (List.replicate 67 0))) := by unfold zeroIs; kernel_rfl
theorem dgP_zero (x : List UInt8) : bc (List.replicate 67 0) = dgP x 0 67 := by
  simp only [dgP, bc, List.map_replicate]
  rw [map_rep]
  exact List.map_congr_left fun j hj => by
    have := List.mem_range.1 hj
    rw [if_neg (by omega)]
theorem dg_lt (x : List UInt8) (j : Nat) : (dg x j).toNat ≤ 15 := by
  have h := chk_le x 64
  unfold dg
  split
  · have := nib_lt x j; omega
  · split
    · simp; omega
    · split
      · simp; omega
      · simp; omega

def dv (c : Nat) : Nat → Nat
  | 0 => c
  | i + 1 => dv c i / 16
theorem dv_le (c : Nat) : ∀ i, dv c i ≤ c
  | 0 => Nat.le_refl _
  | i + 1 => Nat.le_trans (Nat.div_le_self _ _) (dv_le c i)
theorem and15 (n : Nat) : n &&& 15 = n % 16 := Nat.and_two_pow_sub_one_eq_mod n 4
theorem u8ofInt_nat (n : Nat) : UInt8.ofInt (n : Int) = UInt8.ofNat n := by
  apply UInt8.toNat_inj.1
  have h := u8ofInt (n : Int)
  have h2 : (UInt8.ofNat n).toNat = n % 256 := by simp
  omega
theorem hi_dig {x : List UInt8} {i : Nat} (hi : i < 3) : UInt8.ofInt (((((dv (chk x 64) i : Nat) : Int).toNat &&& (15 : Int).toNat : Nat)) : Int) = dg x (66 - i) := by
  have hc := chk_le x 64
  rw [u8ofInt_nat, Int.toNat_natCast, show (15 : Int).toNat = 15 from rfl, and15]
  match i, hi with
  | 0, _ => rfl
  | 1, _ => rfl
  | 2, _ =>
    show UInt8.ofNat (chk x 64 / 16 / 16 % 16) = UInt8.ofNat (chk x 64 / 256)
    congr 1; omega

theorem digits_c {w : World} {x : List UInt8} (hx : x.length = 32) :
    CallsV Try.prog 94 [.agg (bc x)] w fun en w' => en = .returned (V.agg (bc (dgs x))).den ∧ St w [] w' := by
  have hxl : (bc x).length = 32 := by rw [bc_len, hx]
  refine calls_in (tb := tb) (fn := Try.f94) Try.func94 rfl rfl rfl [(0, .agg (bc x))] rfl [] (St.refl _) ?_
  refine wc_seq ?_
  refine wc_region ?_
  refine wl_ef rfl (ef_box rfl rfl rfl (fun b hb => ?_))
  refine wl_ef rfl (ef_alloc zero167 rfl rfl (fun o ho => ?_))
  refine wl_done ?_
  refine nk_code ?_
  refine wc_seq ?_
  refine wc_region ?_
  refine wl_ef rfl (ef_alloc zero167 rfl rfl (fun r hr => ?_))
  refine wl_done ?_
  refine nk_code ?_
  refine wc_seq ?_
  refine wc_region ?_
  refine wl_q rfl rfl rfl (qt_p tbok rfl) ?_
  refine wl_done ?_
  refine nk_code ?_
  refine wc_seq ?_
  refine wc_seq ?_
  refine wc_region ?_
  refine wl_q rfl rfl rfl (qt_p tbok rfl) ?_
  refine wl_done ?_
  refine nk_code ?_
  refine wc_block ?_
  refine wc_loop (ι := Nat) (fun i => i ≤ 64) (fun i => [(8, .c (.i64 (i : Int))), (4, .c (.i64 (chk x i : Int))), (3, .c (.ptr (.at r 0))), (1, .c (.ptr (.at b 0))), (2, .c (.ptr (.at o 0)))]) (fun i => [⟨.at r 0, dgP x i 67, 167, (0, 0), []⟩, ⟨.at o 0, bc (List.replicate 67 0), 167, (0, 0), []⟩, ⟨.at b 0, bc x, 30, (0, 0), []⟩]) (fun i => 64 - i) 0 (by omega) (nk_start ⟨rfl, rfl, rfl, rfl, rfl, trivial⟩ (fun w hw => by rw [← dgP_zero]; exact hw)) (fun i hi => ?_)
  have hck := chk_le x i
  have hnl := nib_lt x i
  refine wc_seq ?_
  refine wc_region ?_
  refine wl_q rfl rfl rfl (qt_p tbok rfl) ?_
  refine wl_done ?_
  refine nk_code ?_
  refine wc_seq ?_
  refine wc_cond rfl (fun h9 => ?_) (fun h9 => ?_)
  · have hi' : i < 64 := (by have h0 := of_decide_eq_true h9; omega)
    refine wc_skip ?_
    refine nk_code ?_
    refine wc_seq ?_
    refine wc_block ?_
    refine wc_seq ?_
    refine wc_region ?_
    refine wl_q rfl rfl rfl (qt_p tbok rfl) ?_
    refine wl_q rfl rfl rfl (qt_p tbok rfl) ?_
    refine wl_done ?_
    refine nk_code ?_
    refine wc_seq ?_
    refine wc_region ?_
    refine wl_q rfl rfl rfl (qt_p tbok rfl) ?_
    refine wl_q rfl rfl rfl (qt_p tbok rfl) ?_
    refine wl_q rfl rfl rfl (qt_p tbok rfl) ?_
    refine wl_q rfl rfl rfl (qt_load (c := .u8 (x.getD (i / 2) 0)) tbok rfl rfl rfl (rc_lk (.there (.there .here)) (by rw [show 0 + ((i : Int) / 2).toNat * 1 = i / 2 by omega]; exact bc_getD (by omega)))) ?_
    refine wl_q rfl rfl rfl (qt_p tbok rfl) ?_
    refine wl_q rfl rfl rfl (qt_p tbok rfl) ?_
    refine wl_done ?_
    refine nk_code ?_
    refine wc_seq ?_
    refine wc_seq ?_
    refine wc_region ?_
    refine wl_q rfl rfl rfl (qt_p tbok rfl) ?_
    refine wl_q rfl rfl rfl (qt_p tbok rfl) ?_
    refine wl_as (v' := .c (.i64 ((i % 2 : Nat) : Int))) (congrArg (fun z => V.c (C.i64 z)) (by omega)) ?_
    first | refine wl_q rfl rfl rfl (qt_p tbok rfl) ?_ | refine wl_q rfl rfl rfl (qt_eqn tbok rfl rfl rfl) ?_
    refine wl_done ?_
    refine nk_code ?_
    refine wc_cond rfl (fun h18 => ?_) (fun h18 => ?_)
    · have hodd : i % 2 = 1 := (by have h0 := of_decide_eq_true h18; omega)
      have hnb : nib x i = x.getD (i / 2) 0 &&& 15 := (by unfold nib; rw [if_pos hodd])
      refine wc_region ?_
      refine wl_q rfl rfl rfl (qt_p tbok rfl) ?_
      refine wl_q rfl rfl rfl (qt_p tbok rfl) ?_
      refine wl_q rfl rfl rfl (qt_p tbok rfl) ?_
      refine wl_q rfl rfl rfl (qt_load (c := .u8 (x.getD (i / 2) 0)) tbok rfl rfl rfl (rc_lk (.there (.there .here)) (by rw [show 0 + ((i : Int) / 2).toNat * 1 = i / 2 by omega]; exact bc_getD (by omega)))) ?_
      refine wl_q rfl rfl rfl (qt_p tbok rfl) ?_
      refine wl_q rfl rfl rfl (qt_p tbok rfl) ?_
      refine wl_done ?_
      refine nk_code ?_
      refine wc_seq ?_
      refine wc_region ?_
      refine wl_q rfl rfl rfl (qt_p tbok rfl) ?_
      refine wl_q rfl rfl rfl (qt_p tbok rfl) ?_
      refine wl_as (v' := .c (.u8 (nib x i))) (by rw [hnb]; rfl) ?_
      refine wl_q rfl rfl rfl (qt_p tbok rfl) ?_
      refine wl_ef rfl (ef_store (cs' := dgP x (i + 1) 67) tbok rfl rfl rfl rfl .here rfl (by rw [dgP_len]; omega) (by rw [show 0 + (i : Int).toNat * 1 = i by omega]; exact dgP_lo hi' rfl) ?_)
      refine wl_done ?_
      refine nk_code ?_
      refine wc_region ?_
      refine wl_q rfl rfl rfl (qt_p tbok rfl) ?_
      refine wl_q rfl rfl rfl (qt_p tbok rfl) ?_
      refine wl_as (v' := .c (.u8 (nib x i))) (by rw [hnb]; rfl) ?_
      refine wl_q rfl rfl rfl (qt_p tbok rfl) ?_
      refine wl_q rfl rfl rfl (qt_p tbok rfl) ?_
      refine wl_q rfl rfl rfl (qt_p tbok rfl) ?_
      refine wl_as (v' := .c (.i64 (chk x (i + 1) : Int))) (congrArg (fun z => V.c (C.i64 z)) (by show _ = ((chk x i + (15 - (nib x i).toNat) : Nat) : Int); omega)) ?_
      refine wl_q rfl rfl rfl (qt_p tbok rfl) ?_
      refine wl_done ?_
      refine nk_code ?_
      refine wc_region ?_
      refine wl_q rfl rfl rfl (qt_p tbok rfl) ?_
      refine wl_q rfl rfl rfl (qt_p tbok rfl) ?_
      refine wl_done ?_
      exact nk_round (i + 1) (by omega) (by omega) ⟨rfl, rfl, rfl, rfl, rfl, trivial⟩ (fun _ h => h)
    · have hodd : ¬ i % 2 = 1 := (by have h0 := of_decide_eq_false h18; omega)
      have hnb : nib x i = x.getD (i / 2) 0 >>> 4 := (by unfold nib; rw [if_neg hodd])
      refine wc_skip ?_
      refine nk_code ?_
      refine wc_seq ?_
      refine wc_region ?_
      refine wl_q rfl rfl rfl (qt_p tbok rfl) ?_
      refine wl_q rfl rfl rfl (qt_p tbok rfl) ?_
      refine wl_as (v' := .c (.u8 (nib x i))) (by rw [hnb]; rfl) ?_
      refine wl_q rfl rfl rfl (qt_p tbok rfl) ?_
      refine wl_ef rfl (ef_store (cs' := dgP x (i + 1) 67) tbok rfl rfl rfl rfl .here rfl (by rw [dgP_len]; omega) (by rw [show 0 + (i : Int).toNat * 1 = i by omega]; exact dgP_lo hi' rfl) ?_)
      refine wl_done ?_
      refine nk_code ?_
      refine wc_region ?_
      refine wl_q rfl rfl rfl (qt_p tbok rfl) ?_
      refine wl_q rfl rfl rfl (qt_p tbok rfl) ?_
      refine wl_as (v' := .c (.u8 (nib x i))) (by rw [hnb]; rfl) ?_
      refine wl_q rfl rfl rfl (qt_p tbok rfl) ?_
      refine wl_q rfl rfl rfl (qt_p tbok rfl) ?_
      refine wl_q rfl rfl rfl (qt_p tbok rfl) ?_
      refine wl_as (v' := .c (.i64 (chk x (i + 1) : Int))) (congrArg (fun z => V.c (C.i64 z)) (by show _ = ((chk x i + (15 - (nib x i).toNat) : Nat) : Int); omega)) ?_
      refine wl_q rfl rfl rfl (qt_p tbok rfl) ?_
      refine wl_done ?_
      refine nk_code ?_
      refine wc_region ?_
      refine wl_q rfl rfl rfl (qt_p tbok rfl) ?_
      refine wl_q rfl rfl rfl (qt_p tbok rfl) ?_
      refine wl_done ?_
      exact nk_round (i + 1) (by omega) (by omega) ⟨rfl, rfl, rfl, rfl, rfl, trivial⟩ (fun _ h => h)
  · have he : i = 64 := (by have h0 := of_decide_eq_false h9; omega)
    subst he
    refine wc_exit rfl ?_
    refine nk_code ?_
    refine wc_seq ?_
    refine wc_seq ?_
    refine wc_region ?_
    refine wl_q rfl rfl rfl (qt_p tbok rfl) ?_
    refine wl_done ?_
    refine nk_code ?_
    refine wc_block ?_
    refine wc_loop (ι := Nat) (fun i => i ≤ 3) (fun i => [(7, .c (.i64 (66 - (i : Int)))), (4, .c (.i64 ((dv (chk x 64) i : Nat) : Int))), (3, .c (.ptr (.at r 0))), (2, .c (.ptr (.at o 0)))]) (fun i => [⟨.at r 0, dgP x 64 (67 - i), 167, (0, 0), []⟩, ⟨.at o 0, bc (List.replicate 67 0), 167, (0, 0), []⟩, ⟨.at b 0, bc x, 30, (0, 0), []⟩]) (fun i => 3 - i) 0 (by omega) (nk_start ⟨rfl, rfl, rfl, rfl, trivial⟩ (fun w hw => hw)) (fun i hi => ?_)
    have hck := chk_le x 64
    have hdv := dv_le (chk x 64) i
    refine wc_seq ?_
    refine wc_seq ?_
    refine wc_region ?_
    refine wl_q rfl rfl rfl (qt_p tbok rfl) ?_
    refine wl_q rfl rfl rfl (qt_p tbok rfl) ?_
    refine wl_done ?_
    refine nk_code ?_
    refine wc_cond rfl (fun h34 => ?_) (fun h34 => ?_)
    · have hi' : i < 3 := (by have h0 := of_decide_eq_true h34; omega)
      refine wc_skip ?_
      refine nk_code ?_
      refine wc_seq ?_
      refine wc_block ?_
      refine wc_seq ?_
      refine wc_region ?_
      refine wl_q rfl rfl rfl (qt_p tbok rfl) ?_
      refine wl_q rfl rfl rfl (qt_p tbok rfl) ?_
      refine wl_q rfl rfl rfl (qt_p tbok rfl) ?_
      refine wl_q rfl rfl rfl (qt_p tbok rfl) ?_
      refine wl_q rfl rfl rfl (qt_p tbok rfl) ?_
      refine wl_ef rfl (ef_store (cs' := dgP x 64 (67 - (i + 1))) tbok rfl rfl rfl rfl .here rfl (by rw [dgP_len]; omega) (by rw [show 0 + ((66 : Int) - (i : Int)).toNat * 1 = 66 - i by omega, show 67 - (i + 1) = 66 - i by omega, show 67 - i = (66 - i) + 1 by omega]; exact dgP_hi (by omega) (by omega) (hi_dig hi')) ?_)
      refine wl_done ?_
      refine nk_code ?_
      refine wc_region ?_
      refine wl_q rfl rfl rfl (qt_p tbok rfl) ?_
      refine wl_q rfl rfl rfl (qt_p tbok rfl) ?_
      refine wl_as (v' := .c (.i64 ((dv (chk x 64) (i + 1) : Nat) : Int))) (congrArg (fun z => V.c (C.i64 z)) (by show ((dv (chk x 64) i : Nat) : Int) / 16 = ((dv (chk x 64) i / 16 : Nat) : Int); omega)) ?_
      refine wl_q rfl rfl rfl (qt_p tbok rfl) ?_
      refine wl_done ?_
      refine nk_code ?_
      refine wc_region ?_
      refine wl_q rfl rfl rfl (qt_p tbok rfl) ?_
      refine wl_q rfl rfl rfl (qt_p tbok rfl) ?_
      refine wl_q rfl rfl rfl (qt_p tbok rfl) ?_
      refine wl_done ?_
      exact nk_round (i + 1) (by omega) (by omega) ⟨by show some (V.c (C.i64 (66 - (i : Int) - 1))) = some (V.c (C.i64 (66 - ((i + 1 : Nat) : Int)))); rw [show 66 - ((i + 1 : Nat) : Int) = 66 - (i : Int) - 1 by omega], rfl, rfl, rfl, trivial⟩ (fun _ h => h)
    · have he : i = 3 := (by have h0 := of_decide_eq_false h34; omega)
      subst he
      refine wc_exit rfl ?_
      refine nk_code ?_
      refine wc_seq ?_
      refine wc_region ?_
      refine wl_q rfl rfl rfl (qt_load_ag (l := bc (dgs x)) tbok rfl rfl rfl rfl (rs_lk .here (by rw [← dgP_full]; exact at0))) ?_
      refine wl_ef rfl (ef_store (cs' := bc (dgs x)) tbok rfl rfl rfl rfl (.there .here) rfl (Nat.le_of_ble_eq_true rfl) (spl_all rfl) ?_)
      refine wl_done ?_
      refine nk_code ?_
      refine wc_ret ?_
      try dsimp only
      exact fin1 rfl (rv_ag (l := bc (dgs x)) tbok rfl rfl rfl rfl (rs_lk (.there .here) at0)) (fun w' hw => ⟨rfl, hw.all (new_cons (newKey hr) (new_cons (newKey ho) (new_cons (newKey hb) new_nil)))⟩)
end Go.Proofs.Ytjhmcmadleabjaa

set_option maxRecDepth 100000
namespace Go.Proofs.Ytjhmcmadleabjaa
open Go Go.Hw Go.Proofs

theorem dgP_up {x : List UInt8} {a : Nat} (h : a < 67) {v : UInt8} (hv : v = dg x a) : spl (dgP x a 67) a [C.u8 v] = dgP x (a + 1) 67 := by
  refine spl_upd (fun j => C.u8 (if j < a ∨ 67 ≤ j then dg x j else 0)) (fun j => C.u8 (if j < a + 1 ∨ 67 ≤ j then dg x j else 0)) a (by omega) (fun j hj hne => ?_) ?_
  · have e : (j < a ∨ 67 ≤ j) = (j < a + 1 ∨ 67 ≤ j) := by simp; omega
    simp only [e]
  · simp only [show (a < a + 1 ∨ 67 ≤ a) by omega, if_true, hv]
theorem dgP_get {x : List UInt8} {a j : Nat} (h : j < a) (h64 : j < 64) : (dgP x a 67)[j]? = some (C.u8 (nib x j)) := by
  have hd : dg x j = nib x j := by unfold dg; rw [if_pos h64]
  simp [dgP, h, hd, show j < 67 by omega]
theorem dgP_full2 (x : List UInt8) : dgP x 67 67 = bc (dgs x) := by
  simp only [dgP, bc, dgs, List.map_map]
  exact List.map_congr_left fun j hj => by
    have := List.mem_range.1 hj
    simp only [Function.comp]; rw [if_pos (by omega)]
theorem nib_even {x : List UInt8} {i : Nat} : nib x (2 * i) = x.getD i 0 / 16 := by
  unfold nib
  rw [if_neg (by omega), show 2 * i / 2 = i by omega]
  generalize x.getD i 0 = v
  apply UInt8.toNat_inj.1
  simp [Nat.shiftRight_eq_div_pow]
theorem nib_odd {x : List UInt8} {i : Nat} : nib x (2 * i + 1) = x.getD i 0 % 16 := by
  unfold nib
  rw [if_pos (by omega), show (2 * i + 1) / 2 = i by omega]
  generalize x.getD i 0 = v
  apply UInt8.toNat_inj.1
  rw [UInt8.toNat_and, UInt8.toNat_mod]
  exact and15 _

theorem digits2_c {w : World} {x : List UInt8} (hx : x.length = 32) :
    CallsV Try.prog 114 [.agg (bc x)] w fun en w' => en = .returned (V.agg (bc (dgs x))).den ∧ St w [] w' := by
  have hxl : (bc x).length = 32 := by rw [bc_len, hx]
  have hc64 := chk_le x 64
  refine calls_in (tb := tb) (fn := Try.f114) Try.func114 rfl rfl rfl [(0, .agg (bc x))] rfl [] (St.refl _) ?_
  refine wc_seq ?_
  refine wc_region ?_
  refine wl_ef rfl (ef_box rfl rfl rfl (fun b hb => ?_))
  refine wl_ef rfl (ef_alloc zero167 rfl rfl (fun o ho => ?_))
  refine wl_done ?_
  refine nk_code ?_
  refine wc_seq ?_
  refine wc_region ?_
  refine wl_ef rfl (ef_alloc zero167 rfl rfl (fun r hr => ?_))
  refine wl_done ?_
  refine nk_code ?_
  refine wc_seq ?_
  refine wc_region ?_
  refine wl_q rfl rfl rfl (qt_p tbok rfl) ?_
  refine wl_done ?_
  refine nk_code ?_
  refine wc_seq ?_
  refine wc_seq ?_
  refine wc_region ?_
  refine wl_q rfl rfl rfl (qt_p tbok rfl) ?_
  refine wl_done ?_
  refine nk_code ?_
  refine wc_block ?_
  refine wc_loop (ι := Nat) (fun i => i ≤ 32) (fun i => [(5, .c (.i64 (i : Int))), (4, .c (.i64 (chk x (2 * i) : Int))), (3, .c (.ptr (.at r 0))), (1, .c (.ptr (.at b 0))), (2, .c (.ptr (.at o 0)))]) (fun i => [⟨.at r 0, dgP x (2 * i) 67, 167, (0, 0), []⟩, ⟨.at o 0, bc (List.replicate 67 0), 167, (0, 0), []⟩, ⟨.at b 0, bc x, 22, (0, 0), []⟩]) (fun i => 32 - i) 0 (by omega) (nk_start ⟨rfl, rfl, rfl, rfl, rfl, trivial⟩ (fun w hw => by show St _ [⟨_, dgP x 0 67, _, _, _⟩, _, _] w; rw [← dgP_zero]; exact hw)) (fun i hi => ?_)
  have hck := chk_le x (2 * i)
  have hn1 := nib_lt x (2 * i)
  have hn2 := nib_lt x (2 * i + 1)
  have hck2 : chk x (2 * (i + 1)) = (chk x (2 * i) + (15 - (nib x (2 * i)).toNat)) + (15 - (nib x (2 * i + 1)).toNat) := rfl
  refine wc_seq ?_
  refine wc_seq ?_
  refine wc_region ?_
  refine wl_q rfl rfl rfl (qt_p tbok rfl) ?_
  refine wl_q rfl rfl rfl (qt_p tbok rfl) ?_
  refine wl_done ?_
  refine nk_code ?_
  refine wc_cond rfl (fun h7 => ?_) (fun h7 => ?_)
  · have hi' : i < 32 := (by have h0 := of_decide_eq_true h7; omega)
    refine wc_skip ?_
    refine nk_code ?_
    refine wc_seq ?_
    refine wc_block ?_
    refine wc_seq ?_
    refine wc_region ?_
    refine wl_q rfl rfl rfl (qt_p tbok rfl) ?_
    refine wl_q rfl rfl rfl (qt_p tbok rfl) ?_
    refine wl_q rfl rfl rfl (qt_p tbok rfl) ?_
    refine wl_q rfl rfl rfl (qt_p tbok rfl) ?_
    refine wl_q rfl rfl rfl (qt_load (c := .u8 (x.getD i 0)) tbok rfl rfl rfl (rc_lk (.there (.there .here)) (by rw [show 0 + (i : Int).toNat * 1 = i by omega]; exact bc_getD (by omega)))) ?_
    refine wl_q rfl rfl rfl (qt_pure tbok rfl (by decide)) ?_
    refine wl_q rfl rfl rfl (qt_p tbok rfl) ?_
    refine wl_ef rfl (ef_store (cs' := dgP x (2 * i + 1) 67) tbok rfl rfl rfl rfl .here rfl (by rw [dgP_len]; omega) (by rw [show 0 + ((2 : Int) * (i : Int)).toNat * 1 = 2 * i by omega]; exact dgP_lo (by omega) nib_even.symm) ?_)
    refine wl_done ?_
    refine nk_code ?_
    refine wc_seq ?_
    refine wc_region ?_
    refine wl_q rfl rfl rfl (qt_p tbok rfl) ?_
    refine wl_q rfl rfl rfl (qt_p tbok rfl) ?_
    refine wl_q rfl rfl rfl (qt_p tbok rfl) ?_
    refine wl_q rfl rfl rfl (qt_p tbok rfl) ?_
    refine wl_q rfl rfl rfl (qt_p tbok rfl) ?_
    refine wl_q rfl rfl rfl (qt_load (c := .u8 (x.getD i 0)) tbok rfl rfl rfl (rc_lk (.there (.there .here)) (by rw [show 0 + (i : Int).toNat * 1 = i by omega]; exact bc_getD (by omega)))) ?_
    refine wl_q rfl rfl rfl (qt_pure tbok rfl (by decide)) ?_
    refine wl_q rfl rfl rfl (qt_p tbok rfl) ?_
    refine wl_ef rfl (ef_store (cs' := dgP x (2 * i + 1 + 1) 67) tbok rfl rfl rfl rfl .here rfl (by rw [dgP_len]; omega) (by rw [show 0 + ((2 : Int) * (i : Int) + 1).toNat * 1 = 2 * i + 1 by omega]; exact dgP_lo (by omega) nib_odd.symm) ?_)
    refine wl_done ?_
    refine nk_code ?_
    refine wc_quiet follows (by kernel_rfl) ?_
    refine wq_q rfl rfl rfl (qt_p tbok rfl) ?_
    refine wq_q rfl rfl rfl (qt_p tbok rfl) ?_
    refine wq_q rfl rfl rfl (qt_p tbok rfl) ?_
    refine wq_q rfl rfl rfl (qt_p tbok rfl) ?_
    refine wq_q rfl rfl rfl (qt_p tbok rfl) ?_
    refine wq_q rfl rfl rfl (qt_load (c := .u8 (nib x (2 * i))) tbok rfl rfl rfl (rc_lk .here (by rw [show 0 + ((2 : Int) * (i : Int)).toNat * 1 = 2 * i by omega]; exact dgP_get (by omega) (by omega)))) ?_
    refine wq_q rfl rfl rfl (qt_p tbok rfl) ?_
    refine wq_q rfl rfl rfl (qt_p tbok rfl) ?_
    refine wq_q rfl rfl rfl (qt_p tbok rfl) ?_
    refine wq_q rfl rfl rfl (qt_p tbok rfl) ?_
    refine wq_q rfl rfl rfl (qt_p tbok rfl) ?_
    refine wq_q rfl rfl rfl (qt_p tbok rfl) ?_
    refine wq_q rfl rfl rfl (qt_load (c := .u8 (nib x (2 * i + 1))) tbok rfl rfl rfl (rc_lk .here (by rw [show 0 + ((2 : Int) * (i : Int) + 1).toNat * 1 = 2 * i + 1 by omega]; exact dgP_get (by omega) (by omega)))) ?_
    refine wq_q rfl rfl rfl (qt_p tbok rfl) ?_
    refine wq_q rfl rfl rfl (qt_p tbok rfl) ?_
    refine wq_as (v' := .c (.i64 (chk x (2 * (i + 1)) : Int))) (congrArg (fun z => V.c (C.i64 z)) (by rw [hck2]; omega)) ?_
    refine wq_q rfl rfl rfl (qt_p tbok rfl) ?_
    refine wq_done ?_
    refine wl_done ?_
    refine nk_code ?_
    refine wc_region ?_
    refine wl_q rfl rfl rfl (qt_p tbok rfl) ?_
    refine wl_q rfl rfl rfl (qt_p tbok rfl) ?_
    refine wl_q rfl rfl rfl (qt_p tbok rfl) ?_
    refine wl_done ?_
    exact nk_round (i + 1) (by omega) (by omega) ⟨rfl, rfl, rfl, rfl, rfl, trivial⟩ (fun _ h => h)
  · have he : i = 32 := (by have h0 := of_decide_eq_false h7; omega)
    subst he
    refine wc_exit rfl ?_
    refine nk_code ?_
    refine wc_seq ?_
    refine wc_region ?_
    refine wl_q rfl rfl rfl (qt_p tbok rfl) ?_
    refine wl_q rfl rfl rfl (qt_p tbok rfl) ?_
    refine wl_q rfl rfl rfl (qt_p tbok rfl) ?_
    refine wl_as (v' := .c (.u8 (dg x 64))) (congrArg (fun z => V.c (C.u8 z)) (by show UInt8.ofInt ((chk x 64 : Int) / 256) = UInt8.ofNat (chk x 64 / 256); rw [← u8ofInt_nat]; rfl)) ?_
    refine wl_q rfl rfl rfl (qt_p tbok rfl) ?_
    refine wl_ef rfl (ef_store (cs' := dgP x 65 67) tbok rfl rfl rfl rfl .here rfl (by rw [dgP_len]; decide) (dgP_up (by omega) rfl) ?_)
    refine wl_done ?_
    refine nk_code ?_
    refine wc_seq ?_
    refine wc_region ?_
    refine wl_q rfl rfl rfl (qt_p tbok rfl) ?_
    refine wl_q rfl rfl rfl (qt_p tbok rfl) ?_
    refine wl_q rfl rfl rfl (qt_p tbok rfl) ?_
    refine wl_q rfl rfl rfl (qt_p tbok rfl) ?_
    refine wl_as (v' := .c (.u8 (dg x 65))) (congrArg (fun z => V.c (C.u8 z)) (by show UInt8.ofInt ((chk x 64 : Int) / 16 % 16) = UInt8.ofNat (chk x 64 / 16 % 16); rw [← u8ofInt_nat]; rfl)) ?_
    refine wl_q rfl rfl rfl (qt_p tbok rfl) ?_
    refine wl_ef rfl (ef_store (cs' := dgP x 66 67) tbok rfl rfl rfl rfl .here rfl (by rw [dgP_len]; decide) (dgP_up (by omega) rfl) ?_)
    refine wl_done ?_
    refine nk_code ?_
    refine wc_seq ?_
    refine wc_region ?_
    refine wl_q rfl rfl rfl (qt_p tbok rfl) ?_
    refine wl_q rfl rfl rfl (qt_p tbok rfl) ?_
    refine wl_q rfl rfl rfl (qt_p tbok rfl) ?_
    refine wl_as (v' := .c (.u8 (dg x 66))) (congrArg (fun z => V.c (C.u8 z)) (by show UInt8.ofInt ((chk x 64 : Int) % 16) = UInt8.ofNat (chk x 64 % 16); rw [← u8ofInt_nat]; rfl)) ?_
    refine wl_q rfl rfl rfl (qt_p tbok rfl) ?_
    refine wl_ef rfl (ef_store (cs' := dgP x 67 67) tbok rfl rfl rfl rfl .here rfl (by rw [dgP_len]; decide) (dgP_up (by omega) rfl) ?_)
    refine wl_done ?_
    refine nk_code ?_
    refine wc_seq ?_
    refine wc_region ?_
    refine wl_q rfl rfl rfl (qt_load_ag (l := bc (dgs x)) tbok rfl rfl rfl rfl (rs_lk .here (by rw [← dgP_full2]; exact at0))) ?_
    refine wl_ef rfl (ef_store (cs' := bc (dgs x)) tbok rfl rfl rfl rfl (.there .here) rfl (Nat.le_of_ble_eq_true rfl) (spl_all rfl) ?_)
    refine wl_done ?_
    refine nk_code ?_
    refine wc_ret ?_
    try dsimp only
    exact fin1 rfl (rv_ag (l := bc (dgs x)) tbok rfl rfl rfl rfl (rs_lk (.there .here) at0)) (fun w' hw => ⟨rfl, hw.all (new_cons (newKey hr) (new_cons (newKey ho) (new_cons (newKey hb) new_nil)))⟩)
end Go.Proofs.Ytjhmcmadleabjaa

set_option maxRecDepth 100000
namespace Go.Proofs.Ytjhmcmadleabjaa
open Go Go.Hw Go.Proofs

def prH (L : List (List UInt8)) : List UInt8 := sha (3 :: L.flatten)
theorem flat_dropn : ∀ (L : List (List UInt8)) (i : Nat), A32 L → i ≤ L.length → (bc L.flatten).drop (i * 32) = bc (L.drop i).flatten
  | L, 0, _, _ => by rw [Nat.zero_mul]; rfl
  | [], i + 1, _, h => by simp at h
  | s :: L, i + 1, h, hi => by
    have hs : s.length = 32 := h s (by simp)
    have h1 := flat_dropn L i (fun x hx => h x (by simp [hx])) (by simpa using hi)
    rw [show (i + 1) * 32 = 1 * 32 + i * 32 by omega, ← List.drop_drop, flat_drop hs, h1]; rfl
theorem flat_at {L : List (List UInt8)} {i : Nat} (h : A32 L) (hi : i < L.length) : ∀ (j : Nat) c, (bc L[i])[j]? = some c → (bc L.flatten)[i * 32 + j]? = some c := fun j c hj => by
  have h1 := flat_dropn L i h (Nat.le_of_lt hi)
  rw [← List.getElem?_drop, h1, List.drop_eq_getElem_cons hi]
  exact flat_head (h _ (List.getElem_mem hi)) j c hj
theorem flat_take {L : List (List UInt8)} {i : Nat} (hi : i < L.length) : (L.take (i + 1)).flatten = (L.take i).flatten ++ L[i] := by
  have h : L.take (i + 1) = L.take i ++ [L[i]] := by rw [List.take_add_one, List.getElem?_eq_getElem hi]; rfl
  rw [h, List.flatten_append, List.flatten_cons, List.flatten_nil, List.append_nil]

theorem press_c {w : World} {L : List (List UInt8)} {pr : Nat} (hA : A32 L) (hL : L.length = 67) (hc : Cells w (.at pr 0) (bc L.flatten)) :
    CallsV Try.prog 96 [.c (.ptr (.at pr 0))] w fun en w' => en = .returned (V.agg (bc (prH L))).den ∧ St w [] w' := by
  have hfl := flat_len hA
  refine calls_in (tb := tb) (fn := Try.f96) Try.func96 rfl rfl rfl [(0, .c (.ptr (.at pr 0)))] rfl [] (St.refl _) ?_
  refine wc_seq ?_
  refine wc_region ?_
  refine wl_ef rfl (ef_alloc zero30 rfl rfl (fun o ho => ?_))
  refine wl_done ?_
  refine nk_code ?_
  refine wc_seq ?_
  refine wc_region ?_
  refine wl_ef rfl (ef_make tbok rfl el5 zero5 (l := 0) (c := 2145) rfl rfl rfl (by omega) (by omega) (by simp only [maxLen]; omega) (fun mr hm => ?_))
  refine wl_ef rfl (ef_buildSlice (vs := [(0, .c (.u8 3))]) (l := [.u8 3]) tbok rfl zero5 rfl rfl rfl (by decide) rfl rfl (fun br hbr => ?_))
  refine wl_ef rfl (ef_append tbok rfl el5 zero5 rfl rfl rfl (.there .here) ⟨rfl, by omega, by simp only [maxLen]; omega, rfl, rfl⟩ (newKey hm) (m := 1) (news := [.u8 3]) rfl (rs_lk .here at0) (by omega) (by simp only [maxLen]; omega) (fun a1 c1 t1 hown1 hk1 hnn1 _ => ?_))
  refine wl_q rfl rfl rfl (qt_p tbok rfl) ?_
  refine wl_done ?_
  refine nk_code ?_
  refine wc_seq ?_
  refine wc_seq ?_
  refine wc_region ?_
  refine wl_q rfl rfl rfl (qt_p tbok rfl) ?_
  refine wl_q rfl rfl rfl (qt_p tbok rfl) ?_
  refine wl_q rfl rfl rfl (qt_p tbok rfl) ?_
  refine wl_done ?_
  refine nk_code ?_
  refine wc_block ?_
  refine wc_loop (ι := Nat × Os) (fun i => i.1 ≤ 67 ∧ OwnS i.2.1 (1 + 32 * i.1) i.2.2.1 1 (bc (3 :: (L.take i.1).flatten)) i.2.2.2 ∧ (∀ k, i.2.1.key = some k → w.heap.size ≤ k)) (fun i => [(11, .c (.i64 (i.1 : Int))), (3, .c (.slc i.2.1 (1 + 32 * i.1) i.2.2.1)), (9, .c (.ptr (.at pr 0))), (2, .c (.ptr (.at o 0)))]) (fun i => [ob (3 :: (L.take i.1).flatten) i.2, ⟨.at o 0, bc (List.replicate 32 0), 30, (0, 0), []⟩]) (fun i => 67 - i.1) (0, a1, c1, t1) ⟨Nat.zero_le _, hown1, hk1⟩ (nk_start ⟨rfl, rfl, rfl, rfl, trivial⟩ (fun w hw => Rm.sub_St hw (.there .here) (newKey hbr))) (fun ⟨i, x⟩ ⟨hi, hx, hk⟩ => ?_)
  replace hi : i ≤ 67 := hi
  replace hx : OwnS x.1 (1 + 32 * i) x.2.1 1 (bc (3 :: (L.take i).flatten)) x.2.2 := hx
  replace hk : ∀ k, x.1.key = some k → w.heap.size ≤ k := hk
  dsimp only
  refine wc_seq ?_
  refine wc_region ?_
  refine wl_q rfl rfl rfl (qt_p tbok rfl) ?_
  refine wl_done ?_
  refine nk_code ?_
  refine wc_seq ?_
  refine wc_cond rfl (fun h12 => ?_) (fun h12 => ?_)
  · have hi' : i < L.length := (by have h0 := of_decide_eq_true h12; omega)
    have hs : L[i].length = 32 := hA _ (List.getElem_mem hi')
    have hbs : (bc L[i]).length = 32 := (by rw [bc_len, hs])
    refine wc_skip ?_
    refine nk_code ?_
    refine wc_seq ?_
    refine wc_block ?_
    refine wc_seq ?_
    refine wc_region ?_
    refine wl_q rfl rfl rfl (qt_p tbok rfl) ?_
    refine wl_q rfl rfl rfl (qt_p tbok rfl) ?_
    refine wl_q rfl rfl rfl (qt_load_ag (l := bc L[i]) tbok rfl rfl rfl hbs ((rs_cells hc (off_new hk (off_new (newKey ho) off_nil))).part (k := i * 32) (flat_at hA hi') (by omega))) ?_
    refine wl_ef rfl (ef_alloc zero30 rfl rfl (fun t5 ht5 => ?_))
    refine wl_ef rfl (ef_store (cs' := bc L[i]) tbok rfl rfl rfl rfl .here hbs (Nat.le_of_ble_eq_true rfl) (spl_all hbs) ?_)
    refine wl_done ?_
    refine nk_code ?_
    refine wc_region ?_
    refine wl_q rfl rfl rfl (qt_p tbok rfl) ?_
    first | refine wl_q rfl rfl rfl (qt_sl tbok rfl rfl rfl rfl) ?_ | refine wl_q rfl rfl rfl (qt_sa tbok rfl rfl rfl rfl) ?_
    refine wl_ef rfl (ef_append tbok rfl el5 zero5 rfl rfl rfl (.there .here) hx hk (m := 32) (news := bc L[i]) (by rw [hbs]) (rs_lk .here at0) (by omega) (by simp only [maxLen]; omega) (fun a2 c2 t2 hown2 hk2 hnn2 _ => ?_))
    refine wl_q rfl rfl rfl (qt_p tbok rfl) ?_
    refine wl_done ?_
    refine nk_code ?_
    refine wc_region ?_
    refine wl_q rfl rfl rfl (qt_p tbok rfl) ?_
    refine wl_q rfl rfl rfl (qt_p tbok rfl) ?_
    refine wl_done ?_
    exact nk_round (i := (i, x)) (i + 1, a2, c2, t2) ⟨by show i + 1 ≤ 67; omega, by show OwnS a2 (1 + 32 * (i + 1)) c2 1 (bc (3 :: (L.take (i + 1)).flatten)) t2; rw [flat_take hi', ← List.cons_append, bc_app, show 1 + 32 * (i + 1) = 1 + 32 * i + 32 by omega]; exact hown2, hk2⟩ (by show 67 - (i + 1) < 67 - i; omega) ⟨rfl, by show some (V.c (C.slc a2 (1 + 32 * i + 32) c2)) = some (V.c (C.slc a2 (1 + 32 * (i + 1)) c2)); rw [show 1 + 32 * (i + 1) = 1 + 32 * i + 32 by omega], rfl, rfl, trivial⟩ (fun w hw => by have h2 := Rm.sub_St hw (.there .here) (newKey ht5); rw [← bc_app, List.cons_append, ← flat_take hi'] at h2; exact h2)
  · have he : i = 67 := (by have h0 := of_decide_eq_false h12; omega)
    have htk : L.take i = L := List.take_of_length_le (by omega)
    rw [htk] at hx
    rw [htk]
    refine wc_exit rfl ?_
    refine nk_code ?_
    refine wc_seq ?_
    refine wc_region ?_
    refine wl_q rfl rfl rfl (qt_p tbok rfl) ?_
    refine wl_ef rfl (ef_pure (v := .agg (bc (prH L))) (by kernel_rfl) rfl rfl (fun w1 h1 => sum_c (p := 3 :: L.flatten) (cells_own h1 .here) (lives_own h1 .here) (by rw [List.length_cons, hfl]; omega) (OwnS.le hx) (by rw [List.length_cons, hfl]; omega)) ?_)
    refine wl_ef rfl (ef_store (cs' := bc (prH L)) tbok rfl rfl rfl rfl (.there .here) rfl (Nat.le_of_ble_eq_true rfl) (spl_all rfl) ?_)
    refine wl_done ?_
    refine nk_code ?_
    refine wc_ret ?_
    try dsimp only
    exact fin1 rfl (rv_ag (l := bc (prH L)) tbok rfl rfl rfl rfl (rs_lk (.there .here) at0)) (fun w' hw => ⟨rfl, hw.all (new_cons hk (new_cons (newKey ho) new_nil))⟩)
end Go.Proofs.Ytjhmcmadleabjaa

set_option maxRecDepth 100000
namespace Go.Proofs.Ytjhmcmadleabjaa
open Go Go.Hw Go.Proofs

/-- The chains' ends from where the digits stand. -/
def endOf (n : UInt32) (d : List UInt8) (L : List (List UInt8)) (i : Nat) : List UInt8 := clm n (UInt8.ofInt (i : Int)) (d.getD i 0).toNat (15 - (d.getD i 0).toNat) (L.getD i [])
def endsOf (n : UInt32) (d : List UInt8) (L : List (List UInt8)) : List (List UInt8) := (List.range 67).map (endOf n d L)
def recH (n : UInt32) (word : List UInt8) (L : List (List UInt8)) : List UInt8 := prH (endsOf n (dgs word) L)
/-- The first i turned. -/
def upd (n : UInt32) (d : List UInt8) (L : List (List UInt8)) (i : Nat) : List (List UInt8) := (endsOf n d L).take i ++ L.drop i
theorem endOf_len {n : UInt32} {d : List UInt8} {L : List (List UInt8)} {i : Nat} (hA : A32 L) (hi : i < L.length) : (endOf n d L i).length = 32 := by
  unfold endOf
  refine clm_len _ _ _ _ _ ?_
  rw [List.getD_eq_getElem?_getD, List.getElem?_eq_getElem hi]
  exact hA _ (List.getElem_mem hi)
theorem endsOf_len (n : UInt32) (d : List UInt8) (L : List (List UInt8)) : (endsOf n d L).length = 67 := by simp [endsOf]
theorem endsOf_A {n : UInt32} {d : List UInt8} {L : List (List UInt8)} (hA : A32 L) (hL : L.length = 67) : A32 (endsOf n d L) := fun s hs => by
  simp only [endsOf, List.mem_map, List.mem_range] at hs
  obtain ⟨i, hi, rfl⟩ := hs
  exact endOf_len hA (by omega)
theorem upd_len {n : UInt32} {d : List UInt8} {L : List (List UInt8)} {i : Nat} (hL : L.length = 67) (hi : i ≤ 67) : (upd n d L i).length = 67 := by
  simp [upd, endsOf_len, hL]; omega
theorem upd_A {n : UInt32} {d : List UInt8} {L : List (List UInt8)} {i : Nat} (hA : A32 L) (hL : L.length = 67) : A32 (upd n d L i) := fun s hs => by
  simp only [upd, List.mem_append] at hs
  rcases hs with hs | hs
  · exact endsOf_A hA hL s (List.mem_of_mem_take hs)
  · exact hA s (List.mem_of_mem_drop hs)
theorem upd_zero (n : UInt32) (d : List UInt8) (L : List (List UInt8)) : upd n d L 0 = L := by simp [upd]
theorem upd_full {n : UInt32} {d : List UInt8} {L : List (List UInt8)} (hL : L.length = 67) : upd n d L 67 = endsOf n d L := by
  unfold upd
  rw [List.take_of_length_le (by rw [endsOf_len]; omega), List.drop_of_length_le (by omega), List.append_nil]
theorem upd_at {n : UInt32} {d : List UInt8} {L : List (List UInt8)} {i : Nat} (hL : L.length = 67) (hi : i < 67) : (upd n d L i)[i]? = some (L.getD i []) := by
  unfold upd
  rw [List.getElem?_append_right (by simp only [List.length_take, endsOf_len]; omega)]
  simp [endsOf_len, hL, Nat.min_eq_left (Nat.le_of_lt hi), hi]
theorem upd_set {n : UInt32} {d : List UInt8} {L : List (List UInt8)} {i : Nat} (hA : A32 L) (hL : L.length = 67) (hi : i < 67) : spl (bc (upd n d L i).flatten) (i * 32) (bc (endOf n d L i)) = bc (upd n d L (i + 1)).flatten := by
  have hiL : i < L.length := by omega
  have hE := endsOf_A (n := n) (d := d) hA hL
  have hel := endsOf_len n d L
  have htA : A32 ((endsOf n d L).take i) := fun s hs => hE s (List.mem_of_mem_take hs)
  have hl1 : ((endsOf n d L).take i).flatten.length = i * 32 := by rw [flat_len htA, List.length_take_of_le (by omega)]
  have hls : L[i].length = 32 := hA _ (List.getElem_mem hiL)
  have hle := endOf_len (n := n) (d := d) hA hiL
  have e1 : upd n d L i = (endsOf n d L).take i ++ L[i] :: L.drop (i + 1) := by unfold upd; rw [List.drop_eq_getElem_cons hiL]
  have e2 : (endsOf n d L).take (i + 1) = (endsOf n d L).take i ++ [endOf n d L i] := by
    rw [List.take_add_one]; simp [endsOf, hi]
  have e3 : upd n d L (i + 1) = (endsOf n d L).take i ++ endOf n d L i :: L.drop (i + 1) := by unfold upd; rw [e2]; simp
  rw [e1, e3]
  simp only [List.flatten_append, List.flatten_cons, bc_app]
  unfold spl
  rw [List.take_append_of_le_length (by rw [bc_len, hl1]; omega), List.take_of_length_le (by rw [bc_len, hl1]; omega)]
  rw [List.drop_append, List.drop_of_length_le (by rw [bc_len, hl1]; omega), List.nil_append, bc_len, bc_len, hl1, hle, List.drop_append, List.drop_of_length_le (by rw [bc_len]; omega), List.nil_append, bc_len, hls]
  rw [show i * 32 + 32 - i * 32 - 32 = 0 by omega, List.drop_zero, List.append_assoc]
theorem dgs_getD (x : List UInt8) {i : Nat} (h : i < 67) : (dgs x).getD i 0 = dg x i := by simp [dgs, h]
theorem zero26 : zeroIs Try.prog 26 (.agg (bc (List.replicate 2144 0))) := by unfold zeroIs; kernel_rfl
theorem updA_at {n : UInt32} {d : List UInt8} {L : List (List UInt8)} {i : Nat} (hA : A32 L) (hL : L.length = 67) (hi : i < 67) : ∀ (j : Nat) c, (bc (L.getD i []))[j]? = some c → (bc (upd n d L i).flatten)[i * 32 + j]? = some c := fun j c hj => by
  have hlt : i < (upd n d L i).length := by rw [upd_len hL (by omega)]; exact hi
  have h1 := upd_at (n := n) (d := d) hL hi
  rw [List.getElem?_eq_getElem hlt] at h1
  exact flat_at (upd_A hA hL) hlt j c (by rw [Option.some.inj h1]; exact hj)

theorem recover_c {w : World} {n : UInt32} {x : List UInt8} {L : List (List UInt8)} (hx : x.length = 32) (hA : A32 L) (hL : L.length = 67) :
    CallsV Try.prog 62 [.c (.u32 n), .agg (bc x), .agg (bc L.flatten)] w fun en w' => en = .returned (V.agg (bc (recH n x L))).den ∧ St w [] w' := by
  have hxl : (bc x).length = 32 := by rw [bc_len, hx]
  refine calls_in (tb := tb) (fn := Try.f62) Try.func62 rfl rfl rfl [(0, .c (.u32 n)), (1, .agg (bc x)), (2, .agg (bc L.flatten))] rfl [] (St.refl _) ?_
  refine wc_seq ?_
  refine wc_region ?_
  refine wl_ef rfl (ef_box rfl rfl rfl (fun b hb => ?_))
  refine wl_ef rfl (ef_box rfl rfl rfl (fun b2 hb2 => ?_))
  refine wl_ef rfl (ef_alloc zero30 rfl rfl (fun o ho => ?_))
  refine wl_done ?_
  refine nk_code ?_
  refine wc_seq ?_
  refine wc_seq ?_
  refine wc_region ?_
  refine wl_q rfl rfl rfl (qt_load_ag (l := bc x) tbok rfl rfl rfl hxl (rs_lk (.there (.there .here)) at0)) ?_
  refine wl_ef rfl (ef_pure (v := .agg (bc (dgs x))) (by kernel_rfl) rfl rfl (fun w1 _ => digits_c hx) ?_)
  refine wl_q rfl rfl rfl (qt_p tbok rfl) ?_
  refine wl_done ?_
  refine nk_code ?_
  refine wc_block ?_
  refine wc_loop (ι := Nat) (fun i => i ≤ 67) (fun i => [(11, .c (.i64 (i : Int))), (10, .agg (bc (dgs x))), (0, .c (.u32 n)), (5, .c (.ptr (.at b2 0))), (6, .c (.ptr (.at o 0)))]) (fun i => [⟨.at o 0, bc (List.replicate 32 0), 30, (0, 0), []⟩, ⟨.at b2 0, bc (upd n (dgs x) L i).flatten, 35, (0, 0), []⟩]) (fun i => 67 - i) 0 (by omega) (nk_start ⟨rfl, rfl, rfl, rfl, rfl, trivial⟩ (fun w hw => by rw [upd_zero]; exact Rm.sub_St hw (.there (.there .here)) (newKey hb))) (fun i hi => ?_)
  refine wc_seq ?_
  refine wc_region ?_
  refine wl_q rfl rfl rfl (qt_p tbok rfl) ?_
  refine wl_done ?_
  refine nk_code ?_
  refine wc_seq ?_
  refine wc_cond rfl (fun h12 => ?_) (fun h12 => ?_)
  · have hi' : i < 67 := (by have h0 := of_decide_eq_true h12; omega)
    have hdg := dg_lt x i
    have hLi : (L.getD i []).length = 32 := (by rw [List.getD_eq_getElem?_getD, List.getElem?_eq_getElem (by omega : i < L.length)]; exact hA _ (List.getElem_mem _))
    have hfl := flat_len (upd_A (n := n) (d := dgs x) (i := i) hA hL)
    have hul := upd_len (n := n) (d := dgs x) (i := i) hL hi
    refine wc_skip ?_
    refine nk_code ?_
    refine wc_seq ?_
    refine wc_block ?_
    refine wc_seq ?_
    refine wc_region ?_
    refine wl_q rfl rfl rfl (qt_p tbok rfl) ?_
    refine wl_q rfl rfl rfl (qt_index_sc tbok rfl rfl rfl rfl rfl ⟨by omega, by omega⟩ (c := .u8 ((dgs x).getD i 0)) (by rw [Int.toNat_natCast]; exact bc_getD (by simp [dgs]; omega))) ?_
    refine wl_q rfl rfl rfl (qt_p tbok rfl) ?_
    refine wl_q rfl rfl rfl (qt_p tbok rfl) ?_
    refine wl_done ?_
    refine nk_code ?_
    refine wc_region ?_
    refine wl_q rfl rfl rfl (qt_p tbok rfl) ?_
    refine wl_q rfl rfl rfl (qt_p tbok rfl) ?_
    refine wl_q rfl rfl rfl (qt_p tbok rfl) ?_
    refine wl_q rfl rfl rfl (qt_p tbok rfl) ?_
    refine wl_q rfl rfl rfl (qt_p tbok rfl) ?_
    refine wl_q rfl rfl rfl (qt_p tbok rfl) ?_
    refine wl_q rfl rfl rfl (qt_load_ag (l := bc (L.getD i [])) tbok rfl rfl rfl (by rw [bc_len, hLi]) (rs_lk (.there .here) (fun j c hj => by rw [show 0 + (i : Int).toNat * 32 = i * 32 by omega]; exact updA_at hA hL hi' j c hj))) ?_
    refine wl_q rfl rfl rfl (qt_p tbok rfl) ?_
    refine wl_q rfl rfl rfl (qt_p tbok rfl) ?_
    refine wl_ef rfl (ef_pure (v := .t2 (.agg (bc (endOf n (dgs x) L i))) (.c (.i64 0))) (by kernel_rfl) rfl rfl (fun w1 _ => climb95_c hLi (by rw [dgs_getD x hi']; omega) (Nat.le_refl 15)) ?_)
    refine wl_q rfl rfl rfl (qt_p tbok rfl) ?_
    refine wl_q rfl rfl rfl (qt_p tbok rfl) ?_
    refine wl_q rfl rfl rfl (qt_p tbok rfl) ?_
    refine wl_q rfl rfl rfl (qt_p tbok rfl) ?_
    refine wl_ef rfl (ef_store (cs' := bc (upd n (dgs x) L (i + 1)).flatten) tbok rfl rfl rfl rfl (.there .here) (by show (bc (endOf n (dgs x) L i)).length = 32; rw [bc_len, endOf_len hA (by omega)]) (by rw [bc_len, hfl, hul]; omega) (by rw [show 0 + (i : Int).toNat * 32 = i * 32 by omega]; exact upd_set hA hL hi') ?_)
    refine wl_done ?_
    refine nk_code ?_
    refine wc_region ?_
    refine wl_q rfl rfl rfl (qt_p tbok rfl) ?_
    refine wl_q rfl rfl rfl (qt_p tbok rfl) ?_
    refine wl_done ?_
    exact nk_round (i + 1) (by omega) (by omega) ⟨rfl, rfl, rfl, rfl, rfl, trivial⟩ (fun _ h => h)
  · have he : i = 67 := (by have h0 := of_decide_eq_false h12; omega)
    subst he
    refine wc_exit rfl ?_
    refine nk_code ?_
    refine wc_seq ?_
    refine wc_region ?_
    refine wl_ef rfl (ef_pure (v := .agg (bc (recH n x L))) (by kernel_rfl) rfl rfl (fun w1 h1 => press_c (endsOf_A hA hL) (endsOf_len _ _ _) (by rw [← upd_full (n := n) (d := dgs x) hL]; exact cells_own h1 (.there .here))) ?_)
    refine wl_ef rfl (ef_store (cs' := bc (recH n x L)) tbok rfl rfl rfl rfl .here rfl (Nat.le_of_ble_eq_true rfl) (spl_all rfl) ?_)
    refine wl_done ?_
    refine nk_code ?_
    refine wc_ret ?_
    try dsimp only
    exact fin1 rfl (rv_ag (l := bc (recH n x L)) tbok rfl rfl rfl rfl (rs_lk .here at0)) (fun w' hw => ⟨rfl, hw.all (new_cons (newKey ho) (new_cons (newKey hb2) new_nil))⟩)
end Go.Proofs.Ytjhmcmadleabjaa

set_option maxRecDepth 100000
namespace Go.Proofs.Ytjhmcmadleabjaa
open Go Go.Hw Go.Proofs

theorem press2_c {w : World} {L : List (List UInt8)} (hA : A32 L) (hL : L.length = 67) :
    CallsV Try.prog 99 [.agg (bc L.flatten)] w fun en w' => en = .returned (V.agg (bc (prH L))).den ∧ St w [] w' := by
  have hfl := flat_len hA
  refine calls_in (tb := tb) (fn := Try.f99) Try.func99 rfl rfl rfl [(0, .agg (bc L.flatten))] rfl [] (St.refl _) ?_
  refine wc_seq ?_
  refine wc_region ?_
  refine wl_ef rfl (ef_box rfl rfl rfl (fun b hb => ?_))
  refine wl_ef rfl (ef_alloc zero22 rfl rfl (fun o ho => ?_))
  refine wl_done ?_
  refine nk_code ?_
  refine wc_seq ?_
  refine wc_region ?_
  refine wl_ef rfl (ef_buildSlice (vs := [(0, .c (.u8 3))]) (l := [.u8 3]) tbok rfl zero5 rfl rfl rfl (by decide) rfl rfl (fun b0 hb0 => ?_))
  refine wl_q rfl rfl rfl (qt_p tbok rfl) ?_
  refine wl_done ?_
  refine nk_code ?_
  refine wc_seq ?_
  refine wc_seq ?_
  refine wc_region ?_
  refine wl_q rfl rfl rfl (qt_p tbok rfl) ?_
  refine wl_done ?_
  refine nk_code ?_
  refine wc_block ?_
  refine wc_loop (ι := Nat × Os) (fun i => i.1 ≤ 67 ∧ Oi (3 :: (L.take i.1).flatten) i.2 ∧ (∀ k, i.2.1.key = some k → w.heap.size ≤ k)) (fun i => [(4, .c (.i64 (i.1 : Int))), (3, .c (.slc i.2.1 (3 :: (L.take i.1).flatten).length i.2.2.1)), (1, .c (.ptr (.at b 0))), (2, .c (.ptr (.at o 0)))]) (fun i => [ob (3 :: (L.take i.1).flatten) i.2, ⟨.at o 0, bc (List.replicate 32 0), 22, (0, 0), []⟩, ⟨.at b 0, bc L.flatten, 26, (0, 0), []⟩]) (fun i => 67 - i.1) (0, .at b0 0, 1, []) ⟨Nat.zero_le _, own_of (n := 1) (cs := [C.u8 3]) rfl (by decide), newKey hb0⟩ (nk_start ⟨rfl, rfl, rfl, rfl, trivial⟩ (fun w hw => hw)) (fun ⟨i, x⟩ ⟨hi, hx, hk⟩ => ?_)
  replace hi : i ≤ 67 := hi
  replace hx : Oi (3 :: (L.take i).flatten) x := hx
  replace hk : ∀ k, x.1.key = some k → w.heap.size ≤ k := hk
  dsimp only
  refine wc_seq ?_
  refine wc_seq ?_
  refine wc_region ?_
  refine wl_q rfl rfl rfl (qt_p tbok rfl) ?_
  refine wl_q rfl rfl rfl (qt_p tbok rfl) ?_
  refine wl_done ?_
  refine nk_code ?_
  refine wc_cond rfl (fun h8 => ?_) (fun h8 => ?_)
  · have hi' : i < L.length := (by have h0 := of_decide_eq_true h8; omega)
    have hs : L[i].length = 32 := hA _ (List.getElem_mem hi')
    have htA : A32 (L.take i) := fun s hs => hA s (List.mem_of_mem_take hs)
    have htl : (3 :: (L.take i).flatten).length = 1 + i * 32 := (by rw [List.length_cons, flat_len htA, List.length_take_of_le (by omega)]; omega)
    refine wc_skip ?_
    refine nk_code ?_
    refine wc_seq ?_
    refine wc_block ?_
    refine wc_seq ?_
    refine wc_region ?_
    refine wl_q rfl rfl rfl (qt_p tbok rfl) ?_
    refine wl_done ?_
    refine nk_code ?_
    refine wc_block ?_
    refine wc_loop (ι := Nat × Os) (fun j => j.1 ≤ 32 ∧ Oi ((3 :: (L.take i).flatten) ++ L[i].take j.1) j.2 ∧ (∀ k, j.2.1.key = some k → w.heap.size ≤ k)) (fun j => [(5, .c (.i64 (j.1 : Int))), (4, .c (.i64 (i : Int))), (3, .c (.slc j.2.1 ((3 :: (L.take i).flatten) ++ L[i].take j.1).length j.2.2.1)), (1, .c (.ptr (.at b 0))), (2, .c (.ptr (.at o 0)))]) (fun j => [ob ((3 :: (L.take i).flatten) ++ L[i].take j.1) j.2, ⟨.at o 0, bc (List.replicate 32 0), 22, (0, 0), []⟩, ⟨.at b 0, bc L.flatten, 26, (0, 0), []⟩]) (fun j => 32 - j.1) (0, x) ⟨Nat.zero_le _, by show Oi ((3 :: (L.take i).flatten) ++ L[i].take 0) x; rw [List.take_zero, List.append_nil]; exact hx, hk⟩ (nk_start ⟨rfl, rfl, by show _ = some (V.c (.slc x.1 ((3 :: (L.take i).flatten) ++ L[i].take 0).length x.2.1)); rw [List.take_zero, List.append_nil]; rfl, rfl, rfl, trivial⟩ (fun w hw => by rw [List.take_zero, List.append_nil]; exact hw)) (fun ⟨j, y⟩ ⟨hj, hy, hky⟩ => ?_)
    replace hj : j ≤ 32 := hj
    replace hy : Oi ((3 :: (L.take i).flatten) ++ L[i].take j) y := hy
    replace hky : ∀ k, y.1.key = some k → w.heap.size ≤ k := hky
    have hyl : ((3 :: (L.take i).flatten) ++ L[i].take j).length ≤ 3000 := (by rw [List.length_append, htl, List.length_take]; omega)
    dsimp only
    refine wc_seq ?_
    refine wc_seq ?_
    refine wc_region ?_
    refine wl_q rfl rfl rfl (qt_p tbok rfl) ?_
    refine wl_q rfl rfl rfl (qt_p tbok rfl) ?_
    refine wl_done ?_
    refine nk_code ?_
    refine wc_cond rfl (fun h12 => ?_) (fun h12 => ?_)
    · have hj' : j < L[i].length := (by have h0 := of_decide_eq_true h12; omega)
      refine wc_skip ?_
      refine nk_code ?_
      refine wc_seq ?_
      refine wc_block ?_
      refine wc_region ?_
      refine wl_q rfl rfl rfl (qt_p tbok rfl) ?_
      refine wl_q rfl rfl rfl (qt_p tbok rfl) ?_
      refine wl_q rfl rfl rfl (qt_p tbok rfl) ?_
      refine wl_q rfl rfl rfl (qt_p tbok rfl) ?_
      refine wl_q rfl rfl rfl (qt_p tbok rfl) ?_
      refine wl_q rfl rfl rfl (qt_load (c := .u8 (L[i].getD j 0)) tbok rfl rfl rfl (rc_lk (.there (.there .here)) (by rw [show 0 + (i : Int).toNat * 32 + (j : Int).toNat * 1 = i * 32 + j by omega]; exact flat_at hA hi' _ _ (bc_getD hj')))) ?_
      refine wl_ef rfl (ef_buildSlice (vs := [(0, .c (.u8 (L[i].getD j 0)))]) (l := [.u8 (L[i].getD j 0)]) tbok rfl zero5 rfl rfl rfl (by decide) rfl rfl (fun br hb2 => ?_))
      refine wl_ef rfl (ef_append tbok rfl el5 zero5 rfl rfl rfl (.there .here) hy hky (m := 1) (news := [.u8 (L[i].getD j 0)]) rfl (rs_lk .here at0) (by omega) (by simp only [maxLen]; omega) (fun a2 c2 t2 hown2 hk2 hnn _ => ?_))
      refine wl_q rfl rfl rfl (qt_p tbok rfl) ?_
      refine wl_done ?_
      refine nk_code ?_
      refine wc_region ?_
      refine wl_q rfl rfl rfl (qt_p tbok rfl) ?_
      refine wl_q rfl rfl rfl (qt_p tbok rfl) ?_
      refine wl_q rfl rfl rfl (qt_p tbok rfl) ?_
      refine wl_done ?_
      exact nk_round (i := (j, y)) (j + 1, a2, c2, t2) ⟨by show j + 1 ≤ 32; omega, by show Oi ((3 :: (L.take i).flatten) ++ L[i].take (j + 1)) (a2, c2, t2); rw [take_snoc hj', ← List.append_assoc]; exact oi_app hown2 rfl, hk2⟩ (by show 32 - (j + 1) < 32 - j; omega) ⟨rfl, rfl, by show some (V.c (C.slc a2 (((3 :: (L.take i).flatten) ++ L[i].take j).length + 1) c2)) = some (V.c (C.slc a2 ((3 :: (L.take i).flatten) ++ L[i].take (j + 1)).length c2)); rw [take_len1 hj'], rfl, rfl, trivial⟩ (fun w hw => by have h2 := Rm.sub_St hw (.there .here) (newKey hb2); rw [bc_snoc, List.append_assoc, ← take_snoc hj'] at h2; exact h2)
    · have he : j = 32 := (by have h0 := of_decide_eq_false h12; omega)
      have htk : L[i].take j = L[i] := List.take_of_length_le (by omega)
      have hft := flat_take hi'
      rw [htk] at hy
      rw [htk]
      refine wc_exit rfl ?_
      refine nk_code ?_
      refine wc_region ?_
      refine wl_q rfl rfl rfl (qt_p tbok rfl) ?_
      refine wl_q rfl rfl rfl (qt_p tbok rfl) ?_
      refine wl_q rfl rfl rfl (qt_p tbok rfl) ?_
      refine wl_done ?_
      exact nk_round (i := (i, x)) (i + 1, y) ⟨by show i + 1 ≤ 67; omega, by show Oi (3 :: (L.take (i + 1)).flatten) y; rw [hft, ← List.cons_append]; exact hy, hky⟩ (by show 67 - (i + 1) < 67 - i; omega) ⟨rfl, by show _ = some (V.c (.slc y.1 (3 :: (L.take (i + 1)).flatten).length y.2.1)); rw [hft, ← List.cons_append]; rfl, rfl, rfl, trivial⟩ (fun w hw => by rw [hft, ← List.cons_append]; exact hw)
  · have he : i = 67 := (by have h0 := of_decide_eq_false h8; omega)
    have htk : L.take i = L := List.take_of_length_le (by omega)
    rw [htk] at hx
    rw [htk]
    refine wc_exit rfl ?_
    refine nk_code ?_
    refine wc_seq ?_
    refine wc_region ?_
    refine wl_q rfl rfl rfl (qt_p tbok rfl) ?_
    refine wl_ef rfl (ef_pure (v := .agg (bc (prH L))) (by kernel_rfl) rfl rfl (fun w1 h1 => sum2_c (p := 3 :: L.flatten) (cells_own h1 .here) (by rw [List.length_cons, hfl]; omega)) ?_)
    refine wl_ef rfl (ef_store (cs' := bc (prH L)) tbok rfl rfl rfl rfl (.there .here) rfl (Nat.le_of_ble_eq_true rfl) (spl_all rfl) ?_)
    refine wl_done ?_
    refine nk_code ?_
    refine wc_ret ?_
    try dsimp only
    exact fin1 rfl (rv_ag (l := bc (prH L)) tbok rfl rfl rfl rfl (rs_lk (.there .here) at0)) (fun w' hw => ⟨rfl, hw.all (new_cons hk (new_cons (newKey ho) (new_cons (newKey hb) new_nil)))⟩)
end Go.Proofs.Ytjhmcmadleabjaa

set_option maxRecDepth 100000
namespace Go.Proofs.Ytjhmcmadleabjaa
open Go Go.Hw Go.Proofs

theorem tops_c {w : World} {n : UInt32} {x : List UInt8} {L : List (List UInt8)} (hx : x.length = 32) (hA : A32 L) (hL : L.length = 67) :
    CallsV Try.prog 100 [.c (.u32 n), .agg (bc x), .agg (bc L.flatten)] w fun en w' => en = .returned (V.agg (bc (endsOf n (dgs x) L).flatten)).den ∧ St w [] w' := by
  have hxl : (bc x).length = 32 := by rw [bc_len, hx]
  have hEl : (bc (endsOf n (dgs x) L).flatten).length = 2144 := by rw [bc_len, flat_len (endsOf_A hA hL), endsOf_len]
  refine calls_in (tb := tb) (fn := Try.f100) Try.func100 rfl rfl rfl [(0, .c (.u32 n)), (1, .agg (bc x)), (2, .agg (bc L.flatten))] rfl [] (St.refl _) ?_
  refine wc_seq ?_
  refine wc_region ?_
  refine wl_ef rfl (ef_box rfl rfl rfl (fun b hb => ?_))
  refine wl_ef rfl (ef_box rfl rfl rfl (fun b2 hb2 => ?_))
  refine wl_ef rfl (ef_alloc zero26 rfl rfl (fun o ho => ?_))
  refine wl_done ?_
  refine nk_code ?_
  refine wc_seq ?_
  refine wc_region ?_
  refine wl_q rfl rfl rfl (qt_load_ag (l := bc x) tbok rfl rfl rfl hxl (rs_lk (.there (.there .here)) at0)) ?_
  refine wl_ef rfl (ef_pure (v := .agg (bc (dgs x))) (by kernel_rfl) rfl rfl (fun w1 _ => digits2_c hx) ?_)
  refine wl_ef rfl (ef_alloc zero167 rfl rfl (fun r hr => ?_))
  refine wl_ef rfl (ef_store (cs' := bc (dgs x)) tbok rfl rfl rfl rfl .here rfl (Nat.le_of_ble_eq_true rfl) (spl_all rfl) ?_)
  refine wl_done ?_
  refine nk_code ?_
  refine wc_seq ?_
  refine wc_seq ?_
  refine wc_region ?_
  refine wl_q rfl rfl rfl (qt_p tbok rfl) ?_
  refine wl_done ?_
  refine nk_code ?_
  refine wc_block ?_
  refine wc_loop (ι := Nat) (fun i => i ≤ 67) (fun i => [(8, .c (.i64 (i : Int))), (7, .c (.ptr (.at r 0))), (0, .c (.u32 n)), (5, .c (.ptr (.at b2 0))), (6, .c (.ptr (.at o 0)))]) (fun i => [⟨.at r 0, bc (dgs x), 167, (0, 0), []⟩, ⟨.at o 0, bc (List.replicate 2144 0), 26, (0, 0), []⟩, ⟨.at b2 0, bc (upd n (dgs x) L i).flatten, 26, (0, 0), []⟩]) (fun i => 67 - i) 0 (by omega) (nk_start ⟨rfl, rfl, rfl, rfl, rfl, trivial⟩ (fun w hw => by rw [upd_zero]; exact Rm.sub_St hw (.there (.there (.there .here))) (newKey hb))) (fun i hi => ?_)
  refine wc_seq ?_
  refine wc_seq ?_
  refine wc_region ?_
  refine wl_q rfl rfl rfl (qt_p tbok rfl) ?_
  refine wl_q rfl rfl rfl (qt_p tbok rfl) ?_
  refine wl_done ?_
  refine nk_code ?_
  refine wc_cond rfl (fun h12 => ?_) (fun h12 => ?_)
  · have hi' : i < 67 := (by have h0 := of_decide_eq_true h12; omega)
    have hdg := dg_lt x i
    have hLi : (L.getD i []).length = 32 := (by rw [List.getD_eq_getElem?_getD, List.getElem?_eq_getElem (by omega : i < L.length)]; exact hA _ (List.getElem_mem _))
    have hfl := flat_len (upd_A (n := n) (d := dgs x) (i := i) hA hL)
    have hul := upd_len (n := n) (d := dgs x) (i := i) hL hi
    refine wc_skip ?_
    refine nk_code ?_
    refine wc_seq ?_
    refine wc_block ?_
    refine wc_tail 13 follows (by kernel_rfl) ?_
    refine wq_q rfl rfl rfl (qt_p tbok rfl) ?_
    refine wq_q rfl rfl rfl (qt_p tbok rfl) ?_
    refine wq_q rfl rfl rfl (qt_p tbok rfl) ?_
    refine wq_q rfl rfl rfl (qt_p tbok rfl) ?_
    refine wq_q rfl rfl rfl (qt_p tbok rfl) ?_
    refine wq_q rfl rfl rfl (qt_p tbok rfl) ?_
    refine wq_q rfl rfl rfl (qt_load_ag (l := bc (L.getD i [])) tbok rfl rfl rfl (by rw [bc_len, hLi]) (rs_lk (.there (.there .here)) (fun j c hj => by rw [show 0 + (i : Int).toNat * 32 = i * 32 by omega]; exact updA_at hA hL hi' j c hj))) ?_
    refine wq_q rfl rfl rfl (qt_p tbok rfl) ?_
    refine wq_q rfl rfl rfl (qt_p tbok rfl) ?_
    refine wq_q rfl rfl rfl (qt_load (c := .u8 ((dgs x).getD i 0)) tbok rfl rfl rfl (rc_lk .here (by rw [show 0 + (i : Int).toNat * 1 = i by omega]; exact bc_getD (by simp [dgs]; omega)))) ?_
    refine wq_q rfl rfl rfl (qt_p tbok rfl) ?_
    refine wq_call (.agg (bc (endOf n (dgs x) L i))) (by kernel_rfl) rfl rfl (fun w1 _ => climb115_c hLi (by rw [dgs_getD x hi']; omega) (Nat.le_refl 15)) ?_
    refine wq_q rfl rfl rfl (qt_p tbok rfl) ?_
    refine wq_done ?_
    refine wl_ef rfl (ef_store (cs' := bc (upd n (dgs x) L (i + 1)).flatten) tbok rfl rfl rfl rfl (.there (.there .here)) (by show (bc (endOf n (dgs x) L i)).length = 32; rw [bc_len, endOf_len hA (by omega)]) (by rw [bc_len, hfl, hul]; omega) (by rw [show 0 + (i : Int).toNat * 32 = i * 32 by omega]; exact upd_set hA hL hi') ?_)
    refine wl_done ?_
    refine nk_code ?_
    refine wc_region ?_
    refine wl_q rfl rfl rfl (qt_p tbok rfl) ?_
    refine wl_q rfl rfl rfl (qt_p tbok rfl) ?_
    refine wl_q rfl rfl rfl (qt_p tbok rfl) ?_
    refine wl_done ?_
    exact nk_round (i + 1) (by omega) (by omega) ⟨rfl, rfl, rfl, rfl, rfl, trivial⟩ (fun _ h => h)
  · have he : i = 67 := (by have h0 := of_decide_eq_false h12; omega)
    subst he
    refine wc_exit rfl ?_
    refine nk_code ?_
    refine wc_seq ?_
    refine wc_region ?_
    refine wl_q rfl rfl rfl (qt_load_ag (l := bc (endsOf n (dgs x) L).flatten) tbok rfl rfl rfl hEl (rs_lk (.there (.there .here)) (by rw [upd_full hL]; exact at0))) ?_
    refine wl_ef rfl (ef_store (cs' := bc (endsOf n (dgs x) L).flatten) tbok rfl rfl rfl rfl (.there .here) hEl (Nat.le_of_ble_eq_true rfl) (spl_all (by show (bc (endsOf n (dgs x) L).flatten).length = (bc (List.replicate 2144 0)).length; rw [hEl, bc_len, List.length_replicate])) ?_)
    refine wl_done ?_
    refine nk_code ?_
    refine wc_ret ?_
    try dsimp only
    exact fin1 rfl (rv_ag (l := bc (endsOf n (dgs x) L).flatten) tbok rfl rfl rfl hEl (rs_lk (.there .here) at0)) (fun w' hw => ⟨rfl, hw.all (new_cons (newKey hr) (new_cons (newKey ho) (new_cons (newKey hb2) new_nil)))⟩)
end Go.Proofs.Ytjhmcmadleabjaa

set_option maxRecDepth 100000
namespace Go.Proofs.Ytjhmcmadleabjaa
open Go Go.Hw Go.Proofs

theorem recover2_c {w : World} {n : UInt32} {x : List UInt8} {L : List (List UInt8)} (hx : x.length = 32) (hA : A32 L) (hL : L.length = 67) :
    CallsV Try.prog 66 [.c (.u32 n), .agg (bc x), .agg (bc L.flatten)] w fun en w' => en = .returned (V.agg (bc (recH n x L))).den ∧ St w [] w' := by
  have hxl : (bc x).length = 32 := by rw [bc_len, hx]
  have hLl : (bc L.flatten).length = 2144 := by rw [bc_len, flat_len hA, hL]
  refine calls_in (tb := tb) (fn := Try.f66) Try.func66 rfl rfl rfl [(0, .c (.u32 n)), (1, .agg (bc x)), (2, .agg (bc L.flatten))] rfl [] (St.refl _) ?_
  refine wc_seq ?_
  refine wc_region ?_
  refine wl_ef rfl (ef_box rfl rfl rfl (fun b hb => ?_))
  refine wl_ef rfl (ef_box rfl rfl rfl (fun b2 hb2 => ?_))
  refine wl_ef rfl (ef_alloc zero22 rfl rfl (fun o ho => ?_))
  refine wl_done ?_
  refine nk_code ?_
  refine wc_seq ?_
  refine wc_region ?_
  refine wl_q rfl rfl rfl (qt_p tbok rfl) ?_
  refine wl_q rfl rfl rfl (qt_load_ag (l := bc x) tbok rfl rfl rfl hxl (rs_lk (.there (.there .here)) at0)) ?_
  refine wl_q rfl rfl rfl (qt_load_ag (l := bc L.flatten) tbok rfl rfl rfl hLl (rs_lk (.there .here) at0)) ?_
  refine wl_ef rfl (ef_pure (v := .agg (bc (endsOf n (dgs x) L).flatten)) (by kernel_rfl) rfl rfl (fun w1 _ => tops_c hx hA hL) ?_)
  refine wl_ef rfl (ef_pure (v := .agg (bc (recH n x L))) (by kernel_rfl) rfl rfl (fun w1 _ => press2_c (endsOf_A hA hL) (endsOf_len _ _ _)) ?_)
  refine wl_ef rfl (ef_store (cs' := bc (recH n x L)) tbok rfl rfl rfl rfl .here rfl (Nat.le_of_ble_eq_true rfl) (spl_all rfl) ?_)
  refine wl_done ?_
  refine nk_code ?_
  refine wc_ret ?_
  try dsimp only
  exact fin1 rfl (rv_ag (l := bc (recH n x L)) tbok rfl rfl rfl rfl (rs_lk .here at0)) (fun w' hw => ⟨rfl, hw.all (new_cons (newKey ho) (new_cons (newKey hb2) (new_cons (newKey hb) new_nil)))⟩)
end Go.Proofs.Ytjhmcmadleabjaa

set_option maxRecDepth 100000
namespace Go.Proofs.Ytjhmcmadleabjaa
open Go Go.Hw Go.Proofs

/-- The first i of the one list, the rest of the other. -/
def upE (f : Nat → List UInt8) (L : List (List UInt8)) (i : Nat) : List (List UInt8) := ((List.range 67).map f).take i ++ L.drop i
theorem upE_zero (f : Nat → List UInt8) (L : List (List UInt8)) : upE f L 0 = L := by simp [upE]
theorem upE_full {f : Nat → List UInt8} {L : List (List UInt8)} (hL : L.length = 67) : upE f L 67 = (List.range 67).map f := by
  unfold upE
  rw [List.take_of_length_le (by simp), List.drop_of_length_le (by omega), List.append_nil]
theorem upE_len {f : Nat → List UInt8} {L : List (List UInt8)} {i : Nat} (hL : L.length = 67) (hi : i ≤ 67) : (upE f L i).length = 67 := by
  simp [upE, hL]; omega
theorem map_A {f : Nat → List UInt8} (hf : ∀ i, i < 67 → (f i).length = 32) : A32 ((List.range 67).map f) := fun s hs => by
  simp only [List.mem_map, List.mem_range] at hs
  obtain ⟨i, hi, rfl⟩ := hs
  exact hf i hi
theorem upE_A {f : Nat → List UInt8} {L : List (List UInt8)} {i : Nat} (hf : ∀ i, i < 67 → (f i).length = 32) (hA : A32 L) : A32 (upE f L i) := fun s hs => by
  simp only [upE, List.mem_append] at hs
  rcases hs with hs | hs
  · exact map_A hf s (List.mem_of_mem_take hs)
  · exact hA s (List.mem_of_mem_drop hs)
theorem upE_set {f : Nat → List UInt8} {L : List (List UInt8)} {i : Nat} (hf : ∀ i, i < 67 → (f i).length = 32) (hA : A32 L) (hL : L.length = 67) (hi : i < 67) : spl (bc (upE f L i).flatten) (i * 32) (bc (f i)) = bc (upE f L (i + 1)).flatten := by
  have hiL : i < L.length := by omega
  have hE := map_A hf
  have hel : ((List.range 67).map f).length = 67 := by simp
  have htA : A32 (((List.range 67).map f).take i) := fun s hs => hE s (List.mem_of_mem_take hs)
  have hl1 : (((List.range 67).map f).take i).flatten.length = i * 32 := by rw [flat_len htA, List.length_take_of_le (by omega)]
  have hls : L[i].length = 32 := hA _ (List.getElem_mem hiL)
  have hle := hf i hi
  have e1 : upE f L i = ((List.range 67).map f).take i ++ L[i] :: L.drop (i + 1) := by unfold upE; rw [List.drop_eq_getElem_cons hiL]
  have e2 : ((List.range 67).map f).take (i + 1) = ((List.range 67).map f).take i ++ [f i] := by
    rw [List.take_add_one]; simp [hi]
  have e3 : upE f L (i + 1) = ((List.range 67).map f).take i ++ f i :: L.drop (i + 1) := by unfold upE; rw [e2]; simp
  rw [e1, e3]
  simp only [List.flatten_append, List.flatten_cons, bc_app]
  unfold spl
  rw [List.take_append_of_le_length (by rw [bc_len, hl1]; omega), List.take_of_length_le (by rw [bc_len, hl1]; omega)]
  rw [List.drop_append, List.drop_of_length_le (by rw [bc_len, hl1]; omega), List.nil_append, bc_len, bc_len, hl1, hle, List.drop_append, List.drop_of_length_le (by rw [bc_len]; omega), List.nil_append, bc_len, hls]
  rw [show i * 32 + 32 - i * 32 - 32 = 0 by omega, List.drop_zero, List.append_assoc]
def Z67 : List (List UInt8) := List.replicate 67 (List.replicate 32 0)
theorem Z67_A : A32 Z67 := fun s hs => by rw [List.eq_of_mem_replicate hs]; rfl
theorem Z67_flat : bc Z67.flatten = bc (List.replicate 2144 0) := by kernel_rfl
end Go.Proofs.Ytjhmcmadleabjaa
