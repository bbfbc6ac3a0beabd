/- hallmarklaw17.awake answers true. -/
import Derived.Test.YtjhmcmadleabjaaTrust
set_option linter.unusedVariables false
set_option maxRecDepth 100000
namespace Go.Proofs.Ytjhmcmadleabjaa
open Go Go.Hw Go.Proofs

/-! ### What the one key of seed 8 signs -/
def sd8 : List UInt8 := 8 :: List.replicate 31 0
theorem sd8_len : sd8.length = 32 := rfl
/-- What a key of height 0 signed is taken, whatever the message. -/
theorem verM (sd m : List UInt8) : verB ((0 : Nat) : Int) (rootT 0 (lvs sd (pw 0))) m ((0 : Nat) : Int) (sgL sd (UInt32.ofInt ((0 : Nat) : Int)) (wordH ((0 : Nat) : Int) (rootT 0 (lvs sd (pw 0))) ((0 : Nat) : Int) m)) [] = true := by
  unfold verB
  rw [if_neg (by intro h; rcases h with h | h | h | h | h <;> revert h <;> decide)]
  rw [rec_sign]
  exact decide_eq_true rfl
abbrev k8 : Int × List UInt8 := (((0 : Nat) : Int), rootT 0 (lvs sd8 (pw 0)))
abbrev r8 : Ro := ⟨1, [k8]⟩
def x8 : Rx := ⟨1, 5, r8, r8, r8⟩
def m8 : List UInt8 := encR x8
theorem k8_ok : K32 [k8] := fun k hk => by rw [List.mem_singleton.1 hk]; exact rootT_len 0 (lvs_A _ _) (lvs_len _ _)
theorem k8_right : rightB 1 [k8] = true := decide_eq_true ⟨by decide, by show (1 : Int) ≤ ((1 : Nat) : Int); decide, by show 1 ≤ 16; decide, fun k hk => by rw [List.mem_singleton.1 hk]; exact ⟨by show (0 : Int) ≤ ((0 : Nat) : Int); decide, by show ((0 : Nat) : Int) ≤ 6; decide⟩, by simp⟩
theorem x8_root : rootB x8 = true := by
  show (decide ((1 : Int) ≤ 1) && (decide ((1 : Int) ≤ 1099511627776) && (decide ((0 : Int) ≤ 5) && (decide ((5 : Int) ≤ 1099511627776) && (rightB 1 [k8] && (rightB 1 [k8] && rightB 1 [k8])))))) = true
  rw [k8_right]; rfl
theorem m8_enc : m8 = encB x8 := by unfold m8 encR; rw [if_pos x8_root]
def mk8 : Mk := ⟨kid k8, ((0 : Nat) : Int), sgL sd8 (UInt32.ofInt ((0 : Nat) : Int)) (wordH ((0 : Nat) : Int) (rootT 0 (lvs sd8 (pw 0))) ((0 : Nat) : Int) m8), []⟩
theorem mk8_ok : mk8.ok := ⟨sha_len _, sgL_A _ _ _, sgL_len _ _ _, (fun s hs => by cases hs), Nat.zero_le _⟩
theorem meets8 : meetsB x8.r.n x8.r.K (encB x8) [mk8] = true := by
  show meetsB 1 [k8] (encB x8) [mk8] = true
  rw [← m8_enc]
  have h : sgd k8 m8 [mk8] = true := by
    unfold sgd
    rw [List.any_cons, show mk8.sg k8 m8 = true from sg_yes (decide_eq_true rfl) (verM sd8 m8)]
    rfl
  unfold meetsB cntK
  rw [k8_right, List.filter_cons, if_pos h]
  rfl
theorem cntK_none (K : List (Int × List UInt8)) (m : List UInt8) : cntK K m [] = 0 := by
  unfold cntK
  rw [List.filter_eq_nil_iff.2 (fun k _ => by unfold sgd; simp)]
  rfl
theorem meets_none (n : Int) (K : List (Int × List UInt8)) (m : List UInt8) : meetsB n K m [] = false := by
  unfold meetsB
  rw [cntK_none]
  by_cases h : rightB n K = true
  · rw [h, decide_eq_false (by have := (of_decide_eq_true h).1; omega)]; rfl
  · rw [Bool.not_eq_true] at h; rw [h]; rfl
abbrev y8 (q : Nat) : RL := ⟨1, 5, (r8, .at q 0, 1, []), (r8, .at q 0, 1, []), (r8, .at q 0, 1, [])⟩
theorem y8_x (q : Nat) : (y8 q).x = x8 := rfl
theorem y8_ok (q : Nat) : (y8 q).ok := have h : r8.ok := ⟨k8_ok, by show 1 ≤ 1073741824; decide⟩; ⟨h, h, h⟩
theorem y8_pl (q : Nat) : (y8 q).pl := ⟨.inr ⟨q, 0, rfl⟩, .inr ⟨q, 0, rfl⟩, .inr ⟨q, 0, rfl⟩⟩
theorem ok_ofx {z : RL} {x : Rx} (h : z.x = x) (hx : x.r.ok ∧ x.t.ok ∧ x.l.ok) : z.ok := by subst h; exact hx
theorem x8_ok : x8.r.ok ∧ x8.t.ok ∧ x8.l.ok := y8_ok 0
theorem m8_len : m8.length ≤ 1700 := encR_len' (y8_ok 0)

theorem awake17_c {w : World} : CallsV Try.prog 51 [] w fun en w' => en = .returned (V.c (.bool true)).den ∧ St w [] w' := by
  have hrl : (rootT 0 (lvs sd8 (pw 0))).length = 32 := rootT_len 0 (lvs_A _ _) (lvs_len _ _)
  have hkl : (kr k8).length = 33 := kr_len hrl
  have hKr : [k8].flatMap kr = kr k8 := List.append_nil _
  have hm8 := m8_len
  refine calls_in (tb := tb) (fn := Try.f51) Try.func51 rfl rfl rfl [] rfl [] (St.refl _) ?_
  refine wc_seq ?_
  refine wc_region ?_
  refine wl_q rfl rfl rfl (qt_p tbok rfl) ?_
  refine wl_done ?_
  refine nk_code ?_
  refine wc_seq ?_
  refine wc_region ?_
  refine wl_q rfl rfl rfl (qt_build_arr (vs := [(0, .c (.u8 8))]) (l := bc sd8) tbok rfl zero30 rfl rfl) ?_
  refine wl_ef rfl (ef_fresh2 (by kernel_rfl) rfl rfl (fun w1 h1 => new_c (h := 0) sd8_len (by decide)) (fun ⟨kk, y⟩ hy hky hkk => ?_))
  dsimp only at hy hky hkk
  dsimp only
  refine wl_q rfl rfl rfl (qt_p tbok rfl) ?_
  refine wl_q rfl rfl rfl (qt_p tbok rfl) ?_
  refine wl_q rfl rfl rfl (qt_p tbok rfl) ?_
  refine wl_q rfl rfl rfl (qt_p tbok rfl) ?_
  refine wl_q rfl rfl rfl (qt_p tbok rfl) ?_
  refine wl_done ?_
  refine nk_code ?_
  refine wc_seq ?_
  refine wc_seq ?_
  refine wc_region ?_
  refine wl_q rfl rfl rfl (qt_p tbok rfl) ?_
  first | refine wl_q rfl rfl rfl (qt_p tbok rfl) ?_ | refine wl_q rfl rfl rfl (qt_eqn tbok rfl rfl rfl) ?_
  refine wl_q rfl rfl rfl (qt_p tbok rfl) ?_
  first | refine wl_g rfl rfl rfl rfl (qt_p tbok rfl) ?_ | refine wl_skip rfl rfl rfl rfl rfl ?_
  first | refine wl_g rfl rfl rfl rfl (qt_p tbok rfl) ?_ | refine wl_g rfl rfl rfl rfl (qt_neqn tbok rfl rfl rfl) ?_ | refine wl_skip rfl rfl rfl rfl rfl ?_
  refine wl_q rfl rfl rfl (qt_p tbok rfl) ?_
  refine wl_done ?_
  refine nk_code ?_
  refine wc_no rfl ?_
  refine wc_skip ?_
  refine nk_code ?_
  refine wc_seq ?_
  refine wc_region ?_
  refine wl_q rfl rfl rfl (qt_p tbok rfl) ?_
  refine wl_ef rfl (ef_pure (v := .agg (kr k8)) (by kernel_rfl) rfl rfl (fun w1 h1 => public_c (h := 0) (nx := 0) sd8_len (by decide) (cells_own h1 (.there .here)) (lvs_A _ _) (lvs_len _ _) (OwnS.le hy) (cells_own h1 .here)) ?_)
  refine wl_ef rfl (ef_buildSlice (vs := [(0, .agg (kr k8))]) (l := [k8].flatMap kr) tbok rfl zero32 rfl rfl rfl (by decide) (by rw [hKr]; exact fill_oneN rfl hkl) rfl (fun q hq => ?_))
  refine wl_q rfl rfl rfl (qt_build (vs := [(0, .c (.i64 1)), (1, .c (.slc (.at q 0) 1 1))]) (l := [.i64 1, .slc (.at q 0) 1 1]) tbok rfl zero72 rfl rfl) ?_
  refine wl_ef rfl (ef_alloc zero72 rfl rfl (fun t3 ht3 => ?_))
  refine wl_ef rfl (ef_store (cs' := [.i64 1, .slc (.at q 0) 1 1]) tbok rfl rfl rfl rfl .here rfl (Nat.le_of_ble_eq_true rfl) (spl_all rfl) ?_)
  refine wl_done ?_
  refine nk_code ?_
  refine wc_seq ?_
  refine wc_region ?_
  refine wl_q rfl rfl rfl (qt_load_ag (l := [.i64 1, .slc (.at q 0) 1 1]) tbok rfl rfl rfl rfl (rs_lk .here at0)) ?_
  refine wl_q rfl rfl rfl (qt_load_ag (l := [.i64 1, .slc (.at q 0) 1 1]) tbok rfl rfl rfl rfl (rs_lk .here at0)) ?_
  refine wl_q rfl rfl rfl (qt_load_ag (l := [.i64 1, .slc (.at q 0) 1 1]) tbok rfl rfl rfl rfl (rs_lk .here at0)) ?_
  refine wl_q rfl rfl rfl (qt_build (vs := [(0, .c (.i64 1)), (1, .c (.i64 5)), (2, .agg [.i64 1, .slc (.at q 0) 1 1]), (3, .agg [.i64 1, .slc (.at q 0) 1 1]), (4, .agg [.i64 1, .slc (.at q 0) 1 1])]) (l := (y8 q).cs) tbok rfl zero92 rfl rfl) ?_
  refine wl_ef rfl (ef_alloc zero92 rfl rfl (fun t4 ht4 => ?_))
  refine wl_ef rfl (ef_store (cs' := (y8 q).cs) tbok rfl rfl rfl rfl .here rfl (Nat.le_of_ble_eq_true rfl) (spl_all rfl) ?_)
  refine wl_done ?_
  refine nk_code ?_
  refine wc_seq ?_
  refine wc_region ?_
  refine wl_q rfl rfl rfl (qt_load_ag (l := (y8 q).cs) tbok rfl rfl rfl rfl (rs_lk .here at0)) ?_
  refine wl_ef rfl (ef_fresh (b := fun z : Os => ob m8 z) (I := fun z : Os => Oi m8 z) (v := fun z : Os => .t2 (.c (.slc z.1 m8.length z.2.1)) (.c (.i64 (encE x8)))) (by kernel_rfl) rfl rfl (fun w1 h1 => by exact encode_c (y := y8 q) (y8_ok q) (RL.lies_own (T := 32) (y := y8 q) h1 (.there (.there .here)) (.there (.there .here)) (.there (.there .here)))) (fun e1 he1 he1k => ?_))
  refine wl_q rfl rfl rfl (qt_p tbok rfl) ?_
  refine wl_q rfl rfl rfl (qt_p tbok rfl) ?_
  refine wl_q rfl rfl rfl (qt_p tbok rfl) ?_
  refine wl_as (v' := .c (.i64 0)) (by unfold encE; rw [if_pos x8_root]) ?_
  refine wl_q rfl rfl rfl (qt_p tbok rfl) ?_
  refine wl_q rfl rfl rfl (qt_p tbok rfl) ?_
  refine wl_done ?_
  refine nk_code ?_
  refine wc_seq ?_
  refine wc_region ?_
  refine wl_q rfl rfl rfl (qt_p tbok rfl) ?_
  refine wl_q rfl rfl rfl (qt_p tbok rfl) ?_
  refine wl_ef rfl (ef_turn1 (b' := fun _ => kb kk sd8 0 y (pw 0) (0 + 1)) (by kernel_rfl) rfl rfl (fun _ => (.there (.there (.there (.there (.there .here)))))) (fun _ => rfl) (fun w1 h1 => by exact sign26_c (h := 0) (nx := 0) (msg := m8) sd8_len (by decide) (by decide) (lk_st h1 (.there (.there (.there (.there (.there .here)))))) (lvs_A _ _) (lvs_len _ _) (OwnS.le hy) (cells_own h1 (.there (.there (.there (.there .here))))) (own_ne ((((h1.tail he1k).tail (newKey ht4)).tail (newKey ht3)).tail (newKey hq)) .here rfl) (cells_own h1 .here) (own_ne h1 (.there (.there (.there (.there .here)))) rfl) (by omega)) (fun p hp hkp => ?_))
  refine wl_q rfl rfl rfl (qt_p tbok rfl) ?_
  refine wl_q rfl rfl rfl (qt_p tbok rfl) ?_
  refine wl_q rfl rfl rfl (qt_p tbok rfl) ?_
  refine wl_ef rfl (ef_alloc zero38 rfl rfl (fun t7 ht7 => ?_))
  refine wl_ef rfl (ef_store (cs' := scs ((0 : Nat) : Int) (sigF sd8 0 (lvs sd8 (pw 0)) 0 m8) p.1 0 p.2.1) tbok rfl rfl rfl rfl .here (scs_len (sigF_len _ _ _ _ _)) (by show 0 + 2146 ≤ z38.length; rw [z38_len]; decide) (spl_all (by show (scs _ _ _ _ _).length = z38.length; rw [scs_len (sigF_len _ _ _ _ _), z38_len])) ?_)
  refine wl_q rfl rfl rfl (qt_p tbok rfl) ?_
  refine wl_done ?_
  refine nk_code ?_
  refine wc_seq ?_
  refine wc_draw (s0 := [⟨.at t7 0, scs ((0 : Nat) : Int) (sigF sd8 0 (lvs sd8 (pw 0)) 0 m8) p.1 0 p.2.1, 38, (0, 0), []⟩, dob 30 (pathT 0 0 (lvs sd8 (pw 0))) p, ob m8 e1, ⟨.at t4 0, (y8 q).cs, 92, (0, 0), []⟩, ⟨.at t3 0, [.i64 1, .slc (.at q 0) 1 1], 72, (0, 0), []⟩, ⟨.at q 0, [k8].flatMap kr, 32, (0, 0), []⟩, dob 30 (lvs sd8 (pw 0)) y, kb kk sd8 0 y (pw 0) (0 + 1)]) 7 follows ?_
  refine wh_q 0 rfl (by kernel_rfl) rfl rfl rfl (qt_load_ag (l := (y8 q).cs) tbok rfl rfl rfl rfl (rs_lk (.there (.there (.there .here))) at0)) (fun w hw => hw) ?_
  refine wh_two 1 4 (by kernel_rfl) ?_ ?_
  · refine wo_ef rfl rfl (ef_q rfl rfl (qt_p tbok rfl) ⟨fun w hw => hw, ?_⟩)
    refine wh_two 2 4 (by kernel_rfl) ?_ ?_
    · refine wo_ef rfl rfl (ef_pure (v := .agg (kr k8)) (by kernel_rfl) rfl rfl (fun w1 h1 => public_c (h := 0) (nx := 0 + 1) sd8_len (by decide) (cells_own h1 (.there (.there (.there (.there (.there (.there (.there .here)))))))) (lvs_A _ _) (lvs_len _ _) (OwnS.le hy) (cells_own h1 (.there (.there (.there (.there (.there (.there .here)))))))) ⟨fun w hw => hw, ?_⟩)
      refine wh_two 3 4 (by kernel_rfl) ?_ ?_
      · refine wo_ef rfl rfl (ef_pure (v := .agg (bc (kid k8))) (by kernel_rfl) rfl rfl (fun w1 h1 => id_c hrl) ⟨fun w hw => hw, ?_⟩)
        refine wh_one 4 (by kernel_rfl) (wo_ef rfl rfl (ef_q rfl rfl (qt_load_ag (l := scs ((0 : Nat) : Int) (sigF sd8 0 (lvs sd8 (pw 0)) 0 m8) p.1 0 p.2.1) tbok rfl rfl rfl (scs_len (sigF_len _ _ _ _ _)) (rs_lk .here at0)) ⟨fun w hw => hw, ?_⟩))
        refine wh_one 5 (by kernel_rfl) (wo_ef rfl rfl (ef_q rfl rfl (qt_build (vs := [(0, .agg (bc (kid k8))), (1, .agg (scs ((0 : Nat) : Int) (sigF sd8 0 (lvs sd8 (pw 0)) 0 m8) p.1 0 p.2.1))]) (l := mrow (mk8, p)) tbok rfl zero84 rfl (mfill (sha_len _) (scs_len (sigF_len _ _ _ _ _)))) ⟨fun w hw => hw, ?_⟩))
        refine wh_one 6 (by kernel_rfl) (wo_ef rfl rfl (ef_buildSlice (vs := [(0, .agg (mrow (mk8, p)))]) (l := mrow (mk8, p)) tbok rfl zero84 rfl z2178_len rfl (by decide) (fill_oneN z2178_len (mrow_len mk8_ok)) rfl (fun lb hlb => ⟨fun w hw => hw.tail (newKey hlb), ?_⟩)))
        refine wh_one 7 (by kernel_rfl) (wo_fin rfl rfl (ef_freshL (B := fun x : Nat × RL => TB x.1 x.2 :: rbs 32 x.2) (I := fun x : Nat × RL => x.2.x = x8 ∧ x.2.own) (v := fun x : Nat × RL => .t2 (.c (.ptr (.at x.1 0))) (.c (.i64 0))) (by kernel_rfl) rfl rfl (fun w1 h1 => by exact new_ok_c (y := y8 q) (M := [(mk8, p)]) (la := .at lb 0) (lc := 1) (y8_ok q) (y8_pl q) (RL.lies_own (T := 32) (y := y8 q) h1 (.there (.there (.there (.there (.there (.there .here)))))) (.there (.there (.there (.there (.there (.there .here)))))) (.there (.there (.there (.there (.there (.there .here))))))) (fun x hx => by rw [List.mem_singleton.1 hx]; exact mk8_ok) (by show 1 ≤ 1073741824; decide) (by have := cells_own h1 .here; rwa [show [(mk8, p)].flatMap mrow = mrow (mk8, p) from List.append_nil _]) (fun x hx => by rw [List.mem_singleton.1 hx]; exact ⟨cells_none, Nat.zero_le _⟩) x8_root meets8) (fun ⟨tr, z⟩ ⟨hzx, hzo⟩ hzk => ?_)))
        replace hzx : z.x = x8 := hzx
        replace hzo : z.own := hzo
        replace hzk : ∀ p ∈ TB tr z :: rbs 32 z, ∀ k, p.key = some k → w.heap.size ≤ k := hzk
        have hzy : z.ok := ok_ofx hzx x8_ok
        have hz1 := hzk (TB tr z) (.head _)
        have hz2 := hzk (rob 32 z.l) (.tail _ (.head _))
        have hz3 := hzk (rob 32 z.t) (.tail _ (.tail _ (.head _)))
        have hz4 := hzk (rob 32 z.r) (.tail _ (.tail _ (.tail _ (.head _))))
        dsimp only
        refine wh_one 8 (by kernel_rfl) (wo_ef rfl rfl (ef_q rfl rfl (qt_p tbok rfl) ⟨fun w hw => ((((hw.tail hz1).tail hz2).tail hz3).tail hz4).tail (newKey hlb), ?_⟩))
        refine wh_two 9 10 (by kernel_rfl) ?_ ?_
        · refine wo_ef rfl rfl (ef_q rfl rfl (qt_p tbok rfl) ⟨fun w hw => ((((hw.tail hz1).tail hz2).tail hz3).tail hz4).tail (newKey hlb), ?_⟩)
          refine wh_two 10 11 (by kernel_rfl) ?_ ?_
          · refine wo_ef rfl rfl (ef_q rfl rfl (qt_p tbok rfl) ⟨fun w hw => ((((hw.tail hz1).tail hz2).tail hz3).tail hz4).tail (newKey hlb), ?_⟩)
            refine wh_one 11 (by kernel_rfl) (wo_ef rfl rfl (ef_q rfl rfl (qt_p tbok rfl) ⟨fun w hw => ((((hw.tail hz1).tail hz2).tail hz3).tail hz4).tail (newKey hlb), ?_⟩))
            refine wh_one 12 (by kernel_rfl) (wo_ef rfl rfl (ef_q rfl rfl (qt_p tbok rfl) ⟨fun w hw => ((((hw.tail hz1).tail hz2).tail hz3).tail hz4).tail (newKey hlb), ?_⟩))
            refine wh_done (by kernel_rfl) ?_
            refine nk_code ?_
            refine wc_seq ?_
            refine wc_region ?_
            refine wl_q rfl rfl rfl (qt_load_ag (l := (y8 q).cs) tbok rfl rfl rfl rfl (rs_lk (.there (.there (.there (.there (.there (.there (.there (.there .here)))))))) at0)) ?_
            refine wl_ef rfl (ef_pure (v := .t2 (.c (.ptr .nil)) (.c (.i64 161))) (by kernel_rfl) rfl rfl (fun w1 h1 => by exact new_few_c (y := y8 q) (M := []) (la := .nil) (lc := 0) (y8_ok q) (y8_pl q) (RL.lies_own (T := 32) (y := y8 q) h1 (.there (.there (.there (.there (.there (.there (.there (.there (.there (.there .here)))))))))) (.there (.there (.there (.there (.there (.there (.there (.there (.there (.there .here)))))))))) (.there (.there (.there (.there (.there (.there (.there (.there (.there (.there .here))))))))))) (fun x hx => by cases hx) (by decide) cells_none (fun x hx => by cases hx) x8_root (meets_none _ _ _)) ?_)
            refine wl_q rfl rfl rfl (qt_p tbok rfl) ?_
            refine wl_q rfl rfl rfl (qt_p tbok rfl) ?_
            refine wl_q rfl rfl rfl (qt_p tbok rfl) ?_
            refine wl_q rfl rfl rfl (qt_p tbok rfl) ?_
            refine wl_q rfl rfl rfl (qt_p tbok rfl) ?_
            refine wl_done ?_
            refine nk_code ?_
            refine wc_seq ?_
            refine wc_region ?_
            refine wl_q rfl rfl rfl (qt_p tbok rfl) ?_
            first | refine wl_q rfl rfl rfl (qt_p tbok rfl) ?_ | refine wl_q rfl rfl rfl (qt_eqn tbok rfl rfl rfl) ?_
            refine wl_q rfl rfl rfl (qt_p tbok rfl) ?_
            first | refine wl_g rfl rfl rfl rfl (qt_p tbok rfl) ?_ | refine wl_skip rfl rfl rfl rfl rfl ?_
            first | refine wl_g rfl rfl rfl rfl (qt_p tbok rfl) ?_ | refine wl_g rfl rfl rfl rfl (qt_eqn tbok rfl rfl rfl) ?_ | refine wl_skip rfl rfl rfl rfl rfl ?_
            refine wl_q rfl rfl rfl (qt_p tbok rfl) ?_
            refine wl_q rfl rfl rfl (qt_p tbok rfl) ?_
            first | refine wl_g rfl rfl rfl rfl (qt_p tbok rfl) ?_ | refine wl_skip rfl rfl rfl rfl rfl ?_
            first | refine wl_g rfl rfl rfl rfl (qt_p tbok rfl) ?_ | refine wl_g rfl rfl rfl rfl (qt_eqn tbok rfl rfl rfl) ?_ | refine wl_skip rfl rfl rfl rfl rfl ?_
            refine wl_q rfl rfl rfl (qt_p tbok rfl) ?_
            refine wl_q rfl rfl rfl (qt_p tbok rfl) ?_
            first | refine wl_g rfl rfl rfl rfl (qt_p tbok rfl) ?_ | refine wl_skip rfl rfl rfl rfl rfl ?_
            first | refine wl_g rfl rfl rfl rfl (qt_p tbok rfl) ?_ | refine wl_g rfl rfl rfl rfl (qt_neqn tbok rfl rfl rfl) ?_ | refine wl_skip rfl rfl rfl rfl rfl ?_
            refine wl_q rfl rfl rfl (qt_p tbok rfl) ?_
            refine wl_q rfl rfl rfl (qt_p tbok rfl) ?_
            first | refine wl_g rfl rfl rfl rfl (qt_p tbok rfl) ?_ | refine wl_skip rfl rfl rfl rfl rfl ?_
            first | refine wl_g rfl rfl rfl rfl (qt_p tbok rfl) ?_ | refine wl_g rfl rfl rfl rfl (qt_eqn tbok rfl rfl rfl) ?_ | refine wl_skip rfl rfl rfl rfl rfl ?_
            refine wl_as (v' := .c (.bool true)) (congrArg (fun b => V.c (C.bool b)) (decide_eq_true rfl)) ?_
            refine wl_q rfl rfl rfl (qt_p tbok rfl) ?_
            refine wl_q rfl rfl rfl (qt_p tbok rfl) ?_
            first | refine wl_g rfl rfl rfl rfl (qt_p tbok rfl) ?_ | refine wl_skip rfl rfl rfl rfl rfl ?_
            refine wl_gd rfl rfl (ef_freshL (B := fun z2 : RL => rbs 32 z2) (I := fun z2 : RL => z2.x = z.x ∧ z2.own) (v := fun z2 : RL => .agg z2.cs) (by kernel_rfl) rfl rfl (fun w1 h1 => by exact root_c (tr := tr) (y := z) (cells_own h1 .here) hzy hzo.pl (RL.lies_own (T := 32) h1 (.there (.there (.there .here))) (.there (.there .here)) (.there .here))) (fun z2 hz2 hz2k => ?_))
            refine wl_g rfl rfl rfl rfl (qt_field_sc (l := z2.cs) (c := .i64 z2.v) tbok rfl rfl rfl rfl rfl rfl) ?_
            refine wl_as (v' := .c (.i64 1)) (congrArg (fun x : Rx => V.c (C.i64 x.v)) (hz2.1.trans hzx)) ?_
            first | refine wl_g rfl rfl rfl rfl (qt_p tbok rfl) ?_ | refine wl_g rfl rfl rfl rfl (qt_eqn tbok rfl rfl rfl) ?_ | refine wl_skip rfl rfl rfl rfl rfl ?_
            refine wl_q rfl rfl rfl (qt_p tbok rfl) ?_
            refine wl_q rfl rfl rfl (qt_p tbok rfl) ?_
            first | refine wl_g rfl rfl rfl rfl (qt_p tbok rfl) ?_ | refine wl_skip rfl rfl rfl rfl rfl ?_
            have hT : ckE z.u z.t.1 [] (List.map (·.1) ([] : List (Mk × Os))) 6 = 131 := (by unfold ckE; rw [show z.u = 5 from congrArg Rx.u hzx]; rfl)
            refine wl_gd rfl rfl (ef_pure (v := .c (.i64 131)) (by kernel_rfl) rfl rfl (fun w1 h1 => by have := tag_c (tr := tr) (y := z) (M := []) (msg := []) (ma := .nil) (la := .nil) (mc := 0) (lc := 0) (now := 6) (cells_own h1 (.there (.there (.there .here)))) hzy (RL.lies_own (T := 32) h1 (.there (.there (.there (.there (.there (.there .here)))))) (.there (.there (.there (.there (.there .here))))) (.there (.there (.there (.there .here))))) cells_none (by decide) (fun x hx => by cases hx) (by decide) cells_none (fun x hx => by cases hx); rwa [hT] at this) ?_)
            first | refine wl_g rfl rfl rfl rfl (qt_p tbok rfl) ?_ | refine wl_g rfl rfl rfl rfl (qt_eqn tbok rfl rfl rfl) ?_ | refine wl_skip rfl rfl rfl rfl rfl ?_
            refine wl_q rfl rfl rfl (qt_p tbok rfl) ?_
            refine wl_q rfl rfl rfl (qt_p tbok rfl) ?_
            refine wl_done ?_
            refine nk_code ?_
            refine wc_ret ?_
            try dsimp only
            exact fin1 rfl (rv_tmp rfl) (fun w' hw => ⟨rfl, hw.all (new_app hz2k (new_app hzk (new_cons (newKey hlb) (new_cons (newKey ht7) (new_cons hkp (new_cons he1k (new_cons (newKey ht4) (new_cons (newKey ht3) (new_cons (newKey hq) (new_cons hky (new_cons hkk new_nil)))))))))))⟩)
          · refine wo_ef rfl rfl (ef_q rfl rfl (qt_p tbok rfl) ⟨fun w hw => ((((hw.tail hz1).tail hz2).tail hz3).tail hz4).tail (newKey hlb), ?_⟩)
            refine wh_one 10 (by kernel_rfl) (wo_ef rfl rfl (ef_q rfl rfl (qt_p tbok rfl) ⟨fun w hw => ((((hw.tail hz1).tail hz2).tail hz3).tail hz4).tail (newKey hlb), ?_⟩))
            refine wh_one 12 (by kernel_rfl) (wo_ef rfl rfl (ef_q rfl rfl (qt_p tbok rfl) ⟨fun w hw => ((((hw.tail hz1).tail hz2).tail hz3).tail hz4).tail (newKey hlb), ?_⟩))
            refine wh_done (by kernel_rfl) ?_
            refine nk_code ?_
            refine wc_seq ?_
            refine wc_region ?_
            refine wl_q rfl rfl rfl (qt_load_ag (l := (y8 q).cs) tbok rfl rfl rfl rfl (rs_lk (.there (.there (.there (.there (.there (.there (.there (.there .here)))))))) at0)) ?_
            refine wl_ef rfl (ef_pure (v := .t2 (.c (.ptr .nil)) (.c (.i64 161))) (by kernel_rfl) rfl rfl (fun w1 h1 => by exact new_few_c (y := y8 q) (M := []) (la := .nil) (lc := 0) (y8_ok q) (y8_pl q) (RL.lies_own (T := 32) (y := y8 q) h1 (.there (.there (.there (.there (.there (.there (.there (.there (.there (.there .here)))))))))) (.there (.there (.there (.there (.there (.there (.there (.there (.there (.there .here)))))))))) (.there (.there (.there (.there (.there (.there (.there (.there (.there (.there .here))))))))))) (fun x hx => by cases hx) (by decide) cells_none (fun x hx => by cases hx) x8_root (meets_none _ _ _)) ?_)
            refine wl_q rfl rfl rfl (qt_p tbok rfl) ?_
            refine wl_q rfl rfl rfl (qt_p tbok rfl) ?_
            refine wl_q rfl rfl rfl (qt_p tbok rfl) ?_
            refine wl_q rfl rfl rfl (qt_p tbok rfl) ?_
            refine wl_q rfl rfl rfl (qt_p tbok rfl) ?_
            refine wl_done ?_
            refine nk_code ?_
            refine wc_seq ?_
            refine wc_region ?_
            refine wl_q rfl rfl rfl (qt_p tbok rfl) ?_
            first | refine wl_q rfl rfl rfl (qt_p tbok rfl) ?_ | refine wl_q rfl rfl rfl (qt_eqn tbok rfl rfl rfl) ?_
            refine wl_q rfl rfl rfl (qt_p tbok rfl) ?_
            first | refine wl_g rfl rfl rfl rfl (qt_p tbok rfl) ?_ | refine wl_skip rfl rfl rfl rfl rfl ?_
            first | refine wl_g rfl rfl rfl rfl (qt_p tbok rfl) ?_ | refine wl_g rfl rfl rfl rfl (qt_eqn tbok rfl rfl rfl) ?_ | refine wl_skip rfl rfl rfl rfl rfl ?_
            refine wl_q rfl rfl rfl (qt_p tbok rfl) ?_
            refine wl_q rfl rfl rfl (qt_p tbok rfl) ?_
            first | refine wl_g rfl rfl rfl rfl (qt_p tbok rfl) ?_ | refine wl_skip rfl rfl rfl rfl rfl ?_
            first | refine wl_g rfl rfl rfl rfl (qt_p tbok rfl) ?_ | refine wl_g rfl rfl rfl rfl (qt_eqn tbok rfl rfl rfl) ?_ | refine wl_skip rfl rfl rfl rfl rfl ?_
            refine wl_q rfl rfl rfl (qt_p tbok rfl) ?_
            refine wl_q rfl rfl rfl (qt_p tbok rfl) ?_
            first | refine wl_g rfl rfl rfl rfl (qt_p tbok rfl) ?_ | refine wl_skip rfl rfl rfl rfl rfl ?_
            first | refine wl_g rfl rfl rfl rfl (qt_p tbok rfl) ?_ | refine wl_g rfl rfl rfl rfl (qt_neqn tbok rfl rfl rfl) ?_ | refine wl_skip rfl rfl rfl rfl rfl ?_
            refine wl_q rfl rfl rfl (qt_p tbok rfl) ?_
            refine wl_q rfl rfl rfl (qt_p tbok rfl) ?_
            first | refine wl_g rfl rfl rfl rfl (qt_p tbok rfl) ?_ | refine wl_skip rfl rfl rfl rfl rfl ?_
            first | refine wl_g rfl rfl rfl rfl (qt_p tbok rfl) ?_ | refine wl_g rfl rfl rfl rfl (qt_eqn tbok rfl rfl rfl) ?_ | refine wl_skip rfl rfl rfl rfl rfl ?_
            refine wl_as (v' := .c (.bool true)) (congrArg (fun b => V.c (C.bool b)) (decide_eq_true rfl)) ?_
            refine wl_q rfl rfl rfl (qt_p tbok rfl) ?_
            refine wl_q rfl rfl rfl (qt_p tbok rfl) ?_
            first | refine wl_g rfl rfl rfl rfl (qt_p tbok rfl) ?_ | refine wl_skip rfl rfl rfl rfl rfl ?_
            refine wl_gd rfl rfl (ef_freshL (B := fun z2 : RL => rbs 32 z2) (I := fun z2 : RL => z2.x = z.x ∧ z2.own) (v := fun z2 : RL => .agg z2.cs) (by kernel_rfl) rfl rfl (fun w1 h1 => by exact root_c (tr := tr) (y := z) (cells_own h1 .here) hzy hzo.pl (RL.lies_own (T := 32) h1 (.there (.there (.there .here))) (.there (.there .here)) (.there .here))) (fun z2 hz2 hz2k => ?_))
            refine wl_g rfl rfl rfl rfl (qt_field_sc (l := z2.cs) (c := .i64 z2.v) tbok rfl rfl rfl rfl rfl rfl) ?_
            refine wl_as (v' := .c (.i64 1)) (congrArg (fun x : Rx => V.c (C.i64 x.v)) (hz2.1.trans hzx)) ?_
            first | refine wl_g rfl rfl rfl rfl (qt_p tbok rfl) ?_ | refine wl_g rfl rfl rfl rfl (qt_eqn tbok rfl rfl rfl) ?_ | refine wl_skip rfl rfl rfl rfl rfl ?_
            refine wl_q rfl rfl rfl (qt_p tbok rfl) ?_
            refine wl_q rfl rfl rfl (qt_p tbok rfl) ?_
            first | refine wl_g rfl rfl rfl rfl (qt_p tbok rfl) ?_ | refine wl_skip rfl rfl rfl rfl rfl ?_
            have hT : ckE z.u z.t.1 [] (List.map (·.1) ([] : List (Mk × Os))) 6 = 131 := (by unfold ckE; rw [show z.u = 5 from congrArg Rx.u hzx]; rfl)
            refine wl_gd rfl rfl (ef_pure (v := .c (.i64 131)) (by kernel_rfl) rfl rfl (fun w1 h1 => by have := tag_c (tr := tr) (y := z) (M := []) (msg := []) (ma := .nil) (la := .nil) (mc := 0) (lc := 0) (now := 6) (cells_own h1 (.there (.there (.there .here)))) hzy (RL.lies_own (T := 32) h1 (.there (.there (.there (.there (.there (.there .here)))))) (.there (.there (.there (.there (.there .here))))) (.there (.there (.there (.there .here))))) cells_none (by decide) (fun x hx => by cases hx) (by decide) cells_none (fun x hx => by cases hx); rwa [hT] at this) ?_)
            first | refine wl_g rfl rfl rfl rfl (qt_p tbok rfl) ?_ | refine wl_g rfl rfl rfl rfl (qt_eqn tbok rfl rfl rfl) ?_ | refine wl_skip rfl rfl rfl rfl rfl ?_
            refine wl_q rfl rfl rfl (qt_p tbok rfl) ?_
            refine wl_q rfl rfl rfl (qt_p tbok rfl) ?_
            refine wl_done ?_
            refine nk_code ?_
            refine wc_ret ?_
            try dsimp only
            exact fin1 rfl (rv_tmp rfl) (fun w' hw => ⟨rfl, hw.all (new_app hz2k (new_app hzk (new_cons (newKey hlb) (new_cons (newKey ht7) (new_cons hkp (new_cons he1k (new_cons (newKey ht4) (new_cons (newKey ht3) (new_cons (newKey hq) (new_cons hky (new_cons hkk new_nil)))))))))))⟩)
        · refine wo_ef rfl rfl (ef_q rfl rfl (qt_p tbok rfl) ⟨fun w hw => ((((hw.tail hz1).tail hz2).tail hz3).tail hz4).tail (newKey hlb), ?_⟩)
          refine wh_one 9 (by kernel_rfl) (wo_ef rfl rfl (ef_q rfl rfl (qt_p tbok rfl) ⟨fun w hw => ((((hw.tail hz1).tail hz2).tail hz3).tail hz4).tail (newKey hlb), ?_⟩))
          refine wh_one 11 (by kernel_rfl) (wo_ef rfl rfl (ef_q rfl rfl (qt_p tbok rfl) ⟨fun w hw => ((((hw.tail hz1).tail hz2).tail hz3).tail hz4).tail (newKey hlb), ?_⟩))
          refine wh_one 12 (by kernel_rfl) (wo_ef rfl rfl (ef_q rfl rfl (qt_p tbok rfl) ⟨fun w hw => ((((hw.tail hz1).tail hz2).tail hz3).tail hz4).tail (newKey hlb), ?_⟩))
          refine wh_done (by kernel_rfl) ?_
          refine nk_code ?_
          refine wc_seq ?_
          refine wc_region ?_
          refine wl_q rfl rfl rfl (qt_load_ag (l := (y8 q).cs) tbok rfl rfl rfl rfl (rs_lk (.there (.there (.there (.there (.there (.there (.there (.there .here)))))))) at0)) ?_
          refine wl_ef rfl (ef_pure (v := .t2 (.c (.ptr .nil)) (.c (.i64 161))) (by kernel_rfl) rfl rfl (fun w1 h1 => by exact new_few_c (y := y8 q) (M := []) (la := .nil) (lc := 0) (y8_ok q) (y8_pl q) (RL.lies_own (T := 32) (y := y8 q) h1 (.there (.there (.there (.there (.there (.there (.there (.there (.there (.there .here)))))))))) (.there (.there (.there (.there (.there (.there (.there (.there (.there (.there .here)))))))))) (.there (.there (.there (.there (.there (.there (.there (.there (.there (.there .here))))))))))) (fun x hx => by cases hx) (by decide) cells_none (fun x hx => by cases hx) x8_root (meets_none _ _ _)) ?_)
          refine wl_q rfl rfl rfl (qt_p tbok rfl) ?_
          refine wl_q rfl rfl rfl (qt_p tbok rfl) ?_
          refine wl_q rfl rfl rfl (qt_p tbok rfl) ?_
          refine wl_q rfl rfl rfl (qt_p tbok rfl) ?_
          refine wl_q rfl rfl rfl (qt_p tbok rfl) ?_
          refine wl_done ?_
          refine nk_code ?_
          refine wc_seq ?_
          refine wc_region ?_
          refine wl_q rfl rfl rfl (qt_p tbok rfl) ?_
          first | refine wl_q rfl rfl rfl (qt_p tbok rfl) ?_ | refine wl_q rfl rfl rfl (qt_eqn tbok rfl rfl rfl) ?_
          refine wl_q rfl rfl rfl (qt_p tbok rfl) ?_
          first | refine wl_g rfl rfl rfl rfl (qt_p tbok rfl) ?_ | refine wl_skip rfl rfl rfl rfl rfl ?_
          first | refine wl_g rfl rfl rfl rfl (qt_p tbok rfl) ?_ | refine wl_g rfl rfl rfl rfl (qt_eqn tbok rfl rfl rfl) ?_ | refine wl_skip rfl rfl rfl rfl rfl ?_
          refine wl_q rfl rfl rfl (qt_p tbok rfl) ?_
          refine wl_q rfl rfl rfl (qt_p tbok rfl) ?_
          first | refine wl_g rfl rfl rfl rfl (qt_p tbok rfl) ?_ | refine wl_skip rfl rfl rfl rfl rfl ?_
          first | refine wl_g rfl rfl rfl rfl (qt_p tbok rfl) ?_ | refine wl_g rfl rfl rfl rfl (qt_eqn tbok rfl rfl rfl) ?_ | refine wl_skip rfl rfl rfl rfl rfl ?_
          refine wl_q rfl rfl rfl (qt_p tbok rfl) ?_
          refine wl_q rfl rfl rfl (qt_p tbok rfl) ?_
          first | refine wl_g rfl rfl rfl rfl (qt_p tbok rfl) ?_ | refine wl_skip rfl rfl rfl rfl rfl ?_
          first | refine wl_g rfl rfl rfl rfl (qt_p tbok rfl) ?_ | refine wl_g rfl rfl rfl rfl (qt_neqn tbok rfl rfl rfl) ?_ | refine wl_skip rfl rfl rfl rfl rfl ?_
          refine wl_q rfl rfl rfl (qt_p tbok rfl) ?_
          refine wl_q rfl rfl rfl (qt_p tbok rfl) ?_
          first | refine wl_g rfl rfl rfl rfl (qt_p tbok rfl) ?_ | refine wl_skip rfl rfl rfl rfl rfl ?_
          first | refine wl_g rfl rfl rfl rfl (qt_p tbok rfl) ?_ | refine wl_g rfl rfl rfl rfl (qt_eqn tbok rfl rfl rfl) ?_ | refine wl_skip rfl rfl rfl rfl rfl ?_
          refine wl_as (v' := .c (.bool true)) (congrArg (fun b => V.c (C.bool b)) (decide_eq_true rfl)) ?_
          refine wl_q rfl rfl rfl (qt_p tbok rfl) ?_
          refine wl_q rfl rfl rfl (qt_p tbok rfl) ?_
          first | refine wl_g rfl rfl rfl rfl (qt_p tbok rfl) ?_ | refine wl_skip rfl rfl rfl rfl rfl ?_
          refine wl_gd rfl rfl (ef_freshL (B := fun z2 : RL => rbs 32 z2) (I := fun z2 : RL => z2.x = z.x ∧ z2.own) (v := fun z2 : RL => .agg z2.cs) (by kernel_rfl) rfl rfl (fun w1 h1 => by exact root_c (tr := tr) (y := z) (cells_own h1 .here) hzy hzo.pl (RL.lies_own (T := 32) h1 (.there (.there (.there .here))) (.there (.there .here)) (.there .here))) (fun z2 hz2 hz2k => ?_))
          refine wl_g rfl rfl rfl rfl (qt_field_sc (l := z2.cs) (c := .i64 z2.v) tbok rfl rfl rfl rfl rfl rfl) ?_
          refine wl_as (v' := .c (.i64 1)) (congrArg (fun x : Rx => V.c (C.i64 x.v)) (hz2.1.trans hzx)) ?_
          first | refine wl_g rfl rfl rfl rfl (qt_p tbok rfl) ?_ | refine wl_g rfl rfl rfl rfl (qt_eqn tbok rfl rfl rfl) ?_ | refine wl_skip rfl rfl rfl rfl rfl ?_
          refine wl_q rfl rfl rfl (qt_p tbok rfl) ?_
          refine wl_q rfl rfl rfl (qt_p tbok rfl) ?_
          first | refine wl_g rfl rfl rfl rfl (qt_p tbok rfl) ?_ | refine wl_skip rfl rfl rfl rfl rfl ?_
          have hT : ckE z.u z.t.1 [] (List.map (·.1) ([] : List (Mk × Os))) 6 = 131 := (by unfold ckE; rw [show z.u = 5 from congrArg Rx.u hzx]; rfl)
          refine wl_gd rfl rfl (ef_pure (v := .c (.i64 131)) (by kernel_rfl) rfl rfl (fun w1 h1 => by have := tag_c (tr := tr) (y := z) (M := []) (msg := []) (ma := .nil) (la := .nil) (mc := 0) (lc := 0) (now := 6) (cells_own h1 (.there (.there (.there .here)))) hzy (RL.lies_own (T := 32) h1 (.there (.there (.there (.there (.there (.there .here)))))) (.there (.there (.there (.there (.there .here))))) (.there (.there (.there (.there .here))))) cells_none (by decide) (fun x hx => by cases hx) (by decide) cells_none (fun x hx => by cases hx); rwa [hT] at this) ?_)
          first | refine wl_g rfl rfl rfl rfl (qt_p tbok rfl) ?_ | refine wl_g rfl rfl rfl rfl (qt_eqn tbok rfl rfl rfl) ?_ | refine wl_skip rfl rfl rfl rfl rfl ?_
          refine wl_q rfl rfl rfl (qt_p tbok rfl) ?_
          refine wl_q rfl rfl rfl (qt_p tbok rfl) ?_
          refine wl_done ?_
          refine nk_code ?_
          refine wc_ret ?_
          try dsimp only
          exact fin1 rfl (rv_tmp rfl) (fun w' hw => ⟨rfl, hw.all (new_app hz2k (new_app hzk (new_cons (newKey hlb) (new_cons (newKey ht7) (new_cons hkp (new_cons he1k (new_cons (newKey ht4) (new_cons (newKey ht3) (new_cons (newKey hq) (new_cons hky (new_cons hkk new_nil)))))))))))⟩)
      · refine wo_ef rfl rfl (ef_q rfl rfl (qt_load_ag (l := scs ((0 : Nat) : Int) (sigF sd8 0 (lvs sd8 (pw 0)) 0 m8) p.1 0 p.2.1) tbok rfl rfl rfl (scs_len (sigF_len _ _ _ _ _)) (rs_lk .here at0)) ⟨fun w hw => hw, ?_⟩)
        refine wh_one 3 (by kernel_rfl) (wo_ef rfl rfl (ef_pure (v := .agg (bc (kid k8))) (by kernel_rfl) rfl rfl (fun w1 h1 => id_c hrl) ⟨fun w hw => hw, ?_⟩))
        refine wh_one 5 (by kernel_rfl) (wo_ef rfl rfl (ef_q rfl rfl (qt_build (vs := [(0, .agg (bc (kid k8))), (1, .agg (scs ((0 : Nat) : Int) (sigF sd8 0 (lvs sd8 (pw 0)) 0 m8) p.1 0 p.2.1))]) (l := mrow (mk8, p)) tbok rfl zero84 rfl (mfill (sha_len _) (scs_len (sigF_len _ _ _ _ _)))) ⟨fun w hw => hw, ?_⟩))
        refine wh_one 6 (by kernel_rfl) (wo_ef rfl rfl (ef_buildSlice (vs := [(0, .agg (mrow (mk8, p)))]) (l := mrow (mk8, p)) tbok rfl zero84 rfl z2178_len rfl (by decide) (fill_oneN z2178_len (mrow_len mk8_ok)) rfl (fun lb hlb => ⟨fun w hw => hw.tail (newKey hlb), ?_⟩)))
        refine wh_one 7 (by kernel_rfl) (wo_fin rfl rfl (ef_freshL (B := fun x : Nat × RL => TB x.1 x.2 :: rbs 32 x.2) (I := fun x : Nat × RL => x.2.x = x8 ∧ x.2.own) (v := fun x : Nat × RL => .t2 (.c (.ptr (.at x.1 0))) (.c (.i64 0))) (by kernel_rfl) rfl rfl (fun w1 h1 => by exact new_ok_c (y := y8 q) (M := [(mk8, p)]) (la := .at lb 0) (lc := 1) (y8_ok q) (y8_pl q) (RL.lies_own (T := 32) (y := y8 q) h1 (.there (.there (.there (.there (.there (.there .here)))))) (.there (.there (.there (.there (.there (.there .here)))))) (.there (.there (.there (.there (.there (.there .here))))))) (fun x hx => by rw [List.mem_singleton.1 hx]; exact mk8_ok) (by show 1 ≤ 1073741824; decide) (by have := cells_own h1 .here; rwa [show [(mk8, p)].flatMap mrow = mrow (mk8, p) from List.append_nil _]) (fun x hx => by rw [List.mem_singleton.1 hx]; exact ⟨cells_none, Nat.zero_le _⟩) x8_root meets8) (fun ⟨tr, z⟩ ⟨hzx, hzo⟩ hzk => ?_)))
        replace hzx : z.x = x8 := hzx
        replace hzo : z.own := hzo
        replace hzk : ∀ p ∈ TB tr z :: rbs 32 z, ∀ k, p.key = some k → w.heap.size ≤ k := hzk
        have hzy : z.ok := ok_ofx hzx x8_ok
        have hz1 := hzk (TB tr z) (.head _)
        have hz2 := hzk (rob 32 z.l) (.tail _ (.head _))
        have hz3 := hzk (rob 32 z.t) (.tail _ (.tail _ (.head _)))
        have hz4 := hzk (rob 32 z.r) (.tail _ (.tail _ (.tail _ (.head _))))
        dsimp only
        refine wh_one 8 (by kernel_rfl) (wo_ef rfl rfl (ef_q rfl rfl (qt_p tbok rfl) ⟨fun w hw => ((((hw.tail hz1).tail hz2).tail hz3).tail hz4).tail (newKey hlb), ?_⟩))
        refine wh_two 9 10 (by kernel_rfl) ?_ ?_
        · refine wo_ef rfl rfl (ef_q rfl rfl (qt_p tbok rfl) ⟨fun w hw => ((((hw.tail hz1).tail hz2).tail hz3).tail hz4).tail (newKey hlb), ?_⟩)
          refine wh_two 10 11 (by kernel_rfl) ?_ ?_
          · refine wo_ef rfl rfl (ef_q rfl rfl (qt_p tbok rfl) ⟨fun w hw => ((((hw.tail hz1).tail hz2).tail hz3).tail hz4).tail (newKey hlb), ?_⟩)
            refine wh_one 11 (by kernel_rfl) (wo_ef rfl rfl (ef_q rfl rfl (qt_p tbok rfl) ⟨fun w hw => ((((hw.tail hz1).tail hz2).tail hz3).tail hz4).tail (newKey hlb), ?_⟩))
            refine wh_one 12 (by kernel_rfl) (wo_ef rfl rfl (ef_q rfl rfl (qt_p tbok rfl) ⟨fun w hw => ((((hw.tail hz1).tail hz2).tail hz3).tail hz4).tail (newKey hlb), ?_⟩))
            refine wh_done (by kernel_rfl) ?_
            refine nk_code ?_
            refine wc_seq ?_
            refine wc_region ?_
            refine wl_q rfl rfl rfl (qt_load_ag (l := (y8 q).cs) tbok rfl rfl rfl rfl (rs_lk (.there (.there (.there (.there (.there (.there (.there (.there .here)))))))) at0)) ?_
            refine wl_ef rfl (ef_pure (v := .t2 (.c (.ptr .nil)) (.c (.i64 161))) (by kernel_rfl) rfl rfl (fun w1 h1 => by exact new_few_c (y := y8 q) (M := []) (la := .nil) (lc := 0) (y8_ok q) (y8_pl q) (RL.lies_own (T := 32) (y := y8 q) h1 (.there (.there (.there (.there (.there (.there (.there (.there (.there (.there .here)))))))))) (.there (.there (.there (.there (.there (.there (.there (.there (.there (.there .here)))))))))) (.there (.there (.there (.there (.there (.there (.there (.there (.there (.there .here))))))))))) (fun x hx => by cases hx) (by decide) cells_none (fun x hx => by cases hx) x8_root (meets_none _ _ _)) ?_)
            refine wl_q rfl rfl rfl (qt_p tbok rfl) ?_
            refine wl_q rfl rfl rfl (qt_p tbok rfl) ?_
            refine wl_q rfl rfl rfl (qt_p tbok rfl) ?_
            refine wl_q rfl rfl rfl (qt_p tbok rfl) ?_
            refine wl_q rfl rfl rfl (qt_p tbok rfl) ?_
            refine wl_done ?_
            refine nk_code ?_
            refine wc_seq ?_
            refine wc_region ?_
            refine wl_q rfl rfl rfl (qt_p tbok rfl) ?_
            first | refine wl_q rfl rfl rfl (qt_p tbok rfl) ?_ | refine wl_q rfl rfl rfl (qt_eqn tbok rfl rfl rfl) ?_
            refine wl_q rfl rfl rfl (qt_p tbok rfl) ?_
            first | refine wl_g rfl rfl rfl rfl (qt_p tbok rfl) ?_ | refine wl_skip rfl rfl rfl rfl rfl ?_
            first | refine wl_g rfl rfl rfl rfl (qt_p tbok rfl) ?_ | refine wl_g rfl rfl rfl rfl (qt_eqn tbok rfl rfl rfl) ?_ | refine wl_skip rfl rfl rfl rfl rfl ?_
            refine wl_q rfl rfl rfl (qt_p tbok rfl) ?_
            refine wl_q rfl rfl rfl (qt_p tbok rfl) ?_
            first | refine wl_g rfl rfl rfl rfl (qt_p tbok rfl) ?_ | refine wl_skip rfl rfl rfl rfl rfl ?_
            first | refine wl_g rfl rfl rfl rfl (qt_p tbok rfl) ?_ | refine wl_g rfl rfl rfl rfl (qt_eqn tbok rfl rfl rfl) ?_ | refine wl_skip rfl rfl rfl rfl rfl ?_
            refine wl_q rfl rfl rfl (qt_p tbok rfl) ?_
            refine wl_q rfl rfl rfl (qt_p tbok rfl) ?_
            first | refine wl_g rfl rfl rfl rfl (qt_p tbok rfl) ?_ | refine wl_skip rfl rfl rfl rfl rfl ?_
            first | refine wl_g rfl rfl rfl rfl (qt_p tbok rfl) ?_ | refine wl_g rfl rfl rfl rfl (qt_neqn tbok rfl rfl rfl) ?_ | refine wl_skip rfl rfl rfl rfl rfl ?_
            refine wl_q rfl rfl rfl (qt_p tbok rfl) ?_
            refine wl_q rfl rfl rfl (qt_p tbok rfl) ?_
            first | refine wl_g rfl rfl rfl rfl (qt_p tbok rfl) ?_ | refine wl_skip rfl rfl rfl rfl rfl ?_
            first | refine wl_g rfl rfl rfl rfl (qt_p tbok rfl) ?_ | refine wl_g rfl rfl rfl rfl (qt_eqn tbok rfl rfl rfl) ?_ | refine wl_skip rfl rfl rfl rfl rfl ?_
            refine wl_as (v' := .c (.bool true)) (congrArg (fun b => V.c (C.bool b)) (decide_eq_true rfl)) ?_
            refine wl_q rfl rfl rfl (qt_p tbok rfl) ?_
            refine wl_q rfl rfl rfl (qt_p tbok rfl) ?_
            first | refine wl_g rfl rfl rfl rfl (qt_p tbok rfl) ?_ | refine wl_skip rfl rfl rfl rfl rfl ?_
            refine wl_gd rfl rfl (ef_freshL (B := fun z2 : RL => rbs 32 z2) (I := fun z2 : RL => z2.x = z.x ∧ z2.own) (v := fun z2 : RL => .agg z2.cs) (by kernel_rfl) rfl rfl (fun w1 h1 => by exact root_c (tr := tr) (y := z) (cells_own h1 .here) hzy hzo.pl (RL.lies_own (T := 32) h1 (.there (.there (.there .here))) (.there (.there .here)) (.there .here))) (fun z2 hz2 hz2k => ?_))
            refine wl_g rfl rfl rfl rfl (qt_field_sc (l := z2.cs) (c := .i64 z2.v) tbok rfl rfl rfl rfl rfl rfl) ?_
            refine wl_as (v' := .c (.i64 1)) (congrArg (fun x : Rx => V.c (C.i64 x.v)) (hz2.1.trans hzx)) ?_
            first | refine wl_g rfl rfl rfl rfl (qt_p tbok rfl) ?_ | refine wl_g rfl rfl rfl rfl (qt_eqn tbok rfl rfl rfl) ?_ | refine wl_skip rfl rfl rfl rfl rfl ?_
            refine wl_q rfl rfl rfl (qt_p tbok rfl) ?_
            refine wl_q rfl rfl rfl (qt_p tbok rfl) ?_
            first | refine wl_g rfl rfl rfl rfl (qt_p tbok rfl) ?_ | refine wl_skip rfl rfl rfl rfl rfl ?_
            have hT : ckE z.u z.t.1 [] (List.map (·.1) ([] : List (Mk × Os))) 6 = 131 := (by unfold ckE; rw [show z.u = 5 from congrArg Rx.u hzx]; rfl)
            refine wl_gd rfl rfl (ef_pure (v := .c (.i64 131)) (by kernel_rfl) rfl rfl (fun w1 h1 => by have := tag_c (tr := tr) (y := z) (M := []) (msg := []) (ma := .nil) (la := .nil) (mc := 0) (lc := 0) (now := 6) (cells_own h1 (.there (.there (.there .here)))) hzy (RL.lies_own (T := 32) h1 (.there (.there (.there (.there (.there (.there .here)))))) (.there (.there (.there (.there (.there .here))))) (.there (.there (.there (.there .here))))) cells_none (by decide) (fun x hx => by cases hx) (by decide) cells_none (fun x hx => by cases hx); rwa [hT] at this) ?_)
            first | refine wl_g rfl rfl rfl rfl (qt_p tbok rfl) ?_ | refine wl_g rfl rfl rfl rfl (qt_eqn tbok rfl rfl rfl) ?_ | refine wl_skip rfl rfl rfl rfl rfl ?_
            refine wl_q rfl rfl rfl (qt_p tbok rfl) ?_
            refine wl_q rfl rfl rfl (qt_p tbok rfl) ?_
            refine wl_done ?_
            refine nk_code ?_
            refine wc_ret ?_
            try dsimp only
            exact fin1 rfl (rv_tmp rfl) (fun w' hw => ⟨rfl, hw.all (new_app hz2k (new_app hzk (new_cons (newKey hlb) (new_cons (newKey ht7) (new_cons hkp (new_cons he1k (new_cons (newKey ht4) (new_cons (newKey ht3) (new_cons (newKey hq) (new_cons hky (new_cons hkk new_nil)))))))))))⟩)
          · refine wo_ef rfl rfl (ef_q rfl rfl (qt_p tbok rfl) ⟨fun w hw => ((((hw.tail hz1).tail hz2).tail hz3).tail hz4).tail (newKey hlb), ?_⟩)
            refine wh_one 10 (by kernel_rfl) (wo_ef rfl rfl (ef_q rfl rfl (qt_p tbok rfl) ⟨fun w hw => ((((hw.tail hz1).tail hz2).tail hz3).tail hz4).tail (newKey hlb), ?_⟩))
            refine wh_one 12 (by kernel_rfl) (wo_ef rfl rfl (ef_q rfl rfl (qt_p tbok rfl) ⟨fun w hw => ((((hw.tail hz1).tail hz2).tail hz3).tail hz4).tail (newKey hlb), ?_⟩))
            refine wh_done (by kernel_rfl) ?_
            refine nk_code ?_
            refine wc_seq ?_
            refine wc_region ?_
            refine wl_q rfl rfl rfl (qt_load_ag (l := (y8 q).cs) tbok rfl rfl rfl rfl (rs_lk (.there (.there (.there (.there (.there (.there (.there (.there .here)))))))) at0)) ?_
            refine wl_ef rfl (ef_pure (v := .t2 (.c (.ptr .nil)) (.c (.i64 161))) (by kernel_rfl) rfl rfl (fun w1 h1 => by exact new_few_c (y := y8 q) (M := []) (la := .nil) (lc := 0) (y8_ok q) (y8_pl q) (RL.lies_own (T := 32) (y := y8 q) h1 (.there (.there (.there (.there (.there (.there (.there (.there (.there (.there .here)))))))))) (.there (.there (.there (.there (.there (.there (.there (.there (.there (.there .here)))))))))) (.there (.there (.there (.there (.there (.there (.there (.there (.there (.there .here))))))))))) (fun x hx => by cases hx) (by decide) cells_none (fun x hx => by cases hx) x8_root (meets_none _ _ _)) ?_)
            refine wl_q rfl rfl rfl (qt_p tbok rfl) ?_
            refine wl_q rfl rfl rfl (qt_p tbok rfl) ?_
            refine wl_q rfl rfl rfl (qt_p tbok rfl) ?_
            refine wl_q rfl rfl rfl (qt_p tbok rfl) ?_
            refine wl_q rfl rfl rfl (qt_p tbok rfl) ?_
            refine wl_done ?_
            refine nk_code ?_
            refine wc_seq ?_
            refine wc_region ?_
            refine wl_q rfl rfl rfl (qt_p tbok rfl) ?_
            first | refine wl_q rfl rfl rfl (qt_p tbok rfl) ?_ | refine wl_q rfl rfl rfl (qt_eqn tbok rfl rfl rfl) ?_
            refine wl_q rfl rfl rfl (qt_p tbok rfl) ?_
            first | refine wl_g rfl rfl rfl rfl (qt_p tbok rfl) ?_ | refine wl_skip rfl rfl rfl rfl rfl ?_
            first | refine wl_g rfl rfl rfl rfl (qt_p tbok rfl) ?_ | refine wl_g rfl rfl rfl rfl (qt_eqn tbok rfl rfl rfl) ?_ | refine wl_skip rfl rfl rfl rfl rfl ?_
            refine wl_q rfl rfl rfl (qt_p tbok rfl) ?_
            refine wl_q rfl rfl rfl (qt_p tbok rfl) ?_
            first | refine wl_g rfl rfl rfl rfl (qt_p tbok rfl) ?_ | refine wl_skip rfl rfl rfl rfl rfl ?_
            first | refine wl_g rfl rfl rfl rfl (qt_p tbok rfl) ?_ | refine wl_g rfl rfl rfl rfl (qt_eqn tbok rfl rfl rfl) ?_ | refine wl_skip rfl rfl rfl rfl rfl ?_
            refine wl_q rfl rfl rfl (qt_p tbok rfl) ?_
            refine wl_q rfl rfl rfl (qt_p tbok rfl) ?_
            first | refine wl_g rfl rfl rfl rfl (qt_p tbok rfl) ?_ | refine wl_skip rfl rfl rfl rfl rfl ?_
            first | refine wl_g rfl rfl rfl rfl (qt_p tbok rfl) ?_ | refine wl_g rfl rfl rfl rfl (qt_neqn tbok rfl rfl rfl) ?_ | refine wl_skip rfl rfl rfl rfl rfl ?_
            refine wl_q rfl rfl rfl (qt_p tbok rfl) ?_
            refine wl_q rfl rfl rfl (qt_p tbok rfl) ?_
            first | refine wl_g rfl rfl rfl rfl (qt_p tbok rfl) ?_ | refine wl_skip rfl rfl rfl rfl rfl ?_
            first | refine wl_g rfl rfl rfl rfl (qt_p tbok rfl) ?_ | refine wl_g rfl rfl rfl rfl (qt_eqn tbok rfl rfl rfl) ?_ | refine wl_skip rfl rfl rfl rfl rfl ?_
            refine wl_as (v' := .c (.bool true)) (congrArg (fun b => V.c (C.bool b)) (decide_eq_true rfl)) ?_
            refine wl_q rfl rfl rfl (qt_p tbok rfl) ?_
            refine wl_q rfl rfl rfl (qt_p tbok rfl) ?_
            first | refine wl_g rfl rfl rfl rfl (qt_p tbok rfl) ?_ | refine wl_skip rfl rfl rfl rfl rfl ?_
            refine wl_gd rfl rfl (ef_freshL (B := fun z2 : RL => rbs 32 z2) (I := fun z2 : RL => z2.x = z.x ∧ z2.own) (v := fun z2 : RL => .agg z2.cs) (by kernel_rfl) rfl rfl (fun w1 h1 => by exact root_c (tr := tr) (y := z) (cells_own h1 .here) hzy hzo.pl (RL.lies_own (T := 32) h1 (.there (.there (.there .here))) (.there (.there .here)) (.there .here))) (fun z2 hz2 hz2k => ?_))
            refine wl_g rfl rfl rfl rfl (qt_field_sc (l := z2.cs) (c := .i64 z2.v) tbok rfl rfl rfl rfl rfl rfl) ?_
            refine wl_as (v' := .c (.i64 1)) (congrArg (fun x : Rx => V.c (C.i64 x.v)) (hz2.1.trans hzx)) ?_
            first | refine wl_g rfl rfl rfl rfl (qt_p tbok rfl) ?_ | refine wl_g rfl rfl rfl rfl (qt_eqn tbok rfl rfl rfl) ?_ | refine wl_skip rfl rfl rfl rfl rfl ?_
            refine wl_q rfl rfl rfl (qt_p tbok rfl) ?_
            refine wl_q rfl rfl rfl (qt_p tbok rfl) ?_
            first | refine wl_g rfl rfl rfl rfl (qt_p tbok rfl) ?_ | refine wl_skip rfl rfl rfl rfl rfl ?_
            have hT : ckE z.u z.t.1 [] (List.map (·.1) ([] : List (Mk × Os))) 6 = 131 := (by unfold ckE; rw [show z.u = 5 from congrArg Rx.u hzx]; rfl)
            refine wl_gd rfl rfl (ef_pure (v := .c (.i64 131)) (by kernel_rfl) rfl rfl (fun w1 h1 => by have := tag_c (tr := tr) (y := z) (M := []) (msg := []) (ma := .nil) (la := .nil) (mc := 0) (lc := 0) (now := 6) (cells_own h1 (.there (.there (.there .here)))) hzy (RL.lies_own (T := 32) h1 (.there (.there (.there (.there (.there (.there .here)))))) (.there (.there (.there (.there (.there .here))))) (.there (.there (.there (.there .here))))) cells_none (by decide) (fun x hx => by cases hx) (by decide) cells_none (fun x hx => by cases hx); rwa [hT] at this) ?_)
            first | refine wl_g rfl rfl rfl rfl (qt_p tbok rfl) ?_ | refine wl_g rfl rfl rfl rfl (qt_eqn tbok rfl rfl rfl) ?_ | refine wl_skip rfl rfl rfl rfl rfl ?_
            refine wl_q rfl rfl rfl (qt_p tbok rfl) ?_
            refine wl_q rfl rfl rfl (qt_p tbok rfl) ?_
            refine wl_done ?_
            refine nk_code ?_
            refine wc_ret ?_
            try dsimp only
            exact fin1 rfl (rv_tmp rfl) (fun w' hw => ⟨rfl, hw.all (new_app hz2k (new_app hzk (new_cons (newKey hlb) (new_cons (newKey ht7) (new_cons hkp (new_cons he1k (new_cons (newKey ht4) (new_cons (newKey ht3) (new_cons (newKey hq) (new_cons hky (new_cons hkk new_nil)))))))))))⟩)
        · refine wo_ef rfl rfl (ef_q rfl rfl (qt_p tbok rfl) ⟨fun w hw => ((((hw.tail hz1).tail hz2).tail hz3).tail hz4).tail (newKey hlb), ?_⟩)
          refine wh_one 9 (by kernel_rfl) (wo_ef rfl rfl (ef_q rfl rfl (qt_p tbok rfl) ⟨fun w hw => ((((hw.tail hz1).tail hz2).tail hz3).tail hz4).tail (newKey hlb), ?_⟩))
          refine wh_one 11 (by kernel_rfl) (wo_ef rfl rfl (ef_q rfl rfl (qt_p tbok rfl) ⟨fun w hw => ((((hw.tail hz1).tail hz2).tail hz3).tail hz4).tail (newKey hlb), ?_⟩))
          refine wh_one 12 (by kernel_rfl) (wo_ef rfl rfl (ef_q rfl rfl (qt_p tbok rfl) ⟨fun w hw => ((((hw.tail hz1).tail hz2).tail hz3).tail hz4).tail (newKey hlb), ?_⟩))
          refine wh_done (by kernel_rfl) ?_
          refine nk_code ?_
          refine wc_seq ?_
          refine wc_region ?_
          refine wl_q rfl rfl rfl (qt_load_ag (l := (y8 q).cs) tbok rfl rfl rfl rfl (rs_lk (.there (.there (.there (.there (.there (.there (.there (.there .here)))))))) at0)) ?_
          refine wl_ef rfl (ef_pure (v := .t2 (.c (.ptr .nil)) (.c (.i64 161))) (by kernel_rfl) rfl rfl (fun w1 h1 => by exact new_few_c (y := y8 q) (M := []) (la := .nil) (lc := 0) (y8_ok q) (y8_pl q) (RL.lies_own (T := 32) (y := y8 q) h1 (.there (.there (.there (.there (.there (.there (.there (.there (.there (.there .here)))))))))) (.there (.there (.there (.there (.there (.there (.there (.there (.there (.there .here)))))))))) (.there (.there (.there (.there (.there (.there (.there (.there (.there (.there .here))))))))))) (fun x hx => by cases hx) (by decide) cells_none (fun x hx => by cases hx) x8_root (meets_none _ _ _)) ?_)
          refine wl_q rfl rfl rfl (qt_p tbok rfl) ?_
          refine wl_q rfl rfl rfl (qt_p tbok rfl) ?_
          refine wl_q rfl rfl rfl (qt_p tbok rfl) ?_
          refine wl_q rfl rfl rfl (qt_p tbok rfl) ?_
          refine wl_q rfl rfl rfl (qt_p tbok rfl) ?_
          refine wl_done ?_
          refine nk_code ?_
          refine wc_seq ?_
          refine wc_region ?_
          refine wl_q rfl rfl rfl (qt_p tbok rfl) ?_
          first | refine wl_q rfl rfl rfl (qt_p tbok rfl) ?_ | refine wl_q rfl rfl rfl (qt_eqn tbok rfl rfl rfl) ?_
          refine wl_q rfl rfl rfl (qt_p tbok rfl) ?_
          first | refine wl_g rfl rfl rfl rfl (qt_p tbok rfl) ?_ | refine wl_skip rfl rfl rfl rfl rfl ?_
          first | refine wl_g rfl rfl rfl rfl (qt_p tbok rfl) ?_ | refine wl_g rfl rfl rfl rfl (qt_eqn tbok rfl rfl rfl) ?_ | refine wl_skip rfl rfl rfl rfl rfl ?_
          refine wl_q rfl rfl rfl (qt_p tbok rfl) ?_
          refine wl_q rfl rfl rfl (qt_p tbok rfl) ?_
          first | refine wl_g rfl rfl rfl rfl (qt_p tbok rfl) ?_ | refine wl_skip rfl rfl rfl rfl rfl ?_
          first | refine wl_g rfl rfl rfl rfl (qt_p tbok rfl) ?_ | refine wl_g rfl rfl rfl rfl (qt_eqn tbok rfl rfl rfl) ?_ | refine wl_skip rfl rfl rfl rfl rfl ?_
          refine wl_q rfl rfl rfl (qt_p tbok rfl) ?_
          refine wl_q rfl rfl rfl (qt_p tbok rfl) ?_
          first | refine wl_g rfl rfl rfl rfl (qt_p tbok rfl) ?_ | refine wl_skip rfl rfl rfl rfl rfl ?_
          first | refine wl_g rfl rfl rfl rfl (qt_p tbok rfl) ?_ | refine wl_g rfl rfl rfl rfl (qt_neqn tbok rfl rfl rfl) ?_ | refine wl_skip rfl rfl rfl rfl rfl ?_
          refine wl_q rfl rfl rfl (qt_p tbok rfl) ?_
          refine wl_q rfl rfl rfl (qt_p tbok rfl) ?_
          first | refine wl_g rfl rfl rfl rfl (qt_p tbok rfl) ?_ | refine wl_skip rfl rfl rfl rfl rfl ?_
          first | refine wl_g rfl rfl rfl rfl (qt_p tbok rfl) ?_ | refine wl_g rfl rfl rfl rfl (qt_eqn tbok rfl rfl rfl) ?_ | refine wl_skip rfl rfl rfl rfl rfl ?_
          refine wl_as (v' := .c (.bool true)) (congrArg (fun b => V.c (C.bool b)) (decide_eq_true rfl)) ?_
          refine wl_q rfl rfl rfl (qt_p tbok rfl) ?_
          refine wl_q rfl rfl rfl (qt_p tbok rfl) ?_
          first | refine wl_g rfl rfl rfl rfl (qt_p tbok rfl) ?_ | refine wl_skip rfl rfl rfl rfl rfl ?_
          refine wl_gd rfl rfl (ef_freshL (B := fun z2 : RL => rbs 32 z2) (I := fun z2 : RL => z2.x = z.x ∧ z2.own) (v := fun z2 : RL => .agg z2.cs) (by kernel_rfl) rfl rfl (fun w1 h1 => by exact root_c (tr := tr) (y := z) (cells_own h1 .here) hzy hzo.pl (RL.lies_own (T := 32) h1 (.there (.there (.there .here))) (.there (.there .here)) (.there .here))) (fun z2 hz2 hz2k => ?_))
          refine wl_g rfl rfl rfl rfl (qt_field_sc (l := z2.cs) (c := .i64 z2.v) tbok rfl rfl rfl rfl rfl rfl) ?_
          refine wl_as (v' := .c (.i64 1)) (congrArg (fun x : Rx => V.c (C.i64 x.v)) (hz2.1.trans hzx)) ?_
          first | refine wl_g rfl rfl rfl rfl (qt_p tbok rfl) ?_ | refine wl_g rfl rfl rfl rfl (qt_eqn tbok rfl rfl rfl) ?_ | refine wl_skip rfl rfl rfl rfl rfl ?_
          refine wl_q rfl rfl rfl (qt_p tbok rfl) ?_
          refine wl_q rfl rfl rfl (qt_p tbok rfl) ?_
          first | refine wl_g rfl rfl rfl rfl (qt_p tbok rfl) ?_ | refine wl_skip rfl rfl rfl rfl rfl ?_
          have hT : ckE z.u z.t.1 [] (List.map (·.1) ([] : List (Mk × Os))) 6 = 131 := (by unfold ckE; rw [show z.u = 5 from congrArg Rx.u hzx]; rfl)
          refine wl_gd rfl rfl (ef_pure (v := .c (.i64 131)) (by kernel_rfl) rfl rfl (fun w1 h1 => by have := tag_c (tr := tr) (y := z) (M := []) (msg := []) (ma := .nil) (la := .nil) (mc := 0) (lc := 0) (now := 6) (cells_own h1 (.there (.there (.there .here)))) hzy (RL.lies_own (T := 32) h1 (.there (.there (.there (.there (.there (.there .here)))))) (.there (.there (.there (.there (.there .here))))) (.there (.there (.there (.there .here))))) cells_none (by decide) (fun x hx => by cases hx) (by decide) cells_none (fun x hx => by cases hx); rwa [hT] at this) ?_)
          first | refine wl_g rfl rfl rfl rfl (qt_p tbok rfl) ?_ | refine wl_g rfl rfl rfl rfl (qt_eqn tbok rfl rfl rfl) ?_ | refine wl_skip rfl rfl rfl rfl rfl ?_
          refine wl_q rfl rfl rfl (qt_p tbok rfl) ?_
          refine wl_q rfl rfl rfl (qt_p tbok rfl) ?_
          refine wl_done ?_
          refine nk_code ?_
          refine wc_ret ?_
          try dsimp only
          exact fin1 rfl (rv_tmp rfl) (fun w' hw => ⟨rfl, hw.all (new_app hz2k (new_app hzk (new_cons (newKey hlb) (new_cons (newKey ht7) (new_cons hkp (new_cons he1k (new_cons (newKey ht4) (new_cons (newKey ht3) (new_cons (newKey hq) (new_cons hky (new_cons hkk new_nil)))))))))))⟩)
    · refine wo_ef rfl rfl (ef_q rfl rfl (qt_load_ag (l := scs ((0 : Nat) : Int) (sigF sd8 0 (lvs sd8 (pw 0)) 0 m8) p.1 0 p.2.1) tbok rfl rfl rfl (scs_len (sigF_len _ _ _ _ _)) (rs_lk .here at0)) ⟨fun w hw => hw, ?_⟩)
      refine wh_one 2 (by kernel_rfl) (wo_ef rfl rfl (ef_pure (v := .agg (kr k8)) (by kernel_rfl) rfl rfl (fun w1 h1 => public_c (h := 0) (nx := 0 + 1) sd8_len (by decide) (cells_own h1 (.there (.there (.there (.there (.there (.there (.there .here)))))))) (lvs_A _ _) (lvs_len _ _) (OwnS.le hy) (cells_own h1 (.there (.there (.there (.there (.there (.there .here)))))))) ⟨fun w hw => hw, ?_⟩))
      refine wh_one 3 (by kernel_rfl) (wo_ef rfl rfl (ef_pure (v := .agg (bc (kid k8))) (by kernel_rfl) rfl rfl (fun w1 h1 => id_c hrl) ⟨fun w hw => hw, ?_⟩))
      refine wh_one 5 (by kernel_rfl) (wo_ef rfl rfl (ef_q rfl rfl (qt_build (vs := [(0, .agg (bc (kid k8))), (1, .agg (scs ((0 : Nat) : Int) (sigF sd8 0 (lvs sd8 (pw 0)) 0 m8) p.1 0 p.2.1))]) (l := mrow (mk8, p)) tbok rfl zero84 rfl (mfill (sha_len _) (scs_len (sigF_len _ _ _ _ _)))) ⟨fun w hw => hw, ?_⟩))
      refine wh_one 6 (by kernel_rfl) (wo_ef rfl rfl (ef_buildSlice (vs := [(0, .agg (mrow (mk8, p)))]) (l := mrow (mk8, p)) tbok rfl zero84 rfl z2178_len rfl (by decide) (fill_oneN z2178_len (mrow_len mk8_ok)) rfl (fun lb hlb => ⟨fun w hw => hw.tail (newKey hlb), ?_⟩)))
      refine wh_one 7 (by kernel_rfl) (wo_fin rfl rfl (ef_freshL (B := fun x : Nat × RL => TB x.1 x.2 :: rbs 32 x.2) (I := fun x : Nat × RL => x.2.x = x8 ∧ x.2.own) (v := fun x : Nat × RL => .t2 (.c (.ptr (.at x.1 0))) (.c (.i64 0))) (by kernel_rfl) rfl rfl (fun w1 h1 => by exact new_ok_c (y := y8 q) (M := [(mk8, p)]) (la := .at lb 0) (lc := 1) (y8_ok q) (y8_pl q) (RL.lies_own (T := 32) (y := y8 q) h1 (.there (.there (.there (.there (.there (.there .here)))))) (.there (.there (.there (.there (.there (.there .here)))))) (.there (.there (.there (.there (.there (.there .here))))))) (fun x hx => by rw [List.mem_singleton.1 hx]; exact mk8_ok) (by show 1 ≤ 1073741824; decide) (by have := cells_own h1 .here; rwa [show [(mk8, p)].flatMap mrow = mrow (mk8, p) from List.append_nil _]) (fun x hx => by rw [List.mem_singleton.1 hx]; exact ⟨cells_none, Nat.zero_le _⟩) x8_root meets8) (fun ⟨tr, z⟩ ⟨hzx, hzo⟩ hzk => ?_)))
      replace hzx : z.x = x8 := hzx
      replace hzo : z.own := hzo
      replace hzk : ∀ p ∈ TB tr z :: rbs 32 z, ∀ k, p.key = some k → w.heap.size ≤ k := hzk
      have hzy : z.ok := ok_ofx hzx x8_ok
      have hz1 := hzk (TB tr z) (.head _)
      have hz2 := hzk (rob 32 z.l) (.tail _ (.head _))
      have hz3 := hzk (rob 32 z.t) (.tail _ (.tail _ (.head _)))
      have hz4 := hzk (rob 32 z.r) (.tail _ (.tail _ (.tail _ (.head _))))
      dsimp only
      refine wh_one 8 (by kernel_rfl) (wo_ef rfl rfl (ef_q rfl rfl (qt_p tbok rfl) ⟨fun w hw => ((((hw.tail hz1).tail hz2).tail hz3).tail hz4).tail (newKey hlb), ?_⟩))
      refine wh_two 9 10 (by kernel_rfl) ?_ ?_
      · refine wo_ef rfl rfl (ef_q rfl rfl (qt_p tbok rfl) ⟨fun w hw => ((((hw.tail hz1).tail hz2).tail hz3).tail hz4).tail (newKey hlb), ?_⟩)
        refine wh_two 10 11 (by kernel_rfl) ?_ ?_
        · refine wo_ef rfl rfl (ef_q rfl rfl (qt_p tbok rfl) ⟨fun w hw => ((((hw.tail hz1).tail hz2).tail hz3).tail hz4).tail (newKey hlb), ?_⟩)
          refine wh_one 11 (by kernel_rfl) (wo_ef rfl rfl (ef_q rfl rfl (qt_p tbok rfl) ⟨fun w hw => ((((hw.tail hz1).tail hz2).tail hz3).tail hz4).tail (newKey hlb), ?_⟩))
          refine wh_one 12 (by kernel_rfl) (wo_ef rfl rfl (ef_q rfl rfl (qt_p tbok rfl) ⟨fun w hw => ((((hw.tail hz1).tail hz2).tail hz3).tail hz4).tail (newKey hlb), ?_⟩))
          refine wh_done (by kernel_rfl) ?_
          refine nk_code ?_
          refine wc_seq ?_
          refine wc_region ?_
          refine wl_q rfl rfl rfl (qt_load_ag (l := (y8 q).cs) tbok rfl rfl rfl rfl (rs_lk (.there (.there (.there (.there (.there (.there (.there (.there .here)))))))) at0)) ?_
          refine wl_ef rfl (ef_pure (v := .t2 (.c (.ptr .nil)) (.c (.i64 161))) (by kernel_rfl) rfl rfl (fun w1 h1 => by exact new_few_c (y := y8 q) (M := []) (la := .nil) (lc := 0) (y8_ok q) (y8_pl q) (RL.lies_own (T := 32) (y := y8 q) h1 (.there (.there (.there (.there (.there (.there (.there (.there (.there (.there .here)))))))))) (.there (.there (.there (.there (.there (.there (.there (.there (.there (.there .here)))))))))) (.there (.there (.there (.there (.there (.there (.there (.there (.there (.there .here))))))))))) (fun x hx => by cases hx) (by decide) cells_none (fun x hx => by cases hx) x8_root (meets_none _ _ _)) ?_)
          refine wl_q rfl rfl rfl (qt_p tbok rfl) ?_
          refine wl_q rfl rfl rfl (qt_p tbok rfl) ?_
          refine wl_q rfl rfl rfl (qt_p tbok rfl) ?_
          refine wl_q rfl rfl rfl (qt_p tbok rfl) ?_
          refine wl_q rfl rfl rfl (qt_p tbok rfl) ?_
          refine wl_done ?_
          refine nk_code ?_
          refine wc_seq ?_
          refine wc_region ?_
          refine wl_q rfl rfl rfl (qt_p tbok rfl) ?_
          first | refine wl_q rfl rfl rfl (qt_p tbok rfl) ?_ | refine wl_q rfl rfl rfl (qt_eqn tbok rfl rfl rfl) ?_
          refine wl_q rfl rfl rfl (qt_p tbok rfl) ?_
          first | refine wl_g rfl rfl rfl rfl (qt_p tbok rfl) ?_ | refine wl_skip rfl rfl rfl rfl rfl ?_
          first | refine wl_g rfl rfl rfl rfl (qt_p tbok rfl) ?_ | refine wl_g rfl rfl rfl rfl (qt_eqn tbok rfl rfl rfl) ?_ | refine wl_skip rfl rfl rfl rfl rfl ?_
          refine wl_q rfl rfl rfl (qt_p tbok rfl) ?_
          refine wl_q rfl rfl rfl (qt_p tbok rfl) ?_
          first | refine wl_g rfl rfl rfl rfl (qt_p tbok rfl) ?_ | refine wl_skip rfl rfl rfl rfl rfl ?_
          first | refine wl_g rfl rfl rfl rfl (qt_p tbok rfl) ?_ | refine wl_g rfl rfl rfl rfl (qt_eqn tbok rfl rfl rfl) ?_ | refine wl_skip rfl rfl rfl rfl rfl ?_
          refine wl_q rfl rfl rfl (qt_p tbok rfl) ?_
          refine wl_q rfl rfl rfl (qt_p tbok rfl) ?_
          first | refine wl_g rfl rfl rfl rfl (qt_p tbok rfl) ?_ | refine wl_skip rfl rfl rfl rfl rfl ?_
          first | refine wl_g rfl rfl rfl rfl (qt_p tbok rfl) ?_ | refine wl_g rfl rfl rfl rfl (qt_neqn tbok rfl rfl rfl) ?_ | refine wl_skip rfl rfl rfl rfl rfl ?_
          refine wl_q rfl rfl rfl (qt_p tbok rfl) ?_
          refine wl_q rfl rfl rfl (qt_p tbok rfl) ?_
          first | refine wl_g rfl rfl rfl rfl (qt_p tbok rfl) ?_ | refine wl_skip rfl rfl rfl rfl rfl ?_
          first | refine wl_g rfl rfl rfl rfl (qt_p tbok rfl) ?_ | refine wl_g rfl rfl rfl rfl (qt_eqn tbok rfl rfl rfl) ?_ | refine wl_skip rfl rfl rfl rfl rfl ?_
          refine wl_as (v' := .c (.bool true)) (congrArg (fun b => V.c (C.bool b)) (decide_eq_true rfl)) ?_
          refine wl_q rfl rfl rfl (qt_p tbok rfl) ?_
          refine wl_q rfl rfl rfl (qt_p tbok rfl) ?_
          first | refine wl_g rfl rfl rfl rfl (qt_p tbok rfl) ?_ | refine wl_skip rfl rfl rfl rfl rfl ?_
          refine wl_gd rfl rfl (ef_freshL (B := fun z2 : RL => rbs 32 z2) (I := fun z2 : RL => z2.x = z.x ∧ z2.own) (v := fun z2 : RL => .agg z2.cs) (by kernel_rfl) rfl rfl (fun w1 h1 => by exact root_c (tr := tr) (y := z) (cells_own h1 .here) hzy hzo.pl (RL.lies_own (T := 32) h1 (.there (.there (.there .here))) (.there (.there .here)) (.there .here))) (fun z2 hz2 hz2k => ?_))
          refine wl_g rfl rfl rfl rfl (qt_field_sc (l := z2.cs) (c := .i64 z2.v) tbok rfl rfl rfl rfl rfl rfl) ?_
          refine wl_as (v' := .c (.i64 1)) (congrArg (fun x : Rx => V.c (C.i64 x.v)) (hz2.1.trans hzx)) ?_
          first | refine wl_g rfl rfl rfl rfl (qt_p tbok rfl) ?_ | refine wl_g rfl rfl rfl rfl (qt_eqn tbok rfl rfl rfl) ?_ | refine wl_skip rfl rfl rfl rfl rfl ?_
          refine wl_q rfl rfl rfl (qt_p tbok rfl) ?_
          refine wl_q rfl rfl rfl (qt_p tbok rfl) ?_
          first | refine wl_g rfl rfl rfl rfl (qt_p tbok rfl) ?_ | refine wl_skip rfl rfl rfl rfl rfl ?_
          have hT : ckE z.u z.t.1 [] (List.map (·.1) ([] : List (Mk × Os))) 6 = 131 := (by unfold ckE; rw [show z.u = 5 from congrArg Rx.u hzx]; rfl)
          refine wl_gd rfl rfl (ef_pure (v := .c (.i64 131)) (by kernel_rfl) rfl rfl (fun w1 h1 => by have := tag_c (tr := tr) (y := z) (M := []) (msg := []) (ma := .nil) (la := .nil) (mc := 0) (lc := 0) (now := 6) (cells_own h1 (.there (.there (.there .here)))) hzy (RL.lies_own (T := 32) h1 (.there (.there (.there (.there (.there (.there .here)))))) (.there (.there (.there (.there (.there .here))))) (.there (.there (.there (.there .here))))) cells_none (by decide) (fun x hx => by cases hx) (by decide) cells_none (fun x hx => by cases hx); rwa [hT] at this) ?_)
          first | refine wl_g rfl rfl rfl rfl (qt_p tbok rfl) ?_ | refine wl_g rfl rfl rfl rfl (qt_eqn tbok rfl rfl rfl) ?_ | refine wl_skip rfl rfl rfl rfl rfl ?_
          refine wl_q rfl rfl rfl (qt_p tbok rfl) ?_
          refine wl_q rfl rfl rfl (qt_p tbok rfl) ?_
          refine wl_done ?_
          refine nk_code ?_
          refine wc_ret ?_
          try dsimp only
          exact fin1 rfl (rv_tmp rfl) (fun w' hw => ⟨rfl, hw.all (new_app hz2k (new_app hzk (new_cons (newKey hlb) (new_cons (newKey ht7) (new_cons hkp (new_cons he1k (new_cons (newKey ht4) (new_cons (newKey ht3) (new_cons (newKey hq) (new_cons hky (new_cons hkk new_nil)))))))))))⟩)
        · refine wo_ef rfl rfl (ef_q rfl rfl (qt_p tbok rfl) ⟨fun w hw => ((((hw.tail hz1).tail hz2).tail hz3).tail hz4).tail (newKey hlb), ?_⟩)
          refine wh_one 10 (by kernel_rfl) (wo_ef rfl rfl (ef_q rfl rfl (qt_p tbok rfl) ⟨fun w hw => ((((hw.tail hz1).tail hz2).tail hz3).tail hz4).tail (newKey hlb), ?_⟩))
          refine wh_one 12 (by kernel_rfl) (wo_ef rfl rfl (ef_q rfl rfl (qt_p tbok rfl) ⟨fun w hw => ((((hw.tail hz1).tail hz2).tail hz3).tail hz4).tail (newKey hlb), ?_⟩))
          refine wh_done (by kernel_rfl) ?_
          refine nk_code ?_
          refine wc_seq ?_
          refine wc_region ?_
          refine wl_q rfl rfl rfl (qt_load_ag (l := (y8 q).cs) tbok rfl rfl rfl rfl (rs_lk (.there (.there (.there (.there (.there (.there (.there (.there .here)))))))) at0)) ?_
          refine wl_ef rfl (ef_pure (v := .t2 (.c (.ptr .nil)) (.c (.i64 161))) (by kernel_rfl) rfl rfl (fun w1 h1 => by exact new_few_c (y := y8 q) (M := []) (la := .nil) (lc := 0) (y8_ok q) (y8_pl q) (RL.lies_own (T := 32) (y := y8 q) h1 (.there (.there (.there (.there (.there (.there (.there (.there (.there (.there .here)))))))))) (.there (.there (.there (.there (.there (.there (.there (.there (.there (.there .here)))))))))) (.there (.there (.there (.there (.there (.there (.there (.there (.there (.there .here))))))))))) (fun x hx => by cases hx) (by decide) cells_none (fun x hx => by cases hx) x8_root (meets_none _ _ _)) ?_)
          refine wl_q rfl rfl rfl (qt_p tbok rfl) ?_
          refine wl_q rfl rfl rfl (qt_p tbok rfl) ?_
          refine wl_q rfl rfl rfl (qt_p tbok rfl) ?_
          refine wl_q rfl rfl rfl (qt_p tbok rfl) ?_
          refine wl_q rfl rfl rfl (qt_p tbok rfl) ?_
          refine wl_done ?_
          refine nk_code ?_
          refine wc_seq ?_
          refine wc_region ?_
          refine wl_q rfl rfl rfl (qt_p tbok rfl) ?_
          first | refine wl_q rfl rfl rfl (qt_p tbok rfl) ?_ | refine wl_q rfl rfl rfl (qt_eqn tbok rfl rfl rfl) ?_
          refine wl_q rfl rfl rfl (qt_p tbok rfl) ?_
          first | refine wl_g rfl rfl rfl rfl (qt_p tbok rfl) ?_ | refine wl_skip rfl rfl rfl rfl rfl ?_
          first | refine wl_g rfl rfl rfl rfl (qt_p tbok rfl) ?_ | refine wl_g rfl rfl rfl rfl (qt_eqn tbok rfl rfl rfl) ?_ | refine wl_skip rfl rfl rfl rfl rfl ?_
          refine wl_q rfl rfl rfl (qt_p tbok rfl) ?_
          refine wl_q rfl rfl rfl (qt_p tbok rfl) ?_
          first | refine wl_g rfl rfl rfl rfl (qt_p tbok rfl) ?_ | refine wl_skip rfl rfl rfl rfl rfl ?_
          first | refine wl_g rfl rfl rfl rfl (qt_p tbok rfl) ?_ | refine wl_g rfl rfl rfl rfl (qt_eqn tbok rfl rfl rfl) ?_ | refine wl_skip rfl rfl rfl rfl rfl ?_
          refine wl_q rfl rfl rfl (qt_p tbok rfl) ?_
          refine wl_q rfl rfl rfl (qt_p tbok rfl) ?_
          first | refine wl_g rfl rfl rfl rfl (qt_p tbok rfl) ?_ | refine wl_skip rfl rfl rfl rfl rfl ?_
          first | refine wl_g rfl rfl rfl rfl (qt_p tbok rfl) ?_ | refine wl_g rfl rfl rfl rfl (qt_neqn tbok rfl rfl rfl) ?_ | refine wl_skip rfl rfl rfl rfl rfl ?_
          refine wl_q rfl rfl rfl (qt_p tbok rfl) ?_
          refine wl_q rfl rfl rfl (qt_p tbok rfl) ?_
          first | refine wl_g rfl rfl rfl rfl (qt_p tbok rfl) ?_ | refine wl_skip rfl rfl rfl rfl rfl ?_
          first | refine wl_g rfl rfl rfl rfl (qt_p tbok rfl) ?_ | refine wl_g rfl rfl rfl rfl (qt_eqn tbok rfl rfl rfl) ?_ | refine wl_skip rfl rfl rfl rfl rfl ?_
          refine wl_as (v' := .c (.bool true)) (congrArg (fun b => V.c (C.bool b)) (decide_eq_true rfl)) ?_
          refine wl_q rfl rfl rfl (qt_p tbok rfl) ?_
          refine wl_q rfl rfl rfl (qt_p tbok rfl) ?_
          first | refine wl_g rfl rfl rfl rfl (qt_p tbok rfl) ?_ | refine wl_skip rfl rfl rfl rfl rfl ?_
          refine wl_gd rfl rfl (ef_freshL (B := fun z2 : RL => rbs 32 z2) (I := fun z2 : RL => z2.x = z.x ∧ z2.own) (v := fun z2 : RL => .agg z2.cs) (by kernel_rfl) rfl rfl (fun w1 h1 => by exact root_c (tr := tr) (y := z) (cells_own h1 .here) hzy hzo.pl (RL.lies_own (T := 32) h1 (.there (.there (.there .here))) (.there (.there .here)) (.there .here))) (fun z2 hz2 hz2k => ?_))
          refine wl_g rfl rfl rfl rfl (qt_field_sc (l := z2.cs) (c := .i64 z2.v) tbok rfl rfl rfl rfl rfl rfl) ?_
          refine wl_as (v' := .c (.i64 1)) (congrArg (fun x : Rx => V.c (C.i64 x.v)) (hz2.1.trans hzx)) ?_
          first | refine wl_g rfl rfl rfl rfl (qt_p tbok rfl) ?_ | refine wl_g rfl rfl rfl rfl (qt_eqn tbok rfl rfl rfl) ?_ | refine wl_skip rfl rfl rfl rfl rfl ?_
          refine wl_q rfl rfl rfl (qt_p tbok rfl) ?_
          refine wl_q rfl rfl rfl (qt_p tbok rfl) ?_
          first | refine wl_g rfl rfl rfl rfl (qt_p tbok rfl) ?_ | refine wl_skip rfl rfl rfl rfl rfl ?_
          have hT : ckE z.u z.t.1 [] (List.map (·.1) ([] : List (Mk × Os))) 6 = 131 := (by unfold ckE; rw [show z.u = 5 from congrArg Rx.u hzx]; rfl)
          refine wl_gd rfl rfl (ef_pure (v := .c (.i64 131)) (by kernel_rfl) rfl rfl (fun w1 h1 => by have := tag_c (tr := tr) (y := z) (M := []) (msg := []) (ma := .nil) (la := .nil) (mc := 0) (lc := 0) (now := 6) (cells_own h1 (.there (.there (.there .here)))) hzy (RL.lies_own (T := 32) h1 (.there (.there (.there (.there (.there (.there .here)))))) (.there (.there (.there (.there (.there .here))))) (.there (.there (.there (.there .here))))) cells_none (by decide) (fun x hx => by cases hx) (by decide) cells_none (fun x hx => by cases hx); rwa [hT] at this) ?_)
          first | refine wl_g rfl rfl rfl rfl (qt_p tbok rfl) ?_ | refine wl_g rfl rfl rfl rfl (qt_eqn tbok rfl rfl rfl) ?_ | refine wl_skip rfl rfl rfl rfl rfl ?_
          refine wl_q rfl rfl rfl (qt_p tbok rfl) ?_
          refine wl_q rfl rfl rfl (qt_p tbok rfl) ?_
          refine wl_done ?_
          refine nk_code ?_
          refine wc_ret ?_
          try dsimp only
          exact fin1 rfl (rv_tmp rfl) (fun w' hw => ⟨rfl, hw.all (new_app hz2k (new_app hzk (new_cons (newKey hlb) (new_cons (newKey ht7) (new_cons hkp (new_cons he1k (new_cons (newKey ht4) (new_cons (newKey ht3) (new_cons (newKey hq) (new_cons hky (new_cons hkk new_nil)))))))))))⟩)
      · refine wo_ef rfl rfl (ef_q rfl rfl (qt_p tbok rfl) ⟨fun w hw => ((((hw.tail hz1).tail hz2).tail hz3).tail hz4).tail (newKey hlb), ?_⟩)
        refine wh_one 9 (by kernel_rfl) (wo_ef rfl rfl (ef_q rfl rfl (qt_p tbok rfl) ⟨fun w hw => ((((hw.tail hz1).tail hz2).tail hz3).tail hz4).tail (newKey hlb), ?_⟩))
        refine wh_one 11 (by kernel_rfl) (wo_ef rfl rfl (ef_q rfl rfl (qt_p tbok rfl) ⟨fun w hw => ((((hw.tail hz1).tail hz2).tail hz3).tail hz4).tail (newKey hlb), ?_⟩))
        refine wh_one 12 (by kernel_rfl) (wo_ef rfl rfl (ef_q rfl rfl (qt_p tbok rfl) ⟨fun w hw => ((((hw.tail hz1).tail hz2).tail hz3).tail hz4).tail (newKey hlb), ?_⟩))
        refine wh_done (by kernel_rfl) ?_
        refine nk_code ?_
        refine wc_seq ?_
        refine wc_region ?_
        refine wl_q rfl rfl rfl (qt_load_ag (l := (y8 q).cs) tbok rfl rfl rfl rfl (rs_lk (.there (.there (.there (.there (.there (.there (.there (.there .here)))))))) at0)) ?_
        refine wl_ef rfl (ef_pure (v := .t2 (.c (.ptr .nil)) (.c (.i64 161))) (by kernel_rfl) rfl rfl (fun w1 h1 => by exact new_few_c (y := y8 q) (M := []) (la := .nil) (lc := 0) (y8_ok q) (y8_pl q) (RL.lies_own (T := 32) (y := y8 q) h1 (.there (.there (.there (.there (.there (.there (.there (.there (.there (.there .here)))))))))) (.there (.there (.there (.there (.there (.there (.there (.there (.there (.there .here)))))))))) (.there (.there (.there (.there (.there (.there (.there (.there (.there (.there .here))))))))))) (fun x hx => by cases hx) (by decide) cells_none (fun x hx => by cases hx) x8_root (meets_none _ _ _)) ?_)
        refine wl_q rfl rfl rfl (qt_p tbok rfl) ?_
        refine wl_q rfl rfl rfl (qt_p tbok rfl) ?_
        refine wl_q rfl rfl rfl (qt_p tbok rfl) ?_
        refine wl_q rfl rfl rfl (qt_p tbok rfl) ?_
        refine wl_q rfl rfl rfl (qt_p tbok rfl) ?_
        refine wl_done ?_
        refine nk_code ?_
        refine wc_seq ?_
        refine wc_region ?_
        refine wl_q rfl rfl rfl (qt_p tbok rfl) ?_
        first | refine wl_q rfl rfl rfl (qt_p tbok rfl) ?_ | refine wl_q rfl rfl rfl (qt_eqn tbok rfl rfl rfl) ?_
        refine wl_q rfl rfl rfl (qt_p tbok rfl) ?_
        first | refine wl_g rfl rfl rfl rfl (qt_p tbok rfl) ?_ | refine wl_skip rfl rfl rfl rfl rfl ?_
        first | refine wl_g rfl rfl rfl rfl (qt_p tbok rfl) ?_ | refine wl_g rfl rfl rfl rfl (qt_eqn tbok rfl rfl rfl) ?_ | refine wl_skip rfl rfl rfl rfl rfl ?_
        refine wl_q rfl rfl rfl (qt_p tbok rfl) ?_
        refine wl_q rfl rfl rfl (qt_p tbok rfl) ?_
        first | refine wl_g rfl rfl rfl rfl (qt_p tbok rfl) ?_ | refine wl_skip rfl rfl rfl rfl rfl ?_
        first | refine wl_g rfl rfl rfl rfl (qt_p tbok rfl) ?_ | refine wl_g rfl rfl rfl rfl (qt_eqn tbok rfl rfl rfl) ?_ | refine wl_skip rfl rfl rfl rfl rfl ?_
        refine wl_q rfl rfl rfl (qt_p tbok rfl) ?_
        refine wl_q rfl rfl rfl (qt_p tbok rfl) ?_
        first | refine wl_g rfl rfl rfl rfl (qt_p tbok rfl) ?_ | refine wl_skip rfl rfl rfl rfl rfl ?_
        first | refine wl_g rfl rfl rfl rfl (qt_p tbok rfl) ?_ | refine wl_g rfl rfl rfl rfl (qt_neqn tbok rfl rfl rfl) ?_ | refine wl_skip rfl rfl rfl rfl rfl ?_
        refine wl_q rfl rfl rfl (qt_p tbok rfl) ?_
        refine wl_q rfl rfl rfl (qt_p tbok rfl) ?_
        first | refine wl_g rfl rfl rfl rfl (qt_p tbok rfl) ?_ | refine wl_skip rfl rfl rfl rfl rfl ?_
        first | refine wl_g rfl rfl rfl rfl (qt_p tbok rfl) ?_ | refine wl_g rfl rfl rfl rfl (qt_eqn tbok rfl rfl rfl) ?_ | refine wl_skip rfl rfl rfl rfl rfl ?_
        refine wl_as (v' := .c (.bool true)) (congrArg (fun b => V.c (C.bool b)) (decide_eq_true rfl)) ?_
        refine wl_q rfl rfl rfl (qt_p tbok rfl) ?_
        refine wl_q rfl rfl rfl (qt_p tbok rfl) ?_
        first | refine wl_g rfl rfl rfl rfl (qt_p tbok rfl) ?_ | refine wl_skip rfl rfl rfl rfl rfl ?_
        refine wl_gd rfl rfl (ef_freshL (B := fun z2 : RL => rbs 32 z2) (I := fun z2 : RL => z2.x = z.x ∧ z2.own) (v := fun z2 : RL => .agg z2.cs) (by kernel_rfl) rfl rfl (fun w1 h1 => by exact root_c (tr := tr) (y := z) (cells_own h1 .here) hzy hzo.pl (RL.lies_own (T := 32) h1 (.there (.there (.there .here))) (.there (.there .here)) (.there .here))) (fun z2 hz2 hz2k => ?_))
        refine wl_g rfl rfl rfl rfl (qt_field_sc (l := z2.cs) (c := .i64 z2.v) tbok rfl rfl rfl rfl rfl rfl) ?_
        refine wl_as (v' := .c (.i64 1)) (congrArg (fun x : Rx => V.c (C.i64 x.v)) (hz2.1.trans hzx)) ?_
        first | refine wl_g rfl rfl rfl rfl (qt_p tbok rfl) ?_ | refine wl_g rfl rfl rfl rfl (qt_eqn tbok rfl rfl rfl) ?_ | refine wl_skip rfl rfl rfl rfl rfl ?_
        refine wl_q rfl rfl rfl (qt_p tbok rfl) ?_
        refine wl_q rfl rfl rfl (qt_p tbok rfl) ?_
        first | refine wl_g rfl rfl rfl rfl (qt_p tbok rfl) ?_ | refine wl_skip rfl rfl rfl rfl rfl ?_
        have hT : ckE z.u z.t.1 [] (List.map (·.1) ([] : List (Mk × Os))) 6 = 131 := (by unfold ckE; rw [show z.u = 5 from congrArg Rx.u hzx]; rfl)
        refine wl_gd rfl rfl (ef_pure (v := .c (.i64 131)) (by kernel_rfl) rfl rfl (fun w1 h1 => by have := tag_c (tr := tr) (y := z) (M := []) (msg := []) (ma := .nil) (la := .nil) (mc := 0) (lc := 0) (now := 6) (cells_own h1 (.there (.there (.there .here)))) hzy (RL.lies_own (T := 32) h1 (.there (.there (.there (.there (.there (.there .here)))))) (.there (.there (.there (.there (.there .here))))) (.there (.there (.there (.there .here))))) cells_none (by decide) (fun x hx => by cases hx) (by decide) cells_none (fun x hx => by cases hx); rwa [hT] at this) ?_)
        first | refine wl_g rfl rfl rfl rfl (qt_p tbok rfl) ?_ | refine wl_g rfl rfl rfl rfl (qt_eqn tbok rfl rfl rfl) ?_ | refine wl_skip rfl rfl rfl rfl rfl ?_
        refine wl_q rfl rfl rfl (qt_p tbok rfl) ?_
        refine wl_q rfl rfl rfl (qt_p tbok rfl) ?_
        refine wl_done ?_
        refine nk_code ?_
        refine wc_ret ?_
        try dsimp only
        exact fin1 rfl (rv_tmp rfl) (fun w' hw => ⟨rfl, hw.all (new_app hz2k (new_app hzk (new_cons (newKey hlb) (new_cons (newKey ht7) (new_cons hkp (new_cons he1k (new_cons (newKey ht4) (new_cons (newKey ht3) (new_cons (newKey hq) (new_cons hky (new_cons hkk new_nil)))))))))))⟩)
  · refine wo_ef rfl rfl (ef_q rfl rfl (qt_load_ag (l := scs ((0 : Nat) : Int) (sigF sd8 0 (lvs sd8 (pw 0)) 0 m8) p.1 0 p.2.1) tbok rfl rfl rfl (scs_len (sigF_len _ _ _ _ _)) (rs_lk .here at0)) ⟨fun w hw => hw, ?_⟩)
    refine wh_one 1 (by kernel_rfl) (wo_ef rfl rfl (ef_q rfl rfl (qt_p tbok rfl) ⟨fun w hw => hw, ?_⟩))
    refine wh_one 2 (by kernel_rfl) (wo_ef rfl rfl (ef_pure (v := .agg (kr k8)) (by kernel_rfl) rfl rfl (fun w1 h1 => public_c (h := 0) (nx := 0 + 1) sd8_len (by decide) (cells_own h1 (.there (.there (.there (.there (.there (.there (.there .here)))))))) (lvs_A _ _) (lvs_len _ _) (OwnS.le hy) (cells_own h1 (.there (.there (.there (.there (.there (.there .here)))))))) ⟨fun w hw => hw, ?_⟩))
    refine wh_one 3 (by kernel_rfl) (wo_ef rfl rfl (ef_pure (v := .agg (bc (kid k8))) (by kernel_rfl) rfl rfl (fun w1 h1 => id_c hrl) ⟨fun w hw => hw, ?_⟩))
    refine wh_one 5 (by kernel_rfl) (wo_ef rfl rfl (ef_q rfl rfl (qt_build (vs := [(0, .agg (bc (kid k8))), (1, .agg (scs ((0 : Nat) : Int) (sigF sd8 0 (lvs sd8 (pw 0)) 0 m8) p.1 0 p.2.1))]) (l := mrow (mk8, p)) tbok rfl zero84 rfl (mfill (sha_len _) (scs_len (sigF_len _ _ _ _ _)))) ⟨fun w hw => hw, ?_⟩))
    refine wh_one 6 (by kernel_rfl) (wo_ef rfl rfl (ef_buildSlice (vs := [(0, .agg (mrow (mk8, p)))]) (l := mrow (mk8, p)) tbok rfl zero84 rfl z2178_len rfl (by decide) (fill_oneN z2178_len (mrow_len mk8_ok)) rfl (fun lb hlb => ⟨fun w hw => hw.tail (newKey hlb), ?_⟩)))
    refine wh_one 7 (by kernel_rfl) (wo_fin rfl rfl (ef_freshL (B := fun x : Nat × RL => TB x.1 x.2 :: rbs 32 x.2) (I := fun x : Nat × RL => x.2.x = x8 ∧ x.2.own) (v := fun x : Nat × RL => .t2 (.c (.ptr (.at x.1 0))) (.c (.i64 0))) (by kernel_rfl) rfl rfl (fun w1 h1 => by exact new_ok_c (y := y8 q) (M := [(mk8, p)]) (la := .at lb 0) (lc := 1) (y8_ok q) (y8_pl q) (RL.lies_own (T := 32) (y := y8 q) h1 (.there (.there (.there (.there (.there (.there .here)))))) (.there (.there (.there (.there (.there (.there .here)))))) (.there (.there (.there (.there (.there (.there .here))))))) (fun x hx => by rw [List.mem_singleton.1 hx]; exact mk8_ok) (by show 1 ≤ 1073741824; decide) (by have := cells_own h1 .here; rwa [show [(mk8, p)].flatMap mrow = mrow (mk8, p) from List.append_nil _]) (fun x hx => by rw [List.mem_singleton.1 hx]; exact ⟨cells_none, Nat.zero_le _⟩) x8_root meets8) (fun ⟨tr, z⟩ ⟨hzx, hzo⟩ hzk => ?_)))
    replace hzx : z.x = x8 := hzx
    replace hzo : z.own := hzo
    replace hzk : ∀ p ∈ TB tr z :: rbs 32 z, ∀ k, p.key = some k → w.heap.size ≤ k := hzk
    have hzy : z.ok := ok_ofx hzx x8_ok
    have hz1 := hzk (TB tr z) (.head _)
    have hz2 := hzk (rob 32 z.l) (.tail _ (.head _))
    have hz3 := hzk (rob 32 z.t) (.tail _ (.tail _ (.head _)))
    have hz4 := hzk (rob 32 z.r) (.tail _ (.tail _ (.tail _ (.head _))))
    dsimp only
    refine wh_one 8 (by kernel_rfl) (wo_ef rfl rfl (ef_q rfl rfl (qt_p tbok rfl) ⟨fun w hw => ((((hw.tail hz1).tail hz2).tail hz3).tail hz4).tail (newKey hlb), ?_⟩))
    refine wh_two 9 10 (by kernel_rfl) ?_ ?_
    · refine wo_ef rfl rfl (ef_q rfl rfl (qt_p tbok rfl) ⟨fun w hw => ((((hw.tail hz1).tail hz2).tail hz3).tail hz4).tail (newKey hlb), ?_⟩)
      refine wh_two 10 11 (by kernel_rfl) ?_ ?_
      · refine wo_ef rfl rfl (ef_q rfl rfl (qt_p tbok rfl) ⟨fun w hw => ((((hw.tail hz1).tail hz2).tail hz3).tail hz4).tail (newKey hlb), ?_⟩)
        refine wh_one 11 (by kernel_rfl) (wo_ef rfl rfl (ef_q rfl rfl (qt_p tbok rfl) ⟨fun w hw => ((((hw.tail hz1).tail hz2).tail hz3).tail hz4).tail (newKey hlb), ?_⟩))
        refine wh_one 12 (by kernel_rfl) (wo_ef rfl rfl (ef_q rfl rfl (qt_p tbok rfl) ⟨fun w hw => ((((hw.tail hz1).tail hz2).tail hz3).tail hz4).tail (newKey hlb), ?_⟩))
        refine wh_done (by kernel_rfl) ?_
        refine nk_code ?_
        refine wc_seq ?_
        refine wc_region ?_
        refine wl_q rfl rfl rfl (qt_load_ag (l := (y8 q).cs) tbok rfl rfl rfl rfl (rs_lk (.there (.there (.there (.there (.there (.there (.there (.there .here)))))))) at0)) ?_
        refine wl_ef rfl (ef_pure (v := .t2 (.c (.ptr .nil)) (.c (.i64 161))) (by kernel_rfl) rfl rfl (fun w1 h1 => by exact new_few_c (y := y8 q) (M := []) (la := .nil) (lc := 0) (y8_ok q) (y8_pl q) (RL.lies_own (T := 32) (y := y8 q) h1 (.there (.there (.there (.there (.there (.there (.there (.there (.there (.there .here)))))))))) (.there (.there (.there (.there (.there (.there (.there (.there (.there (.there .here)))))))))) (.there (.there (.there (.there (.there (.there (.there (.there (.there (.there .here))))))))))) (fun x hx => by cases hx) (by decide) cells_none (fun x hx => by cases hx) x8_root (meets_none _ _ _)) ?_)
        refine wl_q rfl rfl rfl (qt_p tbok rfl) ?_
        refine wl_q rfl rfl rfl (qt_p tbok rfl) ?_
        refine wl_q rfl rfl rfl (qt_p tbok rfl) ?_
        refine wl_q rfl rfl rfl (qt_p tbok rfl) ?_
        refine wl_q rfl rfl rfl (qt_p tbok rfl) ?_
        refine wl_done ?_
        refine nk_code ?_
        refine wc_seq ?_
        refine wc_region ?_
        refine wl_q rfl rfl rfl (qt_p tbok rfl) ?_
        first | refine wl_q rfl rfl rfl (qt_p tbok rfl) ?_ | refine wl_q rfl rfl rfl (qt_eqn tbok rfl rfl rfl) ?_
        refine wl_q rfl rfl rfl (qt_p tbok rfl) ?_
        first | refine wl_g rfl rfl rfl rfl (qt_p tbok rfl) ?_ | refine wl_skip rfl rfl rfl rfl rfl ?_
        first | refine wl_g rfl rfl rfl rfl (qt_p tbok rfl) ?_ | refine wl_g rfl rfl rfl rfl (qt_eqn tbok rfl rfl rfl) ?_ | refine wl_skip rfl rfl rfl rfl rfl ?_
        refine wl_q rfl rfl rfl (qt_p tbok rfl) ?_
        refine wl_q rfl rfl rfl (qt_p tbok rfl) ?_
        first | refine wl_g rfl rfl rfl rfl (qt_p tbok rfl) ?_ | refine wl_skip rfl rfl rfl rfl rfl ?_
        first | refine wl_g rfl rfl rfl rfl (qt_p tbok rfl) ?_ | refine wl_g rfl rfl rfl rfl (qt_eqn tbok rfl rfl rfl) ?_ | refine wl_skip rfl rfl rfl rfl rfl ?_
        refine wl_q rfl rfl rfl (qt_p tbok rfl) ?_
        refine wl_q rfl rfl rfl (qt_p tbok rfl) ?_
        first | refine wl_g rfl rfl rfl rfl (qt_p tbok rfl) ?_ | refine wl_skip rfl rfl rfl rfl rfl ?_
        first | refine wl_g rfl rfl rfl rfl (qt_p tbok rfl) ?_ | refine wl_g rfl rfl rfl rfl (qt_neqn tbok rfl rfl rfl) ?_ | refine wl_skip rfl rfl rfl rfl rfl ?_
        refine wl_q rfl rfl rfl (qt_p tbok rfl) ?_
        refine wl_q rfl rfl rfl (qt_p tbok rfl) ?_
        first | refine wl_g rfl rfl rfl rfl (qt_p tbok rfl) ?_ | refine wl_skip rfl rfl rfl rfl rfl ?_
        first | refine wl_g rfl rfl rfl rfl (qt_p tbok rfl) ?_ | refine wl_g rfl rfl rfl rfl (qt_eqn tbok rfl rfl rfl) ?_ | refine wl_skip rfl rfl rfl rfl rfl ?_
        refine wl_as (v' := .c (.bool true)) (congrArg (fun b => V.c (C.bool b)) (decide_eq_true rfl)) ?_
        refine wl_q rfl rfl rfl (qt_p tbok rfl) ?_
        refine wl_q rfl rfl rfl (qt_p tbok rfl) ?_
        first | refine wl_g rfl rfl rfl rfl (qt_p tbok rfl) ?_ | refine wl_skip rfl rfl rfl rfl rfl ?_
        refine wl_gd rfl rfl (ef_freshL (B := fun z2 : RL => rbs 32 z2) (I := fun z2 : RL => z2.x = z.x ∧ z2.own) (v := fun z2 : RL => .agg z2.cs) (by kernel_rfl) rfl rfl (fun w1 h1 => by exact root_c (tr := tr) (y := z) (cells_own h1 .here) hzy hzo.pl (RL.lies_own (T := 32) h1 (.there (.there (.there .here))) (.there (.there .here)) (.there .here))) (fun z2 hz2 hz2k => ?_))
        refine wl_g rfl rfl rfl rfl (qt_field_sc (l := z2.cs) (c := .i64 z2.v) tbok rfl rfl rfl rfl rfl rfl) ?_
        refine wl_as (v' := .c (.i64 1)) (congrArg (fun x : Rx => V.c (C.i64 x.v)) (hz2.1.trans hzx)) ?_
        first | refine wl_g rfl rfl rfl rfl (qt_p tbok rfl) ?_ | refine wl_g rfl rfl rfl rfl (qt_eqn tbok rfl rfl rfl) ?_ | refine wl_skip rfl rfl rfl rfl rfl ?_
        refine wl_q rfl rfl rfl (qt_p tbok rfl) ?_
        refine wl_q rfl rfl rfl (qt_p tbok rfl) ?_
        first | refine wl_g rfl rfl rfl rfl (qt_p tbok rfl) ?_ | refine wl_skip rfl rfl rfl rfl rfl ?_
        have hT : ckE z.u z.t.1 [] (List.map (·.1) ([] : List (Mk × Os))) 6 = 131 := (by unfold ckE; rw [show z.u = 5 from congrArg Rx.u hzx]; rfl)
        refine wl_gd rfl rfl (ef_pure (v := .c (.i64 131)) (by kernel_rfl) rfl rfl (fun w1 h1 => by have := tag_c (tr := tr) (y := z) (M := []) (msg := []) (ma := .nil) (la := .nil) (mc := 0) (lc := 0) (now := 6) (cells_own h1 (.there (.there (.there .here)))) hzy (RL.lies_own (T := 32) h1 (.there (.there (.there (.there (.there (.there .here)))))) (.there (.there (.there (.there (.there .here))))) (.there (.there (.there (.there .here))))) cells_none (by decide) (fun x hx => by cases hx) (by decide) cells_none (fun x hx => by cases hx); rwa [hT] at this) ?_)
        first | refine wl_g rfl rfl rfl rfl (qt_p tbok rfl) ?_ | refine wl_g rfl rfl rfl rfl (qt_eqn tbok rfl rfl rfl) ?_ | refine wl_skip rfl rfl rfl rfl rfl ?_
        refine wl_q rfl rfl rfl (qt_p tbok rfl) ?_
        refine wl_q rfl rfl rfl (qt_p tbok rfl) ?_
        refine wl_done ?_
        refine nk_code ?_
        refine wc_ret ?_
        try dsimp only
        exact fin1 rfl (rv_tmp rfl) (fun w' hw => ⟨rfl, hw.all (new_app hz2k (new_app hzk (new_cons (newKey hlb) (new_cons (newKey ht7) (new_cons hkp (new_cons he1k (new_cons (newKey ht4) (new_cons (newKey ht3) (new_cons (newKey hq) (new_cons hky (new_cons hkk new_nil)))))))))))⟩)
      · refine wo_ef rfl rfl (ef_q rfl rfl (qt_p tbok rfl) ⟨fun w hw => ((((hw.tail hz1).tail hz2).tail hz3).tail hz4).tail (newKey hlb), ?_⟩)
        refine wh_one 10 (by kernel_rfl) (wo_ef rfl rfl (ef_q rfl rfl (qt_p tbok rfl) ⟨fun w hw => ((((hw.tail hz1).tail hz2).tail hz3).tail hz4).tail (newKey hlb), ?_⟩))
        refine wh_one 12 (by kernel_rfl) (wo_ef rfl rfl (ef_q rfl rfl (qt_p tbok rfl) ⟨fun w hw => ((((hw.tail hz1).tail hz2).tail hz3).tail hz4).tail (newKey hlb), ?_⟩))
        refine wh_done (by kernel_rfl) ?_
        refine nk_code ?_
        refine wc_seq ?_
        refine wc_region ?_
        refine wl_q rfl rfl rfl (qt_load_ag (l := (y8 q).cs) tbok rfl rfl rfl rfl (rs_lk (.there (.there (.there (.there (.there (.there (.there (.there .here)))))))) at0)) ?_
        refine wl_ef rfl (ef_pure (v := .t2 (.c (.ptr .nil)) (.c (.i64 161))) (by kernel_rfl) rfl rfl (fun w1 h1 => by exact new_few_c (y := y8 q) (M := []) (la := .nil) (lc := 0) (y8_ok q) (y8_pl q) (RL.lies_own (T := 32) (y := y8 q) h1 (.there (.there (.there (.there (.there (.there (.there (.there (.there (.there .here)))))))))) (.there (.there (.there (.there (.there (.there (.there (.there (.there (.there .here)))))))))) (.there (.there (.there (.there (.there (.there (.there (.there (.there (.there .here))))))))))) (fun x hx => by cases hx) (by decide) cells_none (fun x hx => by cases hx) x8_root (meets_none _ _ _)) ?_)
        refine wl_q rfl rfl rfl (qt_p tbok rfl) ?_
        refine wl_q rfl rfl rfl (qt_p tbok rfl) ?_
        refine wl_q rfl rfl rfl (qt_p tbok rfl) ?_
        refine wl_q rfl rfl rfl (qt_p tbok rfl) ?_
        refine wl_q rfl rfl rfl (qt_p tbok rfl) ?_
        refine wl_done ?_
        refine nk_code ?_
        refine wc_seq ?_
        refine wc_region ?_
        refine wl_q rfl rfl rfl (qt_p tbok rfl) ?_
        first | refine wl_q rfl rfl rfl (qt_p tbok rfl) ?_ | refine wl_q rfl rfl rfl (qt_eqn tbok rfl rfl rfl) ?_
        refine wl_q rfl rfl rfl (qt_p tbok rfl) ?_
        first | refine wl_g rfl rfl rfl rfl (qt_p tbok rfl) ?_ | refine wl_skip rfl rfl rfl rfl rfl ?_
        first | refine wl_g rfl rfl rfl rfl (qt_p tbok rfl) ?_ | refine wl_g rfl rfl rfl rfl (qt_eqn tbok rfl rfl rfl) ?_ | refine wl_skip rfl rfl rfl rfl rfl ?_
        refine wl_q rfl rfl rfl (qt_p tbok rfl) ?_
        refine wl_q rfl rfl rfl (qt_p tbok rfl) ?_
        first | refine wl_g rfl rfl rfl rfl (qt_p tbok rfl) ?_ | refine wl_skip rfl rfl rfl rfl rfl ?_
        first | refine wl_g rfl rfl rfl rfl (qt_p tbok rfl) ?_ | refine wl_g rfl rfl rfl rfl (qt_eqn tbok rfl rfl rfl) ?_ | refine wl_skip rfl rfl rfl rfl rfl ?_
        refine wl_q rfl rfl rfl (qt_p tbok rfl) ?_
        refine wl_q rfl rfl rfl (qt_p tbok rfl) ?_
        first | refine wl_g rfl rfl rfl rfl (qt_p tbok rfl) ?_ | refine wl_skip rfl rfl rfl rfl rfl ?_
        first | refine wl_g rfl rfl rfl rfl (qt_p tbok rfl) ?_ | refine wl_g rfl rfl rfl rfl (qt_neqn tbok rfl rfl rfl) ?_ | refine wl_skip rfl rfl rfl rfl rfl ?_
        refine wl_q rfl rfl rfl (qt_p tbok rfl) ?_
        refine wl_q rfl rfl rfl (qt_p tbok rfl) ?_
        first | refine wl_g rfl rfl rfl rfl (qt_p tbok rfl) ?_ | refine wl_skip rfl rfl rfl rfl rfl ?_
        first | refine wl_g rfl rfl rfl rfl (qt_p tbok rfl) ?_ | refine wl_g rfl rfl rfl rfl (qt_eqn tbok rfl rfl rfl) ?_ | refine wl_skip rfl rfl rfl rfl rfl ?_
        refine wl_as (v' := .c (.bool true)) (congrArg (fun b => V.c (C.bool b)) (decide_eq_true rfl)) ?_
        refine wl_q rfl rfl rfl (qt_p tbok rfl) ?_
        refine wl_q rfl rfl rfl (qt_p tbok rfl) ?_
        first | refine wl_g rfl rfl rfl rfl (qt_p tbok rfl) ?_ | refine wl_skip rfl rfl rfl rfl rfl ?_
        refine wl_gd rfl rfl (ef_freshL (B := fun z2 : RL => rbs 32 z2) (I := fun z2 : RL => z2.x = z.x ∧ z2.own) (v := fun z2 : RL => .agg z2.cs) (by kernel_rfl) rfl rfl (fun w1 h1 => by exact root_c (tr := tr) (y := z) (cells_own h1 .here) hzy hzo.pl (RL.lies_own (T := 32) h1 (.there (.there (.there .here))) (.there (.there .here)) (.there .here))) (fun z2 hz2 hz2k => ?_))
        refine wl_g rfl rfl rfl rfl (qt_field_sc (l := z2.cs) (c := .i64 z2.v) tbok rfl rfl rfl rfl rfl rfl) ?_
        refine wl_as (v' := .c (.i64 1)) (congrArg (fun x : Rx => V.c (C.i64 x.v)) (hz2.1.trans hzx)) ?_
        first | refine wl_g rfl rfl rfl rfl (qt_p tbok rfl) ?_ | refine wl_g rfl rfl rfl rfl (qt_eqn tbok rfl rfl rfl) ?_ | refine wl_skip rfl rfl rfl rfl rfl ?_
        refine wl_q rfl rfl rfl (qt_p tbok rfl) ?_
        refine wl_q rfl rfl rfl (qt_p tbok rfl) ?_
        first | refine wl_g rfl rfl rfl rfl (qt_p tbok rfl) ?_ | refine wl_skip rfl rfl rfl rfl rfl ?_
        have hT : ckE z.u z.t.1 [] (List.map (·.1) ([] : List (Mk × Os))) 6 = 131 := (by unfold ckE; rw [show z.u = 5 from congrArg Rx.u hzx]; rfl)
        refine wl_gd rfl rfl (ef_pure (v := .c (.i64 131)) (by kernel_rfl) rfl rfl (fun w1 h1 => by have := tag_c (tr := tr) (y := z) (M := []) (msg := []) (ma := .nil) (la := .nil) (mc := 0) (lc := 0) (now := 6) (cells_own h1 (.there (.there (.there .here)))) hzy (RL.lies_own (T := 32) h1 (.there (.there (.there (.there (.there (.there .here)))))) (.there (.there (.there (.there (.there .here))))) (.there (.there (.there (.there .here))))) cells_none (by decide) (fun x hx => by cases hx) (by decide) cells_none (fun x hx => by cases hx); rwa [hT] at this) ?_)
        first | refine wl_g rfl rfl rfl rfl (qt_p tbok rfl) ?_ | refine wl_g rfl rfl rfl rfl (qt_eqn tbok rfl rfl rfl) ?_ | refine wl_skip rfl rfl rfl rfl rfl ?_
        refine wl_q rfl rfl rfl (qt_p tbok rfl) ?_
        refine wl_q rfl rfl rfl (qt_p tbok rfl) ?_
        refine wl_done ?_
        refine nk_code ?_
        refine wc_ret ?_
        try dsimp only
        exact fin1 rfl (rv_tmp rfl) (fun w' hw => ⟨rfl, hw.all (new_app hz2k (new_app hzk (new_cons (newKey hlb) (new_cons (newKey ht7) (new_cons hkp (new_cons he1k (new_cons (newKey ht4) (new_cons (newKey ht3) (new_cons (newKey hq) (new_cons hky (new_cons hkk new_nil)))))))))))⟩)
    · refine wo_ef rfl rfl (ef_q rfl rfl (qt_p tbok rfl) ⟨fun w hw => ((((hw.tail hz1).tail hz2).tail hz3).tail hz4).tail (newKey hlb), ?_⟩)
      refine wh_one 9 (by kernel_rfl) (wo_ef rfl rfl (ef_q rfl rfl (qt_p tbok rfl) ⟨fun w hw => ((((hw.tail hz1).tail hz2).tail hz3).tail hz4).tail (newKey hlb), ?_⟩))
      refine wh_one 11 (by kernel_rfl) (wo_ef rfl rfl (ef_q rfl rfl (qt_p tbok rfl) ⟨fun w hw => ((((hw.tail hz1).tail hz2).tail hz3).tail hz4).tail (newKey hlb), ?_⟩))
      refine wh_one 12 (by kernel_rfl) (wo_ef rfl rfl (ef_q rfl rfl (qt_p tbok rfl) ⟨fun w hw => ((((hw.tail hz1).tail hz2).tail hz3).tail hz4).tail (newKey hlb), ?_⟩))
      refine wh_done (by kernel_rfl) ?_
      refine nk_code ?_
      refine wc_seq ?_
      refine wc_region ?_
      refine wl_q rfl rfl rfl (qt_load_ag (l := (y8 q).cs) tbok rfl rfl rfl rfl (rs_lk (.there (.there (.there (.there (.there (.there (.there (.there .here)))))))) at0)) ?_
      refine wl_ef rfl (ef_pure (v := .t2 (.c (.ptr .nil)) (.c (.i64 161))) (by kernel_rfl) rfl rfl (fun w1 h1 => by exact new_few_c (y := y8 q) (M := []) (la := .nil) (lc := 0) (y8_ok q) (y8_pl q) (RL.lies_own (T := 32) (y := y8 q) h1 (.there (.there (.there (.there (.there (.there (.there (.there (.there (.there .here)))))))))) (.there (.there (.there (.there (.there (.there (.there (.there (.there (.there .here)))))))))) (.there (.there (.there (.there (.there (.there (.there (.there (.there (.there .here))))))))))) (fun x hx => by cases hx) (by decide) cells_none (fun x hx => by cases hx) x8_root (meets_none _ _ _)) ?_)
      refine wl_q rfl rfl rfl (qt_p tbok rfl) ?_
      refine wl_q rfl rfl rfl (qt_p tbok rfl) ?_
      refine wl_q rfl rfl rfl (qt_p tbok rfl) ?_
      refine wl_q rfl rfl rfl (qt_p tbok rfl) ?_
      refine wl_q rfl rfl rfl (qt_p tbok rfl) ?_
      refine wl_done ?_
      refine nk_code ?_
      refine wc_seq ?_
      refine wc_region ?_
      refine wl_q rfl rfl rfl (qt_p tbok rfl) ?_
      first | refine wl_q rfl rfl rfl (qt_p tbok rfl) ?_ | refine wl_q rfl rfl rfl (qt_eqn tbok rfl rfl rfl) ?_
      refine wl_q rfl rfl rfl (qt_p tbok rfl) ?_
      first | refine wl_g rfl rfl rfl rfl (qt_p tbok rfl) ?_ | refine wl_skip rfl rfl rfl rfl rfl ?_
      first | refine wl_g rfl rfl rfl rfl (qt_p tbok rfl) ?_ | refine wl_g rfl rfl rfl rfl (qt_eqn tbok rfl rfl rfl) ?_ | refine wl_skip rfl rfl rfl rfl rfl ?_
      refine wl_q rfl rfl rfl (qt_p tbok rfl) ?_
      refine wl_q rfl rfl rfl (qt_p tbok rfl) ?_
      first | refine wl_g rfl rfl rfl rfl (qt_p tbok rfl) ?_ | refine wl_skip rfl rfl rfl rfl rfl ?_
      first | refine wl_g rfl rfl rfl rfl (qt_p tbok rfl) ?_ | refine wl_g rfl rfl rfl rfl (qt_eqn tbok rfl rfl rfl) ?_ | refine wl_skip rfl rfl rfl rfl rfl ?_
      refine wl_q rfl rfl rfl (qt_p tbok rfl) ?_
      refine wl_q rfl rfl rfl (qt_p tbok rfl) ?_
      first | refine wl_g rfl rfl rfl rfl (qt_p tbok rfl) ?_ | refine wl_skip rfl rfl rfl rfl rfl ?_
      first | refine wl_g rfl rfl rfl rfl (qt_p tbok rfl) ?_ | refine wl_g rfl rfl rfl rfl (qt_neqn tbok rfl rfl rfl) ?_ | refine wl_skip rfl rfl rfl rfl rfl ?_
      refine wl_q rfl rfl rfl (qt_p tbok rfl) ?_
      refine wl_q rfl rfl rfl (qt_p tbok rfl) ?_
      first | refine wl_g rfl rfl rfl rfl (qt_p tbok rfl) ?_ | refine wl_skip rfl rfl rfl rfl rfl ?_
      first | refine wl_g rfl rfl rfl rfl (qt_p tbok rfl) ?_ | refine wl_g rfl rfl rfl rfl (qt_eqn tbok rfl rfl rfl) ?_ | refine wl_skip rfl rfl rfl rfl rfl ?_
      refine wl_as (v' := .c (.bool true)) (congrArg (fun b => V.c (C.bool b)) (decide_eq_true rfl)) ?_
      refine wl_q rfl rfl rfl (qt_p tbok rfl) ?_
      refine wl_q rfl rfl rfl (qt_p tbok rfl) ?_
      first | refine wl_g rfl rfl rfl rfl (qt_p tbok rfl) ?_ | refine wl_skip rfl rfl rfl rfl rfl ?_
      refine wl_gd rfl rfl (ef_freshL (B := fun z2 : RL => rbs 32 z2) (I := fun z2 : RL => z2.x = z.x ∧ z2.own) (v := fun z2 : RL => .agg z2.cs) (by kernel_rfl) rfl rfl (fun w1 h1 => by exact root_c (tr := tr) (y := z) (cells_own h1 .here) hzy hzo.pl (RL.lies_own (T := 32) h1 (.there (.there (.there .here))) (.there (.there .here)) (.there .here))) (fun z2 hz2 hz2k => ?_))
      refine wl_g rfl rfl rfl rfl (qt_field_sc (l := z2.cs) (c := .i64 z2.v) tbok rfl rfl rfl rfl rfl rfl) ?_
      refine wl_as (v' := .c (.i64 1)) (congrArg (fun x : Rx => V.c (C.i64 x.v)) (hz2.1.trans hzx)) ?_
      first | refine wl_g rfl rfl rfl rfl (qt_p tbok rfl) ?_ | refine wl_g rfl rfl rfl rfl (qt_eqn tbok rfl rfl rfl) ?_ | refine wl_skip rfl rfl rfl rfl rfl ?_
      refine wl_q rfl rfl rfl (qt_p tbok rfl) ?_
      refine wl_q rfl rfl rfl (qt_p tbok rfl) ?_
      first | refine wl_g rfl rfl rfl rfl (qt_p tbok rfl) ?_ | refine wl_skip rfl rfl rfl rfl rfl ?_
      have hT : ckE z.u z.t.1 [] (List.map (·.1) ([] : List (Mk × Os))) 6 = 131 := (by unfold ckE; rw [show z.u = 5 from congrArg Rx.u hzx]; rfl)
      refine wl_gd rfl rfl (ef_pure (v := .c (.i64 131)) (by kernel_rfl) rfl rfl (fun w1 h1 => by have := tag_c (tr := tr) (y := z) (M := []) (msg := []) (ma := .nil) (la := .nil) (mc := 0) (lc := 0) (now := 6) (cells_own h1 (.there (.there (.there .here)))) hzy (RL.lies_own (T := 32) h1 (.there (.there (.there (.there (.there (.there .here)))))) (.there (.there (.there (.there (.there .here))))) (.there (.there (.there (.there .here))))) cells_none (by decide) (fun x hx => by cases hx) (by decide) cells_none (fun x hx => by cases hx); rwa [hT] at this) ?_)
      first | refine wl_g rfl rfl rfl rfl (qt_p tbok rfl) ?_ | refine wl_g rfl rfl rfl rfl (qt_eqn tbok rfl rfl rfl) ?_ | refine wl_skip rfl rfl rfl rfl rfl ?_
      refine wl_q rfl rfl rfl (qt_p tbok rfl) ?_
      refine wl_q rfl rfl rfl (qt_p tbok rfl) ?_
      refine wl_done ?_
      refine nk_code ?_
      refine wc_ret ?_
      try dsimp only
      exact fin1 rfl (rv_tmp rfl) (fun w' hw => ⟨rfl, hw.all (new_app hz2k (new_app hzk (new_cons (newKey hlb) (new_cons (newKey ht7) (new_cons hkp (new_cons he1k (new_cons (newKey ht4) (new_cons (newKey ht3) (new_cons (newKey hq) (new_cons hky (new_cons hkk new_nil)))))))))))⟩)
end Go.Proofs.Ytjhmcmadleabjaa
