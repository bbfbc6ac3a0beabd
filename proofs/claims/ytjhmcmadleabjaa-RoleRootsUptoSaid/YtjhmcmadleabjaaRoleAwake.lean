/- hallmarklaw16.awake answers true. -/
import Derived.Test.YtjhmcmadleabjaaRole
import Derived.Test.YtjhmcmadleabjaaReckonB
set_option linter.unusedVariables false
set_option maxRecDepth 100000
namespace Go.Proofs.Ytjhmcmadleabjaa
open Go Go.Hw Go.Proofs

/-- The mark of 'a' by a key of height 0. -/
def mk0 (sd : List UInt8) : Mk := ⟨kid (((0 : Nat) : Int), rootT 0 (lvs sd (pw 0))), ((0 : Nat) : Int), sgL sd (UInt32.ofInt ((0 : Nat) : Int)) (wordH ((0 : Nat) : Int) (rootT 0 (lvs sd (pw 0))) ((0 : Nat) : Int) [97]), []⟩
theorem k0_ok {sd : List UInt8} : K32 [(((0 : Nat) : Int), rootT 0 (lvs sd (pw 0)))] := fun k hk => by rw [List.mem_singleton.1 hk]; exact rootT_len 0 (lvs_A _ _) (lvs_len _ _)
theorem mk0_ok (sd : List UInt8) : (mk0 sd).ok := ⟨sha_len _, sgL_A _ _ _, sgL_len _ _ _, (fun s hs => by cases hs), Nat.zero_le _⟩
theorem m0_ok (sd : List UInt8) {p : Os} : ∀ x ∈ [(mk0 sd, p)], x.1.ok := fun x hx => by rw [List.mem_singleton.1 hx]; exact mk0_ok sd
theorem right0 (sd : List UInt8) : rightB 1 [(((0 : Nat) : Int), rootT 0 (lvs sd (pw 0)))] = true := decide_eq_true ⟨by decide, by show (1 : Int) ≤ ((1 : Nat) : Int); decide, by show 1 ≤ 16; decide, fun k hk => by rw [List.mem_singleton.1 hk]; exact ⟨by show (0 : Int) ≤ ((0 : Nat) : Int); decide, by show ((0 : Nat) : Int) ≤ 6; decide⟩, by simp⟩
theorem ver9 : verB ((0 : Nat) : Int) (rootT 0 (lvs sd9 (pw 0))) [98] ((0 : Nat) : Int) (mk0 sd9).ch [] = false := by
  unfold verB
  rw [if_neg (by intro h; rcases h with h | h | h | h | h <;> revert h <;> decide)]
  exact decide_eq_false sd9_ne
theorem meets0 (sd : List UInt8) : meetsB 1 [(((0 : Nat) : Int), rootT 0 (lvs sd (pw 0)))] [97] [mk0 sd] = true := by
  have h : sgd (((0 : Nat) : Int), rootT 0 (lvs sd (pw 0))) [97] [mk0 sd] = true := by
    unfold sgd
    rw [List.any_cons, show (mk0 sd).sg (((0 : Nat) : Int), rootT 0 (lvs sd (pw 0))) [97] = true from sg_yes (decide_eq_true rfl) (ver0 sd 97)]
    rfl
  unfold meetsB cntK
  rw [right0, List.filter_cons, if_pos h]
  rfl
theorem meets1 : meetsB 1 [(((0 : Nat) : Int), rootT 0 (lvs sd9 (pw 0)))] [98] [mk0 sd9] = false := by
  have h : sgd (((0 : Nat) : Int), rootT 0 (lvs sd9 (pw 0))) [98] [mk0 sd9] = false := by
    unfold sgd
    rw [List.any_cons, show (mk0 sd9).sg (((0 : Nat) : Int), rootT 0 (lvs sd9 (pw 0))) [98] = false from sg_no (decide_eq_true rfl) ver9]
    rfl
  unfold meetsB cntK
  rw [right0, List.filter_cons, h]
  rfl
theorem awake16_c {w : World} : CallsV Try.prog 32 [] w fun en w' => en = .returned (V.c (.bool true)).den ∧ St w [] w' := by
  have hrl : (rootT 0 (lvs sd9 (pw 0))).length = 32 := rootT_len 0 (lvs_A _ _) (lvs_len _ _)
  have hkl : (kr (((0 : Nat) : Int), rootT 0 (lvs sd9 (pw 0)))).length = 33 := kr_len hrl
  refine calls_in (tb := tb) (fn := Try.f32) Try.func32 rfl rfl rfl [] rfl [] (St.refl _) ?_
  refine wc_seq ?_
  refine wc_region ?_
  refine wl_q rfl rfl rfl (qt_p tbok rfl) ?_
  refine wl_done ?_
  refine nk_code ?_
  refine wc_seq ?_
  refine wc_region ?_
  refine wl_q rfl rfl rfl (qt_build_arr (vs := [(0, .c (.u8 9))]) (l := bc sd9) tbok rfl zero30 rfl rfl) ?_
  refine wl_ef rfl (ef_fresh2 (by kernel_rfl) rfl rfl (fun w1 h1 => new_c (h := 0) sd9_len (by decide)) (fun ⟨kk, y⟩ hy hky hkk => ?_))
  dsimp only at hy hky hkk
  dsimp only
  refine wl_q rfl rfl rfl (qt_p tbok rfl) ?_
  refine wl_q rfl rfl rfl (qt_p tbok rfl) ?_
  refine wl_q rfl rfl rfl (qt_p tbok rfl) ?_
  refine wl_q rfl rfl rfl (qt_p tbok rfl) ?_
  refine wl_q rfl rfl rfl (qt_p tbok rfl) ?_
  refine wl_done ?_
  refine nk_code ?_
  refine wc_seq ?_
  refine wc_seq ?_
  refine wc_region ?_
  refine wl_q rfl rfl rfl (qt_p tbok rfl) ?_
  first | refine wl_q rfl rfl rfl (qt_p tbok rfl) ?_ | refine wl_q rfl rfl rfl (qt_eqn tbok rfl rfl rfl) ?_
  refine wl_q rfl rfl rfl (qt_p tbok rfl) ?_
  first | refine wl_g rfl rfl rfl rfl (qt_p tbok rfl) ?_ | refine wl_skip rfl rfl rfl rfl rfl ?_
  first | refine wl_g rfl rfl rfl rfl (qt_p tbok rfl) ?_ | refine wl_g rfl rfl rfl rfl (qt_neqn tbok rfl rfl rfl) ?_ | refine wl_skip rfl rfl rfl rfl rfl ?_
  refine wl_q rfl rfl rfl (qt_p tbok rfl) ?_
  refine wl_done ?_
  refine nk_code ?_
  refine wc_no rfl ?_
  refine wc_skip ?_
  refine nk_code ?_
  refine wc_seq ?_
  refine wc_region ?_
  refine wl_q rfl rfl rfl (qt_p tbok rfl) ?_
  refine wl_ef rfl (ef_pure (v := .agg (kr (((0 : Nat) : Int), rootT 0 (lvs sd9 (pw 0))))) (by kernel_rfl) rfl rfl (fun w1 h1 => public_c (h := 0) (nx := 0) sd9_len (by decide) (cells_own h1 (.there .here)) (lvs_A _ _) (lvs_len _ _) (OwnS.le hy) (cells_own h1 .here)) ?_)
  refine wl_ef rfl (ef_buildSlice (vs := [(0, .agg (kr (((0 : Nat) : Int), rootT 0 (lvs sd9 (pw 0)))))]) (l := kr (((0 : Nat) : Int), rootT 0 (lvs sd9 (pw 0)))) tbok rfl zero32 rfl rfl rfl (by decide) (fill_oneN rfl hkl) rfl (fun q hq => ?_))
  refine wl_q rfl rfl rfl (qt_build (vs := [(0, .c (.i64 1)), (1, .c (.slc (.at q 0) 1 1))]) (l := [.i64 1, .slc (.at q 0) 1 1]) tbok rfl zero72 rfl rfl) ?_
  refine wl_ef rfl (ef_alloc zero72 rfl rfl (fun t3 ht3 => ?_))
  refine wl_ef rfl (ef_store (cs' := [.i64 1, .slc (.at q 0) 1 1]) tbok rfl rfl rfl rfl .here rfl (Nat.le_of_ble_eq_true rfl) (spl_all rfl) ?_)
  refine wl_done ?_
  refine nk_code ?_
  refine wc_seq ?_
  refine wc_region ?_
  refine wl_q rfl rfl rfl (qt_p tbok rfl) ?_
  refine wl_ef rfl (ef_buildSlice (vs := [(0, .c (.u8 97))]) (l := [.u8 97]) tbok rfl zero5 rfl rfl rfl (by decide) rfl rfl (fun m1 hm1 => ?_))
  refine wl_ef rfl (ef_conv_bytes tbok rfl rfl rfl rfl .here ?_)
  refine wl_ef rfl (ef_turn1 (b' := fun _ => kb kk sd9 0 y (pw 0) (0 + 1)) (by kernel_rfl) rfl rfl (fun _ => .there (.there (.there (.there .here)))) (fun _ => rfl) (fun w1 h1 => sign26_c (h := 0) (nx := 0) (msg := [97]) sd9_len (by decide) (by decide) (lk_st h1 (.there (.there (.there (.there .here))))) (lvs_A _ _) (lvs_len _ _) (OwnS.le hy) (cells_own h1 (.there (.there (.there .here)))) (own_ne (((h1.tail (newKey hm1)).tail (newKey ht3)).tail (newKey hq)) .here rfl) (cells_own h1 .here) (own_ne h1 (.there (.there (.there .here))) rfl) (by decide)) (fun p hp hkp => ?_))
  refine wl_q rfl rfl rfl (qt_p tbok rfl) ?_
  refine wl_q rfl rfl rfl (qt_p tbok rfl) ?_
  refine wl_q rfl rfl rfl (qt_p tbok rfl) ?_
  refine wl_ef rfl (ef_alloc zero38 rfl rfl (fun t4 ht4 => ?_))
  refine wl_ef rfl (ef_store (cs' := scs ((0 : Nat) : Int) (sigF sd9 0 (lvs sd9 (pw 0)) 0 [97]) p.1 0 p.2.1) tbok rfl rfl rfl rfl .here (scs_len (sigF_len _ _ _ _ _)) (by show 0 + 2146 ≤ z38.length; rw [z38_len]; decide) (spl_all (by show (scs _ _ _ _ _).length = z38.length; rw [scs_len (sigF_len _ _ _ _ _), z38_len])) ?_)
  refine wl_q rfl rfl rfl (qt_p tbok rfl) ?_
  refine wl_done ?_
  refine nk_code ?_
  refine wc_seq ?_
  refine wc_tail 5 follows (by kernel_rfl) ?_
  refine wq_q rfl rfl rfl (qt_p tbok rfl) ?_
  refine wq_call (.agg (kr (((0 : Nat) : Int), rootT 0 (lvs sd9 (pw 0))))) (by kernel_rfl) rfl rfl (fun w1 h1 => public_c (h := 0) (nx := 0 + 1) sd9_len (by decide) (cells_own h1 (.there (.there (.there (.there (.there (.there .here))))))) (lvs_A _ _) (lvs_len _ _) (OwnS.le hy) (cells_own h1 (.there (.there (.there (.there (.there .here))))))) ?_
  refine wq_call (.agg (bc (kid (((0 : Nat) : Int), rootT 0 (lvs sd9 (pw 0)))))) (by kernel_rfl) rfl rfl (fun w1 h1 => id_c hrl) ?_
  refine wq_q rfl rfl rfl (qt_load_ag (l := scs ((0 : Nat) : Int) (sigF sd9 0 (lvs sd9 (pw 0)) 0 [97]) p.1 0 p.2.1) tbok rfl rfl rfl (scs_len (sigF_len _ _ _ _ _)) (rs_lk .here at0)) ?_
  refine wq_q rfl rfl rfl (qt_build (vs := [(0, .agg (bc (kid (((0 : Nat) : Int), rootT 0 (lvs sd9 (pw 0)))))), (1, .agg (scs ((0 : Nat) : Int) (sigF sd9 0 (lvs sd9 (pw 0)) 0 [97]) p.1 0 p.2.1))]) (l := mrow (mk0 sd9, p)) tbok rfl zero84 rfl (mfill (sha_len _) (scs_len (sigF_len _ _ _ _ _)))) ?_
  refine wq_done ?_
  refine wl_ef rfl (ef_buildSlice (vs := [(0, .agg (mrow (mk0 sd9, p)))]) (l := mrow (mk0 sd9, p)) tbok rfl zero84 rfl z2178_len rfl (by decide) (fill_oneN z2178_len (mrow_len (mk0_ok sd9))) rfl (fun lb hlb => ?_))
  refine wl_q rfl rfl rfl (qt_p tbok rfl) ?_
  refine wl_done ?_
  refine nk_code ?_
  refine wc_seq ?_
  refine wc_region ?_
  refine wl_q rfl rfl rfl (qt_p tbok rfl) ?_
  first | refine wl_q rfl rfl rfl (qt_p tbok rfl) ?_ | refine wl_q rfl rfl rfl (qt_eqn tbok rfl rfl rfl) ?_
  refine wl_q rfl rfl rfl (qt_p tbok rfl) ?_
  refine wl_g rfl rfl rfl rfl (qt_load_ag (l := [.i64 1, .slc (.at q 0) 1 1]) tbok rfl rfl rfl rfl (rs_lk (.there (.there (.there (.there .here)))) at0)) ?_
  refine wl_gd rfl rfl (ef_pure (v := .c (.bool true)) (by kernel_rfl) rfl rfl (fun w1 h1 => right0 sd9 ▸ right_c (n := 1) (K := [(((0 : Nat) : Int), rootT 0 (lvs sd9 (pw 0)))]) k0_ok (by have := cells_own h1 (.there (.there (.there (.there (.there .here))))); rwa [show ([(((0 : Nat) : Int), rootT 0 (lvs sd9 (pw 0)))]).flatMap kr = kr (((0 : Nat) : Int), rootT 0 (lvs sd9 (pw 0))) from List.append_nil _])) ?_)
  refine wl_q rfl rfl rfl (qt_p tbok rfl) ?_
  refine wl_q rfl rfl rfl (qt_p tbok rfl) ?_
  refine wl_g rfl rfl rfl rfl (qt_load_ag (l := [.i64 1, .slc (.at q 0) 1 1]) tbok rfl rfl rfl rfl (rs_lk (.there (.there (.there (.there .here)))) at0)) ?_
  refine wl_gd rfl rfl (ef_buildSlice (vs := [(0, .c (.u8 97))]) (l := [.u8 97]) tbok rfl zero5 rfl rfl rfl (by decide) rfl rfl (fun m3 hm3 => ?_))
  refine wl_gd rfl rfl (ef_conv_bytes tbok rfl rfl rfl rfl .here ?_)
  first | refine wl_g rfl rfl rfl rfl (qt_p tbok rfl) ?_ | refine wl_skip rfl rfl rfl rfl rfl ?_
  refine wl_gd rfl rfl (ef_pure (v := .c (.bool true)) (by kernel_rfl) rfl rfl (fun w1 h1 => meets0 sd9 ▸ meets_c (n := 1) (K := [(((0 : Nat) : Int), rootT 0 (lvs sd9 (pw 0)))]) (M := [(mk0 sd9, p)]) (msg := [97]) k0_ok (by decide) (by have := cells_own h1 (.there (.there (.there (.there (.there (.there .here)))))); rwa [show ([(((0 : Nat) : Int), rootT 0 (lvs sd9 (pw 0)))]).flatMap kr = kr (((0 : Nat) : Int), rootT 0 (lvs sd9 (pw 0))) from List.append_nil _]) (cells_own h1 .here) (by decide) (m0_ok sd9) (by show 1 ≤ 1073741824; decide) (by have := cells_own h1 (.there .here); rwa [show [(mk0 sd9, p)].flatMap mrow = mrow (mk0 sd9, p) from List.append_nil _]) (fun x hx => by rw [List.mem_singleton.1 hx]; exact ⟨cells_none, Nat.zero_le _⟩)) ?_)
  refine wl_q rfl rfl rfl (qt_p tbok rfl) ?_
  refine wl_q rfl rfl rfl (qt_p tbok rfl) ?_
  refine wl_g rfl rfl rfl rfl (qt_load_ag (l := [.i64 1, .slc (.at q 0) 1 1]) tbok rfl rfl rfl rfl (rs_lk (.there (.there (.there (.there (.there .here))))) at0)) ?_
  refine wl_gd rfl rfl (ef_buildSlice (vs := [(0, .c (.u8 98))]) (l := [.u8 98]) tbok rfl zero5 rfl rfl rfl (by decide) rfl rfl (fun m4 hm4 => ?_))
  refine wl_gd rfl rfl (ef_conv_bytes tbok rfl rfl rfl rfl .here ?_)
  first | refine wl_g rfl rfl rfl rfl (qt_p tbok rfl) ?_ | refine wl_skip rfl rfl rfl rfl rfl ?_
  refine wl_gd rfl rfl (ef_pure (v := .c (.bool false)) (by kernel_rfl) rfl rfl (fun w1 h1 => meets1 ▸ meets_c (n := 1) (K := [(((0 : Nat) : Int), rootT 0 (lvs sd9 (pw 0)))]) (M := [(mk0 sd9, p)]) (msg := [98]) k0_ok (by decide) (by have := cells_own h1 (.there (.there (.there (.there (.there (.there (.there .here))))))); rwa [show ([(((0 : Nat) : Int), rootT 0 (lvs sd9 (pw 0)))]).flatMap kr = kr (((0 : Nat) : Int), rootT 0 (lvs sd9 (pw 0))) from List.append_nil _]) (cells_own h1 .here) (by decide) (m0_ok sd9) (by show 1 ≤ 1073741824; decide) (by have := cells_own h1 (.there (.there .here)); rwa [show [(mk0 sd9, p)].flatMap mrow = mrow (mk0 sd9, p) from List.append_nil _]) (fun x hx => by rw [List.mem_singleton.1 hx]; exact ⟨cells_none, Nat.zero_le _⟩)) ?_)
  first | refine wl_g rfl rfl rfl rfl (qt_p tbok rfl) ?_ | refine wl_skip rfl rfl rfl rfl rfl ?_
  refine wl_q rfl rfl rfl (qt_p tbok rfl) ?_
  refine wl_q rfl rfl rfl (qt_p tbok rfl) ?_
  refine wl_done ?_
  refine nk_code ?_
  refine wc_ret ?_
  try dsimp only
  exact fin1 rfl (rv_tmp rfl) (fun w' hw => ⟨rfl, hw.all (new_cons (newKey hm4) (new_cons (newKey hm3) (new_cons (newKey hlb) (new_cons (newKey ht4) (new_cons hkp (new_cons (newKey hm1) (new_cons (newKey ht3) (new_cons (newKey hq) (new_cons hky (new_cons hkk new_nil))))))))))⟩)
end Go.Proofs.Ytjhmcmadleabjaa
