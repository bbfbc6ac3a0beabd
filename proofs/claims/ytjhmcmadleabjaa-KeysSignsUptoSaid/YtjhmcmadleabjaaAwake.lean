/- hallmarklaw05.awake answers true; to and from copy a signature. -/
import Derived.Test.YtjhmcmadleabjaaVerify
import Derived.Test.YtjhmcmadleabjaaReckon
import Derived.Test.YtjhmcmadleabjaaFrameB
set_option linter.unusedVariables false
set_option maxRecDepth 100000
namespace Go.Proofs.Ytjhmcmadleabjaa
open Go Go.Hw Go.Proofs

theorem own_ne {w0 w : World} {s : Hp} {b c : Blk} {r : Nat} (h : St w0 (b :: s) w) (hl : Lk s c) (hr : c.key = some r) : b.key ≠ some r := fun e => by
  have := off_key_ne h hl ⟨r, e⟩
  rw [e, hr] at this; exact this rfl
theorem cells_none {w : World} {a : Ad} : Cells w a [] := by
  cases a with
  | nil => rfl
  | raw _ => rfl
  | «at» r o => exact fun i c h => by simp at h

/-- What a key of height 0 signed is taken, whatever the message. -/
theorem ver0 (sd : List UInt8) (m : UInt8) : verB ((0 : Nat) : Int) (rootT 0 (lvs sd (pw 0))) [m] ((0 : Nat) : Int) (sgL sd (UInt32.ofInt ((0 : Nat) : Int)) (wordH ((0 : Nat) : Int) (rootT 0 (lvs sd (pw 0))) ((0 : Nat) : Int) [m])) [] = true := by
  unfold verB
  rw [if_neg (by intro h; rcases h with h | h | h | h | h <;> revert h <;> decide)]
  rw [rec_sign]
  exact decide_eq_true rfl
theorem ver1 : verB ((0 : Nat) : Int) (rootT 0 (lvs sd1 (pw 0))) [98] ((0 : Nat) : Int) (sgL sd1 (UInt32.ofInt ((0 : Nat) : Int)) (wordH ((0 : Nat) : Int) (rootT 0 (lvs sd1 (pw 0))) ((0 : Nat) : Int) [97])) [] = false := by
  unfold verB
  rw [if_neg (by intro h; rcases h with h | h | h | h | h <;> revert h <;> decide)]
  exact decide_eq_false sd1_ne

theorem awake_c {w : World} : CallsV Try.prog 15 [] w fun en w' => en = .returned (V.c (.bool true)).den ∧ St w [] w' := by
  refine calls_in (tb := tb) (fn := Try.f15) Try.func15 rfl rfl rfl [] rfl [] (St.refl _) ?_
  refine wc_seq ?_
  refine wc_region ?_
  refine wl_ef rfl (ef_q rfl rfl (qt_pure tbok rfl (by first | exact trivial | omega | exact ⟨by decide, by decide⟩ | (refine ⟨?_, ?_⟩ <;> omega) | (refine ⟨?_, ?_, ?_⟩ <;> omega))) ?_)
  refine wl_done ?_
  refine nk_code ?_
  refine wc_seq ?_
  refine wc_region ?_
  refine wl_ef rfl (ef_q rfl rfl (qt_build_arr (vs := [(0, .c (.u8 1))]) (l := bc sd1) tbok rfl zero30 rfl rfl) ?_)
  refine wl_ef rfl (ef_fresh2 (by kernel_rfl) rfl rfl (fun w1 h1 => new_c (h := 0) sd1_len (by decide)) (fun ⟨kr, y⟩ hy hky hkk => ?_))
  dsimp only at hy hky hkk
  dsimp only
  refine wl_ef rfl (ef_q rfl rfl (qt_pure tbok rfl (by first | exact trivial | omega | exact ⟨by decide, by decide⟩ | (refine ⟨?_, ?_⟩ <;> omega) | (refine ⟨?_, ?_, ?_⟩ <;> omega))) ?_)
  refine wl_ef rfl (ef_q rfl rfl (qt_pure tbok rfl (by first | exact trivial | omega | exact ⟨by decide, by decide⟩ | (refine ⟨?_, ?_⟩ <;> omega) | (refine ⟨?_, ?_, ?_⟩ <;> omega))) ?_)
  refine wl_ef rfl (ef_q rfl rfl (qt_pure tbok rfl (by first | exact trivial | omega | exact ⟨by decide, by decide⟩ | (refine ⟨?_, ?_⟩ <;> omega) | (refine ⟨?_, ?_, ?_⟩ <;> omega))) ?_)
  refine wl_ef rfl (ef_q rfl rfl (qt_pure tbok rfl (by first | exact trivial | omega | exact ⟨by decide, by decide⟩ | (refine ⟨?_, ?_⟩ <;> omega) | (refine ⟨?_, ?_, ?_⟩ <;> omega))) ?_)
  refine wl_ef rfl (ef_q rfl rfl (qt_pure tbok rfl (by first | exact trivial | omega | exact ⟨by decide, by decide⟩ | (refine ⟨?_, ?_⟩ <;> omega) | (refine ⟨?_, ?_, ?_⟩ <;> omega))) ?_)
  refine wl_done ?_
  refine nk_code ?_
  refine wc_seq ?_
  refine wc_seq ?_
  refine wc_region ?_
  refine wl_ef rfl (ef_q rfl rfl (qt_pure tbok rfl (by first | exact trivial | omega | exact ⟨by decide, by decide⟩ | (refine ⟨?_, ?_⟩ <;> omega) | (refine ⟨?_, ?_, ?_⟩ <;> omega))) ?_)
  first | refine wl_ef rfl (ef_q rfl rfl (qt_pure tbok rfl (by first | exact trivial | omega | exact ⟨by decide, by decide⟩ | (refine ⟨?_, ?_⟩ <;> omega) | (refine ⟨?_, ?_, ?_⟩ <;> omega))) ?_) | refine wl_ef rfl (ef_q rfl rfl (qt_neqn tbok rfl rfl rfl) ?_)
  refine wl_ef rfl (ef_q rfl rfl (qt_pure tbok rfl (by first | exact trivial | omega | exact ⟨by decide, by decide⟩ | (refine ⟨?_, ?_⟩ <;> omega) | (refine ⟨?_, ?_, ?_⟩ <;> omega))) ?_)
  first | refine wl_gd rfl rfl (ef_q rfl rfl (qt_pure tbok rfl (by first | exact trivial | omega | exact ⟨by decide, by decide⟩ | (refine ⟨?_, ?_⟩ <;> omega) | (refine ⟨?_, ?_, ?_⟩ <;> omega))) ?_) | refine wl_skip rfl rfl rfl rfl rfl ?_
  first | refine wl_gd rfl rfl (ef_q rfl rfl (qt_pure tbok rfl (by first | exact trivial | omega | exact ⟨by decide, by decide⟩ | (refine ⟨?_, ?_⟩ <;> omega) | (refine ⟨?_, ?_, ?_⟩ <;> omega))) ?_) | refine wl_gd rfl rfl (ef_q rfl rfl (qt_eqn tbok rfl rfl rfl) ?_) | refine wl_skip rfl rfl rfl rfl rfl ?_
  refine wl_ef rfl (ef_q rfl rfl (qt_pure tbok rfl (by first | exact trivial | omega | exact ⟨by decide, by decide⟩ | (refine ⟨?_, ?_⟩ <;> omega) | (refine ⟨?_, ?_, ?_⟩ <;> omega))) ?_)
  refine wl_ef rfl (ef_q rfl rfl (qt_pure tbok rfl (by first | exact trivial | omega | exact ⟨by decide, by decide⟩ | (refine ⟨?_, ?_⟩ <;> omega) | (refine ⟨?_, ?_, ?_⟩ <;> omega))) ?_)
  first | refine wl_gd rfl rfl (ef_q rfl rfl (qt_pure tbok rfl (by first | exact trivial | omega | exact ⟨by decide, by decide⟩ | (refine ⟨?_, ?_⟩ <;> omega) | (refine ⟨?_, ?_, ?_⟩ <;> omega))) ?_) | refine wl_skip rfl rfl rfl rfl rfl ?_
  refine wl_gd rfl rfl (ef_pure (v := .c (.i64 ((pw 0 - 0 : Nat) : Int))) (by kernel_rfl) rfl rfl (fun w1 h1 => left_c (h := 0) sd1_len (by decide) (by decide) (cells_own h1 (.there .here))) ?_)
  first | refine wl_gd rfl rfl (ef_q rfl rfl (qt_pure tbok rfl (by first | exact trivial | omega | exact ⟨by decide, by decide⟩ | (refine ⟨?_, ?_⟩ <;> omega) | (refine ⟨?_, ?_, ?_⟩ <;> omega))) ?_) | refine wl_gd rfl rfl (ef_q rfl rfl (qt_neqn tbok rfl rfl rfl) ?_) | refine wl_skip rfl rfl rfl rfl rfl ?_
  refine wl_ef rfl (ef_q rfl rfl (qt_pure tbok rfl (by first | exact trivial | omega | exact ⟨by decide, by decide⟩ | (refine ⟨?_, ?_⟩ <;> omega) | (refine ⟨?_, ?_, ?_⟩ <;> omega))) ?_)
  refine wl_done ?_
  refine nk_code ?_
  refine wc_no rfl ?_
  refine wc_skip ?_
  refine nk_code ?_
  refine wc_seq ?_
  refine wc_region ?_
  refine wl_ef rfl (ef_q rfl rfl (qt_pure tbok rfl (by first | exact trivial | omega | exact ⟨by decide, by decide⟩ | (refine ⟨?_, ?_⟩ <;> omega) | (refine ⟨?_, ?_, ?_⟩ <;> omega))) ?_)
  refine wl_ef rfl (ef_buildSlice (vs := [(0, .c (.u8 97))]) (l := [.u8 97]) tbok rfl zero5 rfl rfl rfl (by decide) rfl rfl (fun m1 hm1 => ?_))
  refine wl_ef rfl (ef_conv_bytes tbok rfl rfl rfl rfl .here ?_)
  refine wl_ef rfl (ef_turn1 (b' := fun _ => kb kr sd1 0 y (pw 0) (0 + 1)) (by kernel_rfl) rfl rfl (fun _ => .there (.there .here)) (fun _ => rfl) (fun w1 h1 => sign26_c (h := 0) (nx := 0) (msg := [97]) sd1_len (by decide) (by decide) (lk_st h1 (.there (.there .here))) (lvs_A _ _) (lvs_len _ _) (OwnS.le hy) (cells_own h1 (.there .here)) (own_ne (h1.tail (newKey hm1)) .here rfl) (cells_own h1 .here) (own_ne h1 (.there .here) rfl) (by decide)) (fun p hp hkp => ?_))
  refine wl_ef rfl (ef_q rfl rfl (qt_pure tbok rfl (by first | exact trivial | omega | exact ⟨by decide, by decide⟩ | (refine ⟨?_, ?_⟩ <;> omega) | (refine ⟨?_, ?_, ?_⟩ <;> omega))) ?_)
  refine wl_ef rfl (ef_q rfl rfl (qt_pure tbok rfl (by first | exact trivial | omega | exact ⟨by decide, by decide⟩ | (refine ⟨?_, ?_⟩ <;> omega) | (refine ⟨?_, ?_, ?_⟩ <;> omega))) ?_)
  refine wl_ef rfl (ef_q rfl rfl (qt_pure tbok rfl (by first | exact trivial | omega | exact ⟨by decide, by decide⟩ | (refine ⟨?_, ?_⟩ <;> omega) | (refine ⟨?_, ?_, ?_⟩ <;> omega))) ?_)
  refine wl_ef rfl (ef_alloc zero38 rfl rfl (fun t3 ht3 => ?_))
  refine wl_ef rfl (ef_store (cs' := scs ((0 : Nat) : Int) (sigF sd1 0 (lvs sd1 (pw 0)) 0 [97]) p.1 0 p.2.1) tbok rfl rfl rfl rfl .here (scs_len (sigF_len _ _ _ _ _)) (by show 0 + 2146 ≤ z38.length; rw [z38_len]; decide) (spl_all (by show (scs _ _ _ _ _).length = z38.length; rw [scs_len (sigF_len _ _ _ _ _), z38_len])) ?_)
  refine wl_ef rfl (ef_q rfl rfl (qt_pure tbok rfl (by first | exact trivial | omega | exact ⟨by decide, by decide⟩ | (refine ⟨?_, ?_⟩ <;> omega) | (refine ⟨?_, ?_, ?_⟩ <;> omega))) ?_)
  refine wl_done ?_
  refine nk_code ?_
  refine wc_seq ?_
  refine wc_region ?_
  refine wl_ef rfl (ef_q rfl rfl (qt_pure tbok rfl (by first | exact trivial | omega | exact ⟨by decide, by decide⟩ | (refine ⟨?_, ?_⟩ <;> omega) | (refine ⟨?_, ?_, ?_⟩ <;> omega))) ?_)
  refine wl_ef rfl (ef_buildSlice (vs := [(0, .c (.u8 98))]) (l := [.u8 98]) tbok rfl zero5 rfl rfl rfl (by decide) rfl rfl (fun m2 hm2 => ?_))
  refine wl_ef rfl (ef_conv_bytes tbok rfl rfl rfl rfl .here ?_)
  refine wl_ef rfl (ef_pure (v := .t2 (.agg z38) (.c (.i64 50))) (by kernel_rfl) rfl rfl (fun w1 h1 => sigspent_c (h := 0) (m := pw 0) sd1_len (by decide) (cells_own h1 (.there (.there (.there (.there (.there .here)))))))  ?_)
  refine wl_ef rfl (ef_q rfl rfl (qt_pure tbok rfl (by first | exact trivial | omega | exact ⟨by decide, by decide⟩ | (refine ⟨?_, ?_⟩ <;> omega) | (refine ⟨?_, ?_, ?_⟩ <;> omega))) ?_)
  refine wl_ef rfl (ef_q rfl rfl (qt_pure tbok rfl (by first | exact trivial | omega | exact ⟨by decide, by decide⟩ | (refine ⟨?_, ?_⟩ <;> omega) | (refine ⟨?_, ?_, ?_⟩ <;> omega))) ?_)
  refine wl_ef rfl (ef_q rfl rfl (qt_pure tbok rfl (by first | exact trivial | omega | exact ⟨by decide, by decide⟩ | (refine ⟨?_, ?_⟩ <;> omega) | (refine ⟨?_, ?_, ?_⟩ <;> omega))) ?_)
  refine wl_ef rfl (ef_alloc zero38 rfl rfl (fun t5 ht5 => ?_))
  refine wl_ef rfl (ef_store (cs' := z38) tbok rfl rfl rfl rfl .here z38_len (by show 0 + 2146 ≤ z38.length; rw [z38_len]; decide) (spl_all rfl) ?_)
  refine wl_ef rfl (ef_q rfl rfl (qt_pure tbok rfl (by first | exact trivial | omega | exact ⟨by decide, by decide⟩ | (refine ⟨?_, ?_⟩ <;> omega) | (refine ⟨?_, ?_, ?_⟩ <;> omega))) ?_)
  have hS : ∀ w', St w [⟨.at t5 0, z38, 38, (0, 0), []⟩, ⟨.at m2 0, [C.u8 98], 5, (1, 2), []⟩, ⟨.at t3 0, scs ((0 : Nat) : Int) (sigF sd1 0 (lvs sd1 (pw 0)) 0 [97]) p.1 0 p.2.1, 38, (0, 0), []⟩, dob 30 (pathT 0 0 (lvs sd1 (pw 0))) p, ⟨.at m1 0, [C.u8 97], 5, (1, 2), []⟩, dob 30 (lvs sd1 (pw 0)) y, kb kr sd1 0 y (pw 0) (0 + 1)] w' → St w [⟨.at t5 0, z38, 38, (0, 0), []⟩, ⟨.at m2 0, [C.u8 98], 5, (1, 2), []⟩, ⟨.at t3 0, scs ((0 : Nat) : Int) (sigF sd1 0 (lvs sd1 (pw 0)) 0 [97]) p.1 0 p.2.1, 38, (0, 0), []⟩, dob 30 (pathT 0 0 (lvs sd1 (pw 0))) p, ⟨.at m1 0, [C.u8 97], 5, (1, 2), []⟩, dob 30 (lvs sd1 (pw 0)) y, kb kr sd1 0 y (pw 0) (0 + 1)] w' := fun _ h => h
  refine wl_done ?_
  refine nk_code ?_
  refine wc_seq ?_
  refine wc_draw (s0 := [⟨.at t5 0, z38, 38, (0, 0), []⟩, ⟨.at m2 0, [C.u8 98], 5, (1, 2), []⟩, ⟨.at t3 0, scs ((0 : Nat) : Int) (sigF sd1 0 (lvs sd1 (pw 0)) 0 [97]) p.1 0 p.2.1, 38, (0, 0), []⟩, dob 30 (pathT 0 0 (lvs sd1 (pw 0))) p, ⟨.at m1 0, [C.u8 97], 5, (1, 2), []⟩, dob 30 (lvs sd1 (pw 0)) y, kb kr sd1 0 y (pw 0) (0 + 1)]) 24 follows ?_
  refine wh_q 0 rfl (by kernel_rfl) rfl rfl rfl (qt_pure tbok rfl (by first | exact trivial | omega | exact ⟨by decide, by decide⟩ | (refine ⟨?_, ?_⟩ <;> omega) | (refine ⟨?_, ?_, ?_⟩ <;> omega))) (hS) ?_
  first | refine wh_q 1 rfl (by kernel_rfl) rfl rfl rfl (qt_pure tbok rfl (by first | exact trivial | omega | exact ⟨by decide, by decide⟩ | (refine ⟨?_, ?_⟩ <;> omega) | (refine ⟨?_, ?_, ?_⟩ <;> omega))) (hS) ?_ | refine wh_q 1 rfl (by kernel_rfl) rfl rfl rfl (qt_eqn tbok rfl rfl rfl) (hS) ?_
  refine wh_q 2 rfl (by kernel_rfl) rfl rfl rfl (qt_pure tbok rfl (by first | exact trivial | omega | exact ⟨by decide, by decide⟩ | (refine ⟨?_, ?_⟩ <;> omega) | (refine ⟨?_, ?_, ?_⟩ <;> omega))) (hS) ?_
  first | refine wh_gd 3 rfl (by kernel_rfl) rfl rfl rfl rfl (qt_pure tbok rfl (by first | exact trivial | omega | exact ⟨by decide, by decide⟩ | (refine ⟨?_, ?_⟩ <;> omega) | (refine ⟨?_, ?_, ?_⟩ <;> omega))) (hS) ?_ | refine wh_skip 3 rfl (by kernel_rfl) rfl rfl rfl rfl rfl (hS) ?_
  first | refine wh_gd 4 rfl (by kernel_rfl) rfl rfl rfl rfl (qt_pure tbok rfl (by first | exact trivial | omega | exact ⟨by decide, by decide⟩ | (refine ⟨?_, ?_⟩ <;> omega) | (refine ⟨?_, ?_, ?_⟩ <;> omega))) (hS) ?_ | refine wh_gd 4 rfl (by kernel_rfl) rfl rfl rfl rfl (qt_eqn tbok rfl rfl rfl) (hS) ?_ | refine wh_skip 4 rfl (by kernel_rfl) rfl rfl rfl rfl rfl (hS) ?_
  refine wh_q 5 rfl (by kernel_rfl) rfl rfl rfl (qt_pure tbok rfl (by first | exact trivial | omega | exact ⟨by decide, by decide⟩ | (refine ⟨?_, ?_⟩ <;> omega) | (refine ⟨?_, ?_, ?_⟩ <;> omega))) (hS) ?_
  refine wh_q 6 rfl (by kernel_rfl) rfl rfl rfl (qt_pure tbok rfl (by first | exact trivial | omega | exact ⟨by decide, by decide⟩ | (refine ⟨?_, ?_⟩ <;> omega) | (refine ⟨?_, ?_, ?_⟩ <;> omega))) (hS) ?_
  first | refine wh_gd 7 rfl (by kernel_rfl) rfl rfl rfl rfl (qt_pure tbok rfl (by first | exact trivial | omega | exact ⟨by decide, by decide⟩ | (refine ⟨?_, ?_⟩ <;> omega) | (refine ⟨?_, ?_, ?_⟩ <;> omega))) (hS) ?_ | refine wh_skip 7 rfl (by kernel_rfl) rfl rfl rfl rfl rfl (hS) ?_
  refine wh_gd 11 rfl (by kernel_rfl) rfl rfl rfl rfl (qt_load_ag (l := scs ((0 : Nat) : Int) (sigF sd1 0 (lvs sd1 (pw 0)) 0 [97]) p.1 0 p.2.1) tbok rfl rfl rfl (scs_len (sigF_len _ _ _ _ _)) (rs_lk (.there (.there .here)) at0)) (hS) ?_
  refine wh_two 8 9 (by kernel_rfl) ?_ ?_
  · refine wo_efg rfl rfl rfl (ef_pure (v := .agg (.i64 ((0 : Nat) : Int) :: bc (rootT 0 (lvs sd1 (pw 0))))) (by kernel_rfl) rfl rfl (fun w1 h1 => public_c (h := 0) (nx := 0 + 1) sd1_len (by decide) (cells_own (hS w1 h1) (.there (.there (.there (.there (.there (.there .here))))))) (lvs_A _ _) (lvs_len _ _) (OwnS.le hy) (cells_own (hS w1 h1) (.there (.there (.there (.there (.there .here))))))) ⟨hS, ?_⟩)
    refine wh_one 9 (by kernel_rfl) (wo_efg rfl rfl rfl (ef_buildSlice (vs := [(0, .c (.u8 97))]) (l := [.u8 97]) tbok rfl zero5 rfl rfl rfl (by decide) rfl rfl (fun m3 hm3 => ⟨fun w hw => hw.tail (newKey hm3), ?_⟩)))
    have hS : ∀ w', St w (⟨.at m3 0, [C.u8 97], 5, (0, 0), []⟩ :: [⟨.at t5 0, z38, 38, (0, 0), []⟩, ⟨.at m2 0, [C.u8 98], 5, (1, 2), []⟩, ⟨.at t3 0, scs ((0 : Nat) : Int) (sigF sd1 0 (lvs sd1 (pw 0)) 0 [97]) p.1 0 p.2.1, 38, (0, 0), []⟩, dob 30 (pathT 0 0 (lvs sd1 (pw 0))) p, ⟨.at m1 0, [C.u8 97], 5, (1, 2), []⟩, dob 30 (lvs sd1 (pw 0)) y, kb kr sd1 0 y (pw 0) (0 + 1)]) w' → St w [⟨.at t5 0, z38, 38, (0, 0), []⟩, ⟨.at m2 0, [C.u8 98], 5, (1, 2), []⟩, ⟨.at t3 0, scs ((0 : Nat) : Int) (sigF sd1 0 (lvs sd1 (pw 0)) 0 [97]) p.1 0 p.2.1, 38, (0, 0), []⟩, dob 30 (pathT 0 0 (lvs sd1 (pw 0))) p, ⟨.at m1 0, [C.u8 97], 5, (1, 2), []⟩, dob 30 (lvs sd1 (pw 0)) y, kb kr sd1 0 y (pw 0) (0 + 1)] w' := fun _ h => h.tail (newKey hm3)
    refine wh_one 10 (by kernel_rfl) (wo_efg rfl rfl rfl (ef_conv_bytes tbok rfl rfl rfl rfl .here ⟨fun w hw => hw.tail (newKey hm3), ?_⟩))
    have hS : ∀ w', St w (⟨.at m3 0, [C.u8 97], 5, (1, 2), []⟩ :: [⟨.at t5 0, z38, 38, (0, 0), []⟩, ⟨.at m2 0, [C.u8 98], 5, (1, 2), []⟩, ⟨.at t3 0, scs ((0 : Nat) : Int) (sigF sd1 0 (lvs sd1 (pw 0)) 0 [97]) p.1 0 p.2.1, 38, (0, 0), []⟩, dob 30 (pathT 0 0 (lvs sd1 (pw 0))) p, ⟨.at m1 0, [C.u8 97], 5, (1, 2), []⟩, dob 30 (lvs sd1 (pw 0)) y, kb kr sd1 0 y (pw 0) (0 + 1)]) w' → St w [⟨.at t5 0, z38, 38, (0, 0), []⟩, ⟨.at m2 0, [C.u8 98], 5, (1, 2), []⟩, ⟨.at t3 0, scs ((0 : Nat) : Int) (sigF sd1 0 (lvs sd1 (pw 0)) 0 [97]) p.1 0 p.2.1, 38, (0, 0), []⟩, dob 30 (pathT 0 0 (lvs sd1 (pw 0))) p, ⟨.at m1 0, [C.u8 97], 5, (1, 2), []⟩, dob 30 (lvs sd1 (pw 0)) y, kb kr sd1 0 y (pw 0) (0 + 1)] w' := fun _ h => h.tail (newKey hm3)
    refine wh_one 12 (by kernel_rfl) (wo_efg rfl rfl rfl (ef_pure (v := .c (.bool (verB ((0 : Nat) : Int) (rootT 0 (lvs sd1 (pw 0))) [97] ((0 : Nat) : Int) (sgL sd1 (UInt32.ofInt ((0 : Nat) : Int)) (wordH ((0 : Nat) : Int) (rootT 0 (lvs sd1 (pw 0))) ((0 : Nat) : Int) [97])) []))) (by kernel_rfl) rfl rfl (fun w1 h1 => ver16_c (P := []) (msg := [97]) (rootT_len 0 (lvs_A _ _) (lvs_len _ _)) (sgL_A _ _ _) (sgL_len _ _ _) (by intro s hs; cases hs) (Nat.zero_le _) cells_none (cells_own h1 .here) (by decide)) ⟨hS, ?_⟩))
    refine wh_as (v' := .c (.bool true)) (congrArg (fun b => V.c (C.bool b)) (ver0 sd1 97)) ?_
    refine wh_q 13 rfl (by kernel_rfl) rfl rfl rfl (qt_pure tbok rfl (by first | exact trivial | omega | exact ⟨by decide, by decide⟩ | (refine ⟨?_, ?_⟩ <;> omega) | (refine ⟨?_, ?_, ?_⟩ <;> omega))) (hS) ?_
    refine wh_q 14 rfl (by kernel_rfl) rfl rfl rfl (qt_pure tbok rfl (by first | exact trivial | omega | exact ⟨by decide, by decide⟩ | (refine ⟨?_, ?_⟩ <;> omega) | (refine ⟨?_, ?_, ?_⟩ <;> omega))) (hS) ?_
    first | refine wh_gd 15 rfl (by kernel_rfl) rfl rfl rfl rfl (qt_pure tbok rfl (by first | exact trivial | omega | exact ⟨by decide, by decide⟩ | (refine ⟨?_, ?_⟩ <;> omega) | (refine ⟨?_, ?_, ?_⟩ <;> omega))) (hS) ?_ | refine wh_skip 15 rfl (by kernel_rfl) rfl rfl rfl rfl rfl (hS) ?_
    refine wh_gd 19 rfl (by kernel_rfl) rfl rfl rfl rfl (qt_load_ag (l := scs ((0 : Nat) : Int) (sigF sd1 0 (lvs sd1 (pw 0)) 0 [97]) p.1 0 p.2.1) tbok rfl rfl rfl (scs_len (sigF_len _ _ _ _ _)) (rs_lk (.there (.there .here)) at0)) (hS) ?_
    refine wh_two 16 17 (by kernel_rfl) ?_ ?_
    · refine wo_efg rfl rfl rfl (ef_pure (v := .agg (.i64 ((0 : Nat) : Int) :: bc (rootT 0 (lvs sd1 (pw 0))))) (by kernel_rfl) rfl rfl (fun w1 h1 => public_c (h := 0) (nx := 0 + 1) sd1_len (by decide) (cells_own (hS w1 h1) (.there (.there (.there (.there (.there (.there .here))))))) (lvs_A _ _) (lvs_len _ _) (OwnS.le hy) (cells_own (hS w1 h1) (.there (.there (.there (.there (.there .here))))))) ⟨hS, ?_⟩)
      refine wh_one 17 (by kernel_rfl) (wo_efg rfl rfl rfl (ef_buildSlice (vs := [(0, .c (.u8 98))]) (l := [.u8 98]) tbok rfl zero5 rfl rfl rfl (by decide) rfl rfl (fun m4 hm4 => ⟨fun w hw => (hw.tail (newKey hm4)).tail (newKey hm3), ?_⟩)))
      have hS : ∀ w', St w (⟨.at m4 0, [C.u8 98], 5, (0, 0), []⟩ :: ⟨.at m3 0, [C.u8 97], 5, (1, 2), []⟩ :: [⟨.at t5 0, z38, 38, (0, 0), []⟩, ⟨.at m2 0, [C.u8 98], 5, (1, 2), []⟩, ⟨.at t3 0, scs ((0 : Nat) : Int) (sigF sd1 0 (lvs sd1 (pw 0)) 0 [97]) p.1 0 p.2.1, 38, (0, 0), []⟩, dob 30 (pathT 0 0 (lvs sd1 (pw 0))) p, ⟨.at m1 0, [C.u8 97], 5, (1, 2), []⟩, dob 30 (lvs sd1 (pw 0)) y, kb kr sd1 0 y (pw 0) (0 + 1)]) w' → St w [⟨.at t5 0, z38, 38, (0, 0), []⟩, ⟨.at m2 0, [C.u8 98], 5, (1, 2), []⟩, ⟨.at t3 0, scs ((0 : Nat) : Int) (sigF sd1 0 (lvs sd1 (pw 0)) 0 [97]) p.1 0 p.2.1, 38, (0, 0), []⟩, dob 30 (pathT 0 0 (lvs sd1 (pw 0))) p, ⟨.at m1 0, [C.u8 97], 5, (1, 2), []⟩, dob 30 (lvs sd1 (pw 0)) y, kb kr sd1 0 y (pw 0) (0 + 1)] w' := fun _ h => (h.tail (newKey hm4)).tail (newKey hm3)
      refine wh_one 18 (by kernel_rfl) (wo_efg rfl rfl rfl (ef_conv_bytes tbok rfl rfl rfl rfl .here ⟨fun w hw => (hw.tail (newKey hm4)).tail (newKey hm3), ?_⟩))
      have hS : ∀ w', St w (⟨.at m4 0, [C.u8 98], 5, (1, 2), []⟩ :: ⟨.at m3 0, [C.u8 97], 5, (1, 2), []⟩ :: [⟨.at t5 0, z38, 38, (0, 0), []⟩, ⟨.at m2 0, [C.u8 98], 5, (1, 2), []⟩, ⟨.at t3 0, scs ((0 : Nat) : Int) (sigF sd1 0 (lvs sd1 (pw 0)) 0 [97]) p.1 0 p.2.1, 38, (0, 0), []⟩, dob 30 (pathT 0 0 (lvs sd1 (pw 0))) p, ⟨.at m1 0, [C.u8 97], 5, (1, 2), []⟩, dob 30 (lvs sd1 (pw 0)) y, kb kr sd1 0 y (pw 0) (0 + 1)]) w' → St w [⟨.at t5 0, z38, 38, (0, 0), []⟩, ⟨.at m2 0, [C.u8 98], 5, (1, 2), []⟩, ⟨.at t3 0, scs ((0 : Nat) : Int) (sigF sd1 0 (lvs sd1 (pw 0)) 0 [97]) p.1 0 p.2.1, 38, (0, 0), []⟩, dob 30 (pathT 0 0 (lvs sd1 (pw 0))) p, ⟨.at m1 0, [C.u8 97], 5, (1, 2), []⟩, dob 30 (lvs sd1 (pw 0)) y, kb kr sd1 0 y (pw 0) (0 + 1)] w' := fun _ h => (h.tail (newKey hm4)).tail (newKey hm3)
      refine wh_one 20 (by kernel_rfl) (wo_efg rfl rfl rfl (ef_pure (v := .c (.bool (verB ((0 : Nat) : Int) (rootT 0 (lvs sd1 (pw 0))) [98] ((0 : Nat) : Int) (sgL sd1 (UInt32.ofInt ((0 : Nat) : Int)) (wordH ((0 : Nat) : Int) (rootT 0 (lvs sd1 (pw 0))) ((0 : Nat) : Int) [97])) []))) (by kernel_rfl) rfl rfl (fun w1 h1 => ver16_c (P := []) (msg := [98]) (rootT_len 0 (lvs_A _ _) (lvs_len _ _)) (sgL_A _ _ _) (sgL_len _ _ _) (by intro s hs; cases hs) (Nat.zero_le _) cells_none (cells_own h1 .here) (by decide)) ⟨hS, ?_⟩))
      refine wh_as (v' := .c (.bool false)) (congrArg (fun b => V.c (C.bool b)) ver1) ?_
      first | refine wh_gd 21 rfl (by kernel_rfl) rfl rfl rfl rfl (qt_pure tbok rfl (by first | exact trivial | omega | exact ⟨by decide, by decide⟩ | (refine ⟨?_, ?_⟩ <;> omega) | (refine ⟨?_, ?_, ?_⟩ <;> omega))) (hS) ?_ | refine wh_skip 21 rfl (by kernel_rfl) rfl rfl rfl rfl rfl (hS) ?_
      refine wh_q 22 rfl (by kernel_rfl) rfl rfl rfl (qt_pure tbok rfl (by first | exact trivial | omega | exact ⟨by decide, by decide⟩ | (refine ⟨?_, ?_⟩ <;> omega) | (refine ⟨?_, ?_, ?_⟩ <;> omega))) (hS) ?_
      refine wh_q 23 rfl (by kernel_rfl) rfl rfl rfl (qt_pure tbok rfl (by first | exact trivial | omega | exact ⟨by decide, by decide⟩ | (refine ⟨?_, ?_⟩ <;> omega) | (refine ⟨?_, ?_, ?_⟩ <;> omega))) (hS) ?_
      refine wh_done (by kernel_rfl) ?_
      refine nk_code ?_
      refine wc_ret ?_
      try dsimp only
      exact fin1 rfl (rv_tmp rfl) (fun w' hw => ⟨rfl, hw.all (new_cons (newKey hm4) (new_cons (newKey hm3) (new_cons (newKey ht5) (new_cons (newKey hm2) (new_cons (newKey ht3) (new_cons hkp (new_cons (newKey hm1) (new_cons hky (new_cons hkk new_nil)))))))))⟩)
    · refine wo_efg rfl rfl rfl (ef_buildSlice (vs := [(0, .c (.u8 98))]) (l := [.u8 98]) tbok rfl zero5 rfl rfl rfl (by decide) rfl rfl (fun m4 hm4 => ⟨fun w hw => (hw.tail (newKey hm4)).tail (newKey hm3), ?_⟩))
      have hS : ∀ w', St w (⟨.at m4 0, [C.u8 98], 5, (0, 0), []⟩ :: ⟨.at m3 0, [C.u8 97], 5, (1, 2), []⟩ :: [⟨.at t5 0, z38, 38, (0, 0), []⟩, ⟨.at m2 0, [C.u8 98], 5, (1, 2), []⟩, ⟨.at t3 0, scs ((0 : Nat) : Int) (sigF sd1 0 (lvs sd1 (pw 0)) 0 [97]) p.1 0 p.2.1, 38, (0, 0), []⟩, dob 30 (pathT 0 0 (lvs sd1 (pw 0))) p, ⟨.at m1 0, [C.u8 97], 5, (1, 2), []⟩, dob 30 (lvs sd1 (pw 0)) y, kb kr sd1 0 y (pw 0) (0 + 1)]) w' → St w [⟨.at t5 0, z38, 38, (0, 0), []⟩, ⟨.at m2 0, [C.u8 98], 5, (1, 2), []⟩, ⟨.at t3 0, scs ((0 : Nat) : Int) (sigF sd1 0 (lvs sd1 (pw 0)) 0 [97]) p.1 0 p.2.1, 38, (0, 0), []⟩, dob 30 (pathT 0 0 (lvs sd1 (pw 0))) p, ⟨.at m1 0, [C.u8 97], 5, (1, 2), []⟩, dob 30 (lvs sd1 (pw 0)) y, kb kr sd1 0 y (pw 0) (0 + 1)] w' := fun _ h => (h.tail (newKey hm4)).tail (newKey hm3)
      refine wh_two 16 18 (by kernel_rfl) ?_ ?_
      · refine wo_efg rfl rfl rfl (ef_pure (v := .agg (.i64 ((0 : Nat) : Int) :: bc (rootT 0 (lvs sd1 (pw 0))))) (by kernel_rfl) rfl rfl (fun w1 h1 => public_c (h := 0) (nx := 0 + 1) sd1_len (by decide) (cells_own (hS w1 h1) (.there (.there (.there (.there (.there (.there .here))))))) (lvs_A _ _) (lvs_len _ _) (OwnS.le hy) (cells_own (hS w1 h1) (.there (.there (.there (.there (.there .here))))))) ⟨hS, ?_⟩)
        refine wh_one 18 (by kernel_rfl) (wo_efg rfl rfl rfl (ef_conv_bytes tbok rfl rfl rfl rfl .here ⟨fun w hw => (hw.tail (newKey hm4)).tail (newKey hm3), ?_⟩))
        have hS : ∀ w', St w (⟨.at m4 0, [C.u8 98], 5, (1, 2), []⟩ :: ⟨.at m3 0, [C.u8 97], 5, (1, 2), []⟩ :: [⟨.at t5 0, z38, 38, (0, 0), []⟩, ⟨.at m2 0, [C.u8 98], 5, (1, 2), []⟩, ⟨.at t3 0, scs ((0 : Nat) : Int) (sigF sd1 0 (lvs sd1 (pw 0)) 0 [97]) p.1 0 p.2.1, 38, (0, 0), []⟩, dob 30 (pathT 0 0 (lvs sd1 (pw 0))) p, ⟨.at m1 0, [C.u8 97], 5, (1, 2), []⟩, dob 30 (lvs sd1 (pw 0)) y, kb kr sd1 0 y (pw 0) (0 + 1)]) w' → St w [⟨.at t5 0, z38, 38, (0, 0), []⟩, ⟨.at m2 0, [C.u8 98], 5, (1, 2), []⟩, ⟨.at t3 0, scs ((0 : Nat) : Int) (sigF sd1 0 (lvs sd1 (pw 0)) 0 [97]) p.1 0 p.2.1, 38, (0, 0), []⟩, dob 30 (pathT 0 0 (lvs sd1 (pw 0))) p, ⟨.at m1 0, [C.u8 97], 5, (1, 2), []⟩, dob 30 (lvs sd1 (pw 0)) y, kb kr sd1 0 y (pw 0) (0 + 1)] w' := fun _ h => (h.tail (newKey hm4)).tail (newKey hm3)
        refine wh_one 20 (by kernel_rfl) (wo_efg rfl rfl rfl (ef_pure (v := .c (.bool (verB ((0 : Nat) : Int) (rootT 0 (lvs sd1 (pw 0))) [98] ((0 : Nat) : Int) (sgL sd1 (UInt32.ofInt ((0 : Nat) : Int)) (wordH ((0 : Nat) : Int) (rootT 0 (lvs sd1 (pw 0))) ((0 : Nat) : Int) [97])) []))) (by kernel_rfl) rfl rfl (fun w1 h1 => ver16_c (P := []) (msg := [98]) (rootT_len 0 (lvs_A _ _) (lvs_len _ _)) (sgL_A _ _ _) (sgL_len _ _ _) (by intro s hs; cases hs) (Nat.zero_le _) cells_none (cells_own h1 .here) (by decide)) ⟨hS, ?_⟩))
        refine wh_as (v' := .c (.bool false)) (congrArg (fun b => V.c (C.bool b)) ver1) ?_
        first | refine wh_gd 21 rfl (by kernel_rfl) rfl rfl rfl rfl (qt_pure tbok rfl (by first | exact trivial | omega | exact ⟨by decide, by decide⟩ | (refine ⟨?_, ?_⟩ <;> omega) | (refine ⟨?_, ?_, ?_⟩ <;> omega))) (hS) ?_ | refine wh_skip 21 rfl (by kernel_rfl) rfl rfl rfl rfl rfl (hS) ?_
        refine wh_q 22 rfl (by kernel_rfl) rfl rfl rfl (qt_pure tbok rfl (by first | exact trivial | omega | exact ⟨by decide, by decide⟩ | (refine ⟨?_, ?_⟩ <;> omega) | (refine ⟨?_, ?_, ?_⟩ <;> omega))) (hS) ?_
        refine wh_q 23 rfl (by kernel_rfl) rfl rfl rfl (qt_pure tbok rfl (by first | exact trivial | omega | exact ⟨by decide, by decide⟩ | (refine ⟨?_, ?_⟩ <;> omega) | (refine ⟨?_, ?_, ?_⟩ <;> omega))) (hS) ?_
        refine wh_done (by kernel_rfl) ?_
        refine nk_code ?_
        refine wc_ret ?_
        try dsimp only
        exact fin1 rfl (rv_tmp rfl) (fun w' hw => ⟨rfl, hw.all (new_cons (newKey hm4) (new_cons (newKey hm3) (new_cons (newKey ht5) (new_cons (newKey hm2) (new_cons (newKey ht3) (new_cons hkp (new_cons (newKey hm1) (new_cons hky (new_cons hkk new_nil)))))))))⟩)
      · refine wo_efg rfl rfl rfl (ef_conv_bytes tbok rfl rfl rfl rfl .here ⟨fun w hw => (hw.tail (newKey hm4)).tail (newKey hm3), ?_⟩)
        have hS : ∀ w', St w (⟨.at m4 0, [C.u8 98], 5, (1, 2), []⟩ :: ⟨.at m3 0, [C.u8 97], 5, (1, 2), []⟩ :: [⟨.at t5 0, z38, 38, (0, 0), []⟩, ⟨.at m2 0, [C.u8 98], 5, (1, 2), []⟩, ⟨.at t3 0, scs ((0 : Nat) : Int) (sigF sd1 0 (lvs sd1 (pw 0)) 0 [97]) p.1 0 p.2.1, 38, (0, 0), []⟩, dob 30 (pathT 0 0 (lvs sd1 (pw 0))) p, ⟨.at m1 0, [C.u8 97], 5, (1, 2), []⟩, dob 30 (lvs sd1 (pw 0)) y, kb kr sd1 0 y (pw 0) (0 + 1)]) w' → St w [⟨.at t5 0, z38, 38, (0, 0), []⟩, ⟨.at m2 0, [C.u8 98], 5, (1, 2), []⟩, ⟨.at t3 0, scs ((0 : Nat) : Int) (sigF sd1 0 (lvs sd1 (pw 0)) 0 [97]) p.1 0 p.2.1, 38, (0, 0), []⟩, dob 30 (pathT 0 0 (lvs sd1 (pw 0))) p, ⟨.at m1 0, [C.u8 97], 5, (1, 2), []⟩, dob 30 (lvs sd1 (pw 0)) y, kb kr sd1 0 y (pw 0) (0 + 1)] w' := fun _ h => (h.tail (newKey hm4)).tail (newKey hm3)
        refine wh_one 16 (by kernel_rfl) (wo_efg rfl rfl rfl (ef_pure (v := .agg (.i64 ((0 : Nat) : Int) :: bc (rootT 0 (lvs sd1 (pw 0))))) (by kernel_rfl) rfl rfl (fun w1 h1 => public_c (h := 0) (nx := 0 + 1) sd1_len (by decide) (cells_own (hS w1 h1) (.there (.there (.there (.there (.there (.there .here))))))) (lvs_A _ _) (lvs_len _ _) (OwnS.le hy) (cells_own (hS w1 h1) (.there (.there (.there (.there (.there .here))))))) ⟨hS, ?_⟩))
        refine wh_one 20 (by kernel_rfl) (wo_efg rfl rfl rfl (ef_pure (v := .c (.bool (verB ((0 : Nat) : Int) (rootT 0 (lvs sd1 (pw 0))) [98] ((0 : Nat) : Int) (sgL sd1 (UInt32.ofInt ((0 : Nat) : Int)) (wordH ((0 : Nat) : Int) (rootT 0 (lvs sd1 (pw 0))) ((0 : Nat) : Int) [97])) []))) (by kernel_rfl) rfl rfl (fun w1 h1 => ver16_c (P := []) (msg := [98]) (rootT_len 0 (lvs_A _ _) (lvs_len _ _)) (sgL_A _ _ _) (sgL_len _ _ _) (by intro s hs; cases hs) (Nat.zero_le _) cells_none (cells_own h1 .here) (by decide)) ⟨hS, ?_⟩))
        refine wh_as (v' := .c (.bool false)) (congrArg (fun b => V.c (C.bool b)) ver1) ?_
        first | refine wh_gd 21 rfl (by kernel_rfl) rfl rfl rfl rfl (qt_pure tbok rfl (by first | exact trivial | omega | exact ⟨by decide, by decide⟩ | (refine ⟨?_, ?_⟩ <;> omega) | (refine ⟨?_, ?_, ?_⟩ <;> omega))) (hS) ?_ | refine wh_skip 21 rfl (by kernel_rfl) rfl rfl rfl rfl rfl (hS) ?_
        refine wh_q 22 rfl (by kernel_rfl) rfl rfl rfl (qt_pure tbok rfl (by first | exact trivial | omega | exact ⟨by decide, by decide⟩ | (refine ⟨?_, ?_⟩ <;> omega) | (refine ⟨?_, ?_, ?_⟩ <;> omega))) (hS) ?_
        refine wh_q 23 rfl (by kernel_rfl) rfl rfl rfl (qt_pure tbok rfl (by first | exact trivial | omega | exact ⟨by decide, by decide⟩ | (refine ⟨?_, ?_⟩ <;> omega) | (refine ⟨?_, ?_, ?_⟩ <;> omega))) (hS) ?_
        refine wh_done (by kernel_rfl) ?_
        refine nk_code ?_
        refine wc_ret ?_
        try dsimp only
        exact fin1 rfl (rv_tmp rfl) (fun w' hw => ⟨rfl, hw.all (new_cons (newKey hm4) (new_cons (newKey hm3) (new_cons (newKey ht5) (new_cons (newKey hm2) (new_cons (newKey ht3) (new_cons hkp (new_cons (newKey hm1) (new_cons hky (new_cons hkk new_nil)))))))))⟩)
  · refine wo_efg rfl rfl rfl (ef_buildSlice (vs := [(0, .c (.u8 97))]) (l := [.u8 97]) tbok rfl zero5 rfl rfl rfl (by decide) rfl rfl (fun m3 hm3 => ⟨fun w hw => hw.tail (newKey hm3), ?_⟩))
    have hS : ∀ w', St w (⟨.at m3 0, [C.u8 97], 5, (0, 0), []⟩ :: [⟨.at t5 0, z38, 38, (0, 0), []⟩, ⟨.at m2 0, [C.u8 98], 5, (1, 2), []⟩, ⟨.at t3 0, scs ((0 : Nat) : Int) (sigF sd1 0 (lvs sd1 (pw 0)) 0 [97]) p.1 0 p.2.1, 38, (0, 0), []⟩, dob 30 (pathT 0 0 (lvs sd1 (pw 0))) p, ⟨.at m1 0, [C.u8 97], 5, (1, 2), []⟩, dob 30 (lvs sd1 (pw 0)) y, kb kr sd1 0 y (pw 0) (0 + 1)]) w' → St w [⟨.at t5 0, z38, 38, (0, 0), []⟩, ⟨.at m2 0, [C.u8 98], 5, (1, 2), []⟩, ⟨.at t3 0, scs ((0 : Nat) : Int) (sigF sd1 0 (lvs sd1 (pw 0)) 0 [97]) p.1 0 p.2.1, 38, (0, 0), []⟩, dob 30 (pathT 0 0 (lvs sd1 (pw 0))) p, ⟨.at m1 0, [C.u8 97], 5, (1, 2), []⟩, dob 30 (lvs sd1 (pw 0)) y, kb kr sd1 0 y (pw 0) (0 + 1)] w' := fun _ h => h.tail (newKey hm3)
    refine wh_two 8 10 (by kernel_rfl) ?_ ?_
    · refine wo_efg rfl rfl rfl (ef_pure (v := .agg (.i64 ((0 : Nat) : Int) :: bc (rootT 0 (lvs sd1 (pw 0))))) (by kernel_rfl) rfl rfl (fun w1 h1 => public_c (h := 0) (nx := 0 + 1) sd1_len (by decide) (cells_own (hS w1 h1) (.there (.there (.there (.there (.there (.there .here))))))) (lvs_A _ _) (lvs_len _ _) (OwnS.le hy) (cells_own (hS w1 h1) (.there (.there (.there (.there (.there .here))))))) ⟨hS, ?_⟩)
      refine wh_one 10 (by kernel_rfl) (wo_efg rfl rfl rfl (ef_conv_bytes tbok rfl rfl rfl rfl .here ⟨fun w hw => hw.tail (newKey hm3), ?_⟩))
      have hS : ∀ w', St w (⟨.at m3 0, [C.u8 97], 5, (1, 2), []⟩ :: [⟨.at t5 0, z38, 38, (0, 0), []⟩, ⟨.at m2 0, [C.u8 98], 5, (1, 2), []⟩, ⟨.at t3 0, scs ((0 : Nat) : Int) (sigF sd1 0 (lvs sd1 (pw 0)) 0 [97]) p.1 0 p.2.1, 38, (0, 0), []⟩, dob 30 (pathT 0 0 (lvs sd1 (pw 0))) p, ⟨.at m1 0, [C.u8 97], 5, (1, 2), []⟩, dob 30 (lvs sd1 (pw 0)) y, kb kr sd1 0 y (pw 0) (0 + 1)]) w' → St w [⟨.at t5 0, z38, 38, (0, 0), []⟩, ⟨.at m2 0, [C.u8 98], 5, (1, 2), []⟩, ⟨.at t3 0, scs ((0 : Nat) : Int) (sigF sd1 0 (lvs sd1 (pw 0)) 0 [97]) p.1 0 p.2.1, 38, (0, 0), []⟩, dob 30 (pathT 0 0 (lvs sd1 (pw 0))) p, ⟨.at m1 0, [C.u8 97], 5, (1, 2), []⟩, dob 30 (lvs sd1 (pw 0)) y, kb kr sd1 0 y (pw 0) (0 + 1)] w' := fun _ h => h.tail (newKey hm3)
      refine wh_one 12 (by kernel_rfl) (wo_efg rfl rfl rfl (ef_pure (v := .c (.bool (verB ((0 : Nat) : Int) (rootT 0 (lvs sd1 (pw 0))) [97] ((0 : Nat) : Int) (sgL sd1 (UInt32.ofInt ((0 : Nat) : Int)) (wordH ((0 : Nat) : Int) (rootT 0 (lvs sd1 (pw 0))) ((0 : Nat) : Int) [97])) []))) (by kernel_rfl) rfl rfl (fun w1 h1 => ver16_c (P := []) (msg := [97]) (rootT_len 0 (lvs_A _ _) (lvs_len _ _)) (sgL_A _ _ _) (sgL_len _ _ _) (by intro s hs; cases hs) (Nat.zero_le _) cells_none (cells_own h1 .here) (by decide)) ⟨hS, ?_⟩))
      refine wh_as (v' := .c (.bool true)) (congrArg (fun b => V.c (C.bool b)) (ver0 sd1 97)) ?_
      refine wh_q 13 rfl (by kernel_rfl) rfl rfl rfl (qt_pure tbok rfl (by first | exact trivial | omega | exact ⟨by decide, by decide⟩ | (refine ⟨?_, ?_⟩ <;> omega) | (refine ⟨?_, ?_, ?_⟩ <;> omega))) (hS) ?_
      refine wh_q 14 rfl (by kernel_rfl) rfl rfl rfl (qt_pure tbok rfl (by first | exact trivial | omega | exact ⟨by decide, by decide⟩ | (refine ⟨?_, ?_⟩ <;> omega) | (refine ⟨?_, ?_, ?_⟩ <;> omega))) (hS) ?_
      first | refine wh_gd 15 rfl (by kernel_rfl) rfl rfl rfl rfl (qt_pure tbok rfl (by first | exact trivial | omega | exact ⟨by decide, by decide⟩ | (refine ⟨?_, ?_⟩ <;> omega) | (refine ⟨?_, ?_, ?_⟩ <;> omega))) (hS) ?_ | refine wh_skip 15 rfl (by kernel_rfl) rfl rfl rfl rfl rfl (hS) ?_
      refine wh_gd 19 rfl (by kernel_rfl) rfl rfl rfl rfl (qt_load_ag (l := scs ((0 : Nat) : Int) (sigF sd1 0 (lvs sd1 (pw 0)) 0 [97]) p.1 0 p.2.1) tbok rfl rfl rfl (scs_len (sigF_len _ _ _ _ _)) (rs_lk (.there (.there .here)) at0)) (hS) ?_
      refine wh_two 16 17 (by kernel_rfl) ?_ ?_
      · refine wo_efg rfl rfl rfl (ef_pure (v := .agg (.i64 ((0 : Nat) : Int) :: bc (rootT 0 (lvs sd1 (pw 0))))) (by kernel_rfl) rfl rfl (fun w1 h1 => public_c (h := 0) (nx := 0 + 1) sd1_len (by decide) (cells_own (hS w1 h1) (.there (.there (.there (.there (.there (.there .here))))))) (lvs_A _ _) (lvs_len _ _) (OwnS.le hy) (cells_own (hS w1 h1) (.there (.there (.there (.there (.there .here))))))) ⟨hS, ?_⟩)
        refine wh_one 17 (by kernel_rfl) (wo_efg rfl rfl rfl (ef_buildSlice (vs := [(0, .c (.u8 98))]) (l := [.u8 98]) tbok rfl zero5 rfl rfl rfl (by decide) rfl rfl (fun m4 hm4 => ⟨fun w hw => (hw.tail (newKey hm4)).tail (newKey hm3), ?_⟩)))
        have hS : ∀ w', St w (⟨.at m4 0, [C.u8 98], 5, (0, 0), []⟩ :: ⟨.at m3 0, [C.u8 97], 5, (1, 2), []⟩ :: [⟨.at t5 0, z38, 38, (0, 0), []⟩, ⟨.at m2 0, [C.u8 98], 5, (1, 2), []⟩, ⟨.at t3 0, scs ((0 : Nat) : Int) (sigF sd1 0 (lvs sd1 (pw 0)) 0 [97]) p.1 0 p.2.1, 38, (0, 0), []⟩, dob 30 (pathT 0 0 (lvs sd1 (pw 0))) p, ⟨.at m1 0, [C.u8 97], 5, (1, 2), []⟩, dob 30 (lvs sd1 (pw 0)) y, kb kr sd1 0 y (pw 0) (0 + 1)]) w' → St w [⟨.at t5 0, z38, 38, (0, 0), []⟩, ⟨.at m2 0, [C.u8 98], 5, (1, 2), []⟩, ⟨.at t3 0, scs ((0 : Nat) : Int) (sigF sd1 0 (lvs sd1 (pw 0)) 0 [97]) p.1 0 p.2.1, 38, (0, 0), []⟩, dob 30 (pathT 0 0 (lvs sd1 (pw 0))) p, ⟨.at m1 0, [C.u8 97], 5, (1, 2), []⟩, dob 30 (lvs sd1 (pw 0)) y, kb kr sd1 0 y (pw 0) (0 + 1)] w' := fun _ h => (h.tail (newKey hm4)).tail (newKey hm3)
        refine wh_one 18 (by kernel_rfl) (wo_efg rfl rfl rfl (ef_conv_bytes tbok rfl rfl rfl rfl .here ⟨fun w hw => (hw.tail (newKey hm4)).tail (newKey hm3), ?_⟩))
        have hS : ∀ w', St w (⟨.at m4 0, [C.u8 98], 5, (1, 2), []⟩ :: ⟨.at m3 0, [C.u8 97], 5, (1, 2), []⟩ :: [⟨.at t5 0, z38, 38, (0, 0), []⟩, ⟨.at m2 0, [C.u8 98], 5, (1, 2), []⟩, ⟨.at t3 0, scs ((0 : Nat) : Int) (sigF sd1 0 (lvs sd1 (pw 0)) 0 [97]) p.1 0 p.2.1, 38, (0, 0), []⟩, dob 30 (pathT 0 0 (lvs sd1 (pw 0))) p, ⟨.at m1 0, [C.u8 97], 5, (1, 2), []⟩, dob 30 (lvs sd1 (pw 0)) y, kb kr sd1 0 y (pw 0) (0 + 1)]) w' → St w [⟨.at t5 0, z38, 38, (0, 0), []⟩, ⟨.at m2 0, [C.u8 98], 5, (1, 2), []⟩, ⟨.at t3 0, scs ((0 : Nat) : Int) (sigF sd1 0 (lvs sd1 (pw 0)) 0 [97]) p.1 0 p.2.1, 38, (0, 0), []⟩, dob 30 (pathT 0 0 (lvs sd1 (pw 0))) p, ⟨.at m1 0, [C.u8 97], 5, (1, 2), []⟩, dob 30 (lvs sd1 (pw 0)) y, kb kr sd1 0 y (pw 0) (0 + 1)] w' := fun _ h => (h.tail (newKey hm4)).tail (newKey hm3)
        refine wh_one 20 (by kernel_rfl) (wo_efg rfl rfl rfl (ef_pure (v := .c (.bool (verB ((0 : Nat) : Int) (rootT 0 (lvs sd1 (pw 0))) [98] ((0 : Nat) : Int) (sgL sd1 (UInt32.ofInt ((0 : Nat) : Int)) (wordH ((0 : Nat) : Int) (rootT 0 (lvs sd1 (pw 0))) ((0 : Nat) : Int) [97])) []))) (by kernel_rfl) rfl rfl (fun w1 h1 => ver16_c (P := []) (msg := [98]) (rootT_len 0 (lvs_A _ _) (lvs_len _ _)) (sgL_A _ _ _) (sgL_len _ _ _) (by intro s hs; cases hs) (Nat.zero_le _) cells_none (cells_own h1 .here) (by decide)) ⟨hS, ?_⟩))
        refine wh_as (v' := .c (.bool false)) (congrArg (fun b => V.c (C.bool b)) ver1) ?_
        first | refine wh_gd 21 rfl (by kernel_rfl) rfl rfl rfl rfl (qt_pure tbok rfl (by first | exact trivial | omega | exact ⟨by decide, by decide⟩ | (refine ⟨?_, ?_⟩ <;> omega) | (refine ⟨?_, ?_, ?_⟩ <;> omega))) (hS) ?_ | refine wh_skip 21 rfl (by kernel_rfl) rfl rfl rfl rfl rfl (hS) ?_
        refine wh_q 22 rfl (by kernel_rfl) rfl rfl rfl (qt_pure tbok rfl (by first | exact trivial | omega | exact ⟨by decide, by decide⟩ | (refine ⟨?_, ?_⟩ <;> omega) | (refine ⟨?_, ?_, ?_⟩ <;> omega))) (hS) ?_
        refine wh_q 23 rfl (by kernel_rfl) rfl rfl rfl (qt_pure tbok rfl (by first | exact trivial | omega | exact ⟨by decide, by decide⟩ | (refine ⟨?_, ?_⟩ <;> omega) | (refine ⟨?_, ?_, ?_⟩ <;> omega))) (hS) ?_
        refine wh_done (by kernel_rfl) ?_
        refine nk_code ?_
        refine wc_ret ?_
        try dsimp only
        exact fin1 rfl (rv_tmp rfl) (fun w' hw => ⟨rfl, hw.all (new_cons (newKey hm4) (new_cons (newKey hm3) (new_cons (newKey ht5) (new_cons (newKey hm2) (new_cons (newKey ht3) (new_cons hkp (new_cons (newKey hm1) (new_cons hky (new_cons hkk new_nil)))))))))⟩)
      · refine wo_efg rfl rfl rfl (ef_buildSlice (vs := [(0, .c (.u8 98))]) (l := [.u8 98]) tbok rfl zero5 rfl rfl rfl (by decide) rfl rfl (fun m4 hm4 => ⟨fun w hw => (hw.tail (newKey hm4)).tail (newKey hm3), ?_⟩))
        have hS : ∀ w', St w (⟨.at m4 0, [C.u8 98], 5, (0, 0), []⟩ :: ⟨.at m3 0, [C.u8 97], 5, (1, 2), []⟩ :: [⟨.at t5 0, z38, 38, (0, 0), []⟩, ⟨.at m2 0, [C.u8 98], 5, (1, 2), []⟩, ⟨.at t3 0, scs ((0 : Nat) : Int) (sigF sd1 0 (lvs sd1 (pw 0)) 0 [97]) p.1 0 p.2.1, 38, (0, 0), []⟩, dob 30 (pathT 0 0 (lvs sd1 (pw 0))) p, ⟨.at m1 0, [C.u8 97], 5, (1, 2), []⟩, dob 30 (lvs sd1 (pw 0)) y, kb kr sd1 0 y (pw 0) (0 + 1)]) w' → St w [⟨.at t5 0, z38, 38, (0, 0), []⟩, ⟨.at m2 0, [C.u8 98], 5, (1, 2), []⟩, ⟨.at t3 0, scs ((0 : Nat) : Int) (sigF sd1 0 (lvs sd1 (pw 0)) 0 [97]) p.1 0 p.2.1, 38, (0, 0), []⟩, dob 30 (pathT 0 0 (lvs sd1 (pw 0))) p, ⟨.at m1 0, [C.u8 97], 5, (1, 2), []⟩, dob 30 (lvs sd1 (pw 0)) y, kb kr sd1 0 y (pw 0) (0 + 1)] w' := fun _ h => (h.tail (newKey hm4)).tail (newKey hm3)
        refine wh_two 16 18 (by kernel_rfl) ?_ ?_
        · refine wo_efg rfl rfl rfl (ef_pure (v := .agg (.i64 ((0 : Nat) : Int) :: bc (rootT 0 (lvs sd1 (pw 0))))) (by kernel_rfl) rfl rfl (fun w1 h1 => public_c (h := 0) (nx := 0 + 1) sd1_len (by decide) (cells_own (hS w1 h1) (.there (.there (.there (.there (.there (.there .here))))))) (lvs_A _ _) (lvs_len _ _) (OwnS.le hy) (cells_own (hS w1 h1) (.there (.there (.there (.there (.there .here))))))) ⟨hS, ?_⟩)
          refine wh_one 18 (by kernel_rfl) (wo_efg rfl rfl rfl (ef_conv_bytes tbok rfl rfl rfl rfl .here ⟨fun w hw => (hw.tail (newKey hm4)).tail (newKey hm3), ?_⟩))
          have hS : ∀ w', St w (⟨.at m4 0, [C.u8 98], 5, (1, 2), []⟩ :: ⟨.at m3 0, [C.u8 97], 5, (1, 2), []⟩ :: [⟨.at t5 0, z38, 38, (0, 0), []⟩, ⟨.at m2 0, [C.u8 98], 5, (1, 2), []⟩, ⟨.at t3 0, scs ((0 : Nat) : Int) (sigF sd1 0 (lvs sd1 (pw 0)) 0 [97]) p.1 0 p.2.1, 38, (0, 0), []⟩, dob 30 (pathT 0 0 (lvs sd1 (pw 0))) p, ⟨.at m1 0, [C.u8 97], 5, (1, 2), []⟩, dob 30 (lvs sd1 (pw 0)) y, kb kr sd1 0 y (pw 0) (0 + 1)]) w' → St w [⟨.at t5 0, z38, 38, (0, 0), []⟩, ⟨.at m2 0, [C.u8 98], 5, (1, 2), []⟩, ⟨.at t3 0, scs ((0 : Nat) : Int) (sigF sd1 0 (lvs sd1 (pw 0)) 0 [97]) p.1 0 p.2.1, 38, (0, 0), []⟩, dob 30 (pathT 0 0 (lvs sd1 (pw 0))) p, ⟨.at m1 0, [C.u8 97], 5, (1, 2), []⟩, dob 30 (lvs sd1 (pw 0)) y, kb kr sd1 0 y (pw 0) (0 + 1)] w' := fun _ h => (h.tail (newKey hm4)).tail (newKey hm3)
          refine wh_one 20 (by kernel_rfl) (wo_efg rfl rfl rfl (ef_pure (v := .c (.bool (verB ((0 : Nat) : Int) (rootT 0 (lvs sd1 (pw 0))) [98] ((0 : Nat) : Int) (sgL sd1 (UInt32.ofInt ((0 : Nat) : Int)) (wordH ((0 : Nat) : Int) (rootT 0 (lvs sd1 (pw 0))) ((0 : Nat) : Int) [97])) []))) (by kernel_rfl) rfl rfl (fun w1 h1 => ver16_c (P := []) (msg := [98]) (rootT_len 0 (lvs_A _ _) (lvs_len _ _)) (sgL_A _ _ _) (sgL_len _ _ _) (by intro s hs; cases hs) (Nat.zero_le _) cells_none (cells_own h1 .here) (by decide)) ⟨hS, ?_⟩))
          refine wh_as (v' := .c (.bool false)) (congrArg (fun b => V.c (C.bool b)) ver1) ?_
          first | refine wh_gd 21 rfl (by kernel_rfl) rfl rfl rfl rfl (qt_pure tbok rfl (by first | exact trivial | omega | exact ⟨by decide, by decide⟩ | (refine ⟨?_, ?_⟩ <;> omega) | (refine ⟨?_, ?_, ?_⟩ <;> omega))) (hS) ?_ | refine wh_skip 21 rfl (by kernel_rfl) rfl rfl rfl rfl rfl (hS) ?_
          refine wh_q 22 rfl (by kernel_rfl) rfl rfl rfl (qt_pure tbok rfl (by first | exact trivial | omega | exact ⟨by decide, by decide⟩ | (refine ⟨?_, ?_⟩ <;> omega) | (refine ⟨?_, ?_, ?_⟩ <;> omega))) (hS) ?_
          refine wh_q 23 rfl (by kernel_rfl) rfl rfl rfl (qt_pure tbok rfl (by first | exact trivial | omega | exact ⟨by decide, by decide⟩ | (refine ⟨?_, ?_⟩ <;> omega) | (refine ⟨?_, ?_, ?_⟩ <;> omega))) (hS) ?_
          refine wh_done (by kernel_rfl) ?_
          refine nk_code ?_
          refine wc_ret ?_
          try dsimp only
          exact fin1 rfl (rv_tmp rfl) (fun w' hw => ⟨rfl, hw.all (new_cons (newKey hm4) (new_cons (newKey hm3) (new_cons (newKey ht5) (new_cons (newKey hm2) (new_cons (newKey ht3) (new_cons hkp (new_cons (newKey hm1) (new_cons hky (new_cons hkk new_nil)))))))))⟩)
        · refine wo_efg rfl rfl rfl (ef_conv_bytes tbok rfl rfl rfl rfl .here ⟨fun w hw => (hw.tail (newKey hm4)).tail (newKey hm3), ?_⟩)
          have hS : ∀ w', St w (⟨.at m4 0, [C.u8 98], 5, (1, 2), []⟩ :: ⟨.at m3 0, [C.u8 97], 5, (1, 2), []⟩ :: [⟨.at t5 0, z38, 38, (0, 0), []⟩, ⟨.at m2 0, [C.u8 98], 5, (1, 2), []⟩, ⟨.at t3 0, scs ((0 : Nat) : Int) (sigF sd1 0 (lvs sd1 (pw 0)) 0 [97]) p.1 0 p.2.1, 38, (0, 0), []⟩, dob 30 (pathT 0 0 (lvs sd1 (pw 0))) p, ⟨.at m1 0, [C.u8 97], 5, (1, 2), []⟩, dob 30 (lvs sd1 (pw 0)) y, kb kr sd1 0 y (pw 0) (0 + 1)]) w' → St w [⟨.at t5 0, z38, 38, (0, 0), []⟩, ⟨.at m2 0, [C.u8 98], 5, (1, 2), []⟩, ⟨.at t3 0, scs ((0 : Nat) : Int) (sigF sd1 0 (lvs sd1 (pw 0)) 0 [97]) p.1 0 p.2.1, 38, (0, 0), []⟩, dob 30 (pathT 0 0 (lvs sd1 (pw 0))) p, ⟨.at m1 0, [C.u8 97], 5, (1, 2), []⟩, dob 30 (lvs sd1 (pw 0)) y, kb kr sd1 0 y (pw 0) (0 + 1)] w' := fun _ h => (h.tail (newKey hm4)).tail (newKey hm3)
          refine wh_one 16 (by kernel_rfl) (wo_efg rfl rfl rfl (ef_pure (v := .agg (.i64 ((0 : Nat) : Int) :: bc (rootT 0 (lvs sd1 (pw 0))))) (by kernel_rfl) rfl rfl (fun w1 h1 => public_c (h := 0) (nx := 0 + 1) sd1_len (by decide) (cells_own (hS w1 h1) (.there (.there (.there (.there (.there (.there .here))))))) (lvs_A _ _) (lvs_len _ _) (OwnS.le hy) (cells_own (hS w1 h1) (.there (.there (.there (.there (.there .here))))))) ⟨hS, ?_⟩))
          refine wh_one 20 (by kernel_rfl) (wo_efg rfl rfl rfl (ef_pure (v := .c (.bool (verB ((0 : Nat) : Int) (rootT 0 (lvs sd1 (pw 0))) [98] ((0 : Nat) : Int) (sgL sd1 (UInt32.ofInt ((0 : Nat) : Int)) (wordH ((0 : Nat) : Int) (rootT 0 (lvs sd1 (pw 0))) ((0 : Nat) : Int) [97])) []))) (by kernel_rfl) rfl rfl (fun w1 h1 => ver16_c (P := []) (msg := [98]) (rootT_len 0 (lvs_A _ _) (lvs_len _ _)) (sgL_A _ _ _) (sgL_len _ _ _) (by intro s hs; cases hs) (Nat.zero_le _) cells_none (cells_own h1 .here) (by decide)) ⟨hS, ?_⟩))
          refine wh_as (v' := .c (.bool false)) (congrArg (fun b => V.c (C.bool b)) ver1) ?_
          first | refine wh_gd 21 rfl (by kernel_rfl) rfl rfl rfl rfl (qt_pure tbok rfl (by first | exact trivial | omega | exact ⟨by decide, by decide⟩ | (refine ⟨?_, ?_⟩ <;> omega) | (refine ⟨?_, ?_, ?_⟩ <;> omega))) (hS) ?_ | refine wh_skip 21 rfl (by kernel_rfl) rfl rfl rfl rfl rfl (hS) ?_
          refine wh_q 22 rfl (by kernel_rfl) rfl rfl rfl (qt_pure tbok rfl (by first | exact trivial | omega | exact ⟨by decide, by decide⟩ | (refine ⟨?_, ?_⟩ <;> omega) | (refine ⟨?_, ?_, ?_⟩ <;> omega))) (hS) ?_
          refine wh_q 23 rfl (by kernel_rfl) rfl rfl rfl (qt_pure tbok rfl (by first | exact trivial | omega | exact ⟨by decide, by decide⟩ | (refine ⟨?_, ?_⟩ <;> omega) | (refine ⟨?_, ?_, ?_⟩ <;> omega))) (hS) ?_
          refine wh_done (by kernel_rfl) ?_
          refine nk_code ?_
          refine wc_ret ?_
          try dsimp only
          exact fin1 rfl (rv_tmp rfl) (fun w' hw => ⟨rfl, hw.all (new_cons (newKey hm4) (new_cons (newKey hm3) (new_cons (newKey ht5) (new_cons (newKey hm2) (new_cons (newKey ht3) (new_cons hkp (new_cons (newKey hm1) (new_cons hky (new_cons hkk new_nil)))))))))⟩)
    · refine wo_efg rfl rfl rfl (ef_conv_bytes tbok rfl rfl rfl rfl .here ⟨fun w hw => hw.tail (newKey hm3), ?_⟩)
      have hS : ∀ w', St w (⟨.at m3 0, [C.u8 97], 5, (1, 2), []⟩ :: [⟨.at t5 0, z38, 38, (0, 0), []⟩, ⟨.at m2 0, [C.u8 98], 5, (1, 2), []⟩, ⟨.at t3 0, scs ((0 : Nat) : Int) (sigF sd1 0 (lvs sd1 (pw 0)) 0 [97]) p.1 0 p.2.1, 38, (0, 0), []⟩, dob 30 (pathT 0 0 (lvs sd1 (pw 0))) p, ⟨.at m1 0, [C.u8 97], 5, (1, 2), []⟩, dob 30 (lvs sd1 (pw 0)) y, kb kr sd1 0 y (pw 0) (0 + 1)]) w' → St w [⟨.at t5 0, z38, 38, (0, 0), []⟩, ⟨.at m2 0, [C.u8 98], 5, (1, 2), []⟩, ⟨.at t3 0, scs ((0 : Nat) : Int) (sigF sd1 0 (lvs sd1 (pw 0)) 0 [97]) p.1 0 p.2.1, 38, (0, 0), []⟩, dob 30 (pathT 0 0 (lvs sd1 (pw 0))) p, ⟨.at m1 0, [C.u8 97], 5, (1, 2), []⟩, dob 30 (lvs sd1 (pw 0)) y, kb kr sd1 0 y (pw 0) (0 + 1)] w' := fun _ h => h.tail (newKey hm3)
      refine wh_one 8 (by kernel_rfl) (wo_efg rfl rfl rfl (ef_pure (v := .agg (.i64 ((0 : Nat) : Int) :: bc (rootT 0 (lvs sd1 (pw 0))))) (by kernel_rfl) rfl rfl (fun w1 h1 => public_c (h := 0) (nx := 0 + 1) sd1_len (by decide) (cells_own (hS w1 h1) (.there (.there (.there (.there (.there (.there .here))))))) (lvs_A _ _) (lvs_len _ _) (OwnS.le hy) (cells_own (hS w1 h1) (.there (.there (.there (.there (.there .here))))))) ⟨hS, ?_⟩))
      refine wh_one 12 (by kernel_rfl) (wo_efg rfl rfl rfl (ef_pure (v := .c (.bool (verB ((0 : Nat) : Int) (rootT 0 (lvs sd1 (pw 0))) [97] ((0 : Nat) : Int) (sgL sd1 (UInt32.ofInt ((0 : Nat) : Int)) (wordH ((0 : Nat) : Int) (rootT 0 (lvs sd1 (pw 0))) ((0 : Nat) : Int) [97])) []))) (by kernel_rfl) rfl rfl (fun w1 h1 => ver16_c (P := []) (msg := [97]) (rootT_len 0 (lvs_A _ _) (lvs_len _ _)) (sgL_A _ _ _) (sgL_len _ _ _) (by intro s hs; cases hs) (Nat.zero_le _) cells_none (cells_own h1 .here) (by decide)) ⟨hS, ?_⟩))
      refine wh_as (v' := .c (.bool true)) (congrArg (fun b => V.c (C.bool b)) (ver0 sd1 97)) ?_
      refine wh_q 13 rfl (by kernel_rfl) rfl rfl rfl (qt_pure tbok rfl (by first | exact trivial | omega | exact ⟨by decide, by decide⟩ | (refine ⟨?_, ?_⟩ <;> omega) | (refine ⟨?_, ?_, ?_⟩ <;> omega))) (hS) ?_
      refine wh_q 14 rfl (by kernel_rfl) rfl rfl rfl (qt_pure tbok rfl (by first | exact trivial | omega | exact ⟨by decide, by decide⟩ | (refine ⟨?_, ?_⟩ <;> omega) | (refine ⟨?_, ?_, ?_⟩ <;> omega))) (hS) ?_
      first | refine wh_gd 15 rfl (by kernel_rfl) rfl rfl rfl rfl (qt_pure tbok rfl (by first | exact trivial | omega | exact ⟨by decide, by decide⟩ | (refine ⟨?_, ?_⟩ <;> omega) | (refine ⟨?_, ?_, ?_⟩ <;> omega))) (hS) ?_ | refine wh_skip 15 rfl (by kernel_rfl) rfl rfl rfl rfl rfl (hS) ?_
      refine wh_gd 19 rfl (by kernel_rfl) rfl rfl rfl rfl (qt_load_ag (l := scs ((0 : Nat) : Int) (sigF sd1 0 (lvs sd1 (pw 0)) 0 [97]) p.1 0 p.2.1) tbok rfl rfl rfl (scs_len (sigF_len _ _ _ _ _)) (rs_lk (.there (.there .here)) at0)) (hS) ?_
      refine wh_two 16 17 (by kernel_rfl) ?_ ?_
      · refine wo_efg rfl rfl rfl (ef_pure (v := .agg (.i64 ((0 : Nat) : Int) :: bc (rootT 0 (lvs sd1 (pw 0))))) (by kernel_rfl) rfl rfl (fun w1 h1 => public_c (h := 0) (nx := 0 + 1) sd1_len (by decide) (cells_own (hS w1 h1) (.there (.there (.there (.there (.there (.there .here))))))) (lvs_A _ _) (lvs_len _ _) (OwnS.le hy) (cells_own (hS w1 h1) (.there (.there (.there (.there (.there .here))))))) ⟨hS, ?_⟩)
        refine wh_one 17 (by kernel_rfl) (wo_efg rfl rfl rfl (ef_buildSlice (vs := [(0, .c (.u8 98))]) (l := [.u8 98]) tbok rfl zero5 rfl rfl rfl (by decide) rfl rfl (fun m4 hm4 => ⟨fun w hw => (hw.tail (newKey hm4)).tail (newKey hm3), ?_⟩)))
        have hS : ∀ w', St w (⟨.at m4 0, [C.u8 98], 5, (0, 0), []⟩ :: ⟨.at m3 0, [C.u8 97], 5, (1, 2), []⟩ :: [⟨.at t5 0, z38, 38, (0, 0), []⟩, ⟨.at m2 0, [C.u8 98], 5, (1, 2), []⟩, ⟨.at t3 0, scs ((0 : Nat) : Int) (sigF sd1 0 (lvs sd1 (pw 0)) 0 [97]) p.1 0 p.2.1, 38, (0, 0), []⟩, dob 30 (pathT 0 0 (lvs sd1 (pw 0))) p, ⟨.at m1 0, [C.u8 97], 5, (1, 2), []⟩, dob 30 (lvs sd1 (pw 0)) y, kb kr sd1 0 y (pw 0) (0 + 1)]) w' → St w [⟨.at t5 0, z38, 38, (0, 0), []⟩, ⟨.at m2 0, [C.u8 98], 5, (1, 2), []⟩, ⟨.at t3 0, scs ((0 : Nat) : Int) (sigF sd1 0 (lvs sd1 (pw 0)) 0 [97]) p.1 0 p.2.1, 38, (0, 0), []⟩, dob 30 (pathT 0 0 (lvs sd1 (pw 0))) p, ⟨.at m1 0, [C.u8 97], 5, (1, 2), []⟩, dob 30 (lvs sd1 (pw 0)) y, kb kr sd1 0 y (pw 0) (0 + 1)] w' := fun _ h => (h.tail (newKey hm4)).tail (newKey hm3)
        refine wh_one 18 (by kernel_rfl) (wo_efg rfl rfl rfl (ef_conv_bytes tbok rfl rfl rfl rfl .here ⟨fun w hw => (hw.tail (newKey hm4)).tail (newKey hm3), ?_⟩))
        have hS : ∀ w', St w (⟨.at m4 0, [C.u8 98], 5, (1, 2), []⟩ :: ⟨.at m3 0, [C.u8 97], 5, (1, 2), []⟩ :: [⟨.at t5 0, z38, 38, (0, 0), []⟩, ⟨.at m2 0, [C.u8 98], 5, (1, 2), []⟩, ⟨.at t3 0, scs ((0 : Nat) : Int) (sigF sd1 0 (lvs sd1 (pw 0)) 0 [97]) p.1 0 p.2.1, 38, (0, 0), []⟩, dob 30 (pathT 0 0 (lvs sd1 (pw 0))) p, ⟨.at m1 0, [C.u8 97], 5, (1, 2), []⟩, dob 30 (lvs sd1 (pw 0)) y, kb kr sd1 0 y (pw 0) (0 + 1)]) w' → St w [⟨.at t5 0, z38, 38, (0, 0), []⟩, ⟨.at m2 0, [C.u8 98], 5, (1, 2), []⟩, ⟨.at t3 0, scs ((0 : Nat) : Int) (sigF sd1 0 (lvs sd1 (pw 0)) 0 [97]) p.1 0 p.2.1, 38, (0, 0), []⟩, dob 30 (pathT 0 0 (lvs sd1 (pw 0))) p, ⟨.at m1 0, [C.u8 97], 5, (1, 2), []⟩, dob 30 (lvs sd1 (pw 0)) y, kb kr sd1 0 y (pw 0) (0 + 1)] w' := fun _ h => (h.tail (newKey hm4)).tail (newKey hm3)
        refine wh_one 20 (by kernel_rfl) (wo_efg rfl rfl rfl (ef_pure (v := .c (.bool (verB ((0 : Nat) : Int) (rootT 0 (lvs sd1 (pw 0))) [98] ((0 : Nat) : Int) (sgL sd1 (UInt32.ofInt ((0 : Nat) : Int)) (wordH ((0 : Nat) : Int) (rootT 0 (lvs sd1 (pw 0))) ((0 : Nat) : Int) [97])) []))) (by kernel_rfl) rfl rfl (fun w1 h1 => ver16_c (P := []) (msg := [98]) (rootT_len 0 (lvs_A _ _) (lvs_len _ _)) (sgL_A _ _ _) (sgL_len _ _ _) (by intro s hs; cases hs) (Nat.zero_le _) cells_none (cells_own h1 .here) (by decide)) ⟨hS, ?_⟩))
        refine wh_as (v' := .c (.bool false)) (congrArg (fun b => V.c (C.bool b)) ver1) ?_
        first | refine wh_gd 21 rfl (by kernel_rfl) rfl rfl rfl rfl (qt_pure tbok rfl (by first | exact trivial | omega | exact ⟨by decide, by decide⟩ | (refine ⟨?_, ?_⟩ <;> omega) | (refine ⟨?_, ?_, ?_⟩ <;> omega))) (hS) ?_ | refine wh_skip 21 rfl (by kernel_rfl) rfl rfl rfl rfl rfl (hS) ?_
        refine wh_q 22 rfl (by kernel_rfl) rfl rfl rfl (qt_pure tbok rfl (by first | exact trivial | omega | exact ⟨by decide, by decide⟩ | (refine ⟨?_, ?_⟩ <;> omega) | (refine ⟨?_, ?_, ?_⟩ <;> omega))) (hS) ?_
        refine wh_q 23 rfl (by kernel_rfl) rfl rfl rfl (qt_pure tbok rfl (by first | exact trivial | omega | exact ⟨by decide, by decide⟩ | (refine ⟨?_, ?_⟩ <;> omega) | (refine ⟨?_, ?_, ?_⟩ <;> omega))) (hS) ?_
        refine wh_done (by kernel_rfl) ?_
        refine nk_code ?_
        refine wc_ret ?_
        try dsimp only
        exact fin1 rfl (rv_tmp rfl) (fun w' hw => ⟨rfl, hw.all (new_cons (newKey hm4) (new_cons (newKey hm3) (new_cons (newKey ht5) (new_cons (newKey hm2) (new_cons (newKey ht3) (new_cons hkp (new_cons (newKey hm1) (new_cons hky (new_cons hkk new_nil)))))))))⟩)
      · refine wo_efg rfl rfl rfl (ef_buildSlice (vs := [(0, .c (.u8 98))]) (l := [.u8 98]) tbok rfl zero5 rfl rfl rfl (by decide) rfl rfl (fun m4 hm4 => ⟨fun w hw => (hw.tail (newKey hm4)).tail (newKey hm3), ?_⟩))
        have hS : ∀ w', St w (⟨.at m4 0, [C.u8 98], 5, (0, 0), []⟩ :: ⟨.at m3 0, [C.u8 97], 5, (1, 2), []⟩ :: [⟨.at t5 0, z38, 38, (0, 0), []⟩, ⟨.at m2 0, [C.u8 98], 5, (1, 2), []⟩, ⟨.at t3 0, scs ((0 : Nat) : Int) (sigF sd1 0 (lvs sd1 (pw 0)) 0 [97]) p.1 0 p.2.1, 38, (0, 0), []⟩, dob 30 (pathT 0 0 (lvs sd1 (pw 0))) p, ⟨.at m1 0, [C.u8 97], 5, (1, 2), []⟩, dob 30 (lvs sd1 (pw 0)) y, kb kr sd1 0 y (pw 0) (0 + 1)]) w' → St w [⟨.at t5 0, z38, 38, (0, 0), []⟩, ⟨.at m2 0, [C.u8 98], 5, (1, 2), []⟩, ⟨.at t3 0, scs ((0 : Nat) : Int) (sigF sd1 0 (lvs sd1 (pw 0)) 0 [97]) p.1 0 p.2.1, 38, (0, 0), []⟩, dob 30 (pathT 0 0 (lvs sd1 (pw 0))) p, ⟨.at m1 0, [C.u8 97], 5, (1, 2), []⟩, dob 30 (lvs sd1 (pw 0)) y, kb kr sd1 0 y (pw 0) (0 + 1)] w' := fun _ h => (h.tail (newKey hm4)).tail (newKey hm3)
        refine wh_two 16 18 (by kernel_rfl) ?_ ?_
        · refine wo_efg rfl rfl rfl (ef_pure (v := .agg (.i64 ((0 : Nat) : Int) :: bc (rootT 0 (lvs sd1 (pw 0))))) (by kernel_rfl) rfl rfl (fun w1 h1 => public_c (h := 0) (nx := 0 + 1) sd1_len (by decide) (cells_own (hS w1 h1) (.there (.there (.there (.there (.there (.there .here))))))) (lvs_A _ _) (lvs_len _ _) (OwnS.le hy) (cells_own (hS w1 h1) (.there (.there (.there (.there (.there .here))))))) ⟨hS, ?_⟩)
          refine wh_one 18 (by kernel_rfl) (wo_efg rfl rfl rfl (ef_conv_bytes tbok rfl rfl rfl rfl .here ⟨fun w hw => (hw.tail (newKey hm4)).tail (newKey hm3), ?_⟩))
          have hS : ∀ w', St w (⟨.at m4 0, [C.u8 98], 5, (1, 2), []⟩ :: ⟨.at m3 0, [C.u8 97], 5, (1, 2), []⟩ :: [⟨.at t5 0, z38, 38, (0, 0), []⟩, ⟨.at m2 0, [C.u8 98], 5, (1, 2), []⟩, ⟨.at t3 0, scs ((0 : Nat) : Int) (sigF sd1 0 (lvs sd1 (pw 0)) 0 [97]) p.1 0 p.2.1, 38, (0, 0), []⟩, dob 30 (pathT 0 0 (lvs sd1 (pw 0))) p, ⟨.at m1 0, [C.u8 97], 5, (1, 2), []⟩, dob 30 (lvs sd1 (pw 0)) y, kb kr sd1 0 y (pw 0) (0 + 1)]) w' → St w [⟨.at t5 0, z38, 38, (0, 0), []⟩, ⟨.at m2 0, [C.u8 98], 5, (1, 2), []⟩, ⟨.at t3 0, scs ((0 : Nat) : Int) (sigF sd1 0 (lvs sd1 (pw 0)) 0 [97]) p.1 0 p.2.1, 38, (0, 0), []⟩, dob 30 (pathT 0 0 (lvs sd1 (pw 0))) p, ⟨.at m1 0, [C.u8 97], 5, (1, 2), []⟩, dob 30 (lvs sd1 (pw 0)) y, kb kr sd1 0 y (pw 0) (0 + 1)] w' := fun _ h => (h.tail (newKey hm4)).tail (newKey hm3)
          refine wh_one 20 (by kernel_rfl) (wo_efg rfl rfl rfl (ef_pure (v := .c (.bool (verB ((0 : Nat) : Int) (rootT 0 (lvs sd1 (pw 0))) [98] ((0 : Nat) : Int) (sgL sd1 (UInt32.ofInt ((0 : Nat) : Int)) (wordH ((0 : Nat) : Int) (rootT 0 (lvs sd1 (pw 0))) ((0 : Nat) : Int) [97])) []))) (by kernel_rfl) rfl rfl (fun w1 h1 => ver16_c (P := []) (msg := [98]) (rootT_len 0 (lvs_A _ _) (lvs_len _ _)) (sgL_A _ _ _) (sgL_len _ _ _) (by intro s hs; cases hs) (Nat.zero_le _) cells_none (cells_own h1 .here) (by decide)) ⟨hS, ?_⟩))
          refine wh_as (v' := .c (.bool false)) (congrArg (fun b => V.c (C.bool b)) ver1) ?_
          first | refine wh_gd 21 rfl (by kernel_rfl) rfl rfl rfl rfl (qt_pure tbok rfl (by first | exact trivial | omega | exact ⟨by decide, by decide⟩ | (refine ⟨?_, ?_⟩ <;> omega) | (refine ⟨?_, ?_, ?_⟩ <;> omega))) (hS) ?_ | refine wh_skip 21 rfl (by kernel_rfl) rfl rfl rfl rfl rfl (hS) ?_
          refine wh_q 22 rfl (by kernel_rfl) rfl rfl rfl (qt_pure tbok rfl (by first | exact trivial | omega | exact ⟨by decide, by decide⟩ | (refine ⟨?_, ?_⟩ <;> omega) | (refine ⟨?_, ?_, ?_⟩ <;> omega))) (hS) ?_
          refine wh_q 23 rfl (by kernel_rfl) rfl rfl rfl (qt_pure tbok rfl (by first | exact trivial | omega | exact ⟨by decide, by decide⟩ | (refine ⟨?_, ?_⟩ <;> omega) | (refine ⟨?_, ?_, ?_⟩ <;> omega))) (hS) ?_
          refine wh_done (by kernel_rfl) ?_
          refine nk_code ?_
          refine wc_ret ?_
          try dsimp only
          exact fin1 rfl (rv_tmp rfl) (fun w' hw => ⟨rfl, hw.all (new_cons (newKey hm4) (new_cons (newKey hm3) (new_cons (newKey ht5) (new_cons (newKey hm2) (new_cons (newKey ht3) (new_cons hkp (new_cons (newKey hm1) (new_cons hky (new_cons hkk new_nil)))))))))⟩)
        · refine wo_efg rfl rfl rfl (ef_conv_bytes tbok rfl rfl rfl rfl .here ⟨fun w hw => (hw.tail (newKey hm4)).tail (newKey hm3), ?_⟩)
          have hS : ∀ w', St w (⟨.at m4 0, [C.u8 98], 5, (1, 2), []⟩ :: ⟨.at m3 0, [C.u8 97], 5, (1, 2), []⟩ :: [⟨.at t5 0, z38, 38, (0, 0), []⟩, ⟨.at m2 0, [C.u8 98], 5, (1, 2), []⟩, ⟨.at t3 0, scs ((0 : Nat) : Int) (sigF sd1 0 (lvs sd1 (pw 0)) 0 [97]) p.1 0 p.2.1, 38, (0, 0), []⟩, dob 30 (pathT 0 0 (lvs sd1 (pw 0))) p, ⟨.at m1 0, [C.u8 97], 5, (1, 2), []⟩, dob 30 (lvs sd1 (pw 0)) y, kb kr sd1 0 y (pw 0) (0 + 1)]) w' → St w [⟨.at t5 0, z38, 38, (0, 0), []⟩, ⟨.at m2 0, [C.u8 98], 5, (1, 2), []⟩, ⟨.at t3 0, scs ((0 : Nat) : Int) (sigF sd1 0 (lvs sd1 (pw 0)) 0 [97]) p.1 0 p.2.1, 38, (0, 0), []⟩, dob 30 (pathT 0 0 (lvs sd1 (pw 0))) p, ⟨.at m1 0, [C.u8 97], 5, (1, 2), []⟩, dob 30 (lvs sd1 (pw 0)) y, kb kr sd1 0 y (pw 0) (0 + 1)] w' := fun _ h => (h.tail (newKey hm4)).tail (newKey hm3)
          refine wh_one 16 (by kernel_rfl) (wo_efg rfl rfl rfl (ef_pure (v := .agg (.i64 ((0 : Nat) : Int) :: bc (rootT 0 (lvs sd1 (pw 0))))) (by kernel_rfl) rfl rfl (fun w1 h1 => public_c (h := 0) (nx := 0 + 1) sd1_len (by decide) (cells_own (hS w1 h1) (.there (.there (.there (.there (.there (.there .here))))))) (lvs_A _ _) (lvs_len _ _) (OwnS.le hy) (cells_own (hS w1 h1) (.there (.there (.there (.there (.there .here))))))) ⟨hS, ?_⟩))
          refine wh_one 20 (by kernel_rfl) (wo_efg rfl rfl rfl (ef_pure (v := .c (.bool (verB ((0 : Nat) : Int) (rootT 0 (lvs sd1 (pw 0))) [98] ((0 : Nat) : Int) (sgL sd1 (UInt32.ofInt ((0 : Nat) : Int)) (wordH ((0 : Nat) : Int) (rootT 0 (lvs sd1 (pw 0))) ((0 : Nat) : Int) [97])) []))) (by kernel_rfl) rfl rfl (fun w1 h1 => ver16_c (P := []) (msg := [98]) (rootT_len 0 (lvs_A _ _) (lvs_len _ _)) (sgL_A _ _ _) (sgL_len _ _ _) (by intro s hs; cases hs) (Nat.zero_le _) cells_none (cells_own h1 .here) (by decide)) ⟨hS, ?_⟩))
          refine wh_as (v' := .c (.bool false)) (congrArg (fun b => V.c (C.bool b)) ver1) ?_
          first | refine wh_gd 21 rfl (by kernel_rfl) rfl rfl rfl rfl (qt_pure tbok rfl (by first | exact trivial | omega | exact ⟨by decide, by decide⟩ | (refine ⟨?_, ?_⟩ <;> omega) | (refine ⟨?_, ?_, ?_⟩ <;> omega))) (hS) ?_ | refine wh_skip 21 rfl (by kernel_rfl) rfl rfl rfl rfl rfl (hS) ?_
          refine wh_q 22 rfl (by kernel_rfl) rfl rfl rfl (qt_pure tbok rfl (by first | exact trivial | omega | exact ⟨by decide, by decide⟩ | (refine ⟨?_, ?_⟩ <;> omega) | (refine ⟨?_, ?_, ?_⟩ <;> omega))) (hS) ?_
          refine wh_q 23 rfl (by kernel_rfl) rfl rfl rfl (qt_pure tbok rfl (by first | exact trivial | omega | exact ⟨by decide, by decide⟩ | (refine ⟨?_, ?_⟩ <;> omega) | (refine ⟨?_, ?_, ?_⟩ <;> omega))) (hS) ?_
          refine wh_done (by kernel_rfl) ?_
          refine nk_code ?_
          refine wc_ret ?_
          try dsimp only
          exact fin1 rfl (rv_tmp rfl) (fun w' hw => ⟨rfl, hw.all (new_cons (newKey hm4) (new_cons (newKey hm3) (new_cons (newKey ht5) (new_cons (newKey hm2) (new_cons (newKey ht3) (new_cons hkp (new_cons (newKey hm1) (new_cons hky (new_cons hkk new_nil)))))))))⟩)
end Go.Proofs.Ytjhmcmadleabjaa

set_option maxRecDepth 100000
namespace Go.Proofs.Ytjhmcmadleabjaa
open Go Go.Hw Go.Proofs

theorem sfill1 {T U : Nat} {i : Int} : fillS (placeF [(3, 0, 1), (T, 1, 2144), (U, 2145, 1)]) z38 [(0, .c (.i64 i))] = some (scs i (List.replicate 2144 0) .nil 0 0) :=
  fillS_cons (off := 0) (z := 1) (cs' := scs i (List.replicate 2144 0) .nil 0 0) rfl rfl rfl (by rw [z38_len]; decide) (scs_set0 0 i _ _ _ _) rfl
theorem scs_setk {i : Int} {F G : List UInt8} {a : Ad} {n cap off : Nat} {l : List C} (hl : off + l.length ≤ F.length) (h : spl (bc F) off l = bc G) : spl (scs i F a n cap) (1 + off) l = scs i G a n cap := by
  have hb : (bc F).length = F.length := bc_len F
  have e : spl (scs i F a n cap) (1 + off) l = C.i64 i :: (spl (bc F) off l ++ [.slc a n cap]) := by
    unfold spl scs
    rw [Nat.add_comm 1 off, List.take_succ_cons, show off + 1 + l.length = (off + l.length) + 1 by omega, List.drop_succ_cons]
    rw [List.take_append_of_le_length (by omega), List.drop_append_of_le_length (by omega)]
    simp [List.append_assoc]
  rw [e, h]; rfl
/-- Elements of a list, one by one. -/
def gf (L : List (List UInt8)) (i : Nat) : List UInt8 := L.getD i []
theorem gf_map {L : List (List UInt8)} (hl : L.length = 67) : (List.range 67).map (gf L) = L := by
  apply List.ext_getElem
  · simp [hl]
  · intro i h1 h2
    simp [gf, h2]
theorem gf_len {L : List (List UInt8)} (hA : A32 L) {i : Nat} (hi : i < L.length) : (gf L i).length = 32 := by
  unfold gf; rw [List.getD_eq_getElem?_getD, List.getElem?_eq_getElem hi]; exact hA _ (List.getElem_mem hi)
theorem gf_take {L : List (List UInt8)} {i : Nat} (hi : i < L.length) : L.take (i + 1) = L.take i ++ [gf L i] := by
  rw [List.take_add_one]; simp [gf, hi]
theorem flat_mid {L : List (List UInt8)} (hA : A32 L) {i : Nat} (hi : i < L.length) : ((bc L.flatten).drop (i * 32)).take 32 = bc (gf L i) := by
  obtain ⟨_, h2⟩ := flat_take2 i hA (Nat.le_of_lt hi)
  rw [bc_drop, ← h2, bc_take, List.drop_eq_getElem_cons hi, List.flatten_cons, List.take_append_of_le_length (by rw [hA _ (List.getElem_mem hi)]; exact Nat.le_refl _), List.take_of_length_le (by rw [hA _ (List.getElem_mem hi)]; exact Nat.le_refl _)]
  unfold gf; rw [List.getD_eq_getElem?_getD, List.getElem?_eq_getElem hi]; rfl
theorem flat_gf {L : List (List UInt8)} (hA : A32 L) {i : Nat} (hi : i < L.length) : ∀ (j : Nat) c, (bc (gf L i))[j]? = some c → (bc L.flatten)[i * 32 + j]? = some c := fun j c hj => by
  refine flat_at hA hi j c ?_
  unfold gf at hj; rw [List.getD_eq_getElem?_getD, List.getElem?_eq_getElem hi] at hj; exact hj


theorem to_c {w : World} {i : Int} {CH P : List (List UInt8)} {pa : Ad} {pc : Nat} (hC : A32 CH) (hCl : CH.length = 67) (hP : A32 P) (hPl : P.length ≤ 1073741824) (hcap : P.length ≤ pc) (hc : Cells w pa (bc P.flatten)) :
    CallsV Try.prog 17 [.agg (scs i CH.flatten pa P.length pc)] w fun en w' => ∃ y : Os, en = .returned (V.agg (scs i CH.flatten y.1 P.length y.2.1)).den ∧ OwnS y.1 P.length y.2.1 32 (bc P.flatten) y.2.2 ∧ (∀ k, (dob 30 P y).key = some k → w.heap.size ≤ k) ∧ St w [dob 30 P y] w' := by
  have hF : CH.flatten.length = 2144 := by rw [flat_len hC, hCl]
  have hFb : (bc CH.flatten).length = 2144 := by rw [bc_len, hF]
  have hfA : ∀ j, j < 67 → (gf CH j).length = 32 := fun j hj => gf_len hC (by omega)
  have hul : ∀ j, j ≤ 67 → (upE (gf CH) Z67 j).flatten.length = 2144 := fun j hj => by rw [flat_len (upE_A hfA Z67_A), upE_len Z67_len hj]
  have hfull : upE (gf CH) Z67 67 = CH := by rw [upE_full Z67_len, gf_map hCl]
  refine calls_in (tb := tb) (fn := Try.f17) Try.func17 rfl rfl rfl [(0, .agg (scs i CH.flatten pa P.length pc))] rfl [] (St.refl _) ?_
  refine wc_seq ?_
  refine wc_region ?_
  refine wl_ef rfl (ef_box rfl rfl rfl (fun b hb => ?_))
  refine wl_ef rfl (ef_alloc zero38 rfl rfl (fun o ho => ?_))
  refine wl_done ?_
  refine nk_code ?_
  refine wc_seq ?_
  refine wc_region ?_
  refine wl_ef rfl (ef_q rfl rfl (qt_pure tbok rfl (by first | exact trivial | omega | exact ⟨by decide, by decide⟩ | (refine ⟨?_, ?_⟩ <;> omega) | (refine ⟨?_, ?_, ?_⟩ <;> omega))) ?_)
  first | refine wl_ef rfl (ef_q rfl rfl (qt_load tbok rfl rfl rfl (rc_lk .here rfl)) ?_) | refine wl_ef rfl (ef_q rfl rfl (qt_load tbok rfl rfl rfl (rc_lk (.there .here) rfl)) ?_) | refine wl_ef rfl (ef_q rfl rfl (qt_load tbok rfl rfl rfl (rc_lk (.there (.there .here)) rfl)) ?_) | refine wl_ef rfl (ef_q rfl rfl (qt_load tbok rfl rfl rfl (by assumption)) ?_) | refine wl_ef rfl (ef_q rfl rfl (qt_load_ag tbok rfl rfl rfl (by first | rfl | assumption) (by assumption)) ?_)
  refine wl_ef rfl (ef_q rfl rfl (qt_build (vs := [(0, .c (.i64 i))]) (l := scs i (List.replicate 2144 0) .nil 0 0) tbok rfl zero38 rfl sfill1) ?_)
  refine wl_ef rfl (ef_alloc zero38 rfl rfl (fun r hr => ?_))
  refine wl_ef rfl (ef_store (cs' := scs i (List.replicate 2144 0) .nil 0 0) tbok rfl rfl rfl rfl .here (scs_len (by simp)) (by show 0 + 2146 ≤ z38.length; rw [z38_len]; decide) (spl_all (by show (scs _ _ _ _ _).length = z38.length; rw [scs_len (by simp), z38_len])) ?_)
  refine wl_done ?_
  refine nk_code ?_
  refine wc_seq ?_
  refine wc_seq ?_
  refine wc_region ?_
  refine wl_ef rfl (ef_q rfl rfl (qt_pure tbok rfl (by first | exact trivial | omega | exact ⟨by decide, by decide⟩ | (refine ⟨?_, ?_⟩ <;> omega) | (refine ⟨?_, ?_, ?_⟩ <;> omega))) ?_)
  refine wl_ef rfl (ef_q rfl rfl (qt_load_ag (l := bc CH.flatten) tbok rfl rfl rfl hFb (rs_lk (.there (.there .here)) (scs_get hF).2.1)) ?_)
  refine wl_ef rfl (ef_q rfl rfl (qt_pure tbok rfl (by first | exact trivial | omega | exact ⟨by decide, by decide⟩ | (refine ⟨?_, ?_⟩ <;> omega) | (refine ⟨?_, ?_, ?_⟩ <;> omega))) ?_)
  refine wl_done ?_
  refine nk_code ?_
  refine wc_block ?_
  refine wc_loop (ι := Nat) (fun k => k ≤ 67) (fun k => [(13, .c (.i64 (k : Int))), (12, .agg (bc CH.flatten)), (1, .c (.ptr (.at b 0))), (2, .c (.ptr (.at o 0))), (3, .c (.ptr (.at r 0)))]) (fun k => [⟨.at r 0, scs i (upE (gf CH) Z67 k).flatten .nil 0 0, 38, (0, 0), []⟩, ⟨.at o 0, z38, 38, (0, 0), []⟩, ⟨.at b 0, scs i CH.flatten pa P.length pc, 29, (0, 0), []⟩]) (fun k => 67 - k) 0 (by omega) (nk_start ⟨rfl, rfl, rfl, rfl, rfl, trivial⟩ (fun w hw => by rw [upE_zero, show Z67.flatten = List.replicate 2144 0 by kernel_rfl]; exact hw)) (fun k hk => ?_)
  refine wc_seq ?_
  refine wc_region ?_
  refine wl_ef rfl (ef_q rfl rfl (qt_pure tbok rfl (by first | exact trivial | omega | exact ⟨by decide, by decide⟩ | (refine ⟨?_, ?_⟩ <;> omega) | (refine ⟨?_, ?_, ?_⟩ <;> omega))) ?_)
  refine wl_done ?_
  refine nk_code ?_
  refine wc_seq ?_
  refine wc_cond rfl (fun h14 => ?_) (fun h14 => ?_)
  · have hk' : k < 67 := (by have h0 := of_decide_eq_true h14; omega)
    have hfl := hul k hk
    have hgl : (bc (gf CH k)).length = 32 := (by rw [bc_len, hfA k hk'])
    refine wc_skip ?_
    refine nk_code ?_
    refine wc_seq ?_
    refine wc_block ?_
    refine wc_seq ?_
    refine wc_region ?_
    refine wl_ef rfl (ef_q rfl rfl (qt_pure tbok rfl (by first | exact trivial | omega | exact ⟨by decide, by decide⟩ | (refine ⟨?_, ?_⟩ <;> omega) | (refine ⟨?_, ?_, ?_⟩ <;> omega))) ?_)
    refine wl_ef rfl (ef_q rfl rfl (qt_index_ag tbok rfl rfl rfl rfl rfl ⟨by omega, by omega⟩ (l' := bc (gf CH k)) (by rw [Int.toNat_natCast]; exact flat_mid hC (by omega))) ?_)
    refine wl_ef rfl (ef_alloc zero22 rfl rfl (fun x hx => ?_))
    refine wl_ef rfl (ef_q rfl rfl (qt_pure tbok rfl (by first | exact trivial | omega | exact ⟨by decide, by decide⟩ | (refine ⟨?_, ?_⟩ <;> omega) | (refine ⟨?_, ?_, ?_⟩ <;> omega))) ?_)
    refine wl_ef rfl (ef_store (cs' := bc (gf CH k)) tbok rfl rfl rfl rfl .here hgl (Nat.le_of_ble_eq_true rfl) (spl_all hgl) ?_)
    refine wl_done ?_
    refine nk_code ?_
    refine wc_region ?_
    refine wl_ef rfl (ef_q rfl rfl (qt_pure tbok rfl (by first | exact trivial | omega | exact ⟨by decide, by decide⟩ | (refine ⟨?_, ?_⟩ <;> omega) | (refine ⟨?_, ?_, ?_⟩ <;> omega))) ?_)
    refine wl_ef rfl (ef_q rfl rfl (qt_load_ag (l := bc (gf CH k)) tbok rfl rfl rfl hgl (rs_lk .here at0)) ?_)
    refine wl_ef rfl (ef_q rfl rfl (qt_pure tbok rfl (by first | exact trivial | omega | exact ⟨by decide, by decide⟩ | (refine ⟨?_, ?_⟩ <;> omega) | (refine ⟨?_, ?_, ?_⟩ <;> omega))) ?_)
    refine wl_ef rfl (ef_q rfl rfl (qt_pure tbok rfl (by first | exact trivial | omega | exact ⟨by decide, by decide⟩ | (refine ⟨?_, ?_⟩ <;> omega) | (refine ⟨?_, ?_, ?_⟩ <;> omega))) ?_)
    refine wl_ef rfl (ef_store (cs' := scs i (upE (gf CH) Z67 (k + 1)).flatten .nil 0 0) tbok rfl rfl rfl rfl (.there .here) hgl (by rw [scs_len hfl]; omega) (by rw [show 0 + 1 + (k : Int).toNat * 32 = 1 + k * 32 by omega]; exact scs_setk (by show k * 32 + (bc (gf CH k)).length ≤ _; rw [hgl, hfl]; omega) (upE_set hfA Z67_A Z67_len hk')) ?_)
    refine wl_done ?_
    refine nk_code ?_
    refine wc_region ?_
    refine wl_ef rfl (ef_q rfl rfl (qt_pure tbok rfl (by first | exact trivial | omega | exact ⟨by decide, by decide⟩ | (refine ⟨?_, ?_⟩ <;> omega) | (refine ⟨?_, ?_, ?_⟩ <;> omega))) ?_)
    refine wl_ef rfl (ef_q rfl rfl (qt_pure tbok rfl (by first | exact trivial | omega | exact ⟨by decide, by decide⟩ | (refine ⟨?_, ?_⟩ <;> omega) | (refine ⟨?_, ?_, ?_⟩ <;> omega))) ?_)
    refine wl_done ?_
    exact nk_round (k + 1) (by omega) (by omega) ⟨rfl, rfl, rfl, rfl, rfl, trivial⟩ (fun _ h => h.tail (newKey hx))
  · have he : k = 67 := (by have h0 := of_decide_eq_false h14; omega)
    subst he
    rw [hfull]
    refine wc_exit rfl ?_
    refine nk_code ?_
    refine wc_seq ?_
    refine wc_seq ?_
    refine wc_region ?_
    refine wl_ef rfl (ef_q rfl rfl (qt_pure tbok rfl (by first | exact trivial | omega | exact ⟨by decide, by decide⟩ | (refine ⟨?_, ?_⟩ <;> omega) | (refine ⟨?_, ?_, ?_⟩ <;> omega))) ?_)
    refine wl_ef rfl (ef_q rfl rfl (qt_load tbok rfl rfl rfl (rc_lk (.there (.there .here)) (scs_get hF).2.2)) ?_)
    refine wl_ef rfl (ef_q rfl rfl (qt_len tbok rfl rfl) ?_)
    refine wl_ef rfl (ef_q rfl rfl (qt_pure tbok rfl (by first | exact trivial | omega | exact ⟨by decide, by decide⟩ | (refine ⟨?_, ?_⟩ <;> omega) | (refine ⟨?_, ?_, ?_⟩ <;> omega))) ?_)
    refine wl_done ?_
    refine nk_code ?_
    refine wc_block ?_
    refine wc_loop (ι := Nat × Os) (fun j => j.1 ≤ P.length ∧ OwnS j.2.1 j.1 j.2.2.1 32 (bc (P.take j.1).flatten) j.2.2.2 ∧ (∀ k, j.2.1.key = some k → w.heap.size ≤ k)) (fun j => [(25, .c (.i64 (j.1 : Int))), (24, .c (.i64 (P.length : Int))), (23, .c (.slc pa P.length pc)), (1, .c (.ptr (.at b 0))), (2, .c (.ptr (.at o 0))), (3, .c (.ptr (.at r 0)))]) (fun j => [dob 30 (P.take j.1) j.2, ⟨.at r 0, scs i CH.flatten j.2.1 j.1 j.2.2.1, 38, (0, 0), []⟩, ⟨.at o 0, z38, 38, (0, 0), []⟩, ⟨.at b 0, scs i CH.flatten pa P.length pc, 29, (0, 0), []⟩]) (fun j => P.length - j.1) (0, .nil, 0, []) ⟨Nat.zero_le _, doi_nil, nil_new⟩ (nk_start ⟨rfl, rfl, rfl, rfl, rfl, rfl, trivial⟩ (fun w hw => st_none hw)) (fun ⟨k, y⟩ ⟨hk, hy, hky⟩ => ?_)
    replace hk : k ≤ P.length := hk
    replace hy : OwnS y.1 k y.2.1 32 (bc (P.take k).flatten) y.2.2 := hy
    replace hky : ∀ k, y.1.key = some k → w.heap.size ≤ k := hky
    dsimp only
    refine wc_seq ?_
    refine wc_region ?_
    refine wl_ef rfl (ef_q rfl rfl (qt_pure tbok rfl (by first | exact trivial | omega | exact ⟨by decide, by decide⟩ | (refine ⟨?_, ?_⟩ <;> omega) | (refine ⟨?_, ?_, ?_⟩ <;> omega))) ?_)
    refine wl_done ?_
    refine nk_code ?_
    refine wc_seq ?_
    refine wc_cond rfl (fun h26 => ?_) (fun h26 => ?_)
    · have hk' : k < P.length := (by have h0 := of_decide_eq_true h26; omega)
      have hgl : (bc (gf P k)).length = 32 := (by rw [bc_len, gf_len hP hk'])
      obtain ⟨pr, po, hpa⟩ := cells_nn hc (by rw [bc_len, flat_len hP]; omega)
      subst hpa
      refine wc_skip ?_
      refine nk_code ?_
      refine wc_seq ?_
      refine wc_block ?_
      refine wc_seq ?_
      refine wc_region ?_
      refine wl_ef rfl (ef_q rfl rfl (qt_pure tbok rfl (by first | exact trivial | omega | exact ⟨by decide, by decide⟩ | (refine ⟨?_, ?_⟩ <;> omega) | (refine ⟨?_, ?_, ?_⟩ <;> omega))) ?_)
      refine wl_ef rfl (ef_q rfl rfl (qt_load_ag (l := bc (gf P k)) tbok rfl rfl rfl hgl (rs_cells (hc.sub2 (m := k * 32) (flat_gf hP hk')) (off_new hky (off_new (newKey hr) (off_new (newKey ho) (off_new (newKey hb) off_nil)))))) ?_)
      refine wl_ef rfl (ef_alloc zero22 rfl rfl (fun x hx => ?_))
      refine wl_ef rfl (ef_store (cs' := bc (gf P k)) tbok rfl rfl rfl rfl .here hgl (Nat.le_of_ble_eq_true rfl) (spl_all hgl) ?_)
      refine wl_done ?_
      refine nk_code ?_
      refine wc_region ?_
      refine wl_ef rfl (ef_q rfl rfl (qt_pure tbok rfl (by first | exact trivial | omega | exact ⟨by decide, by decide⟩ | (refine ⟨?_, ?_⟩ <;> omega) | (refine ⟨?_, ?_, ?_⟩ <;> omega))) ?_)
      refine wl_ef rfl (ef_q rfl rfl (qt_load tbok rfl rfl rfl (rc_lk (.there (.there .here)) (scs_get hF).2.2)) ?_)
      refine wl_ef rfl (ef_q rfl rfl (qt_load_ag (l := bc (gf P k)) tbok rfl rfl rfl hgl (rs_lk .here at0)) ?_)
      refine wl_ef rfl (ef_buildSlice (vs := [(0, .agg (bc (gf P k)))]) (l := bc (gf P k)) tbok rfl zero30 rfl rfl rfl (by decide) (fill_one rfl hgl) rfl (fun br hb2 => ?_))
      refine wl_ef rfl (ef_append tbok rfl el30 zero30 rfl rfl rfl (.there (.there .here)) hy hky (m := 1) (news := bc (gf P k)) hgl (rs_lk .here at0) (by omega) (by simp only [maxLen]; omega) (fun a2 c2 t2 hown2 hk2 hnn _ => ?_))
      refine wl_ef rfl (ef_q rfl rfl (qt_pure tbok rfl (by first | exact trivial | omega | exact ⟨by decide, by decide⟩ | (refine ⟨?_, ?_⟩ <;> omega) | (refine ⟨?_, ?_, ?_⟩ <;> omega))) ?_)
      refine wl_ef rfl (ef_store (cs' := scs i CH.flatten a2 (k + 1) c2) tbok rfl rfl rfl rfl (.there (.there (.there .here))) rfl (by rw [scs_len hF]; decide) (scs_set2 hF) ?_)
      refine wl_done ?_
      refine nk_code ?_
      refine wc_region ?_
      refine wl_ef rfl (ef_q rfl rfl (qt_pure tbok rfl (by first | exact trivial | omega | exact ⟨by decide, by decide⟩ | (refine ⟨?_, ?_⟩ <;> omega) | (refine ⟨?_, ?_, ?_⟩ <;> omega))) ?_)
      refine wl_ef rfl (ef_q rfl rfl (qt_pure tbok rfl (by first | exact trivial | omega | exact ⟨by decide, by decide⟩ | (refine ⟨?_, ?_⟩ <;> omega) | (refine ⟨?_, ?_, ?_⟩ <;> omega))) ?_)
      refine wl_done ?_
      exact nk_round (i := (k, y)) (k + 1, a2, c2, t2) ⟨hk', by show OwnS a2 (k + 1) c2 32 (bc (P.take (k + 1)).flatten) t2; rw [gf_take hk', ← flat_snoc]; exact hown2, hk2⟩ (by show P.length - (k + 1) < P.length - k; omega) ⟨rfl, rfl, rfl, rfl, rfl, rfl, trivial⟩ (fun w hw => by have h2 := Rm.sub_St (Rm.sub_St hw (.there .here) (newKey hb2)) (.there .here) (newKey hx); rw [flat_snoc, ← gf_take hk'] at h2; exact h2)
    · have he : k = P.length := (by have h0 := of_decide_eq_false h26; omega)
      subst he
      rw [List.take_length] at hy ⊢
      refine wc_exit rfl ?_
      refine nk_code ?_
      refine wc_seq ?_
      refine wc_region ?_
      refine wl_ef rfl (ef_q rfl rfl (qt_load_ag (l := scs i CH.flatten y.1 P.length y.2.1) tbok rfl rfl rfl (scs_len hF) (rs_lk (.there .here) at0)) ?_)
      refine wl_ef rfl (ef_store (cs' := scs i CH.flatten y.1 P.length y.2.1) tbok rfl rfl rfl rfl (.there (.there .here)) (scs_len hF) (by show 0 + 2146 ≤ z38.length; rw [z38_len]; decide) (spl_all (by show (scs _ _ _ _ _).length = z38.length; rw [scs_len hF, z38_len])) ?_)
      refine wl_done ?_
      refine nk_code ?_
      refine wc_ret ?_
      try dsimp only
      exact fin1 rfl (rv_ag (l := scs i CH.flatten y.1 P.length y.2.1) tbok rfl rfl rfl (scs_len hF) (rs_lk (.there (.there .here)) at0)) (fun w' hw => ⟨y, rfl, hy, hky, Rm.sub_St (Rm.sub_St (Rm.sub_St hw (.there .here) (newKey hr)) (.there .here) (newKey ho)) (.there .here) (newKey hb)⟩)


theorem from_c {w : World} {i : Int} {CH P : List (List UInt8)} {pa : Ad} {pc : Nat} (hC : A32 CH) (hCl : CH.length = 67) (hP : A32 P) (hPl : P.length ≤ 1073741824) (hcap : P.length ≤ pc) (hc : Cells w pa (bc P.flatten)) :
    CallsV Try.prog 28 [.agg (scs i CH.flatten pa P.length pc)] w fun en w' => ∃ y : Os, en = .returned (V.agg (scs i CH.flatten y.1 P.length y.2.1)).den ∧ OwnS y.1 P.length y.2.1 32 (bc P.flatten) y.2.2 ∧ (∀ k, (dob 22 P y).key = some k → w.heap.size ≤ k) ∧ St w [dob 22 P y] w' := by
  have hF : CH.flatten.length = 2144 := by rw [flat_len hC, hCl]
  have hFb : (bc CH.flatten).length = 2144 := by rw [bc_len, hF]
  have hfA : ∀ j, j < 67 → (gf CH j).length = 32 := fun j hj => gf_len hC (by omega)
  have hul : ∀ j, j ≤ 67 → (upE (gf CH) Z67 j).flatten.length = 2144 := fun j hj => by rw [flat_len (upE_A hfA Z67_A), upE_len Z67_len hj]
  have hfull : upE (gf CH) Z67 67 = CH := by rw [upE_full Z67_len, gf_map hCl]
  refine calls_in (tb := tb) (fn := Try.f28) Try.func28 rfl rfl rfl [(0, .agg (scs i CH.flatten pa P.length pc))] rfl [] (St.refl _) ?_
  refine wc_seq ?_
  refine wc_region ?_
  refine wl_ef rfl (ef_box rfl rfl rfl (fun b hb => ?_))
  refine wl_ef rfl (ef_alloc zero29 rfl rfl (fun o ho => ?_))
  refine wl_done ?_
  refine nk_code ?_
  refine wc_seq ?_
  refine wc_region ?_
  refine wl_ef rfl (ef_q rfl rfl (qt_pure tbok rfl (by first | exact trivial | omega | exact ⟨by decide, by decide⟩ | (refine ⟨?_, ?_⟩ <;> omega) | (refine ⟨?_, ?_, ?_⟩ <;> omega))) ?_)
  first | refine wl_ef rfl (ef_q rfl rfl (qt_load tbok rfl rfl rfl (rc_lk .here rfl)) ?_) | refine wl_ef rfl (ef_q rfl rfl (qt_load tbok rfl rfl rfl (rc_lk (.there .here) rfl)) ?_) | refine wl_ef rfl (ef_q rfl rfl (qt_load tbok rfl rfl rfl (rc_lk (.there (.there .here)) rfl)) ?_) | refine wl_ef rfl (ef_q rfl rfl (qt_load tbok rfl rfl rfl (by assumption)) ?_) | refine wl_ef rfl (ef_q rfl rfl (qt_load_ag tbok rfl rfl rfl (by first | rfl | assumption) (by assumption)) ?_)
  refine wl_ef rfl (ef_q rfl rfl (qt_build (vs := [(0, .c (.i64 i))]) (l := scs i (List.replicate 2144 0) .nil 0 0) tbok rfl zero29 rfl sfill1) ?_)
  refine wl_ef rfl (ef_alloc zero29 rfl rfl (fun r hr => ?_))
  refine wl_ef rfl (ef_store (cs' := scs i (List.replicate 2144 0) .nil 0 0) tbok rfl rfl rfl rfl .here (scs_len (by simp)) (by show 0 + 2146 ≤ z38.length; rw [z38_len]; decide) (spl_all (by show (scs _ _ _ _ _).length = z38.length; rw [scs_len (by simp), z38_len])) ?_)
  refine wl_done ?_
  refine nk_code ?_
  refine wc_seq ?_
  refine wc_seq ?_
  refine wc_region ?_
  refine wl_ef rfl (ef_q rfl rfl (qt_pure tbok rfl (by first | exact trivial | omega | exact ⟨by decide, by decide⟩ | (refine ⟨?_, ?_⟩ <;> omega) | (refine ⟨?_, ?_, ?_⟩ <;> omega))) ?_)
  refine wl_ef rfl (ef_q rfl rfl (qt_load_ag (l := bc CH.flatten) tbok rfl rfl rfl hFb (rs_lk (.there (.there .here)) (scs_get hF).2.1)) ?_)
  refine wl_ef rfl (ef_q rfl rfl (qt_pure tbok rfl (by first | exact trivial | omega | exact ⟨by decide, by decide⟩ | (refine ⟨?_, ?_⟩ <;> omega) | (refine ⟨?_, ?_, ?_⟩ <;> omega))) ?_)
  refine wl_done ?_
  refine nk_code ?_
  refine wc_block ?_
  refine wc_loop (ι := Nat) (fun k => k ≤ 67) (fun k => [(13, .c (.i64 (k : Int))), (12, .agg (bc CH.flatten)), (1, .c (.ptr (.at b 0))), (2, .c (.ptr (.at o 0))), (3, .c (.ptr (.at r 0)))]) (fun k => [⟨.at r 0, scs i (upE (gf CH) Z67 k).flatten .nil 0 0, 29, (0, 0), []⟩, ⟨.at o 0, z38, 29, (0, 0), []⟩, ⟨.at b 0, scs i CH.flatten pa P.length pc, 38, (0, 0), []⟩]) (fun k => 67 - k) 0 (by omega) (nk_start ⟨rfl, rfl, rfl, rfl, rfl, trivial⟩ (fun w hw => by rw [upE_zero, show Z67.flatten = List.replicate 2144 0 by kernel_rfl]; exact hw)) (fun k hk => ?_)
  refine wc_seq ?_
  refine wc_region ?_
  refine wl_ef rfl (ef_q rfl rfl (qt_pure tbok rfl (by first | exact trivial | omega | exact ⟨by decide, by decide⟩ | (refine ⟨?_, ?_⟩ <;> omega) | (refine ⟨?_, ?_, ?_⟩ <;> omega))) ?_)
  refine wl_done ?_
  refine nk_code ?_
  refine wc_seq ?_
  refine wc_cond rfl (fun h14 => ?_) (fun h14 => ?_)
  · have hk' : k < 67 := (by have h0 := of_decide_eq_true h14; omega)
    have hfl := hul k hk
    have hgl : (bc (gf CH k)).length = 32 := (by rw [bc_len, hfA k hk'])
    refine wc_skip ?_
    refine nk_code ?_
    refine wc_seq ?_
    refine wc_block ?_
    refine wc_seq ?_
    refine wc_region ?_
    refine wl_ef rfl (ef_q rfl rfl (qt_pure tbok rfl (by first | exact trivial | omega | exact ⟨by decide, by decide⟩ | (refine ⟨?_, ?_⟩ <;> omega) | (refine ⟨?_, ?_, ?_⟩ <;> omega))) ?_)
    refine wl_ef rfl (ef_q rfl rfl (qt_index_ag tbok rfl rfl rfl rfl rfl ⟨by omega, by omega⟩ (l' := bc (gf CH k)) (by rw [Int.toNat_natCast]; exact flat_mid hC (by omega))) ?_)
    refine wl_ef rfl (ef_alloc zero30 rfl rfl (fun x hx => ?_))
    refine wl_ef rfl (ef_q rfl rfl (qt_pure tbok rfl (by first | exact trivial | omega | exact ⟨by decide, by decide⟩ | (refine ⟨?_, ?_⟩ <;> omega) | (refine ⟨?_, ?_, ?_⟩ <;> omega))) ?_)
    refine wl_ef rfl (ef_store (cs' := bc (gf CH k)) tbok rfl rfl rfl rfl .here hgl (Nat.le_of_ble_eq_true rfl) (spl_all hgl) ?_)
    refine wl_done ?_
    refine nk_code ?_
    refine wc_region ?_
    refine wl_ef rfl (ef_q rfl rfl (qt_pure tbok rfl (by first | exact trivial | omega | exact ⟨by decide, by decide⟩ | (refine ⟨?_, ?_⟩ <;> omega) | (refine ⟨?_, ?_, ?_⟩ <;> omega))) ?_)
    refine wl_ef rfl (ef_q rfl rfl (qt_load_ag (l := bc (gf CH k)) tbok rfl rfl rfl hgl (rs_lk .here at0)) ?_)
    refine wl_ef rfl (ef_q rfl rfl (qt_pure tbok rfl (by first | exact trivial | omega | exact ⟨by decide, by decide⟩ | (refine ⟨?_, ?_⟩ <;> omega) | (refine ⟨?_, ?_, ?_⟩ <;> omega))) ?_)
    refine wl_ef rfl (ef_q rfl rfl (qt_pure tbok rfl (by first | exact trivial | omega | exact ⟨by decide, by decide⟩ | (refine ⟨?_, ?_⟩ <;> omega) | (refine ⟨?_, ?_, ?_⟩ <;> omega))) ?_)
    refine wl_ef rfl (ef_store (cs' := scs i (upE (gf CH) Z67 (k + 1)).flatten .nil 0 0) tbok rfl rfl rfl rfl (.there .here) hgl (by rw [scs_len hfl]; omega) (by rw [show 0 + 1 + (k : Int).toNat * 32 = 1 + k * 32 by omega]; exact scs_setk (by show k * 32 + (bc (gf CH k)).length ≤ _; rw [hgl, hfl]; omega) (upE_set hfA Z67_A Z67_len hk')) ?_)
    refine wl_done ?_
    refine nk_code ?_
    refine wc_region ?_
    refine wl_ef rfl (ef_q rfl rfl (qt_pure tbok rfl (by first | exact trivial | omega | exact ⟨by decide, by decide⟩ | (refine ⟨?_, ?_⟩ <;> omega) | (refine ⟨?_, ?_, ?_⟩ <;> omega))) ?_)
    refine wl_ef rfl (ef_q rfl rfl (qt_pure tbok rfl (by first | exact trivial | omega | exact ⟨by decide, by decide⟩ | (refine ⟨?_, ?_⟩ <;> omega) | (refine ⟨?_, ?_, ?_⟩ <;> omega))) ?_)
    refine wl_done ?_
    exact nk_round (k + 1) (by omega) (by omega) ⟨rfl, rfl, rfl, rfl, rfl, trivial⟩ (fun _ h => h.tail (newKey hx))
  · have he : k = 67 := (by have h0 := of_decide_eq_false h14; omega)
    subst he
    rw [hfull]
    refine wc_exit rfl ?_
    refine nk_code ?_
    refine wc_seq ?_
    refine wc_seq ?_
    refine wc_region ?_
    refine wl_ef rfl (ef_q rfl rfl (qt_pure tbok rfl (by first | exact trivial | omega | exact ⟨by decide, by decide⟩ | (refine ⟨?_, ?_⟩ <;> omega) | (refine ⟨?_, ?_, ?_⟩ <;> omega))) ?_)
    refine wl_ef rfl (ef_q rfl rfl (qt_load tbok rfl rfl rfl (rc_lk (.there (.there .here)) (scs_get hF).2.2)) ?_)
    refine wl_ef rfl (ef_q rfl rfl (qt_len tbok rfl rfl) ?_)
    refine wl_ef rfl (ef_q rfl rfl (qt_pure tbok rfl (by first | exact trivial | omega | exact ⟨by decide, by decide⟩ | (refine ⟨?_, ?_⟩ <;> omega) | (refine ⟨?_, ?_, ?_⟩ <;> omega))) ?_)
    refine wl_done ?_
    refine nk_code ?_
    refine wc_block ?_
    refine wc_loop (ι := Nat × Os) (fun j => j.1 ≤ P.length ∧ OwnS j.2.1 j.1 j.2.2.1 32 (bc (P.take j.1).flatten) j.2.2.2 ∧ (∀ k, j.2.1.key = some k → w.heap.size ≤ k)) (fun j => [(25, .c (.i64 (j.1 : Int))), (24, .c (.i64 (P.length : Int))), (23, .c (.slc pa P.length pc)), (1, .c (.ptr (.at b 0))), (2, .c (.ptr (.at o 0))), (3, .c (.ptr (.at r 0)))]) (fun j => [dob 22 (P.take j.1) j.2, ⟨.at r 0, scs i CH.flatten j.2.1 j.1 j.2.2.1, 29, (0, 0), []⟩, ⟨.at o 0, z38, 29, (0, 0), []⟩, ⟨.at b 0, scs i CH.flatten pa P.length pc, 38, (0, 0), []⟩]) (fun j => P.length - j.1) (0, .nil, 0, []) ⟨Nat.zero_le _, doi_nil, nil_new⟩ (nk_start ⟨rfl, rfl, rfl, rfl, rfl, rfl, trivial⟩ (fun w hw => st_none hw)) (fun ⟨k, y⟩ ⟨hk, hy, hky⟩ => ?_)
    replace hk : k ≤ P.length := hk
    replace hy : OwnS y.1 k y.2.1 32 (bc (P.take k).flatten) y.2.2 := hy
    replace hky : ∀ k, y.1.key = some k → w.heap.size ≤ k := hky
    dsimp only
    refine wc_seq ?_
    refine wc_region ?_
    refine wl_ef rfl (ef_q rfl rfl (qt_pure tbok rfl (by first | exact trivial | omega | exact ⟨by decide, by decide⟩ | (refine ⟨?_, ?_⟩ <;> omega) | (refine ⟨?_, ?_, ?_⟩ <;> omega))) ?_)
    refine wl_done ?_
    refine nk_code ?_
    refine wc_seq ?_
    refine wc_cond rfl (fun h26 => ?_) (fun h26 => ?_)
    · have hk' : k < P.length := (by have h0 := of_decide_eq_true h26; omega)
      have hgl : (bc (gf P k)).length = 32 := (by rw [bc_len, gf_len hP hk'])
      obtain ⟨pr, po, hpa⟩ := cells_nn hc (by rw [bc_len, flat_len hP]; omega)
      subst hpa
      refine wc_skip ?_
      refine nk_code ?_
      refine wc_seq ?_
      refine wc_block ?_
      refine wc_seq ?_
      refine wc_region ?_
      refine wl_ef rfl (ef_q rfl rfl (qt_pure tbok rfl (by first | exact trivial | omega | exact ⟨by decide, by decide⟩ | (refine ⟨?_, ?_⟩ <;> omega) | (refine ⟨?_, ?_, ?_⟩ <;> omega))) ?_)
      refine wl_ef rfl (ef_q rfl rfl (qt_load_ag (l := bc (gf P k)) tbok rfl rfl rfl hgl (rs_cells (hc.sub2 (m := k * 32) (flat_gf hP hk')) (off_new hky (off_new (newKey hr) (off_new (newKey ho) (off_new (newKey hb) off_nil)))))) ?_)
      refine wl_ef rfl (ef_alloc zero30 rfl rfl (fun x hx => ?_))
      refine wl_ef rfl (ef_store (cs' := bc (gf P k)) tbok rfl rfl rfl rfl .here hgl (Nat.le_of_ble_eq_true rfl) (spl_all hgl) ?_)
      refine wl_done ?_
      refine nk_code ?_
      refine wc_region ?_
      refine wl_ef rfl (ef_q rfl rfl (qt_pure tbok rfl (by first | exact trivial | omega | exact ⟨by decide, by decide⟩ | (refine ⟨?_, ?_⟩ <;> omega) | (refine ⟨?_, ?_, ?_⟩ <;> omega))) ?_)
      refine wl_ef rfl (ef_q rfl rfl (qt_load tbok rfl rfl rfl (rc_lk (.there (.there .here)) (scs_get hF).2.2)) ?_)
      refine wl_ef rfl (ef_q rfl rfl (qt_load_ag (l := bc (gf P k)) tbok rfl rfl rfl hgl (rs_lk .here at0)) ?_)
      refine wl_ef rfl (ef_buildSlice (vs := [(0, .agg (bc (gf P k)))]) (l := bc (gf P k)) tbok rfl zero22 rfl rfl rfl (by decide) (fill_one rfl hgl) rfl (fun br hb2 => ?_))
      refine wl_ef rfl (ef_append tbok rfl el22 zero22 rfl rfl rfl (.there (.there .here)) hy hky (m := 1) (news := bc (gf P k)) hgl (rs_lk .here at0) (by omega) (by simp only [maxLen]; omega) (fun a2 c2 t2 hown2 hk2 hnn _ => ?_))
      refine wl_ef rfl (ef_q rfl rfl (qt_pure tbok rfl (by first | exact trivial | omega | exact ⟨by decide, by decide⟩ | (refine ⟨?_, ?_⟩ <;> omega) | (refine ⟨?_, ?_, ?_⟩ <;> omega))) ?_)
      refine wl_ef rfl (ef_store (cs' := scs i CH.flatten a2 (k + 1) c2) tbok rfl rfl rfl rfl (.there (.there (.there .here))) rfl (by rw [scs_len hF]; decide) (scs_set2 hF) ?_)
      refine wl_done ?_
      refine nk_code ?_
      refine wc_region ?_
      refine wl_ef rfl (ef_q rfl rfl (qt_pure tbok rfl (by first | exact trivial | omega | exact ⟨by decide, by decide⟩ | (refine ⟨?_, ?_⟩ <;> omega) | (refine ⟨?_, ?_, ?_⟩ <;> omega))) ?_)
      refine wl_ef rfl (ef_q rfl rfl (qt_pure tbok rfl (by first | exact trivial | omega | exact ⟨by decide, by decide⟩ | (refine ⟨?_, ?_⟩ <;> omega) | (refine ⟨?_, ?_, ?_⟩ <;> omega))) ?_)
      refine wl_done ?_
      exact nk_round (i := (k, y)) (k + 1, a2, c2, t2) ⟨hk', by show OwnS a2 (k + 1) c2 32 (bc (P.take (k + 1)).flatten) t2; rw [gf_take hk', ← flat_snoc]; exact hown2, hk2⟩ (by show P.length - (k + 1) < P.length - k; omega) ⟨rfl, rfl, rfl, rfl, rfl, rfl, trivial⟩ (fun w hw => by have h2 := Rm.sub_St (Rm.sub_St hw (.there .here) (newKey hb2)) (.there .here) (newKey hx); rw [flat_snoc, ← gf_take hk'] at h2; exact h2)
    · have he : k = P.length := (by have h0 := of_decide_eq_false h26; omega)
      subst he
      rw [List.take_length] at hy ⊢
      refine wc_exit rfl ?_
      refine nk_code ?_
      refine wc_seq ?_
      refine wc_region ?_
      refine wl_ef rfl (ef_q rfl rfl (qt_load_ag (l := scs i CH.flatten y.1 P.length y.2.1) tbok rfl rfl rfl (scs_len hF) (rs_lk (.there .here) at0)) ?_)
      refine wl_ef rfl (ef_store (cs' := scs i CH.flatten y.1 P.length y.2.1) tbok rfl rfl rfl rfl (.there (.there .here)) (scs_len hF) (by show 0 + 2146 ≤ z38.length; rw [z38_len]; decide) (spl_all (by show (scs _ _ _ _ _).length = z38.length; rw [scs_len hF, z38_len])) ?_)
      refine wl_done ?_
      refine nk_code ?_
      refine wc_ret ?_
      try dsimp only
      exact fin1 rfl (rv_ag (l := scs i CH.flatten y.1 P.length y.2.1) tbok rfl rfl rfl (scs_len hF) (rs_lk (.there (.there .here)) at0)) (fun w' hw => ⟨y, rfl, hy, hky, Rm.sub_St (Rm.sub_St (Rm.sub_St hw (.there .here) (newKey hr)) (.there .here) (newKey ho)) (.there .here) (newKey hb)⟩)

end Go.Proofs.Ytjhmcmadleabjaa
