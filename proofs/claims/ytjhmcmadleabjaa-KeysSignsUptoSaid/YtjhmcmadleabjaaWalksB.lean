/- The walks of KeysNil, KeysApart: each answers true and leaves what was there. -/
import Derived.Test.YtjhmcmadleabjaaWalks
import Derived.Test.YtjhmcmadleabjaaFrameD
set_option linter.unusedVariables false
set_option maxRecDepth 100000
namespace Go.Proofs.Ytjhmcmadleabjaa
open Go Go.Hw Go.Proofs

theorem eq30' : BArr Try.prog 9999 30 32 := barr_u8 tbok rfl rfl 9997
theorem eq22' : BArr Try.prog 9999 22 32 := barr_u8 tbok rfl rfl 9997
theorem pair32 : pairB Try.prog 32 30 = true := by kernel_rfl
theorem pair24 : pairB Try.prog 24 22 = true := by kernel_rfl
theorem ng32 : noGuard Try.prog 32 = true := by kernel_rfl
theorem ng24 : noGuard Try.prog 24 = true := by kernel_rfl
def sd2 : List UInt8 := 2 :: List.replicate 31 0

theorem keysNil_lo {w : World} {h : Int} {msg : List UInt8} {ma : Ad} {mc : Nat} (hm : Cells w ma (bc msg)) (hlv : Lives w ma) (hmax : msg.length ≤ 1073741000) (hh : h < 0) :
    CallsV Try.prog 7 [.c (.i64 h), .c (.slc ma msg.length mc)] w fun en w' => en = .returned (V.c (.bool true)).den ∧ St w [] w' := by
  refine calls_in (tb := tb) (fn := Try.f7) Try.func7 rfl rfl rfl [(0, .c (.i64 h)), (1, .c (.slc ma msg.length mc))] rfl [] (St.refl _) ?_
  refine wc_seq ?_
  refine wc_region ?_
  refine wl_ef rfl (ef_q rfl rfl (qt_pure tbok rfl (by first | exact trivial | omega | exact ⟨by decide, by decide⟩ | (refine ⟨?_, ?_⟩ <;> omega) | (refine ⟨?_, ?_, ?_⟩ <;> omega))) ?_)
  refine wl_done ?_
  refine nk_code ?_
  refine wc_seq ?_
  refine wc_region ?_
  refine wl_ef rfl (ef_q rfl rfl (qt_pure tbok rfl (by first | exact trivial | omega | exact ⟨by decide, by decide⟩ | (refine ⟨?_, ?_⟩ <;> omega) | (refine ⟨?_, ?_, ?_⟩ <;> omega))) ?_)
  refine wl_done ?_
  refine nk_code ?_
  refine wc_seq ?_
  refine wc_region ?_
  refine wl_ef rfl (ef_q rfl rfl (qt_pure tbok rfl (by first | exact trivial | omega | exact ⟨by decide, by decide⟩ | (refine ⟨?_, ?_⟩ <;> omega) | (refine ⟨?_, ?_, ?_⟩ <;> omega))) ?_)
  refine wl_ef rfl (ef_q rfl rfl (qt_pure tbok rfl (by first | exact trivial | omega | exact ⟨by decide, by decide⟩ | (refine ⟨?_, ?_⟩ <;> omega) | (refine ⟨?_, ?_, ?_⟩ <;> omega))) ?_)
  refine wl_ef rfl (ef_pure (v := .t2 (.agg z38) (.c (.i64 2))) (by kernel_rfl) rfl rfl (fun w1 _ => signil_c) ?_)
  refine wl_ef rfl (ef_q rfl rfl (qt_pure tbok rfl (by first | exact trivial | omega | exact ⟨by decide, by decide⟩ | (refine ⟨?_, ?_⟩ <;> omega) | (refine ⟨?_, ?_, ?_⟩ <;> omega))) ?_)
  refine wl_ef rfl (ef_q rfl rfl (qt_pure tbok rfl (by first | exact trivial | omega | exact ⟨by decide, by decide⟩ | (refine ⟨?_, ?_⟩ <;> omega) | (refine ⟨?_, ?_, ?_⟩ <;> omega))) ?_)
  refine wl_ef rfl (ef_q rfl rfl (qt_pure tbok rfl (by first | exact trivial | omega | exact ⟨by decide, by decide⟩ | (refine ⟨?_, ?_⟩ <;> omega) | (refine ⟨?_, ?_, ?_⟩ <;> omega))) ?_)
  refine wl_ef rfl (ef_alloc zero38 rfl rfl (fun t6 ht6 => ?_))
  refine wl_ef rfl (ef_store (cs' := z38) tbok rfl rfl rfl rfl .here z38_len (by show 0 + 2146 ≤ z38.length; rw [z38_len]; decide) (spl_all rfl) ?_)
  refine wl_ef rfl (ef_q rfl rfl (qt_pure tbok rfl (by first | exact trivial | omega | exact ⟨by decide, by decide⟩ | (refine ⟨?_, ?_⟩ <;> omega) | (refine ⟨?_, ?_, ?_⟩ <;> omega))) ?_)
  refine wl_done ?_
  refine nk_code ?_
  refine wc_seq ?_
  refine wc_region ?_
  refine wl_ef rfl (ef_q rfl rfl (qt_pure tbok rfl (by first | exact trivial | omega | exact ⟨by decide, by decide⟩ | (refine ⟨?_, ?_⟩ <;> omega) | (refine ⟨?_, ?_, ?_⟩ <;> omega))) ?_)
  refine wl_ef rfl (ef_fresh (by kernel_rfl) rfl rfl (fun w1 h1 => twin_c (p := msg) (cells_rd (rd_cells hm (off_new (newKey ht6) off_nil)) h1) rfl (by omega)) (fun x hx hkx => ?_))
  refine wl_ef rfl (ef_q rfl rfl (qt_pure tbok rfl (by first | exact trivial | omega | exact ⟨by decide, by decide⟩ | (refine ⟨?_, ?_⟩ <;> omega) | (refine ⟨?_, ?_, ?_⟩ <;> omega))) ?_)
  refine wl_done ?_
  refine nk_code ?_
  refine wc_seq ?_
  refine wc_region ?_
  refine wl_ef rfl (ef_q rfl rfl (qt_build_arr (vs := [(0, .c (.u8 2))]) (l := bc sd2) tbok rfl zero30 rfl rfl) ?_)
  refine wl_ef rfl (ef_fresh2 (by kernel_rfl) rfl rfl (fun w1 h1 => new_c (sd := sd2) (h := 0) rfl (by decide)) (fun ⟨kr, y⟩ hy hky hkk => ?_))
  dsimp only at hy hky hkk
  dsimp only
  refine wl_ef rfl (ef_q rfl rfl (qt_pure tbok rfl (by first | exact trivial | omega | exact ⟨by decide, by decide⟩ | (refine ⟨?_, ?_⟩ <;> omega) | (refine ⟨?_, ?_, ?_⟩ <;> omega))) ?_)
  refine wl_ef rfl (ef_q rfl rfl (qt_pure tbok rfl (by first | exact trivial | omega | exact ⟨by decide, by decide⟩ | (refine ⟨?_, ?_⟩ <;> omega) | (refine ⟨?_, ?_, ?_⟩ <;> omega))) ?_)
  refine wl_ef rfl (ef_q rfl rfl (qt_pure tbok rfl (by first | exact trivial | omega | exact ⟨by decide, by decide⟩ | (refine ⟨?_, ?_⟩ <;> omega) | (refine ⟨?_, ?_, ?_⟩ <;> omega))) ?_)
  refine wl_ef rfl (ef_q rfl rfl (qt_pure tbok rfl (by first | exact trivial | omega | exact ⟨by decide, by decide⟩ | (refine ⟨?_, ?_⟩ <;> omega) | (refine ⟨?_, ?_, ?_⟩ <;> omega))) ?_)
  refine wl_ef rfl (ef_q rfl rfl (qt_pure tbok rfl (by first | exact trivial | omega | exact ⟨by decide, by decide⟩ | (refine ⟨?_, ?_⟩ <;> omega) | (refine ⟨?_, ?_, ?_⟩ <;> omega))) ?_)
  refine wl_done ?_
  refine nk_code ?_
  refine wc_seq ?_
  refine wc_seq ?_
  refine wc_region ?_
  refine wl_ef rfl (ef_q rfl rfl (qt_pure tbok rfl (by first | exact trivial | omega | exact ⟨by decide, by decide⟩ | (refine ⟨?_, ?_⟩ <;> omega) | (refine ⟨?_, ?_, ?_⟩ <;> omega))) ?_)
  first | refine wl_ef rfl (ef_q rfl rfl (qt_pure tbok rfl (by first | exact trivial | omega | exact ⟨by decide, by decide⟩ | (refine ⟨?_, ?_⟩ <;> omega) | (refine ⟨?_, ?_, ?_⟩ <;> omega))) ?_) | refine wl_ef rfl (ef_q rfl rfl (qt_eqn tbok rfl rfl rfl) ?_)
  refine wl_done ?_
  refine nk_code ?_
  refine wc_no rfl ?_
  refine wc_skip ?_
  refine nk_code ?_
  refine wc_seq ?_
  refine wc_region ?_
  refine wl_ef rfl (ef_q rfl rfl (qt_pure tbok rfl (by first | exact trivial | omega | exact ⟨by decide, by decide⟩ | (refine ⟨?_, ?_⟩ <;> omega) | (refine ⟨?_, ?_, ?_⟩ <;> omega))) ?_)
  refine wl_ef rfl (ef_q rfl rfl (qt_pure tbok rfl (by first | exact trivial | omega | exact ⟨by decide, by decide⟩ | (refine ⟨?_, ?_⟩ <;> omega) | (refine ⟨?_, ?_, ?_⟩ <;> omega))) ?_)
  refine wl_ef rfl (ef_turn1 (b' := fun _ => kb kr sd2 0 y (pw 0) (0 + 1)) (by kernel_rfl) rfl rfl (fun _ => .there .here) (fun _ => rfl) (fun w1 h1 => sign26_c (h := 0) (nx := 0) (msg := msg) rfl (by decide) (by decide) (lk_st h1 (.there .here)) (lvs_A _ _) (lvs_len _ _) (OwnS.le hy) (cells_own h1 .here) (own_ne h1 .here rfl) (cells_rd (rd_cells hm (off_new hky (off_new hkk (off_new hkx (off_new (newKey ht6) off_nil))))) h1) (hlv.ne (hkk kr rfl)) hmax) (fun p hp hkp => ?_))
  refine wl_done ?_
  refine nk_code ?_
  refine wc_seq ?_
  refine wc_seq ?_
  refine wc_region ?_
  refine wl_ef rfl (ef_q rfl rfl (qt_pure tbok rfl (by first | exact trivial | omega | exact ⟨by decide, by decide⟩ | (refine ⟨?_, ?_⟩ <;> omega) | (refine ⟨?_, ?_, ?_⟩ <;> omega))) ?_)
  refine wl_ef rfl (ef_q rfl rfl (qt_pure tbok rfl (by first | exact trivial | omega | exact ⟨by decide, by decide⟩ | (refine ⟨?_, ?_⟩ <;> omega) | (refine ⟨?_, ?_, ?_⟩ <;> omega))) ?_)
  refine wl_as (v' := .c (.bool true)) (congrArg (fun b => V.c (C.bool b)) (decide_eq_true (by omega))) ?_
  refine wl_ef rfl (ef_q rfl rfl (qt_pure tbok rfl (by first | exact trivial | omega | exact ⟨by decide, by decide⟩ | (refine ⟨?_, ?_⟩ <;> omega) | (refine ⟨?_, ?_, ?_⟩ <;> omega))) ?_)
  first | refine wl_gd rfl rfl (ef_q rfl rfl (qt_pure tbok rfl (by first | exact trivial | omega | exact ⟨by decide, by decide⟩ | (refine ⟨?_, ?_⟩ <;> omega) | (refine ⟨?_, ?_, ?_⟩ <;> omega))) ?_) | refine wl_skip rfl rfl rfl rfl rfl ?_
  first | refine wl_gd rfl rfl (ef_q rfl rfl (qt_pure tbok rfl (by first | exact trivial | omega | exact ⟨by decide, by decide⟩ | (refine ⟨?_, ?_⟩ <;> omega) | (refine ⟨?_, ?_, ?_⟩ <;> omega))) ?_) | refine wl_skip rfl rfl rfl rfl rfl ?_
  refine wl_ef rfl (ef_q rfl rfl (qt_pure tbok rfl (by first | exact trivial | omega | exact ⟨by decide, by decide⟩ | (refine ⟨?_, ?_⟩ <;> omega) | (refine ⟨?_, ?_, ?_⟩ <;> omega))) ?_)
  refine wl_done ?_
  refine nk_code ?_
  refine wc_yes rfl ?_
  refine wc_seq ?_
  refine wc_region ?_
  refine wl_ef rfl (ef_q rfl rfl (qt_build_arr (vs := []) (l := bc (List.replicate 32 0)) tbok rfl zero30 rfl rfl) ?_)
  refine wl_ef rfl (ef_q rfl rfl (qt_pure tbok rfl (by first | exact trivial | omega | exact ⟨by decide, by decide⟩ | (refine ⟨?_, ?_⟩ <;> omega) | (refine ⟨?_, ?_, ?_⟩ <;> omega))) ?_)
  refine wl_ef rfl (ef_pure (v := .t2 (.c (.ptr .nil)) (.c (.i64 1))) (by kernel_rfl) rfl rfl (fun w1 _ => newbad_c rfl (by omega)) ?_)
  refine wl_ef rfl (ef_q rfl rfl (qt_pure tbok rfl (by first | exact trivial | omega | exact ⟨by decide, by decide⟩ | (refine ⟨?_, ?_⟩ <;> omega) | (refine ⟨?_, ?_, ?_⟩ <;> omega))) ?_)
  refine wl_ef rfl (ef_q rfl rfl (qt_pure tbok rfl (by first | exact trivial | omega | exact ⟨by decide, by decide⟩ | (refine ⟨?_, ?_⟩ <;> omega) | (refine ⟨?_, ?_, ?_⟩ <;> omega))) ?_)
  refine wl_ef rfl (ef_q rfl rfl (qt_pure tbok rfl (by first | exact trivial | omega | exact ⟨by decide, by decide⟩ | (refine ⟨?_, ?_⟩ <;> omega) | (refine ⟨?_, ?_, ?_⟩ <;> omega))) ?_)
  refine wl_ef rfl (ef_q rfl rfl (qt_pure tbok rfl (by first | exact trivial | omega | exact ⟨by decide, by decide⟩ | (refine ⟨?_, ?_⟩ <;> omega) | (refine ⟨?_, ?_, ?_⟩ <;> omega))) ?_)
  refine wl_ef rfl (ef_q rfl rfl (qt_pure tbok rfl (by first | exact trivial | omega | exact ⟨by decide, by decide⟩ | (refine ⟨?_, ?_⟩ <;> omega) | (refine ⟨?_, ?_, ?_⟩ <;> omega))) ?_)
  refine wl_done ?_
  refine nk_code ?_
  refine wc_seq ?_
  refine wc_region ?_
  refine wl_ef rfl (ef_q rfl rfl (qt_pure tbok rfl (by first | exact trivial | omega | exact ⟨by decide, by decide⟩ | (refine ⟨?_, ?_⟩ <;> omega) | (refine ⟨?_, ?_, ?_⟩ <;> omega))) ?_)
  first | refine wl_ef rfl (ef_q rfl rfl (qt_pure tbok rfl (by first | exact trivial | omega | exact ⟨by decide, by decide⟩ | (refine ⟨?_, ?_⟩ <;> omega) | (refine ⟨?_, ?_, ?_⟩ <;> omega))) ?_) | refine wl_ef rfl (ef_q rfl rfl (qt_neqn tbok rfl rfl rfl) ?_)
  refine wl_ef rfl (ef_q rfl rfl (qt_pure tbok rfl (by first | exact trivial | omega | exact ⟨by decide, by decide⟩ | (refine ⟨?_, ?_⟩ <;> omega) | (refine ⟨?_, ?_, ?_⟩ <;> omega))) ?_)
  first | refine wl_gd rfl rfl (ef_q rfl rfl (qt_pure tbok rfl (by first | exact trivial | omega | exact ⟨by decide, by decide⟩ | (refine ⟨?_, ?_⟩ <;> omega) | (refine ⟨?_, ?_, ?_⟩ <;> omega))) ?_) | refine wl_skip rfl rfl rfl rfl rfl ?_
  first | refine wl_gd rfl rfl (ef_q rfl rfl (qt_pure tbok rfl (by first | exact trivial | omega | exact ⟨by decide, by decide⟩ | (refine ⟨?_, ?_⟩ <;> omega) | (refine ⟨?_, ?_, ?_⟩ <;> omega))) ?_) | refine wl_gd rfl rfl (ef_q rfl rfl (qt_neqn tbok rfl rfl rfl) ?_) | refine wl_skip rfl rfl rfl rfl rfl ?_
  refine wl_ef rfl (ef_q rfl rfl (qt_pure tbok rfl (by first | exact trivial | omega | exact ⟨by decide, by decide⟩ | (refine ⟨?_, ?_⟩ <;> omega) | (refine ⟨?_, ?_, ?_⟩ <;> omega))) ?_)
  refine wl_done ?_
  refine nk_code ?_
  refine wc_no rfl ?_
  refine wc_skip ?_
  refine nk_code ?_
  refine wc_seq ?_
  refine wc_region ?_
  refine wl_ef rfl (ef_pure (v := .c (.bool true)) (by kernel_rfl) rfl rfl (fun w1 _ => awake_c) ?_)
  refine wl_ef rfl (ef_q rfl rfl (qt_pure tbok rfl (by first | exact trivial | omega | exact ⟨by decide, by decide⟩ | (refine ⟨?_, ?_⟩ <;> omega) | (refine ⟨?_, ?_, ?_⟩ <;> omega))) ?_)
  first | refine wl_gd rfl rfl (ef_q rfl rfl (qt_pure tbok rfl (by first | exact trivial | omega | exact ⟨by decide, by decide⟩ | (refine ⟨?_, ?_⟩ <;> omega) | (refine ⟨?_, ?_, ?_⟩ <;> omega))) ?_) | refine wl_skip rfl rfl rfl rfl rfl ?_
  first | refine wl_gd rfl rfl (ef_q rfl rfl (qt_pure tbok rfl (by first | exact trivial | omega | exact ⟨by decide, by decide⟩ | (refine ⟨?_, ?_⟩ <;> omega) | (refine ⟨?_, ?_, ?_⟩ <;> omega))) ?_) | refine wl_gd rfl rfl (ef_q rfl rfl (qt_eqn tbok rfl rfl rfl) ?_) | refine wl_skip rfl rfl rfl rfl rfl ?_
  refine wl_ef rfl (ef_q rfl rfl (qt_pure tbok rfl (by first | exact trivial | omega | exact ⟨by decide, by decide⟩ | (refine ⟨?_, ?_⟩ <;> omega) | (refine ⟨?_, ?_, ?_⟩ <;> omega))) ?_)
  refine wl_ef rfl (ef_q rfl rfl (qt_pure tbok rfl (by first | exact trivial | omega | exact ⟨by decide, by decide⟩ | (refine ⟨?_, ?_⟩ <;> omega) | (refine ⟨?_, ?_, ?_⟩ <;> omega))) ?_)
  first | refine wl_gd rfl rfl (ef_q rfl rfl (qt_pure tbok rfl (by first | exact trivial | omega | exact ⟨by decide, by decide⟩ | (refine ⟨?_, ?_⟩ <;> omega) | (refine ⟨?_, ?_, ?_⟩ <;> omega))) ?_) | refine wl_skip rfl rfl rfl rfl rfl ?_
  refine wl_gd rfl rfl (ef_pure (v := .c (.i64 2)) (by kernel_rfl) rfl rfl (fun w1 _ => skipnil_c) ?_)
  first | refine wl_gd rfl rfl (ef_q rfl rfl (qt_pure tbok rfl (by first | exact trivial | omega | exact ⟨by decide, by decide⟩ | (refine ⟨?_, ?_⟩ <;> omega) | (refine ⟨?_, ?_, ?_⟩ <;> omega))) ?_) | refine wl_gd rfl rfl (ef_q rfl rfl (qt_eqn tbok rfl rfl rfl) ?_) | refine wl_skip rfl rfl rfl rfl rfl ?_
  refine wl_ef rfl (ef_q rfl rfl (qt_pure tbok rfl (by first | exact trivial | omega | exact ⟨by decide, by decide⟩ | (refine ⟨?_, ?_⟩ <;> omega) | (refine ⟨?_, ?_, ?_⟩ <;> omega))) ?_)
  refine wl_ef rfl (ef_q rfl rfl (qt_pure tbok rfl (by first | exact trivial | omega | exact ⟨by decide, by decide⟩ | (refine ⟨?_, ?_⟩ <;> omega) | (refine ⟨?_, ?_, ?_⟩ <;> omega))) ?_)
  first | refine wl_gd rfl rfl (ef_q rfl rfl (qt_pure tbok rfl (by first | exact trivial | omega | exact ⟨by decide, by decide⟩ | (refine ⟨?_, ?_⟩ <;> omega) | (refine ⟨?_, ?_, ?_⟩ <;> omega))) ?_) | refine wl_skip rfl rfl rfl rfl rfl ?_
  refine wl_gd rfl rfl (ef_pure (v := .c (.i64 0)) (by kernel_rfl) rfl rfl (fun w1 _ => leftnil_c) ?_)
  first | refine wl_gd rfl rfl (ef_q rfl rfl (qt_pure tbok rfl (by first | exact trivial | omega | exact ⟨by decide, by decide⟩ | (refine ⟨?_, ?_⟩ <;> omega) | (refine ⟨?_, ?_, ?_⟩ <;> omega))) ?_) | refine wl_gd rfl rfl (ef_q rfl rfl (qt_eqn tbok rfl rfl rfl) ?_) | refine wl_skip rfl rfl rfl rfl rfl ?_
  refine wl_ef rfl (ef_q rfl rfl (qt_pure tbok rfl (by first | exact trivial | omega | exact ⟨by decide, by decide⟩ | (refine ⟨?_, ?_⟩ <;> omega) | (refine ⟨?_, ?_, ?_⟩ <;> omega))) ?_)
  refine wl_ef rfl (ef_q rfl rfl (qt_pure tbok rfl (by first | exact trivial | omega | exact ⟨by decide, by decide⟩ | (refine ⟨?_, ?_⟩ <;> omega) | (refine ⟨?_, ?_, ?_⟩ <;> omega))) ?_)
  first | refine wl_gd rfl rfl (ef_q rfl rfl (qt_pure tbok rfl (by first | exact trivial | omega | exact ⟨by decide, by decide⟩ | (refine ⟨?_, ?_⟩ <;> omega) | (refine ⟨?_, ?_, ?_⟩ <;> omega))) ?_) | refine wl_skip rfl rfl rfl rfl rfl ?_
  refine wl_gd rfl rfl (ef_pure (v := .agg (.i64 0 :: bc (List.replicate 32 0))) (by kernel_rfl) rfl rfl (fun w1 _ => publicnil_c) ?_)
  refine wl_gd rfl rfl (ef_q rfl rfl (qt_build (vs := []) (l := .i64 0 :: bc (List.replicate 32 0)) tbok rfl zero32 rfl rfl) ?_)
  refine wl_gd rfl rfl (ef_q rfl rfl (qt_eq_pair tbok pair32 rfl rfl eq30' ng32 rfl rfl rfl rfl) ?_)
  refine wl_ef rfl (ef_q rfl rfl (qt_pure tbok rfl (by first | exact trivial | omega | exact ⟨by decide, by decide⟩ | (refine ⟨?_, ?_⟩ <;> omega) | (refine ⟨?_, ?_, ?_⟩ <;> omega))) ?_)
  refine wl_ef rfl (ef_q rfl rfl (qt_pure tbok rfl (by first | exact trivial | omega | exact ⟨by decide, by decide⟩ | (refine ⟨?_, ?_⟩ <;> omega) | (refine ⟨?_, ?_, ?_⟩ <;> omega))) ?_)
  first | refine wl_gd rfl rfl (ef_q rfl rfl (qt_pure tbok rfl (by first | exact trivial | omega | exact ⟨by decide, by decide⟩ | (refine ⟨?_, ?_⟩ <;> omega) | (refine ⟨?_, ?_, ?_⟩ <;> omega))) ?_) | refine wl_skip rfl rfl rfl rfl rfl ?_
  first | refine wl_gd rfl rfl (ef_q rfl rfl (qt_pure tbok rfl (by first | exact trivial | omega | exact ⟨by decide, by decide⟩ | (refine ⟨?_, ?_⟩ <;> omega) | (refine ⟨?_, ?_, ?_⟩ <;> omega))) ?_) | refine wl_skip rfl rfl rfl rfl rfl ?_
  refine wl_gd rfl rfl (ef_pure (v := .c (.bool (decide (msg = msg)))) (by kernel_rfl) rfl rfl (fun w1 h1 => same_c (p := msg) (cells_rd (rd_cells hm (off_new hkp (off_new hky (off_new (newKey (hkk kr rfl)) (off_new hkx (off_new (newKey ht6) off_nil)))))) h1) (cells_own h1 (.there (.there (.there .here)))) (by omega)) ?_)
  refine wl_as (v' := .c (.bool true)) (congrArg (fun b => V.c (C.bool b)) (decide_eq_true rfl)) ?_
  refine wl_ef rfl (ef_q rfl rfl (qt_pure tbok rfl (by first | exact trivial | omega | exact ⟨by decide, by decide⟩ | (refine ⟨?_, ?_⟩ <;> omega) | (refine ⟨?_, ?_, ?_⟩ <;> omega))) ?_)
  refine wl_ef rfl (ef_q rfl rfl (qt_pure tbok rfl (by first | exact trivial | omega | exact ⟨by decide, by decide⟩ | (refine ⟨?_, ?_⟩ <;> omega) | (refine ⟨?_, ?_, ?_⟩ <;> omega))) ?_)
  refine wl_done ?_
  refine nk_code ?_
  refine wc_ret ?_
  try dsimp only
  exact fin1 rfl (rv_tmp rfl) (fun w' hw => ⟨rfl, hw.all (new_cons hkp (new_cons hky (new_cons hkk (new_cons hkx (new_cons (newKey ht6) new_nil)))))⟩)
theorem keysNil_hi {w : World} {h : Int} {msg : List UInt8} {ma : Ad} {mc : Nat} (hm : Cells w ma (bc msg)) (hlv : Lives w ma) (hmax : msg.length ≤ 1073741000) (hh : 6 < h) :
    CallsV Try.prog 7 [.c (.i64 h), .c (.slc ma msg.length mc)] w fun en w' => en = .returned (V.c (.bool true)).den ∧ St w [] w' := by
  refine calls_in (tb := tb) (fn := Try.f7) Try.func7 rfl rfl rfl [(0, .c (.i64 h)), (1, .c (.slc ma msg.length mc))] rfl [] (St.refl _) ?_
  refine wc_seq ?_
  refine wc_region ?_
  refine wl_ef rfl (ef_q rfl rfl (qt_pure tbok rfl (by first | exact trivial | omega | exact ⟨by decide, by decide⟩ | (refine ⟨?_, ?_⟩ <;> omega) | (refine ⟨?_, ?_, ?_⟩ <;> omega))) ?_)
  refine wl_done ?_
  refine nk_code ?_
  refine wc_seq ?_
  refine wc_region ?_
  refine wl_ef rfl (ef_q rfl rfl (qt_pure tbok rfl (by first | exact trivial | omega | exact ⟨by decide, by decide⟩ | (refine ⟨?_, ?_⟩ <;> omega) | (refine ⟨?_, ?_, ?_⟩ <;> omega))) ?_)
  refine wl_done ?_
  refine nk_code ?_
  refine wc_seq ?_
  refine wc_region ?_
  refine wl_ef rfl (ef_q rfl rfl (qt_pure tbok rfl (by first | exact trivial | omega | exact ⟨by decide, by decide⟩ | (refine ⟨?_, ?_⟩ <;> omega) | (refine ⟨?_, ?_, ?_⟩ <;> omega))) ?_)
  refine wl_ef rfl (ef_q rfl rfl (qt_pure tbok rfl (by first | exact trivial | omega | exact ⟨by decide, by decide⟩ | (refine ⟨?_, ?_⟩ <;> omega) | (refine ⟨?_, ?_, ?_⟩ <;> omega))) ?_)
  refine wl_ef rfl (ef_pure (v := .t2 (.agg z38) (.c (.i64 2))) (by kernel_rfl) rfl rfl (fun w1 _ => signil_c) ?_)
  refine wl_ef rfl (ef_q rfl rfl (qt_pure tbok rfl (by first | exact trivial | omega | exact ⟨by decide, by decide⟩ | (refine ⟨?_, ?_⟩ <;> omega) | (refine ⟨?_, ?_, ?_⟩ <;> omega))) ?_)
  refine wl_ef rfl (ef_q rfl rfl (qt_pure tbok rfl (by first | exact trivial | omega | exact ⟨by decide, by decide⟩ | (refine ⟨?_, ?_⟩ <;> omega) | (refine ⟨?_, ?_, ?_⟩ <;> omega))) ?_)
  refine wl_ef rfl (ef_q rfl rfl (qt_pure tbok rfl (by first | exact trivial | omega | exact ⟨by decide, by decide⟩ | (refine ⟨?_, ?_⟩ <;> omega) | (refine ⟨?_, ?_, ?_⟩ <;> omega))) ?_)
  refine wl_ef rfl (ef_alloc zero38 rfl rfl (fun t6 ht6 => ?_))
  refine wl_ef rfl (ef_store (cs' := z38) tbok rfl rfl rfl rfl .here z38_len (by show 0 + 2146 ≤ z38.length; rw [z38_len]; decide) (spl_all rfl) ?_)
  refine wl_ef rfl (ef_q rfl rfl (qt_pure tbok rfl (by first | exact trivial | omega | exact ⟨by decide, by decide⟩ | (refine ⟨?_, ?_⟩ <;> omega) | (refine ⟨?_, ?_, ?_⟩ <;> omega))) ?_)
  refine wl_done ?_
  refine nk_code ?_
  refine wc_seq ?_
  refine wc_region ?_
  refine wl_ef rfl (ef_q rfl rfl (qt_pure tbok rfl (by first | exact trivial | omega | exact ⟨by decide, by decide⟩ | (refine ⟨?_, ?_⟩ <;> omega) | (refine ⟨?_, ?_, ?_⟩ <;> omega))) ?_)
  refine wl_ef rfl (ef_fresh (by kernel_rfl) rfl rfl (fun w1 h1 => twin_c (p := msg) (cells_rd (rd_cells hm (off_new (newKey ht6) off_nil)) h1) rfl (by omega)) (fun x hx hkx => ?_))
  refine wl_ef rfl (ef_q rfl rfl (qt_pure tbok rfl (by first | exact trivial | omega | exact ⟨by decide, by decide⟩ | (refine ⟨?_, ?_⟩ <;> omega) | (refine ⟨?_, ?_, ?_⟩ <;> omega))) ?_)
  refine wl_done ?_
  refine nk_code ?_
  refine wc_seq ?_
  refine wc_region ?_
  refine wl_ef rfl (ef_q rfl rfl (qt_build_arr (vs := [(0, .c (.u8 2))]) (l := bc sd2) tbok rfl zero30 rfl rfl) ?_)
  refine wl_ef rfl (ef_fresh2 (by kernel_rfl) rfl rfl (fun w1 h1 => new_c (sd := sd2) (h := 0) rfl (by decide)) (fun ⟨kr, y⟩ hy hky hkk => ?_))
  dsimp only at hy hky hkk
  dsimp only
  refine wl_ef rfl (ef_q rfl rfl (qt_pure tbok rfl (by first | exact trivial | omega | exact ⟨by decide, by decide⟩ | (refine ⟨?_, ?_⟩ <;> omega) | (refine ⟨?_, ?_, ?_⟩ <;> omega))) ?_)
  refine wl_ef rfl (ef_q rfl rfl (qt_pure tbok rfl (by first | exact trivial | omega | exact ⟨by decide, by decide⟩ | (refine ⟨?_, ?_⟩ <;> omega) | (refine ⟨?_, ?_, ?_⟩ <;> omega))) ?_)
  refine wl_ef rfl (ef_q rfl rfl (qt_pure tbok rfl (by first | exact trivial | omega | exact ⟨by decide, by decide⟩ | (refine ⟨?_, ?_⟩ <;> omega) | (refine ⟨?_, ?_, ?_⟩ <;> omega))) ?_)
  refine wl_ef rfl (ef_q rfl rfl (qt_pure tbok rfl (by first | exact trivial | omega | exact ⟨by decide, by decide⟩ | (refine ⟨?_, ?_⟩ <;> omega) | (refine ⟨?_, ?_, ?_⟩ <;> omega))) ?_)
  refine wl_ef rfl (ef_q rfl rfl (qt_pure tbok rfl (by first | exact trivial | omega | exact ⟨by decide, by decide⟩ | (refine ⟨?_, ?_⟩ <;> omega) | (refine ⟨?_, ?_, ?_⟩ <;> omega))) ?_)
  refine wl_done ?_
  refine nk_code ?_
  refine wc_seq ?_
  refine wc_seq ?_
  refine wc_region ?_
  refine wl_ef rfl (ef_q rfl rfl (qt_pure tbok rfl (by first | exact trivial | omega | exact ⟨by decide, by decide⟩ | (refine ⟨?_, ?_⟩ <;> omega) | (refine ⟨?_, ?_, ?_⟩ <;> omega))) ?_)
  first | refine wl_ef rfl (ef_q rfl rfl (qt_pure tbok rfl (by first | exact trivial | omega | exact ⟨by decide, by decide⟩ | (refine ⟨?_, ?_⟩ <;> omega) | (refine ⟨?_, ?_, ?_⟩ <;> omega))) ?_) | refine wl_ef rfl (ef_q rfl rfl (qt_eqn tbok rfl rfl rfl) ?_)
  refine wl_done ?_
  refine nk_code ?_
  refine wc_no rfl ?_
  refine wc_skip ?_
  refine nk_code ?_
  refine wc_seq ?_
  refine wc_region ?_
  refine wl_ef rfl (ef_q rfl rfl (qt_pure tbok rfl (by first | exact trivial | omega | exact ⟨by decide, by decide⟩ | (refine ⟨?_, ?_⟩ <;> omega) | (refine ⟨?_, ?_, ?_⟩ <;> omega))) ?_)
  refine wl_ef rfl (ef_q rfl rfl (qt_pure tbok rfl (by first | exact trivial | omega | exact ⟨by decide, by decide⟩ | (refine ⟨?_, ?_⟩ <;> omega) | (refine ⟨?_, ?_, ?_⟩ <;> omega))) ?_)
  refine wl_ef rfl (ef_turn1 (b' := fun _ => kb kr sd2 0 y (pw 0) (0 + 1)) (by kernel_rfl) rfl rfl (fun _ => .there .here) (fun _ => rfl) (fun w1 h1 => sign26_c (h := 0) (nx := 0) (msg := msg) rfl (by decide) (by decide) (lk_st h1 (.there .here)) (lvs_A _ _) (lvs_len _ _) (OwnS.le hy) (cells_own h1 .here) (own_ne h1 .here rfl) (cells_rd (rd_cells hm (off_new hky (off_new hkk (off_new hkx (off_new (newKey ht6) off_nil))))) h1) (hlv.ne (hkk kr rfl)) hmax) (fun p hp hkp => ?_))
  refine wl_done ?_
  refine nk_code ?_
  refine wc_seq ?_
  refine wc_seq ?_
  refine wc_region ?_
  refine wl_ef rfl (ef_q rfl rfl (qt_pure tbok rfl (by first | exact trivial | omega | exact ⟨by decide, by decide⟩ | (refine ⟨?_, ?_⟩ <;> omega) | (refine ⟨?_, ?_, ?_⟩ <;> omega))) ?_)
  refine wl_ef rfl (ef_q rfl rfl (qt_pure tbok rfl (by first | exact trivial | omega | exact ⟨by decide, by decide⟩ | (refine ⟨?_, ?_⟩ <;> omega) | (refine ⟨?_, ?_, ?_⟩ <;> omega))) ?_)
  refine wl_as (v' := .c (.bool false)) (congrArg (fun b => V.c (C.bool b)) (decide_eq_false (by omega))) ?_
  refine wl_ef rfl (ef_q rfl rfl (qt_pure tbok rfl (by first | exact trivial | omega | exact ⟨by decide, by decide⟩ | (refine ⟨?_, ?_⟩ <;> omega) | (refine ⟨?_, ?_, ?_⟩ <;> omega))) ?_)
  first | refine wl_gd rfl rfl (ef_q rfl rfl (qt_pure tbok rfl (by first | exact trivial | omega | exact ⟨by decide, by decide⟩ | (refine ⟨?_, ?_⟩ <;> omega) | (refine ⟨?_, ?_, ?_⟩ <;> omega))) ?_) | refine wl_skip rfl rfl rfl rfl rfl ?_
  first | refine wl_gd rfl rfl (ef_q rfl rfl (qt_pure tbok rfl (by first | exact trivial | omega | exact ⟨by decide, by decide⟩ | (refine ⟨?_, ?_⟩ <;> omega) | (refine ⟨?_, ?_, ?_⟩ <;> omega))) ?_) | refine wl_skip rfl rfl rfl rfl rfl ?_
  refine wl_as (v' := .c (.bool true)) (congrArg (fun b => V.c (C.bool b)) (decide_eq_true (by omega))) ?_
  refine wl_ef rfl (ef_q rfl rfl (qt_pure tbok rfl (by first | exact trivial | omega | exact ⟨by decide, by decide⟩ | (refine ⟨?_, ?_⟩ <;> omega) | (refine ⟨?_, ?_, ?_⟩ <;> omega))) ?_)
  refine wl_done ?_
  refine nk_code ?_
  refine wc_yes rfl ?_
  refine wc_seq ?_
  refine wc_region ?_
  refine wl_ef rfl (ef_q rfl rfl (qt_build_arr (vs := []) (l := bc (List.replicate 32 0)) tbok rfl zero30 rfl rfl) ?_)
  refine wl_ef rfl (ef_q rfl rfl (qt_pure tbok rfl (by first | exact trivial | omega | exact ⟨by decide, by decide⟩ | (refine ⟨?_, ?_⟩ <;> omega) | (refine ⟨?_, ?_, ?_⟩ <;> omega))) ?_)
  refine wl_ef rfl (ef_pure (v := .t2 (.c (.ptr .nil)) (.c (.i64 1))) (by kernel_rfl) rfl rfl (fun w1 _ => newbad_c rfl (by omega)) ?_)
  refine wl_ef rfl (ef_q rfl rfl (qt_pure tbok rfl (by first | exact trivial | omega | exact ⟨by decide, by decide⟩ | (refine ⟨?_, ?_⟩ <;> omega) | (refine ⟨?_, ?_, ?_⟩ <;> omega))) ?_)
  refine wl_ef rfl (ef_q rfl rfl (qt_pure tbok rfl (by first | exact trivial | omega | exact ⟨by decide, by decide⟩ | (refine ⟨?_, ?_⟩ <;> omega) | (refine ⟨?_, ?_, ?_⟩ <;> omega))) ?_)
  refine wl_ef rfl (ef_q rfl rfl (qt_pure tbok rfl (by first | exact trivial | omega | exact ⟨by decide, by decide⟩ | (refine ⟨?_, ?_⟩ <;> omega) | (refine ⟨?_, ?_, ?_⟩ <;> omega))) ?_)
  refine wl_ef rfl (ef_q rfl rfl (qt_pure tbok rfl (by first | exact trivial | omega | exact ⟨by decide, by decide⟩ | (refine ⟨?_, ?_⟩ <;> omega) | (refine ⟨?_, ?_, ?_⟩ <;> omega))) ?_)
  refine wl_ef rfl (ef_q rfl rfl (qt_pure tbok rfl (by first | exact trivial | omega | exact ⟨by decide, by decide⟩ | (refine ⟨?_, ?_⟩ <;> omega) | (refine ⟨?_, ?_, ?_⟩ <;> omega))) ?_)
  refine wl_done ?_
  refine nk_code ?_
  refine wc_seq ?_
  refine wc_region ?_
  refine wl_ef rfl (ef_q rfl rfl (qt_pure tbok rfl (by first | exact trivial | omega | exact ⟨by decide, by decide⟩ | (refine ⟨?_, ?_⟩ <;> omega) | (refine ⟨?_, ?_, ?_⟩ <;> omega))) ?_)
  first | refine wl_ef rfl (ef_q rfl rfl (qt_pure tbok rfl (by first | exact trivial | omega | exact ⟨by decide, by decide⟩ | (refine ⟨?_, ?_⟩ <;> omega) | (refine ⟨?_, ?_, ?_⟩ <;> omega))) ?_) | refine wl_ef rfl (ef_q rfl rfl (qt_neqn tbok rfl rfl rfl) ?_)
  refine wl_ef rfl (ef_q rfl rfl (qt_pure tbok rfl (by first | exact trivial | omega | exact ⟨by decide, by decide⟩ | (refine ⟨?_, ?_⟩ <;> omega) | (refine ⟨?_, ?_, ?_⟩ <;> omega))) ?_)
  first | refine wl_gd rfl rfl (ef_q rfl rfl (qt_pure tbok rfl (by first | exact trivial | omega | exact ⟨by decide, by decide⟩ | (refine ⟨?_, ?_⟩ <;> omega) | (refine ⟨?_, ?_, ?_⟩ <;> omega))) ?_) | refine wl_skip rfl rfl rfl rfl rfl ?_
  first | refine wl_gd rfl rfl (ef_q rfl rfl (qt_pure tbok rfl (by first | exact trivial | omega | exact ⟨by decide, by decide⟩ | (refine ⟨?_, ?_⟩ <;> omega) | (refine ⟨?_, ?_, ?_⟩ <;> omega))) ?_) | refine wl_gd rfl rfl (ef_q rfl rfl (qt_neqn tbok rfl rfl rfl) ?_) | refine wl_skip rfl rfl rfl rfl rfl ?_
  refine wl_ef rfl (ef_q rfl rfl (qt_pure tbok rfl (by first | exact trivial | omega | exact ⟨by decide, by decide⟩ | (refine ⟨?_, ?_⟩ <;> omega) | (refine ⟨?_, ?_, ?_⟩ <;> omega))) ?_)
  refine wl_done ?_
  refine nk_code ?_
  refine wc_no rfl ?_
  refine wc_skip ?_
  refine nk_code ?_
  refine wc_seq ?_
  refine wc_region ?_
  refine wl_ef rfl (ef_pure (v := .c (.bool true)) (by kernel_rfl) rfl rfl (fun w1 _ => awake_c) ?_)
  refine wl_ef rfl (ef_q rfl rfl (qt_pure tbok rfl (by first | exact trivial | omega | exact ⟨by decide, by decide⟩ | (refine ⟨?_, ?_⟩ <;> omega) | (refine ⟨?_, ?_, ?_⟩ <;> omega))) ?_)
  first | refine wl_gd rfl rfl (ef_q rfl rfl (qt_pure tbok rfl (by first | exact trivial | omega | exact ⟨by decide, by decide⟩ | (refine ⟨?_, ?_⟩ <;> omega) | (refine ⟨?_, ?_, ?_⟩ <;> omega))) ?_) | refine wl_skip rfl rfl rfl rfl rfl ?_
  first | refine wl_gd rfl rfl (ef_q rfl rfl (qt_pure tbok rfl (by first | exact trivial | omega | exact ⟨by decide, by decide⟩ | (refine ⟨?_, ?_⟩ <;> omega) | (refine ⟨?_, ?_, ?_⟩ <;> omega))) ?_) | refine wl_gd rfl rfl (ef_q rfl rfl (qt_eqn tbok rfl rfl rfl) ?_) | refine wl_skip rfl rfl rfl rfl rfl ?_
  refine wl_ef rfl (ef_q rfl rfl (qt_pure tbok rfl (by first | exact trivial | omega | exact ⟨by decide, by decide⟩ | (refine ⟨?_, ?_⟩ <;> omega) | (refine ⟨?_, ?_, ?_⟩ <;> omega))) ?_)
  refine wl_ef rfl (ef_q rfl rfl (qt_pure tbok rfl (by first | exact trivial | omega | exact ⟨by decide, by decide⟩ | (refine ⟨?_, ?_⟩ <;> omega) | (refine ⟨?_, ?_, ?_⟩ <;> omega))) ?_)
  first | refine wl_gd rfl rfl (ef_q rfl rfl (qt_pure tbok rfl (by first | exact trivial | omega | exact ⟨by decide, by decide⟩ | (refine ⟨?_, ?_⟩ <;> omega) | (refine ⟨?_, ?_, ?_⟩ <;> omega))) ?_) | refine wl_skip rfl rfl rfl rfl rfl ?_
  refine wl_gd rfl rfl (ef_pure (v := .c (.i64 2)) (by kernel_rfl) rfl rfl (fun w1 _ => skipnil_c) ?_)
  first | refine wl_gd rfl rfl (ef_q rfl rfl (qt_pure tbok rfl (by first | exact trivial | omega | exact ⟨by decide, by decide⟩ | (refine ⟨?_, ?_⟩ <;> omega) | (refine ⟨?_, ?_, ?_⟩ <;> omega))) ?_) | refine wl_gd rfl rfl (ef_q rfl rfl (qt_eqn tbok rfl rfl rfl) ?_) | refine wl_skip rfl rfl rfl rfl rfl ?_
  refine wl_ef rfl (ef_q rfl rfl (qt_pure tbok rfl (by first | exact trivial | omega | exact ⟨by decide, by decide⟩ | (refine ⟨?_, ?_⟩ <;> omega) | (refine ⟨?_, ?_, ?_⟩ <;> omega))) ?_)
  refine wl_ef rfl (ef_q rfl rfl (qt_pure tbok rfl (by first | exact trivial | omega | exact ⟨by decide, by decide⟩ | (refine ⟨?_, ?_⟩ <;> omega) | (refine ⟨?_, ?_, ?_⟩ <;> omega))) ?_)
  first | refine wl_gd rfl rfl (ef_q rfl rfl (qt_pure tbok rfl (by first | exact trivial | omega | exact ⟨by decide, by decide⟩ | (refine ⟨?_, ?_⟩ <;> omega) | (refine ⟨?_, ?_, ?_⟩ <;> omega))) ?_) | refine wl_skip rfl rfl rfl rfl rfl ?_
  refine wl_gd rfl rfl (ef_pure (v := .c (.i64 0)) (by kernel_rfl) rfl rfl (fun w1 _ => leftnil_c) ?_)
  first | refine wl_gd rfl rfl (ef_q rfl rfl (qt_pure tbok rfl (by first | exact trivial | omega | exact ⟨by decide, by decide⟩ | (refine ⟨?_, ?_⟩ <;> omega) | (refine ⟨?_, ?_, ?_⟩ <;> omega))) ?_) | refine wl_gd rfl rfl (ef_q rfl rfl (qt_eqn tbok rfl rfl rfl) ?_) | refine wl_skip rfl rfl rfl rfl rfl ?_
  refine wl_ef rfl (ef_q rfl rfl (qt_pure tbok rfl (by first | exact trivial | omega | exact ⟨by decide, by decide⟩ | (refine ⟨?_, ?_⟩ <;> omega) | (refine ⟨?_, ?_, ?_⟩ <;> omega))) ?_)
  refine wl_ef rfl (ef_q rfl rfl (qt_pure tbok rfl (by first | exact trivial | omega | exact ⟨by decide, by decide⟩ | (refine ⟨?_, ?_⟩ <;> omega) | (refine ⟨?_, ?_, ?_⟩ <;> omega))) ?_)
  first | refine wl_gd rfl rfl (ef_q rfl rfl (qt_pure tbok rfl (by first | exact trivial | omega | exact ⟨by decide, by decide⟩ | (refine ⟨?_, ?_⟩ <;> omega) | (refine ⟨?_, ?_, ?_⟩ <;> omega))) ?_) | refine wl_skip rfl rfl rfl rfl rfl ?_
  refine wl_gd rfl rfl (ef_pure (v := .agg (.i64 0 :: bc (List.replicate 32 0))) (by kernel_rfl) rfl rfl (fun w1 _ => publicnil_c) ?_)
  refine wl_gd rfl rfl (ef_q rfl rfl (qt_build (vs := []) (l := .i64 0 :: bc (List.replicate 32 0)) tbok rfl zero32 rfl rfl) ?_)
  refine wl_gd rfl rfl (ef_q rfl rfl (qt_eq_pair tbok pair32 rfl rfl eq30' ng32 rfl rfl rfl rfl) ?_)
  refine wl_ef rfl (ef_q rfl rfl (qt_pure tbok rfl (by first | exact trivial | omega | exact ⟨by decide, by decide⟩ | (refine ⟨?_, ?_⟩ <;> omega) | (refine ⟨?_, ?_, ?_⟩ <;> omega))) ?_)
  refine wl_ef rfl (ef_q rfl rfl (qt_pure tbok rfl (by first | exact trivial | omega | exact ⟨by decide, by decide⟩ | (refine ⟨?_, ?_⟩ <;> omega) | (refine ⟨?_, ?_, ?_⟩ <;> omega))) ?_)
  first | refine wl_gd rfl rfl (ef_q rfl rfl (qt_pure tbok rfl (by first | exact trivial | omega | exact ⟨by decide, by decide⟩ | (refine ⟨?_, ?_⟩ <;> omega) | (refine ⟨?_, ?_, ?_⟩ <;> omega))) ?_) | refine wl_skip rfl rfl rfl rfl rfl ?_
  first | refine wl_gd rfl rfl (ef_q rfl rfl (qt_pure tbok rfl (by first | exact trivial | omega | exact ⟨by decide, by decide⟩ | (refine ⟨?_, ?_⟩ <;> omega) | (refine ⟨?_, ?_, ?_⟩ <;> omega))) ?_) | refine wl_skip rfl rfl rfl rfl rfl ?_
  refine wl_gd rfl rfl (ef_pure (v := .c (.bool (decide (msg = msg)))) (by kernel_rfl) rfl rfl (fun w1 h1 => same_c (p := msg) (cells_rd (rd_cells hm (off_new hkp (off_new hky (off_new (newKey (hkk kr rfl)) (off_new hkx (off_new (newKey ht6) off_nil)))))) h1) (cells_own h1 (.there (.there (.there .here)))) (by omega)) ?_)
  refine wl_as (v' := .c (.bool true)) (congrArg (fun b => V.c (C.bool b)) (decide_eq_true rfl)) ?_
  refine wl_ef rfl (ef_q rfl rfl (qt_pure tbok rfl (by first | exact trivial | omega | exact ⟨by decide, by decide⟩ | (refine ⟨?_, ?_⟩ <;> omega) | (refine ⟨?_, ?_, ?_⟩ <;> omega))) ?_)
  refine wl_ef rfl (ef_q rfl rfl (qt_pure tbok rfl (by first | exact trivial | omega | exact ⟨by decide, by decide⟩ | (refine ⟨?_, ?_⟩ <;> omega) | (refine ⟨?_, ?_, ?_⟩ <;> omega))) ?_)
  refine wl_done ?_
  refine nk_code ?_
  refine wc_ret ?_
  try dsimp only
  exact fin1 rfl (rv_tmp rfl) (fun w' hw => ⟨rfl, hw.all (new_cons hkp (new_cons hky (new_cons hkk (new_cons hkx (new_cons (newKey ht6) new_nil)))))⟩)
theorem keysNil_ok {w : World} {h : Int} {msg : List UInt8} {ma : Ad} {mc : Nat} (hm : Cells w ma (bc msg)) (hlv : Lives w ma) (hmax : msg.length ≤ 1073741000) (hh : 0 ≤ h ∧ h ≤ 6) :
    CallsV Try.prog 7 [.c (.i64 h), .c (.slc ma msg.length mc)] w fun en w' => en = .returned (V.c (.bool true)).den ∧ St w [] w' := by
  refine calls_in (tb := tb) (fn := Try.f7) Try.func7 rfl rfl rfl [(0, .c (.i64 h)), (1, .c (.slc ma msg.length mc))] rfl [] (St.refl _) ?_
  refine wc_seq ?_
  refine wc_region ?_
  refine wl_ef rfl (ef_q rfl rfl (qt_pure tbok rfl (by first | exact trivial | omega | exact ⟨by decide, by decide⟩ | (refine ⟨?_, ?_⟩ <;> omega) | (refine ⟨?_, ?_, ?_⟩ <;> omega))) ?_)
  refine wl_done ?_
  refine nk_code ?_
  refine wc_seq ?_
  refine wc_region ?_
  refine wl_ef rfl (ef_q rfl rfl (qt_pure tbok rfl (by first | exact trivial | omega | exact ⟨by decide, by decide⟩ | (refine ⟨?_, ?_⟩ <;> omega) | (refine ⟨?_, ?_, ?_⟩ <;> omega))) ?_)
  refine wl_done ?_
  refine nk_code ?_
  refine wc_seq ?_
  refine wc_region ?_
  refine wl_ef rfl (ef_q rfl rfl (qt_pure tbok rfl (by first | exact trivial | omega | exact ⟨by decide, by decide⟩ | (refine ⟨?_, ?_⟩ <;> omega) | (refine ⟨?_, ?_, ?_⟩ <;> omega))) ?_)
  refine wl_ef rfl (ef_q rfl rfl (qt_pure tbok rfl (by first | exact trivial | omega | exact ⟨by decide, by decide⟩ | (refine ⟨?_, ?_⟩ <;> omega) | (refine ⟨?_, ?_, ?_⟩ <;> omega))) ?_)
  refine wl_ef rfl (ef_pure (v := .t2 (.agg z38) (.c (.i64 2))) (by kernel_rfl) rfl rfl (fun w1 _ => signil_c) ?_)
  refine wl_ef rfl (ef_q rfl rfl (qt_pure tbok rfl (by first | exact trivial | omega | exact ⟨by decide, by decide⟩ | (refine ⟨?_, ?_⟩ <;> omega) | (refine ⟨?_, ?_, ?_⟩ <;> omega))) ?_)
  refine wl_ef rfl (ef_q rfl rfl (qt_pure tbok rfl (by first | exact trivial | omega | exact ⟨by decide, by decide⟩ | (refine ⟨?_, ?_⟩ <;> omega) | (refine ⟨?_, ?_, ?_⟩ <;> omega))) ?_)
  refine wl_ef rfl (ef_q rfl rfl (qt_pure tbok rfl (by first | exact trivial | omega | exact ⟨by decide, by decide⟩ | (refine ⟨?_, ?_⟩ <;> omega) | (refine ⟨?_, ?_, ?_⟩ <;> omega))) ?_)
  refine wl_ef rfl (ef_alloc zero38 rfl rfl (fun t6 ht6 => ?_))
  refine wl_ef rfl (ef_store (cs' := z38) tbok rfl rfl rfl rfl .here z38_len (by show 0 + 2146 ≤ z38.length; rw [z38_len]; decide) (spl_all rfl) ?_)
  refine wl_ef rfl (ef_q rfl rfl (qt_pure tbok rfl (by first | exact trivial | omega | exact ⟨by decide, by decide⟩ | (refine ⟨?_, ?_⟩ <;> omega) | (refine ⟨?_, ?_, ?_⟩ <;> omega))) ?_)
  refine wl_done ?_
  refine nk_code ?_
  refine wc_seq ?_
  refine wc_region ?_
  refine wl_ef rfl (ef_q rfl rfl (qt_pure tbok rfl (by first | exact trivial | omega | exact ⟨by decide, by decide⟩ | (refine ⟨?_, ?_⟩ <;> omega) | (refine ⟨?_, ?_, ?_⟩ <;> omega))) ?_)
  refine wl_ef rfl (ef_fresh (by kernel_rfl) rfl rfl (fun w1 h1 => twin_c (p := msg) (cells_rd (rd_cells hm (off_new (newKey ht6) off_nil)) h1) rfl (by omega)) (fun x hx hkx => ?_))
  refine wl_ef rfl (ef_q rfl rfl (qt_pure tbok rfl (by first | exact trivial | omega | exact ⟨by decide, by decide⟩ | (refine ⟨?_, ?_⟩ <;> omega) | (refine ⟨?_, ?_, ?_⟩ <;> omega))) ?_)
  refine wl_done ?_
  refine nk_code ?_
  refine wc_seq ?_
  refine wc_region ?_
  refine wl_ef rfl (ef_q rfl rfl (qt_build_arr (vs := [(0, .c (.u8 2))]) (l := bc sd2) tbok rfl zero30 rfl rfl) ?_)
  refine wl_ef rfl (ef_fresh2 (by kernel_rfl) rfl rfl (fun w1 h1 => new_c (sd := sd2) (h := 0) rfl (by decide)) (fun ⟨kr, y⟩ hy hky hkk => ?_))
  dsimp only at hy hky hkk
  dsimp only
  refine wl_ef rfl (ef_q rfl rfl (qt_pure tbok rfl (by first | exact trivial | omega | exact ⟨by decide, by decide⟩ | (refine ⟨?_, ?_⟩ <;> omega) | (refine ⟨?_, ?_, ?_⟩ <;> omega))) ?_)
  refine wl_ef rfl (ef_q rfl rfl (qt_pure tbok rfl (by first | exact trivial | omega | exact ⟨by decide, by decide⟩ | (refine ⟨?_, ?_⟩ <;> omega) | (refine ⟨?_, ?_, ?_⟩ <;> omega))) ?_)
  refine wl_ef rfl (ef_q rfl rfl (qt_pure tbok rfl (by first | exact trivial | omega | exact ⟨by decide, by decide⟩ | (refine ⟨?_, ?_⟩ <;> omega) | (refine ⟨?_, ?_, ?_⟩ <;> omega))) ?_)
  refine wl_ef rfl (ef_q rfl rfl (qt_pure tbok rfl (by first | exact trivial | omega | exact ⟨by decide, by decide⟩ | (refine ⟨?_, ?_⟩ <;> omega) | (refine ⟨?_, ?_, ?_⟩ <;> omega))) ?_)
  refine wl_ef rfl (ef_q rfl rfl (qt_pure tbok rfl (by first | exact trivial | omega | exact ⟨by decide, by decide⟩ | (refine ⟨?_, ?_⟩ <;> omega) | (refine ⟨?_, ?_, ?_⟩ <;> omega))) ?_)
  refine wl_done ?_
  refine nk_code ?_
  refine wc_seq ?_
  refine wc_seq ?_
  refine wc_region ?_
  refine wl_ef rfl (ef_q rfl rfl (qt_pure tbok rfl (by first | exact trivial | omega | exact ⟨by decide, by decide⟩ | (refine ⟨?_, ?_⟩ <;> omega) | (refine ⟨?_, ?_, ?_⟩ <;> omega))) ?_)
  first | refine wl_ef rfl (ef_q rfl rfl (qt_pure tbok rfl (by first | exact trivial | omega | exact ⟨by decide, by decide⟩ | (refine ⟨?_, ?_⟩ <;> omega) | (refine ⟨?_, ?_, ?_⟩ <;> omega))) ?_) | refine wl_ef rfl (ef_q rfl rfl (qt_eqn tbok rfl rfl rfl) ?_)
  refine wl_done ?_
  refine nk_code ?_
  refine wc_no rfl ?_
  refine wc_skip ?_
  refine nk_code ?_
  refine wc_seq ?_
  refine wc_region ?_
  refine wl_ef rfl (ef_q rfl rfl (qt_pure tbok rfl (by first | exact trivial | omega | exact ⟨by decide, by decide⟩ | (refine ⟨?_, ?_⟩ <;> omega) | (refine ⟨?_, ?_, ?_⟩ <;> omega))) ?_)
  refine wl_ef rfl (ef_q rfl rfl (qt_pure tbok rfl (by first | exact trivial | omega | exact ⟨by decide, by decide⟩ | (refine ⟨?_, ?_⟩ <;> omega) | (refine ⟨?_, ?_, ?_⟩ <;> omega))) ?_)
  refine wl_ef rfl (ef_turn1 (b' := fun _ => kb kr sd2 0 y (pw 0) (0 + 1)) (by kernel_rfl) rfl rfl (fun _ => .there .here) (fun _ => rfl) (fun w1 h1 => sign26_c (h := 0) (nx := 0) (msg := msg) rfl (by decide) (by decide) (lk_st h1 (.there .here)) (lvs_A _ _) (lvs_len _ _) (OwnS.le hy) (cells_own h1 .here) (own_ne h1 .here rfl) (cells_rd (rd_cells hm (off_new hky (off_new hkk (off_new hkx (off_new (newKey ht6) off_nil))))) h1) (hlv.ne (hkk kr rfl)) hmax) (fun p hp hkp => ?_))
  refine wl_done ?_
  refine nk_code ?_
  refine wc_seq ?_
  refine wc_seq ?_
  refine wc_region ?_
  refine wl_ef rfl (ef_q rfl rfl (qt_pure tbok rfl (by first | exact trivial | omega | exact ⟨by decide, by decide⟩ | (refine ⟨?_, ?_⟩ <;> omega) | (refine ⟨?_, ?_, ?_⟩ <;> omega))) ?_)
  refine wl_ef rfl (ef_q rfl rfl (qt_pure tbok rfl (by first | exact trivial | omega | exact ⟨by decide, by decide⟩ | (refine ⟨?_, ?_⟩ <;> omega) | (refine ⟨?_, ?_, ?_⟩ <;> omega))) ?_)
  refine wl_as (v' := .c (.bool false)) (congrArg (fun b => V.c (C.bool b)) (decide_eq_false (by omega))) ?_
  refine wl_ef rfl (ef_q rfl rfl (qt_pure tbok rfl (by first | exact trivial | omega | exact ⟨by decide, by decide⟩ | (refine ⟨?_, ?_⟩ <;> omega) | (refine ⟨?_, ?_, ?_⟩ <;> omega))) ?_)
  first | refine wl_gd rfl rfl (ef_q rfl rfl (qt_pure tbok rfl (by first | exact trivial | omega | exact ⟨by decide, by decide⟩ | (refine ⟨?_, ?_⟩ <;> omega) | (refine ⟨?_, ?_, ?_⟩ <;> omega))) ?_) | refine wl_skip rfl rfl rfl rfl rfl ?_
  first | refine wl_gd rfl rfl (ef_q rfl rfl (qt_pure tbok rfl (by first | exact trivial | omega | exact ⟨by decide, by decide⟩ | (refine ⟨?_, ?_⟩ <;> omega) | (refine ⟨?_, ?_, ?_⟩ <;> omega))) ?_) | refine wl_skip rfl rfl rfl rfl rfl ?_
  refine wl_as (v' := .c (.bool false)) (congrArg (fun b => V.c (C.bool b)) (decide_eq_false (by omega))) ?_
  refine wl_ef rfl (ef_q rfl rfl (qt_pure tbok rfl (by first | exact trivial | omega | exact ⟨by decide, by decide⟩ | (refine ⟨?_, ?_⟩ <;> omega) | (refine ⟨?_, ?_, ?_⟩ <;> omega))) ?_)
  refine wl_done ?_
  refine nk_code ?_
  refine wc_no rfl ?_
  refine wc_skip ?_
  refine nk_code ?_
  refine wc_seq ?_
  refine wc_region ?_
  refine wl_ef rfl (ef_pure (v := .c (.bool true)) (by kernel_rfl) rfl rfl (fun w1 _ => awake_c) ?_)
  refine wl_ef rfl (ef_q rfl rfl (qt_pure tbok rfl (by first | exact trivial | omega | exact ⟨by decide, by decide⟩ | (refine ⟨?_, ?_⟩ <;> omega) | (refine ⟨?_, ?_, ?_⟩ <;> omega))) ?_)
  first | refine wl_gd rfl rfl (ef_q rfl rfl (qt_pure tbok rfl (by first | exact trivial | omega | exact ⟨by decide, by decide⟩ | (refine ⟨?_, ?_⟩ <;> omega) | (refine ⟨?_, ?_, ?_⟩ <;> omega))) ?_) | refine wl_skip rfl rfl rfl rfl rfl ?_
  first | refine wl_gd rfl rfl (ef_q rfl rfl (qt_pure tbok rfl (by first | exact trivial | omega | exact ⟨by decide, by decide⟩ | (refine ⟨?_, ?_⟩ <;> omega) | (refine ⟨?_, ?_, ?_⟩ <;> omega))) ?_) | refine wl_gd rfl rfl (ef_q rfl rfl (qt_eqn tbok rfl rfl rfl) ?_) | refine wl_skip rfl rfl rfl rfl rfl ?_
  refine wl_ef rfl (ef_q rfl rfl (qt_pure tbok rfl (by first | exact trivial | omega | exact ⟨by decide, by decide⟩ | (refine ⟨?_, ?_⟩ <;> omega) | (refine ⟨?_, ?_, ?_⟩ <;> omega))) ?_)
  refine wl_ef rfl (ef_q rfl rfl (qt_pure tbok rfl (by first | exact trivial | omega | exact ⟨by decide, by decide⟩ | (refine ⟨?_, ?_⟩ <;> omega) | (refine ⟨?_, ?_, ?_⟩ <;> omega))) ?_)
  first | refine wl_gd rfl rfl (ef_q rfl rfl (qt_pure tbok rfl (by first | exact trivial | omega | exact ⟨by decide, by decide⟩ | (refine ⟨?_, ?_⟩ <;> omega) | (refine ⟨?_, ?_, ?_⟩ <;> omega))) ?_) | refine wl_skip rfl rfl rfl rfl rfl ?_
  refine wl_gd rfl rfl (ef_pure (v := .c (.i64 2)) (by kernel_rfl) rfl rfl (fun w1 _ => skipnil_c) ?_)
  first | refine wl_gd rfl rfl (ef_q rfl rfl (qt_pure tbok rfl (by first | exact trivial | omega | exact ⟨by decide, by decide⟩ | (refine ⟨?_, ?_⟩ <;> omega) | (refine ⟨?_, ?_, ?_⟩ <;> omega))) ?_) | refine wl_gd rfl rfl (ef_q rfl rfl (qt_eqn tbok rfl rfl rfl) ?_) | refine wl_skip rfl rfl rfl rfl rfl ?_
  refine wl_ef rfl (ef_q rfl rfl (qt_pure tbok rfl (by first | exact trivial | omega | exact ⟨by decide, by decide⟩ | (refine ⟨?_, ?_⟩ <;> omega) | (refine ⟨?_, ?_, ?_⟩ <;> omega))) ?_)
  refine wl_ef rfl (ef_q rfl rfl (qt_pure tbok rfl (by first | exact trivial | omega | exact ⟨by decide, by decide⟩ | (refine ⟨?_, ?_⟩ <;> omega) | (refine ⟨?_, ?_, ?_⟩ <;> omega))) ?_)
  first | refine wl_gd rfl rfl (ef_q rfl rfl (qt_pure tbok rfl (by first | exact trivial | omega | exact ⟨by decide, by decide⟩ | (refine ⟨?_, ?_⟩ <;> omega) | (refine ⟨?_, ?_, ?_⟩ <;> omega))) ?_) | refine wl_skip rfl rfl rfl rfl rfl ?_
  refine wl_gd rfl rfl (ef_pure (v := .c (.i64 0)) (by kernel_rfl) rfl rfl (fun w1 _ => leftnil_c) ?_)
  first | refine wl_gd rfl rfl (ef_q rfl rfl (qt_pure tbok rfl (by first | exact trivial | omega | exact ⟨by decide, by decide⟩ | (refine ⟨?_, ?_⟩ <;> omega) | (refine ⟨?_, ?_, ?_⟩ <;> omega))) ?_) | refine wl_gd rfl rfl (ef_q rfl rfl (qt_eqn tbok rfl rfl rfl) ?_) | refine wl_skip rfl rfl rfl rfl rfl ?_
  refine wl_ef rfl (ef_q rfl rfl (qt_pure tbok rfl (by first | exact trivial | omega | exact ⟨by decide, by decide⟩ | (refine ⟨?_, ?_⟩ <;> omega) | (refine ⟨?_, ?_, ?_⟩ <;> omega))) ?_)
  refine wl_ef rfl (ef_q rfl rfl (qt_pure tbok rfl (by first | exact trivial | omega | exact ⟨by decide, by decide⟩ | (refine ⟨?_, ?_⟩ <;> omega) | (refine ⟨?_, ?_, ?_⟩ <;> omega))) ?_)
  first | refine wl_gd rfl rfl (ef_q rfl rfl (qt_pure tbok rfl (by first | exact trivial | omega | exact ⟨by decide, by decide⟩ | (refine ⟨?_, ?_⟩ <;> omega) | (refine ⟨?_, ?_, ?_⟩ <;> omega))) ?_) | refine wl_skip rfl rfl rfl rfl rfl ?_
  refine wl_gd rfl rfl (ef_pure (v := .agg (.i64 0 :: bc (List.replicate 32 0))) (by kernel_rfl) rfl rfl (fun w1 _ => publicnil_c) ?_)
  refine wl_gd rfl rfl (ef_q rfl rfl (qt_build (vs := []) (l := .i64 0 :: bc (List.replicate 32 0)) tbok rfl zero32 rfl rfl) ?_)
  refine wl_gd rfl rfl (ef_q rfl rfl (qt_eq_pair tbok pair32 rfl rfl eq30' ng32 rfl rfl rfl rfl) ?_)
  refine wl_ef rfl (ef_q rfl rfl (qt_pure tbok rfl (by first | exact trivial | omega | exact ⟨by decide, by decide⟩ | (refine ⟨?_, ?_⟩ <;> omega) | (refine ⟨?_, ?_, ?_⟩ <;> omega))) ?_)
  refine wl_ef rfl (ef_q rfl rfl (qt_pure tbok rfl (by first | exact trivial | omega | exact ⟨by decide, by decide⟩ | (refine ⟨?_, ?_⟩ <;> omega) | (refine ⟨?_, ?_, ?_⟩ <;> omega))) ?_)
  first | refine wl_gd rfl rfl (ef_q rfl rfl (qt_pure tbok rfl (by first | exact trivial | omega | exact ⟨by decide, by decide⟩ | (refine ⟨?_, ?_⟩ <;> omega) | (refine ⟨?_, ?_, ?_⟩ <;> omega))) ?_) | refine wl_skip rfl rfl rfl rfl rfl ?_
  first | refine wl_gd rfl rfl (ef_q rfl rfl (qt_pure tbok rfl (by first | exact trivial | omega | exact ⟨by decide, by decide⟩ | (refine ⟨?_, ?_⟩ <;> omega) | (refine ⟨?_, ?_, ?_⟩ <;> omega))) ?_) | refine wl_skip rfl rfl rfl rfl rfl ?_
  refine wl_gd rfl rfl (ef_pure (v := .c (.bool (decide (msg = msg)))) (by kernel_rfl) rfl rfl (fun w1 h1 => same_c (p := msg) (cells_rd (rd_cells hm (off_new hkp (off_new hky (off_new (newKey (hkk kr rfl)) (off_new hkx (off_new (newKey ht6) off_nil)))))) h1) (cells_own h1 (.there (.there (.there .here)))) (by omega)) ?_)
  refine wl_as (v' := .c (.bool true)) (congrArg (fun b => V.c (C.bool b)) (decide_eq_true rfl)) ?_
  refine wl_ef rfl (ef_q rfl rfl (qt_pure tbok rfl (by first | exact trivial | omega | exact ⟨by decide, by decide⟩ | (refine ⟨?_, ?_⟩ <;> omega) | (refine ⟨?_, ?_, ?_⟩ <;> omega))) ?_)
  refine wl_ef rfl (ef_q rfl rfl (qt_pure tbok rfl (by first | exact trivial | omega | exact ⟨by decide, by decide⟩ | (refine ⟨?_, ?_⟩ <;> omega) | (refine ⟨?_, ?_, ?_⟩ <;> omega))) ?_)
  refine wl_done ?_
  refine nk_code ?_
  refine wc_ret ?_
  try dsimp only
  exact fin1 rfl (rv_tmp rfl) (fun w' hw => ⟨rfl, hw.all (new_cons hkp (new_cons hky (new_cons hkk (new_cons hkx (new_cons (newKey ht6) new_nil)))))⟩)

theorem keysNil_c {w : World} {h : Int} {msg : List UInt8} {ma : Ad} {mc : Nat} (hm : Cells w ma (bc msg)) (hlv : Lives w ma) (hmax : msg.length ≤ 1073741000) :
    CallsV Try.prog 7 [.c (.i64 h), .c (.slc ma msg.length mc)] w fun en w' => en = .returned (V.c (.bool true)).den ∧ St w [] w' := by
  by_cases h0 : h < 0
  · exact keysNil_lo hm hlv hmax h0
  by_cases h1 : 6 < h
  · exact keysNil_hi hm hlv hmax h1
  exact keysNil_ok hm hlv hmax (by omega)
end Go.Proofs.Ytjhmcmadleabjaa

set_option maxRecDepth 100000
namespace Go.Proofs.Ytjhmcmadleabjaa
open Go Go.Hw Go.Proofs

theorem same77_t {w : World} {P : List (List UInt8)} {a b : Ad} {ac bcap : Nat} (hP : A32 P) (hPl : P.length ≤ 1073741824) (ha : Cells w a (bc P.flatten)) (hb : Cells w b (bc P.flatten)) :
    CallsV Try.prog 77 [.c (.slc a P.length ac), .c (.slc b P.length bcap)] w fun en w' => en = .returned (V.c (.bool true)).den ∧ St w [] w' := by
  refine calls_in (tb := tb) (fn := Try.f77) Try.func77 rfl rfl rfl [(0, .c (.slc a P.length ac)), (1, .c (.slc b P.length bcap))] rfl [] (St.refl _) ?_
  refine wc_seq ?_
  refine wc_region ?_
  refine wl_ef rfl (ef_q rfl rfl (qt_pure tbok rfl (by first | exact trivial | omega | exact ⟨by decide, by decide⟩ | (refine ⟨?_, ?_⟩ <;> omega) | (refine ⟨?_, ?_, ?_⟩ <;> omega))) ?_)
  refine wl_done ?_
  refine nk_code ?_
  refine wc_seq ?_
  refine wc_seq ?_
  refine wc_region ?_
  refine wl_ef rfl (ef_q rfl rfl (qt_pure tbok rfl (by first | exact trivial | omega | exact ⟨by decide, by decide⟩ | (refine ⟨?_, ?_⟩ <;> omega) | (refine ⟨?_, ?_, ?_⟩ <;> omega))) ?_)
  refine wl_ef rfl (ef_q rfl rfl (qt_len tbok rfl rfl) ?_)
  refine wl_ef rfl (ef_q rfl rfl (qt_pure tbok rfl (by first | exact trivial | omega | exact ⟨by decide, by decide⟩ | (refine ⟨?_, ?_⟩ <;> omega) | (refine ⟨?_, ?_, ?_⟩ <;> omega))) ?_)
  refine wl_ef rfl (ef_q rfl rfl (qt_len tbok rfl rfl) ?_)
  first | refine wl_ef rfl (ef_q rfl rfl (qt_pure tbok rfl (by first | exact trivial | omega | exact ⟨by decide, by decide⟩ | (refine ⟨?_, ?_⟩ <;> omega) | (refine ⟨?_, ?_, ?_⟩ <;> omega))) ?_) | refine wl_ef rfl (ef_q rfl rfl (qt_neqn tbok rfl rfl rfl) ?_)
  refine wl_as (v' := .c (.bool false)) (congrArg (fun b => V.c (C.bool (!b))) (decide_eq_true rfl)) ?_
  refine wl_done ?_
  refine nk_code ?_
  refine wc_no rfl ?_
  refine wc_skip ?_
  refine nk_code ?_
  refine wc_seq ?_
  refine wc_seq ?_
  refine wc_region ?_
  refine wl_ef rfl (ef_q rfl rfl (qt_pure tbok rfl (by first | exact trivial | omega | exact ⟨by decide, by decide⟩ | (refine ⟨?_, ?_⟩ <;> omega) | (refine ⟨?_, ?_, ?_⟩ <;> omega))) ?_)
  refine wl_done ?_
  refine nk_code ?_
  refine wc_block ?_
  refine wc_loop (ι := Nat) (fun i => i ≤ P.length) (fun i => [(5, .c (.i64 (i : Int))), (0, .c (.slc a P.length ac)), (1, .c (.slc b P.length bcap))]) (fun i => []) (fun i => P.length - i) 0 (Nat.zero_le _) (nk_start ⟨rfl, rfl, rfl, trivial⟩ (fun w hw => hw)) (fun i hi => ?_)
  refine wc_seq ?_
  refine wc_seq ?_
  refine wc_region ?_
  refine wl_ef rfl (ef_q rfl rfl (qt_pure tbok rfl (by first | exact trivial | omega | exact ⟨by decide, by decide⟩ | (refine ⟨?_, ?_⟩ <;> omega) | (refine ⟨?_, ?_, ?_⟩ <;> omega))) ?_)
  refine wl_ef rfl (ef_q rfl rfl (qt_pure tbok rfl (by first | exact trivial | omega | exact ⟨by decide, by decide⟩ | (refine ⟨?_, ?_⟩ <;> omega) | (refine ⟨?_, ?_, ?_⟩ <;> omega))) ?_)
  refine wl_ef rfl (ef_q rfl rfl (qt_len tbok rfl rfl) ?_)
  refine wl_ef rfl (ef_q rfl rfl (qt_pure tbok rfl (by first | exact trivial | omega | exact ⟨by decide, by decide⟩ | (refine ⟨?_, ?_⟩ <;> omega) | (refine ⟨?_, ?_, ?_⟩ <;> omega))) ?_)
  refine wl_done ?_
  refine nk_code ?_
  refine wc_cond rfl (fun h14 => ?_) (fun h14 => ?_)
  · have hi' : i < P.length := (by have h0 := of_decide_eq_true h14; omega)
    have hgl : (bc (gf P i)).length = 32 := (by rw [bc_len, gf_len hP hi'])
    obtain ⟨ar, ao, hae⟩ := cells_nn ha (by rw [bc_len, flat_len hP]; omega)
    obtain ⟨br, bo, hbe⟩ := cells_nn hb (by rw [bc_len, flat_len hP]; omega)
    subst hae
    subst hbe
    refine wc_skip ?_
    refine nk_code ?_
    refine wc_seq ?_
    refine wc_block ?_
    refine wc_seq ?_
    refine wc_quiet follows (by kernel_rfl) ?_
    refine wq_q rfl rfl rfl (qt_pure tbok rfl (by first | exact trivial | omega | exact ⟨by decide, by decide⟩ | (refine ⟨?_, ?_⟩ <;> omega) | (refine ⟨?_, ?_, ?_⟩ <;> omega))) ?_
    refine wq_q rfl rfl rfl (qt_pure tbok rfl (by first | exact trivial | omega | exact ⟨by decide, by decide⟩ | (refine ⟨?_, ?_⟩ <;> omega) | (refine ⟨?_, ?_, ?_⟩ <;> omega))) ?_
    refine wq_q rfl rfl rfl (qt_pure tbok rfl (by first | exact trivial | omega | exact ⟨by decide, by decide⟩ | (refine ⟨?_, ?_⟩ <;> omega) | (refine ⟨?_, ?_, ?_⟩ <;> omega))) ?_
    refine wq_q rfl rfl rfl (qt_load_ag (l := bc (gf P i)) tbok rfl rfl rfl hgl (rs_cells (ha.sub2 (m := i * 32) (flat_gf hP hi')) off_nil)) ?_
    refine wq_q rfl rfl rfl (qt_pure tbok rfl (by first | exact trivial | omega | exact ⟨by decide, by decide⟩ | (refine ⟨?_, ?_⟩ <;> omega) | (refine ⟨?_, ?_, ?_⟩ <;> omega))) ?_
    refine wq_q rfl rfl rfl (qt_pure tbok rfl (by first | exact trivial | omega | exact ⟨by decide, by decide⟩ | (refine ⟨?_, ?_⟩ <;> omega) | (refine ⟨?_, ?_, ?_⟩ <;> omega))) ?_
    refine wq_q rfl rfl rfl (qt_pure tbok rfl (by first | exact trivial | omega | exact ⟨by decide, by decide⟩ | (refine ⟨?_, ?_⟩ <;> omega) | (refine ⟨?_, ?_, ?_⟩ <;> omega))) ?_
    refine wq_q rfl rfl rfl (qt_load_ag (l := bc (gf P i)) tbok rfl rfl rfl hgl (rs_cells (hb.sub2 (m := i * 32) (flat_gf hP hi')) off_nil)) ?_
    refine wq_q rfl rfl rfl (qt_neq_bytes eq22 ng22 rfl rfl (gf_len hP hi') (gf_len hP hi')) ?_
    refine wq_as (v' := .c (.bool false)) (congrArg (fun b => V.c (C.bool (!b))) (decide_eq_true rfl)) ?_
    refine wq_done ?_
    refine wl_done ?_
    refine nk_code ?_
    refine wc_no rfl ?_
    refine wc_skip ?_
    refine nk_code ?_
    refine wc_region ?_
    refine wl_ef rfl (ef_q rfl rfl (qt_pure tbok rfl (by first | exact trivial | omega | exact ⟨by decide, by decide⟩ | (refine ⟨?_, ?_⟩ <;> omega) | (refine ⟨?_, ?_, ?_⟩ <;> omega))) ?_)
    refine wl_ef rfl (ef_q rfl rfl (qt_pure tbok rfl (by first | exact trivial | omega | exact ⟨by decide, by decide⟩ | (refine ⟨?_, ?_⟩ <;> omega) | (refine ⟨?_, ?_, ?_⟩ <;> omega))) ?_)
    refine wl_ef rfl (ef_q rfl rfl (qt_pure tbok rfl (by first | exact trivial | omega | exact ⟨by decide, by decide⟩ | (refine ⟨?_, ?_⟩ <;> omega) | (refine ⟨?_, ?_, ?_⟩ <;> omega))) ?_)
    refine wl_done ?_
    exact nk_round (i + 1) hi' (by omega) ⟨rfl, rfl, rfl, trivial⟩ (fun _ h => h)
  · refine wc_exit rfl ?_
    refine nk_code ?_
    refine wc_seq ?_
    refine wc_region ?_
    refine wl_ef rfl (ef_q rfl rfl (qt_pure tbok rfl (by first | exact trivial | omega | exact ⟨by decide, by decide⟩ | (refine ⟨?_, ?_⟩ <;> omega) | (refine ⟨?_, ?_, ?_⟩ <;> omega))) ?_)
    refine wl_done ?_
    refine nk_code ?_
    refine wc_ret ?_
    try dsimp only
    exact fin1 rfl (rv_tmp rfl) (fun w' hw => ⟨rfl, hw⟩)

theorem eq26 : BArr Try.prog 10000 26 2144 := barr_arr tbok (n := 67) (z := 32) rfl rfl rfl (barr_u8 tbok (n := 32) rfl rfl 9997)
theorem ng26 : noGuard Try.prog 26 = true := by kernel_rfl

theorem same27_t {w : World} {i : Int} {CH P : List (List UInt8)} {a b : Ad} {ac bcap : Nat} (hC : A32 CH) (hCl : CH.length = 67) (hP : A32 P) (hPl : P.length ≤ 1073741824) (ha : Cells w a (bc P.flatten)) (hb : Cells w b (bc P.flatten)) :
    CallsV Try.prog 27 [.agg (scs i CH.flatten a P.length ac), .agg (scs i CH.flatten b P.length bcap)] w fun en w' => en = .returned (V.c (.bool true)).den ∧ St w [] w' := by
  have hF : CH.flatten.length = 2144 := by rw [flat_len hC, hCl]
  have hFb : (bc CH.flatten).length = 2144 := by rw [bc_len, hF]
  refine calls_in (tb := tb) (fn := Try.f27) Try.func27 rfl rfl rfl [(0, .agg (scs i CH.flatten a P.length ac)), (1, .agg (scs i CH.flatten b P.length bcap))] rfl [] (St.refl _) ?_
  refine wc_seq ?_
  refine wc_region ?_
  refine wl_ef rfl (ef_box rfl rfl rfl (fun x hx => ?_))
  refine wl_ef rfl (ef_box rfl rfl rfl (fun y hy => ?_))
  refine wl_ef rfl (ef_q rfl rfl (qt_pure tbok rfl (by first | exact trivial | omega | exact ⟨by decide, by decide⟩ | (refine ⟨?_, ?_⟩ <;> omega) | (refine ⟨?_, ?_, ?_⟩ <;> omega))) ?_)
  refine wl_done ?_
  refine nk_code ?_
  refine wc_seq ?_
  refine wc_region ?_
  refine wl_ef rfl (ef_q rfl rfl (qt_pure tbok rfl (by first | exact trivial | omega | exact ⟨by decide, by decide⟩ | (refine ⟨?_, ?_⟩ <;> omega) | (refine ⟨?_, ?_, ?_⟩ <;> omega))) ?_)
  first | refine wl_ef rfl (ef_q rfl rfl (qt_load tbok rfl rfl rfl (rc_lk .here rfl)) ?_) | refine wl_ef rfl (ef_q rfl rfl (qt_load tbok rfl rfl rfl (rc_lk (.there .here) rfl)) ?_) | refine wl_ef rfl (ef_q rfl rfl (qt_load tbok rfl rfl rfl (rc_lk (.there (.there .here)) rfl)) ?_) | refine wl_ef rfl (ef_q rfl rfl (qt_load tbok rfl rfl rfl (by assumption)) ?_) | refine wl_ef rfl (ef_q rfl rfl (qt_load_ag tbok rfl rfl rfl (by first | rfl | assumption) (by assumption)) ?_)
  refine wl_ef rfl (ef_q rfl rfl (qt_pure tbok rfl (by first | exact trivial | omega | exact ⟨by decide, by decide⟩ | (refine ⟨?_, ?_⟩ <;> omega) | (refine ⟨?_, ?_, ?_⟩ <;> omega))) ?_)
  first | refine wl_ef rfl (ef_q rfl rfl (qt_load tbok rfl rfl rfl (rc_lk .here rfl)) ?_) | refine wl_ef rfl (ef_q rfl rfl (qt_load tbok rfl rfl rfl (rc_lk (.there .here) rfl)) ?_) | refine wl_ef rfl (ef_q rfl rfl (qt_load tbok rfl rfl rfl (rc_lk (.there (.there .here)) rfl)) ?_) | refine wl_ef rfl (ef_q rfl rfl (qt_load tbok rfl rfl rfl (by assumption)) ?_) | refine wl_ef rfl (ef_q rfl rfl (qt_load_ag tbok rfl rfl rfl (by first | rfl | assumption) (by assumption)) ?_)
  first | refine wl_ef rfl (ef_q rfl rfl (qt_pure tbok rfl (by first | exact trivial | omega | exact ⟨by decide, by decide⟩ | (refine ⟨?_, ?_⟩ <;> omega) | (refine ⟨?_, ?_, ?_⟩ <;> omega))) ?_) | refine wl_ef rfl (ef_q rfl rfl (qt_eqn tbok rfl rfl rfl) ?_)
  refine wl_as (v' := .c (.bool true)) (congrArg (fun b => V.c (C.bool b)) (decide_eq_true rfl)) ?_
  refine wl_ef rfl (ef_q rfl rfl (qt_pure tbok rfl (by first | exact trivial | omega | exact ⟨by decide, by decide⟩ | (refine ⟨?_, ?_⟩ <;> omega) | (refine ⟨?_, ?_, ?_⟩ <;> omega))) ?_)
  first | refine wl_gd rfl rfl (ef_q rfl rfl (qt_pure tbok rfl (by first | exact trivial | omega | exact ⟨by decide, by decide⟩ | (refine ⟨?_, ?_⟩ <;> omega) | (refine ⟨?_, ?_, ?_⟩ <;> omega))) ?_) | refine wl_skip rfl rfl rfl rfl rfl ?_
  refine wl_gd rfl rfl (ef_q rfl rfl (qt_load_ag (l := bc CH.flatten) tbok rfl rfl rfl hFb (rs_lk (.there .here) (scs_get hF).2.1)) ?_)
  first | refine wl_gd rfl rfl (ef_q rfl rfl (qt_pure tbok rfl (by first | exact trivial | omega | exact ⟨by decide, by decide⟩ | (refine ⟨?_, ?_⟩ <;> omega) | (refine ⟨?_, ?_, ?_⟩ <;> omega))) ?_) | refine wl_skip rfl rfl rfl rfl rfl ?_
  refine wl_gd rfl rfl (ef_q rfl rfl (qt_load_ag (l := bc CH.flatten) tbok rfl rfl rfl hFb (rs_lk .here (scs_get hF).2.1)) ?_)
  refine wl_gd rfl rfl (ef_q rfl rfl (qt_eq_bytes eq26 ng26 rfl rfl hF hF) ?_)
  refine wl_as (v' := .c (.bool true)) (congrArg (fun b => V.c (C.bool b)) (decide_eq_true rfl)) ?_
  refine wl_ef rfl (ef_q rfl rfl (qt_pure tbok rfl (by first | exact trivial | omega | exact ⟨by decide, by decide⟩ | (refine ⟨?_, ?_⟩ <;> omega) | (refine ⟨?_, ?_, ?_⟩ <;> omega))) ?_)
  refine wl_ef rfl (ef_q rfl rfl (qt_pure tbok rfl (by first | exact trivial | omega | exact ⟨by decide, by decide⟩ | (refine ⟨?_, ?_⟩ <;> omega) | (refine ⟨?_, ?_, ?_⟩ <;> omega))) ?_)
  first | refine wl_gd rfl rfl (ef_q rfl rfl (qt_pure tbok rfl (by first | exact trivial | omega | exact ⟨by decide, by decide⟩ | (refine ⟨?_, ?_⟩ <;> omega) | (refine ⟨?_, ?_, ?_⟩ <;> omega))) ?_) | refine wl_skip rfl rfl rfl rfl rfl ?_
  refine wl_gd rfl rfl (ef_q rfl rfl (qt_load tbok rfl rfl rfl (rc_lk (.there .here) (scs_get hF).2.2)) ?_)
  first | refine wl_gd rfl rfl (ef_q rfl rfl (qt_pure tbok rfl (by first | exact trivial | omega | exact ⟨by decide, by decide⟩ | (refine ⟨?_, ?_⟩ <;> omega) | (refine ⟨?_, ?_, ?_⟩ <;> omega))) ?_) | refine wl_skip rfl rfl rfl rfl rfl ?_
  refine wl_gd rfl rfl (ef_q rfl rfl (qt_load tbok rfl rfl rfl (rc_lk .here (scs_get hF).2.2)) ?_)
  refine wl_gd rfl rfl (ef_pure (v := .c (.bool true)) (by kernel_rfl) rfl rfl (fun w1 h1 => same77_t hP hPl (cells_rd (rd_cells ha (off_new (newKey hy) (off_new (newKey hx) off_nil))) h1) (cells_rd (rd_cells hb (off_new (newKey hy) (off_new (newKey hx) off_nil))) h1)) ?_)
  refine wl_ef rfl (ef_q rfl rfl (qt_pure tbok rfl (by first | exact trivial | omega | exact ⟨by decide, by decide⟩ | (refine ⟨?_, ?_⟩ <;> omega) | (refine ⟨?_, ?_, ?_⟩ <;> omega))) ?_)
  refine wl_ef rfl (ef_q rfl rfl (qt_pure tbok rfl (by first | exact trivial | omega | exact ⟨by decide, by decide⟩ | (refine ⟨?_, ?_⟩ <;> omega) | (refine ⟨?_, ?_, ?_⟩ <;> omega))) ?_)
  refine wl_done ?_
  refine nk_code ?_
  refine wc_ret ?_
  try dsimp only
  exact fin1 rfl (rv_tmp rfl) (fun w' hw => ⟨rfl, hw.all (new_cons (newKey hy) (new_cons (newKey hx) new_nil))⟩)
end Go.Proofs.Ytjhmcmadleabjaa

set_option maxRecDepth 100000
namespace Go.Proofs.Ytjhmcmadleabjaa
open Go Go.Hw Go.Proofs

/-- What a key signed is taken, at whatever index. -/
theorem lvs_get {sd : List UInt8} {m i : Nat} (hi : i < m) : (lvs sd m).getD i [] = leafH (pubH sd (UInt32.ofInt (i : Int))) := by simp [lvs, hi]
theorem ver_ok {sd msg : List UInt8} {h i : Nat} (hh : h ≤ 6) (hi : i < pw h) : verB (h : Int) (rootT h (lvs sd (pw h))) msg (i : Int) (sgL sd (UInt32.ofInt (i : Int)) (wordH (h : Int) (rootT h (lvs sd (pw h))) (i : Int) msg)) (pathT h i (lvs sd (pw h))) = true := by
  unfold verB
  rw [if_neg (by intro hc; rw [pathT_len, Int.toNat_natCast] at hc; omega)]
  rw [rec_sign, Int.toNat_natCast]
  refine decide_eq_true ?_
  rw [← lvs_get hi]
  exact path_root h i (lvs_A _ _) (lvs_len _ _) hi

theorem keysApart_c {w : World} {sd m1 m2 : List UInt8} {a1 a2 : Ad} {c1 c2 : Nat} (hs : sd.length = 32) (hm1 : Cells w a1 (bc m1)) (hl1 : Lives w a1) (hx1 : m1.length ≤ 1073741000) (hm2 : Cells w a2 (bc m2)) (hl2 : Lives w a2) (hx2 : m2.length ≤ 1073741000) :
    CallsV Try.prog 6 [.agg (bc sd), .c (.slc a1 m1.length c1), .c (.slc a2 m2.length c2)] w fun en w' => en = .returned (V.c (.bool true)).den ∧ St w [] w' := by
  have hsl : (bc sd).length = 32 := by rw [bc_len, hs]
  have hrl := rootT_len 1 (lvs_A sd (pw 1)) (lvs_len sd (pw 1))
  refine calls_in (tb := tb) (fn := Try.f6) Try.func6 rfl rfl rfl [(0, .agg (bc sd)), (1, .c (.slc a1 m1.length c1)), (2, .c (.slc a2 m2.length c2))] rfl [] (St.refl _) ?_
  refine wc_seq ?_
  refine wc_region ?_
  refine wl_ef rfl (ef_box rfl rfl rfl (fun b hb => ?_))
  refine wl_ef rfl (ef_q rfl rfl (qt_pure tbok rfl (by first | exact trivial | omega | exact ⟨by decide, by decide⟩ | (refine ⟨?_, ?_⟩ <;> omega) | (refine ⟨?_, ?_, ?_⟩ <;> omega))) ?_)
  refine wl_done ?_
  refine nk_code ?_
  refine wc_seq ?_
  refine wc_region ?_
  refine wl_ef rfl (ef_q rfl rfl (qt_load_ag (l := bc sd) tbok rfl rfl rfl hsl (rs_lk .here at0)) ?_)
  refine wl_ef rfl (ef_fresh2 (by kernel_rfl) rfl rfl (fun w1 h1 => new_c (h := 1) hs (by decide)) (fun ⟨k1, y1⟩ hy1 hkD1 hk1 => ?_))
  dsimp only at hy1 hkD1 hk1
  dsimp only
  refine wl_ef rfl (ef_q rfl rfl (qt_pure tbok rfl (by first | exact trivial | omega | exact ⟨by decide, by decide⟩ | (refine ⟨?_, ?_⟩ <;> omega) | (refine ⟨?_, ?_, ?_⟩ <;> omega))) ?_)
  refine wl_ef rfl (ef_q rfl rfl (qt_pure tbok rfl (by first | exact trivial | omega | exact ⟨by decide, by decide⟩ | (refine ⟨?_, ?_⟩ <;> omega) | (refine ⟨?_, ?_, ?_⟩ <;> omega))) ?_)
  refine wl_ef rfl (ef_q rfl rfl (qt_pure tbok rfl (by first | exact trivial | omega | exact ⟨by decide, by decide⟩ | (refine ⟨?_, ?_⟩ <;> omega) | (refine ⟨?_, ?_, ?_⟩ <;> omega))) ?_)
  refine wl_ef rfl (ef_q rfl rfl (qt_pure tbok rfl (by first | exact trivial | omega | exact ⟨by decide, by decide⟩ | (refine ⟨?_, ?_⟩ <;> omega) | (refine ⟨?_, ?_, ?_⟩ <;> omega))) ?_)
  refine wl_ef rfl (ef_q rfl rfl (qt_pure tbok rfl (by first | exact trivial | omega | exact ⟨by decide, by decide⟩ | (refine ⟨?_, ?_⟩ <;> omega) | (refine ⟨?_, ?_, ?_⟩ <;> omega))) ?_)
  refine wl_done ?_
  refine nk_code ?_
  refine wc_seq ?_
  refine wc_region ?_
  refine wl_ef rfl (ef_q rfl rfl (qt_load_ag (l := bc sd) tbok rfl rfl rfl hsl (rs_lk (.there (.there .here)) at0)) ?_)
  refine wl_ef rfl (ef_fresh2 (by kernel_rfl) rfl rfl (fun w1 h1 => new_c (h := 1) hs (by decide)) (fun ⟨k2, y2⟩ hy2 hkD2 hk2 => ?_))
  dsimp only at hy2 hkD2 hk2
  dsimp only
  refine wl_ef rfl (ef_q rfl rfl (qt_pure tbok rfl (by first | exact trivial | omega | exact ⟨by decide, by decide⟩ | (refine ⟨?_, ?_⟩ <;> omega) | (refine ⟨?_, ?_, ?_⟩ <;> omega))) ?_)
  refine wl_ef rfl (ef_q rfl rfl (qt_pure tbok rfl (by first | exact trivial | omega | exact ⟨by decide, by decide⟩ | (refine ⟨?_, ?_⟩ <;> omega) | (refine ⟨?_, ?_, ?_⟩ <;> omega))) ?_)
  refine wl_ef rfl (ef_q rfl rfl (qt_pure tbok rfl (by first | exact trivial | omega | exact ⟨by decide, by decide⟩ | (refine ⟨?_, ?_⟩ <;> omega) | (refine ⟨?_, ?_, ?_⟩ <;> omega))) ?_)
  refine wl_ef rfl (ef_q rfl rfl (qt_pure tbok rfl (by first | exact trivial | omega | exact ⟨by decide, by decide⟩ | (refine ⟨?_, ?_⟩ <;> omega) | (refine ⟨?_, ?_, ?_⟩ <;> omega))) ?_)
  refine wl_ef rfl (ef_q rfl rfl (qt_pure tbok rfl (by first | exact trivial | omega | exact ⟨by decide, by decide⟩ | (refine ⟨?_, ?_⟩ <;> omega) | (refine ⟨?_, ?_, ?_⟩ <;> omega))) ?_)
  refine wl_done ?_
  refine nk_code ?_
  refine wc_seq ?_
  refine wc_seq ?_
  refine wc_region ?_
  refine wl_ef rfl (ef_pure (v := .c (.bool true)) (by kernel_rfl) rfl rfl (fun w1 _ => awake_c) ?_)
  refine wl_ef rfl (ef_q rfl rfl (qt_pure tbok rfl (by first | exact trivial | omega | exact ⟨by decide, by decide⟩ | (refine ⟨?_, ?_⟩ <;> omega) | (refine ⟨?_, ?_, ?_⟩ <;> omega))) ?_)
  refine wl_ef rfl (ef_q rfl rfl (qt_pure tbok rfl (by first | exact trivial | omega | exact ⟨by decide, by decide⟩ | (refine ⟨?_, ?_⟩ <;> omega) | (refine ⟨?_, ?_, ?_⟩ <;> omega))) ?_)
  first | refine wl_gd rfl rfl (ef_q rfl rfl (qt_pure tbok rfl (by first | exact trivial | omega | exact ⟨by decide, by decide⟩ | (refine ⟨?_, ?_⟩ <;> omega) | (refine ⟨?_, ?_, ?_⟩ <;> omega))) ?_) | refine wl_skip rfl rfl rfl rfl rfl ?_
  first | refine wl_gd rfl rfl (ef_q rfl rfl (qt_pure tbok rfl (by first | exact trivial | omega | exact ⟨by decide, by decide⟩ | (refine ⟨?_, ?_⟩ <;> omega) | (refine ⟨?_, ?_, ?_⟩ <;> omega))) ?_) | refine wl_gd rfl rfl (ef_q rfl rfl (qt_neqn tbok rfl rfl rfl) ?_) | refine wl_skip rfl rfl rfl rfl rfl ?_
  refine wl_ef rfl (ef_q rfl rfl (qt_pure tbok rfl (by first | exact trivial | omega | exact ⟨by decide, by decide⟩ | (refine ⟨?_, ?_⟩ <;> omega) | (refine ⟨?_, ?_, ?_⟩ <;> omega))) ?_)
  refine wl_ef rfl (ef_q rfl rfl (qt_pure tbok rfl (by first | exact trivial | omega | exact ⟨by decide, by decide⟩ | (refine ⟨?_, ?_⟩ <;> omega) | (refine ⟨?_, ?_, ?_⟩ <;> omega))) ?_)
  first | refine wl_gd rfl rfl (ef_q rfl rfl (qt_pure tbok rfl (by first | exact trivial | omega | exact ⟨by decide, by decide⟩ | (refine ⟨?_, ?_⟩ <;> omega) | (refine ⟨?_, ?_, ?_⟩ <;> omega))) ?_) | refine wl_skip rfl rfl rfl rfl rfl ?_
  first | refine wl_gd rfl rfl (ef_q rfl rfl (qt_pure tbok rfl (by first | exact trivial | omega | exact ⟨by decide, by decide⟩ | (refine ⟨?_, ?_⟩ <;> omega) | (refine ⟨?_, ?_, ?_⟩ <;> omega))) ?_) | refine wl_gd rfl rfl (ef_q rfl rfl (qt_neqn tbok rfl rfl rfl) ?_) | refine wl_skip rfl rfl rfl rfl rfl ?_
  refine wl_ef rfl (ef_q rfl rfl (qt_pure tbok rfl (by first | exact trivial | omega | exact ⟨by decide, by decide⟩ | (refine ⟨?_, ?_⟩ <;> omega) | (refine ⟨?_, ?_, ?_⟩ <;> omega))) ?_)
  refine wl_ef rfl (ef_q rfl rfl (qt_pure tbok rfl (by first | exact trivial | omega | exact ⟨by decide, by decide⟩ | (refine ⟨?_, ?_⟩ <;> omega) | (refine ⟨?_, ?_, ?_⟩ <;> omega))) ?_)
  first | refine wl_gd rfl rfl (ef_q rfl rfl (qt_pure tbok rfl (by first | exact trivial | omega | exact ⟨by decide, by decide⟩ | (refine ⟨?_, ?_⟩ <;> omega) | (refine ⟨?_, ?_, ?_⟩ <;> omega))) ?_) | refine wl_skip rfl rfl rfl rfl rfl ?_
  refine wl_gd rfl rfl (ef_pure (v := .agg (.i64 ((1 : Nat) : Int) :: bc (rootT 1 (lvs sd (pw 1))))) (by kernel_rfl) rfl rfl (fun w1 h1 => public_c (h := 1) (nx := 0) hs (by decide) (cells_own h1 (.there (.there (.there .here)))) (lvs_A _ _) (lvs_len _ _) (OwnS.le hy1) (cells_own h1 (.there (.there .here)))) ?_)
  first | refine wl_gd rfl rfl (ef_q rfl rfl (qt_pure tbok rfl (by first | exact trivial | omega | exact ⟨by decide, by decide⟩ | (refine ⟨?_, ?_⟩ <;> omega) | (refine ⟨?_, ?_, ?_⟩ <;> omega))) ?_) | refine wl_skip rfl rfl rfl rfl rfl ?_
  refine wl_gd rfl rfl (ef_pure (v := .agg (.i64 ((1 : Nat) : Int) :: bc (rootT 1 (lvs sd (pw 1))))) (by kernel_rfl) rfl rfl (fun w1 h1 => public_c (h := 1) (nx := 0) hs (by decide) (cells_own h1 (.there .here)) (lvs_A _ _) (lvs_len _ _) (OwnS.le hy2) (cells_own h1 (.here))) ?_)
  refine wl_gd rfl rfl (ef_q rfl rfl (qt_neq_pair tbok pair32 rfl rfl eq30' ng32 rfl rfl hrl hrl) ?_)
  refine wl_as (v' := .c (.bool false)) (by simp) ?_
  refine wl_ef rfl (ef_q rfl rfl (qt_pure tbok rfl (by first | exact trivial | omega | exact ⟨by decide, by decide⟩ | (refine ⟨?_, ?_⟩ <;> omega) | (refine ⟨?_, ?_, ?_⟩ <;> omega))) ?_)
  refine wl_done ?_
  refine nk_code ?_
  refine wc_no rfl ?_
  refine wc_skip ?_
  refine nk_code ?_
  refine wc_seq ?_
  refine wc_region ?_
  refine wl_ef rfl (ef_q rfl rfl (qt_pure tbok rfl (by first | exact trivial | omega | exact ⟨by decide, by decide⟩ | (refine ⟨?_, ?_⟩ <;> omega) | (refine ⟨?_, ?_, ?_⟩ <;> omega))) ?_)
  refine wl_ef rfl (ef_q rfl rfl (qt_pure tbok rfl (by first | exact trivial | omega | exact ⟨by decide, by decide⟩ | (refine ⟨?_, ?_⟩ <;> omega) | (refine ⟨?_, ?_, ?_⟩ <;> omega))) ?_)
  refine wl_ef rfl (ef_turn1 (b' := fun _ => kb k1 sd 1 y1 (pw 1) (0 + 1)) (by kernel_rfl) rfl rfl (fun _ => .there (.there (.there .here))) (fun _ => rfl) (fun w1 h1 => sign26_c (h := 1) (nx := 0) (msg := m1) hs (by decide) (by decide) (lk_st h1 (.there (.there (.there .here)))) (lvs_A _ _) (lvs_len _ _) (OwnS.le hy1) (cells_own h1 (.there (.there .here))) (st_ne2 h1 (.there (.there .here)) (.there (.there (.there .here))) (by show (30 : Nat) ≠ 135; decide) rfl) (cells_rd (rd_cells hm1 (off_new hkD2 (off_new (newKey (hk2 _ rfl)) (off_new hkD1 (off_new (newKey (hk1 _ rfl)) (off_new (newKey hb) off_nil)))))) h1) (hl1.ne (hk1 _ rfl)) (by omega)) (fun p1 hp1 hkp1 => ?_))
  refine wl_done ?_
  refine nk_code ?_
  refine wc_seq ?_
  refine wc_region ?_
  refine wl_ef rfl (ef_q rfl rfl (qt_pure tbok rfl (by first | exact trivial | omega | exact ⟨by decide, by decide⟩ | (refine ⟨?_, ?_⟩ <;> omega) | (refine ⟨?_, ?_, ?_⟩ <;> omega))) ?_)
  refine wl_ef rfl (ef_turn (by kernel_rfl) rfl rfl (b' := kb k2 sd 1 y2 (pw 1) (0 + 1)) (.there (.there .here)) rfl (fun w1 h1 => skip_c (n := 1) hs (by decide) (by decide) (lk_st h1 (.there (.there .here)))) ?_)
  refine wl_done ?_
  refine nk_code ?_
  refine wc_seq ?_
  refine wc_region ?_
  refine wl_ef rfl (ef_q rfl rfl (qt_pure tbok rfl (by first | exact trivial | omega | exact ⟨by decide, by decide⟩ | (refine ⟨?_, ?_⟩ <;> omega) | (refine ⟨?_, ?_, ?_⟩ <;> omega))) ?_)
  refine wl_ef rfl (ef_q rfl rfl (qt_pure tbok rfl (by first | exact trivial | omega | exact ⟨by decide, by decide⟩ | (refine ⟨?_, ?_⟩ <;> omega) | (refine ⟨?_, ?_, ?_⟩ <;> omega))) ?_)
  refine wl_ef rfl (ef_turn1 (b' := fun _ => kb k1 sd 1 y1 (pw 1) (0 + 1 + 1)) (by kernel_rfl) rfl rfl (fun _ => .there (.there (.there (.there .here)))) (fun _ => rfl) (fun w1 h1 => sign26_c (h := 1) (nx := 0 + 1) (msg := m2) hs (by decide) (by decide) (lk_st h1 (.there (.there (.there (.there .here))))) (lvs_A _ _) (lvs_len _ _) (OwnS.le hy1) (cells_own h1 (.there (.there (.there .here)))) (st_ne2 h1 (.there (.there (.there .here))) (.there (.there (.there (.there .here)))) (by show (30 : Nat) ≠ 135; decide) rfl) (cells_rd (rd_cells hm2 (off_new hkp1 (off_new hkD2 (off_new (newKey (hk2 _ rfl)) (off_new hkD1 (off_new (newKey (hk1 _ rfl)) (off_new (newKey hb) off_nil))))))) h1) (hl2.ne (hk1 _ rfl)) (by omega)) (fun p2 hp2 hkp2 => ?_))
  refine wl_ef rfl (ef_q rfl rfl (qt_pure tbok rfl (by first | exact trivial | omega | exact ⟨by decide, by decide⟩ | (refine ⟨?_, ?_⟩ <;> omega) | (refine ⟨?_, ?_, ?_⟩ <;> omega))) ?_)
  refine wl_ef rfl (ef_q rfl rfl (qt_pure tbok rfl (by first | exact trivial | omega | exact ⟨by decide, by decide⟩ | (refine ⟨?_, ?_⟩ <;> omega) | (refine ⟨?_, ?_, ?_⟩ <;> omega))) ?_)
  refine wl_ef rfl (ef_q rfl rfl (qt_pure tbok rfl (by first | exact trivial | omega | exact ⟨by decide, by decide⟩ | (refine ⟨?_, ?_⟩ <;> omega) | (refine ⟨?_, ?_, ?_⟩ <;> omega))) ?_)
  refine wl_ef rfl (ef_alloc zero38 rfl rfl (fun t11 ht11 => ?_))
  refine wl_ef rfl (ef_store (cs' := scs ((0 + 1 : Nat) : Int) (sigF sd 1 (lvs sd (pw 1)) (0 + 1) m2) p2.1 1 p2.2.1) tbok rfl rfl rfl rfl .here (scs_len (sigF_len _ _ _ _ _)) (by show 0 + 2146 ≤ z38.length; rw [z38_len]; decide) (spl_all (by show (scs _ _ _ _ _).length = z38.length; rw [scs_len (sigF_len _ _ _ _ _), z38_len])) ?_)
  refine wl_ef rfl (ef_q rfl rfl (qt_pure tbok rfl (by first | exact trivial | omega | exact ⟨by decide, by decide⟩ | (refine ⟨?_, ?_⟩ <;> omega) | (refine ⟨?_, ?_, ?_⟩ <;> omega))) ?_)
  refine wl_done ?_
  refine nk_code ?_
  refine wc_seq ?_
  refine wc_region ?_
  refine wl_ef rfl (ef_q rfl rfl (qt_pure tbok rfl (by first | exact trivial | omega | exact ⟨by decide, by decide⟩ | (refine ⟨?_, ?_⟩ <;> omega) | (refine ⟨?_, ?_, ?_⟩ <;> omega))) ?_)
  refine wl_ef rfl (ef_q rfl rfl (qt_pure tbok rfl (by first | exact trivial | omega | exact ⟨by decide, by decide⟩ | (refine ⟨?_, ?_⟩ <;> omega) | (refine ⟨?_, ?_, ?_⟩ <;> omega))) ?_)
  refine wl_ef rfl (ef_turn1 (b' := fun _ => kb k2 sd 1 y2 (pw 1) (0 + 1 + 1)) (by kernel_rfl) rfl rfl (fun _ => .there (.there (.there (.there .here)))) (fun _ => rfl) (fun w1 h1 => sign26_c (h := 1) (nx := 0 + 1) (msg := m2) hs (by decide) (by decide) (lk_st h1 (.there (.there (.there (.there .here))))) (lvs_A _ _) (lvs_len _ _) (OwnS.le hy2) (cells_own h1 (.there (.there (.there .here)))) (st_ne2 h1 (.there (.there (.there .here))) (.there (.there (.there (.there .here)))) (by show (30 : Nat) ≠ 135; decide) rfl) (cells_rd (rd_cells hm2 (off_new (newKey ht11) (off_new hkp2 (off_new hkp1 (off_new hkD2 (off_new (newKey (hk2 _ rfl)) (off_new hkD1 (off_new (newKey (hk1 _ rfl)) (off_new (newKey hb) off_nil))))))))) h1) (hl2.ne (hk2 _ rfl)) (by omega)) (fun p3 hp3 hkp3 => ?_))
  refine wl_ef rfl (ef_q rfl rfl (qt_pure tbok rfl (by first | exact trivial | omega | exact ⟨by decide, by decide⟩ | (refine ⟨?_, ?_⟩ <;> omega) | (refine ⟨?_, ?_, ?_⟩ <;> omega))) ?_)
  refine wl_ef rfl (ef_q rfl rfl (qt_pure tbok rfl (by first | exact trivial | omega | exact ⟨by decide, by decide⟩ | (refine ⟨?_, ?_⟩ <;> omega) | (refine ⟨?_, ?_, ?_⟩ <;> omega))) ?_)
  refine wl_ef rfl (ef_q rfl rfl (qt_pure tbok rfl (by first | exact trivial | omega | exact ⟨by decide, by decide⟩ | (refine ⟨?_, ?_⟩ <;> omega) | (refine ⟨?_, ?_, ?_⟩ <;> omega))) ?_)
  refine wl_ef rfl (ef_alloc zero38 rfl rfl (fun t13 ht13 => ?_))
  refine wl_ef rfl (ef_store (cs' := scs ((0 + 1 : Nat) : Int) (sigF sd 1 (lvs sd (pw 1)) (0 + 1) m2) p3.1 1 p3.2.1) tbok rfl rfl rfl rfl .here (scs_len (sigF_len _ _ _ _ _)) (by show 0 + 2146 ≤ z38.length; rw [z38_len]; decide) (spl_all (by show (scs _ _ _ _ _).length = z38.length; rw [scs_len (sigF_len _ _ _ _ _), z38_len])) ?_)
  refine wl_ef rfl (ef_q rfl rfl (qt_pure tbok rfl (by first | exact trivial | omega | exact ⟨by decide, by decide⟩ | (refine ⟨?_, ?_⟩ <;> omega) | (refine ⟨?_, ?_, ?_⟩ <;> omega))) ?_)
  have offS : Off w a2 [⟨.at t13 0, scs ((0 + 1 : Nat) : Int) (sigF sd 1 (lvs sd (pw 1)) (0 + 1) m2) p3.1 1 p3.2.1, 38, (0, 0), []⟩, dob 30 (pathT 1 (0 + 1) (lvs sd (pw 1))) p3, ⟨.at t11 0, scs ((0 + 1 : Nat) : Int) (sigF sd 1 (lvs sd (pw 1)) (0 + 1) m2) p2.1 1 p2.2.1, 38, (0, 0), []⟩, dob 30 (pathT 1 (0 + 1) (lvs sd (pw 1))) p2, dob 30 (pathT 1 0 (lvs sd (pw 1))) p1, dob 30 (lvs sd (pw 1)) y2, kb k2 sd 1 y2 (pw 1) (0 + 1 + 1), dob 30 (lvs sd (pw 1)) y1, kb k1 sd 1 y1 (pw 1) (0 + 1 + 1), ⟨.at b 0, bc sd, 22, (0, 0), []⟩] := (off_new (newKey ht13) (off_new hkp3 (off_new (newKey ht11) (off_new hkp2 (off_new hkp1 (off_new hkD2 (off_new (newKey (hk2 _ rfl)) (off_new hkD1 (off_new (newKey (hk1 _ rfl)) (off_new (newKey hb) off_nil))))))))))
  refine wl_done ?_
  refine nk_code ?_
  refine wc_seq ?_
  refine wc_draw (s0 := [⟨.at t13 0, scs ((0 + 1 : Nat) : Int) (sigF sd 1 (lvs sd (pw 1)) (0 + 1) m2) p3.1 1 p3.2.1, 38, (0, 0), []⟩, dob 30 (pathT 1 (0 + 1) (lvs sd (pw 1))) p3, ⟨.at t11 0, scs ((0 + 1 : Nat) : Int) (sigF sd 1 (lvs sd (pw 1)) (0 + 1) m2) p2.1 1 p2.2.1, 38, (0, 0), []⟩, dob 30 (pathT 1 (0 + 1) (lvs sd (pw 1))) p2, dob 30 (pathT 1 0 (lvs sd (pw 1))) p1, dob 30 (lvs sd (pw 1)) y2, kb k2 sd 1 y2 (pw 1) (0 + 1 + 1), dob 30 (lvs sd (pw 1)) y1, kb k1 sd 1 y1 (pw 1) (0 + 1 + 1), ⟨.at b 0, bc sd, 22, (0, 0), []⟩]) 36 follows ?_
  refine wh_q 0 rfl (by kernel_rfl) rfl rfl rfl (qt_pure tbok rfl (by first | exact trivial | omega | exact ⟨by decide, by decide⟩ | (refine ⟨?_, ?_⟩ <;> omega) | (refine ⟨?_, ?_, ?_⟩ <;> omega))) (fun w hw => hw) ?_
  first | refine wh_q 1 rfl (by kernel_rfl) rfl rfl rfl (qt_pure tbok rfl (by first | exact trivial | omega | exact ⟨by decide, by decide⟩ | (refine ⟨?_, ?_⟩ <;> omega) | (refine ⟨?_, ?_, ?_⟩ <;> omega))) (fun w hw => hw) ?_ | refine wh_q 1 rfl (by kernel_rfl) rfl rfl rfl (qt_eqn tbok rfl rfl rfl) (fun w hw => hw) ?_
  refine wh_q 2 rfl (by kernel_rfl) rfl rfl rfl (qt_pure tbok rfl (by first | exact trivial | omega | exact ⟨by decide, by decide⟩ | (refine ⟨?_, ?_⟩ <;> omega) | (refine ⟨?_, ?_, ?_⟩ <;> omega))) (fun w hw => hw) ?_
  first | refine wh_gd 3 rfl (by kernel_rfl) rfl rfl rfl rfl (qt_pure tbok rfl (by first | exact trivial | omega | exact ⟨by decide, by decide⟩ | (refine ⟨?_, ?_⟩ <;> omega) | (refine ⟨?_, ?_, ?_⟩ <;> omega))) (fun w hw => hw) ?_ | refine wh_skip 3 rfl (by kernel_rfl) rfl rfl rfl rfl rfl (fun w hw => hw) ?_
  first | refine wh_gd 4 rfl (by kernel_rfl) rfl rfl rfl rfl (qt_pure tbok rfl (by first | exact trivial | omega | exact ⟨by decide, by decide⟩ | (refine ⟨?_, ?_⟩ <;> omega) | (refine ⟨?_, ?_, ?_⟩ <;> omega))) (fun w hw => hw) ?_ | refine wh_gd 4 rfl (by kernel_rfl) rfl rfl rfl rfl (qt_eqn tbok rfl rfl rfl) (fun w hw => hw) ?_ | refine wh_skip 4 rfl (by kernel_rfl) rfl rfl rfl rfl rfl (fun w hw => hw) ?_
  refine wh_q 5 rfl (by kernel_rfl) rfl rfl rfl (qt_pure tbok rfl (by first | exact trivial | omega | exact ⟨by decide, by decide⟩ | (refine ⟨?_, ?_⟩ <;> omega) | (refine ⟨?_, ?_, ?_⟩ <;> omega))) (fun w hw => hw) ?_
  refine wh_q 6 rfl (by kernel_rfl) rfl rfl rfl (qt_pure tbok rfl (by first | exact trivial | omega | exact ⟨by decide, by decide⟩ | (refine ⟨?_, ?_⟩ <;> omega) | (refine ⟨?_, ?_, ?_⟩ <;> omega))) (fun w hw => hw) ?_
  first | refine wh_gd 7 rfl (by kernel_rfl) rfl rfl rfl rfl (qt_pure tbok rfl (by first | exact trivial | omega | exact ⟨by decide, by decide⟩ | (refine ⟨?_, ?_⟩ <;> omega) | (refine ⟨?_, ?_, ?_⟩ <;> omega))) (fun w hw => hw) ?_ | refine wh_skip 7 rfl (by kernel_rfl) rfl rfl rfl rfl rfl (fun w hw => hw) ?_
  refine wh_gd 8 rfl (by kernel_rfl) rfl rfl rfl rfl (qt_load tbok rfl rfl rfl (rc_lk (.there (.there .here)) rfl)) (fun w hw => hw) ?_
  first | refine wh_gd 9 rfl (by kernel_rfl) rfl rfl rfl rfl (qt_pure tbok rfl (by first | exact trivial | omega | exact ⟨by decide, by decide⟩ | (refine ⟨?_, ?_⟩ <;> omega) | (refine ⟨?_, ?_, ?_⟩ <;> omega))) (fun w hw => hw) ?_ | refine wh_gd 9 rfl (by kernel_rfl) rfl rfl rfl rfl (qt_eqn tbok rfl rfl rfl) (fun w hw => hw) ?_ | refine wh_skip 9 rfl (by kernel_rfl) rfl rfl rfl rfl rfl (fun w hw => hw) ?_
  refine wh_as (v' := .c (.bool true)) (rfl) ?_
  refine wh_q 10 rfl (by kernel_rfl) rfl rfl rfl (qt_pure tbok rfl (by first | exact trivial | omega | exact ⟨by decide, by decide⟩ | (refine ⟨?_, ?_⟩ <;> omega) | (refine ⟨?_, ?_, ?_⟩ <;> omega))) (fun w hw => hw) ?_
  refine wh_q 11 rfl (by kernel_rfl) rfl rfl rfl (qt_pure tbok rfl (by first | exact trivial | omega | exact ⟨by decide, by decide⟩ | (refine ⟨?_, ?_⟩ <;> omega) | (refine ⟨?_, ?_, ?_⟩ <;> omega))) (fun w hw => hw) ?_
  refine wh_gd 12 rfl (by kernel_rfl) rfl rfl rfl rfl (qt_load_ag (l := scs ((0 + 1 : Nat) : Int) (sigF sd 1 (lvs sd (pw 1)) (0 + 1) m2) p2.1 1 p2.2.1) tbok rfl rfl rfl (scs_len (sigF_len _ _ _ _ _)) (rs_lk (.there (.there .here)) at0)) (fun w hw => hw) ?_
  refine wh_gd 14 rfl (by kernel_rfl) rfl rfl rfl rfl (qt_load_ag (l := scs ((0 + 1 : Nat) : Int) (sigF sd 1 (lvs sd (pw 1)) (0 + 1) m2) p3.1 1 p3.2.1) tbok rfl rfl rfl (scs_len (sigF_len _ _ _ _ _)) (rs_lk .here at0)) (fun w hw => hw) ?_
  refine wh_one 13 (by kernel_rfl) (wo_efg rfl rfl rfl (ef_fresh (by kernel_rfl) rfl rfl (fun w1 h1 => from_c (i := ((0 + 1 : Nat) : Int)) (CH := sgL sd (UInt32.ofInt ((0 + 1 : Nat) : Int)) (wordH ((1 : Nat) : Int) (rootT 1 (lvs sd (pw 1))) ((0 + 1 : Nat) : Int) m2)) (P := pathT 1 (0 + 1) (lvs sd (pw 1))) (sgL_A _ _ _) (sgL_len _ _ _) (pathT_A 1 (lvs_A _ _) (lvs_len _ _)) (by rw [pathT_len]; decide) (OwnS.le hp2) (cells_own h1 (.there (.there (.there .here))))) (fun q1 hq1 hkq1 => ⟨fun w hw => hw.tail hkq1, ?_⟩)))
  refine wh_one 15 (by kernel_rfl) (wo_efg rfl rfl rfl (ef_fresh (by kernel_rfl) rfl rfl (fun w1 h1 => from_c (i := ((0 + 1 : Nat) : Int)) (CH := sgL sd (UInt32.ofInt ((0 + 1 : Nat) : Int)) (wordH ((1 : Nat) : Int) (rootT 1 (lvs sd (pw 1))) ((0 + 1 : Nat) : Int) m2)) (P := pathT 1 (0 + 1) (lvs sd (pw 1))) (sgL_A _ _ _) (sgL_len _ _ _) (pathT_A 1 (lvs_A _ _) (lvs_len _ _)) (by rw [pathT_len]; decide) (OwnS.le hp3) (cells_own h1 (.there (.there .here)))) (fun q2 hq2 hkq2 => ⟨fun w hw => (hw.tail hkq2).tail hkq1, ?_⟩)))
  refine wh_one 16 (by kernel_rfl) (wo_efg rfl rfl rfl (ef_pure (v := .c (.bool true)) (by kernel_rfl) rfl rfl (fun w1 h1 => same27_t (P := pathT 1 (0 + 1) (lvs sd (pw 1))) (sgL_A _ _ _) (sgL_len _ _ _) (pathT_A 1 (lvs_A _ _) (lvs_len _ _)) (by rw [pathT_len]; decide) (cells_own h1 (.there .here)) (cells_own h1 .here)) ⟨fun w hw => (hw.tail hkq2).tail hkq1, ?_⟩))
  refine wh_q 17 rfl (by kernel_rfl) rfl rfl rfl (qt_pure tbok rfl (by first | exact trivial | omega | exact ⟨by decide, by decide⟩ | (refine ⟨?_, ?_⟩ <;> omega) | (refine ⟨?_, ?_, ?_⟩ <;> omega))) (fun w hw => (hw.tail hkq2).tail hkq1) ?_
  refine wh_q 18 rfl (by kernel_rfl) rfl rfl rfl (qt_pure tbok rfl (by first | exact trivial | omega | exact ⟨by decide, by decide⟩ | (refine ⟨?_, ?_⟩ <;> omega) | (refine ⟨?_, ?_, ?_⟩ <;> omega))) (fun w hw => (hw.tail hkq2).tail hkq1) ?_
  first | refine wh_gd 19 rfl (by kernel_rfl) rfl rfl rfl rfl (qt_pure tbok rfl (by first | exact trivial | omega | exact ⟨by decide, by decide⟩ | (refine ⟨?_, ?_⟩ <;> omega) | (refine ⟨?_, ?_, ?_⟩ <;> omega))) (fun w hw => (hw.tail hkq2).tail hkq1) ?_ | refine wh_skip 19 rfl (by kernel_rfl) rfl rfl rfl rfl rfl (fun w hw => (hw.tail hkq2).tail hkq1) ?_
  first | refine wh_gd 21 rfl (by kernel_rfl) rfl rfl rfl rfl (qt_pure tbok rfl (by first | exact trivial | omega | exact ⟨by decide, by decide⟩ | (refine ⟨?_, ?_⟩ <;> omega) | (refine ⟨?_, ?_, ?_⟩ <;> omega))) (fun w hw => (hw.tail hkq2).tail hkq1) ?_ | refine wh_skip 21 rfl (by kernel_rfl) rfl rfl rfl rfl rfl (fun w hw => (hw.tail hkq2).tail hkq1) ?_
  refine wh_gd 22 rfl (by kernel_rfl) rfl rfl rfl rfl (qt_load_ag (l := scs ((0 + 1 : Nat) : Int) (sigF sd 1 (lvs sd (pw 1)) (0 + 1) m2) p2.1 1 p2.2.1) tbok rfl rfl rfl (scs_len (sigF_len _ _ _ _ _)) (rs_lk (.there (.there .here)) at0)) (fun w hw => (hw.tail hkq2).tail hkq1) ?_
  refine wh_one 20 (by kernel_rfl) (wo_efg rfl rfl rfl (ef_pure (v := .agg (.i64 ((1 : Nat) : Int) :: bc (rootT 1 (lvs sd (pw 1))))) (by kernel_rfl) rfl rfl (fun w1 h1 => public_c (h := 1) (nx := 0 + 1 + 1) hs (by decide) (cells_own h1 (.there (.there (.there (.there (.there (.there (.there (.there .here))))))))) (lvs_A _ _) (lvs_len _ _) (OwnS.le hy2) (cells_own h1 (.there (.there (.there (.there (.there (.there (.there .here))))))))) ⟨fun w hw => (hw.tail hkq2).tail hkq1, ?_⟩))
  refine wh_one 23 (by kernel_rfl) (wo_efg rfl rfl rfl (ef_pure (v := .c (.bool (verB ((1 : Nat) : Int) (rootT 1 (lvs sd (pw 1))) m2 ((0 + 1 : Nat) : Int) (sgL sd (UInt32.ofInt ((0 + 1 : Nat) : Int)) (wordH ((1 : Nat) : Int) (rootT 1 (lvs sd (pw 1))) ((0 + 1 : Nat) : Int) m2)) (pathT 1 (0 + 1) (lvs sd (pw 1)))))) (by kernel_rfl) rfl rfl (fun w1 h1 => ver16_c (P := pathT 1 (0 + 1) (lvs sd (pw 1))) hrl (sgL_A _ _ _) (sgL_len _ _ _) (pathT_A 1 (lvs_A _ _) (lvs_len _ _)) (OwnS.le hp2) (cells_own h1 (.there (.there (.there (.there (.there .here)))))) (cells_rd (rd_cells hm2 offS) ((h1.tail hkq2).tail hkq1)) hx2) ⟨fun w hw => (hw.tail hkq2).tail hkq1, ?_⟩))
  refine wh_as (v' := .c (.bool true)) (congrArg (fun b => V.c (C.bool b)) (ver_ok (h := 1) (i := 0 + 1) (by decide) (by decide))) ?_
  refine wh_q 24 rfl (by kernel_rfl) rfl rfl rfl (qt_pure tbok rfl (by first | exact trivial | omega | exact ⟨by decide, by decide⟩ | (refine ⟨?_, ?_⟩ <;> omega) | (refine ⟨?_, ?_, ?_⟩ <;> omega))) (fun w hw => (hw.tail hkq2).tail hkq1) ?_
  refine wh_q 25 rfl (by kernel_rfl) rfl rfl rfl (qt_pure tbok rfl (by first | exact trivial | omega | exact ⟨by decide, by decide⟩ | (refine ⟨?_, ?_⟩ <;> omega) | (refine ⟨?_, ?_, ?_⟩ <;> omega))) (fun w hw => (hw.tail hkq2).tail hkq1) ?_
  first | refine wh_gd 26 rfl (by kernel_rfl) rfl rfl rfl rfl (qt_pure tbok rfl (by first | exact trivial | omega | exact ⟨by decide, by decide⟩ | (refine ⟨?_, ?_⟩ <;> omega) | (refine ⟨?_, ?_, ?_⟩ <;> omega))) (fun w hw => (hw.tail hkq2).tail hkq1) ?_ | refine wh_skip 26 rfl (by kernel_rfl) rfl rfl rfl rfl rfl (fun w hw => (hw.tail hkq2).tail hkq1) ?_
  refine wh_one 27 (by kernel_rfl) (wo_efg rfl rfl rfl (ef_pure (v := .c (.i64 ((pw 1 - (0 + 1 + 1) : Nat) : Int))) (by kernel_rfl) rfl rfl (fun w1 h1 => left_c hs (by decide) (by decide) (cells_own h1 (.there (.there (.there (.there (.there (.there (.there (.there (.there (.there .here)))))))))))) ⟨fun w hw => (hw.tail hkq2).tail hkq1, ?_⟩))
  first | refine wh_gd 28 rfl (by kernel_rfl) rfl rfl rfl rfl (qt_pure tbok rfl (by first | exact trivial | omega | exact ⟨by decide, by decide⟩ | (refine ⟨?_, ?_⟩ <;> omega) | (refine ⟨?_, ?_, ?_⟩ <;> omega))) (fun w hw => (hw.tail hkq2).tail hkq1) ?_ | refine wh_gd 28 rfl (by kernel_rfl) rfl rfl rfl rfl (qt_eqn tbok rfl rfl rfl) (fun w hw => (hw.tail hkq2).tail hkq1) ?_ | refine wh_skip 28 rfl (by kernel_rfl) rfl rfl rfl rfl rfl (fun w hw => (hw.tail hkq2).tail hkq1) ?_
  refine wh_q 29 rfl (by kernel_rfl) rfl rfl rfl (qt_pure tbok rfl (by first | exact trivial | omega | exact ⟨by decide, by decide⟩ | (refine ⟨?_, ?_⟩ <;> omega) | (refine ⟨?_, ?_, ?_⟩ <;> omega))) (fun w hw => (hw.tail hkq2).tail hkq1) ?_
  refine wh_q 30 rfl (by kernel_rfl) rfl rfl rfl (qt_pure tbok rfl (by first | exact trivial | omega | exact ⟨by decide, by decide⟩ | (refine ⟨?_, ?_⟩ <;> omega) | (refine ⟨?_, ?_, ?_⟩ <;> omega))) (fun w hw => (hw.tail hkq2).tail hkq1) ?_
  first | refine wh_gd 31 rfl (by kernel_rfl) rfl rfl rfl rfl (qt_pure tbok rfl (by first | exact trivial | omega | exact ⟨by decide, by decide⟩ | (refine ⟨?_, ?_⟩ <;> omega) | (refine ⟨?_, ?_, ?_⟩ <;> omega))) (fun w hw => (hw.tail hkq2).tail hkq1) ?_ | refine wh_skip 31 rfl (by kernel_rfl) rfl rfl rfl rfl rfl (fun w hw => (hw.tail hkq2).tail hkq1) ?_
  refine wh_one 32 (by kernel_rfl) (wo_efg rfl rfl rfl (ef_pure (v := .c (.i64 ((pw 1 - (0 + 1 + 1) : Nat) : Int))) (by kernel_rfl) rfl rfl (fun w1 h1 => left_c hs (by decide) (by decide) (cells_own h1 (.there (.there (.there (.there (.there (.there (.there (.there .here)))))))))) ⟨fun w hw => (hw.tail hkq2).tail hkq1, ?_⟩))
  first | refine wh_gd 33 rfl (by kernel_rfl) rfl rfl rfl rfl (qt_pure tbok rfl (by first | exact trivial | omega | exact ⟨by decide, by decide⟩ | (refine ⟨?_, ?_⟩ <;> omega) | (refine ⟨?_, ?_, ?_⟩ <;> omega))) (fun w hw => (hw.tail hkq2).tail hkq1) ?_ | refine wh_gd 33 rfl (by kernel_rfl) rfl rfl rfl rfl (qt_eqn tbok rfl rfl rfl) (fun w hw => (hw.tail hkq2).tail hkq1) ?_ | refine wh_skip 33 rfl (by kernel_rfl) rfl rfl rfl rfl rfl (fun w hw => (hw.tail hkq2).tail hkq1) ?_
  refine wh_q 34 rfl (by kernel_rfl) rfl rfl rfl (qt_pure tbok rfl (by first | exact trivial | omega | exact ⟨by decide, by decide⟩ | (refine ⟨?_, ?_⟩ <;> omega) | (refine ⟨?_, ?_, ?_⟩ <;> omega))) (fun w hw => (hw.tail hkq2).tail hkq1) ?_
  refine wh_q 35 rfl (by kernel_rfl) rfl rfl rfl (qt_pure tbok rfl (by first | exact trivial | omega | exact ⟨by decide, by decide⟩ | (refine ⟨?_, ?_⟩ <;> omega) | (refine ⟨?_, ?_, ?_⟩ <;> omega))) (fun w hw => (hw.tail hkq2).tail hkq1) ?_
  refine wh_done (by kernel_rfl) ?_
  refine nk_code ?_
  refine wc_ret ?_
  try dsimp only
  exact fin1 rfl (rv_tmp rfl) (fun w' hw => ⟨rfl, hw.all (new_cons hkq2 (new_cons hkq1 (new_cons (newKey ht13) (new_cons hkp3 (new_cons (newKey ht11) (new_cons hkp2 (new_cons hkp1 (new_cons hkD2 (new_cons hk2 (new_cons hkD1 (new_cons hk1 (new_cons (newKey hb) new_nil))))))))))))⟩)
end Go.Proofs.Ytjhmcmadleabjaa
