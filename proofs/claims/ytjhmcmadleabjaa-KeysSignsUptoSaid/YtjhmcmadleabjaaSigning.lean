/- The walk of KeysSigns: it answers true and leaves what was there. -/
import Derived.Test.YtjhmcmadleabjaaWalksB
set_option linter.unusedVariables false
set_option maxRecDepth 100000
namespace Go.Proofs.Ytjhmcmadleabjaa
open Go Go.Hw Go.Proofs

/-- A step with a key. -/
structure ActV where
  skip : Int
  ad : Ad
  msg : List UInt8
  cap : Nat
def ActV.row (a : ActV) : List C := [.i64 a.skip, .slc a.ad a.msg.length a.cap]
def actAt (A : List ActV) (i : Nat) : ActV := A.getD i ⟨0, .nil, [], 0⟩
theorem act_mem {A : List ActV} {i : Nat} (h : i < A.length) : actAt A i ∈ A := by
  unfold actAt; rw [List.getD_eq_getElem?_getD, List.getElem?_eq_getElem h]; exact List.getElem_mem h
theorem rows2 : ∀ {A : List ActV} {i : Nat}, i < A.length → ∀ (j : Nat) c, ((actAt A i).row)[j]? = some c → (A.flatMap ActV.row)[i * 2 + j]? = some c
  | a :: A, 0, _, j, c, hj => by
    rw [List.flatMap_cons, List.getElem?_append_left (by have := (List.getElem?_eq_some_iff.1 hj).1; simpa [actAt, ActV.row] using this)]
    simpa [actAt] using hj
  | a :: A, i + 1, h, j, c, hj => by
    rw [List.flatMap_cons, List.getElem?_append_right (by simp [ActV.row]; omega)]
    have := rows2 (A := A) (i := i) (by simpa using h) j c (by simpa [actAt] using hj)
    rw [← this]; congr 1; simp [ActV.row]; omega
theorem rows2_len (A : List ActV) : (A.flatMap ActV.row).length = A.length * 2 := by
  induction A with
  | nil => rfl
  | cons a A ih => rw [List.flatMap_cons, List.length_append, ih]; simp [ActV.row]; omega
theorem zero53 : zeroIs Try.prog 53 (.agg [.i64 0, .slc .nil 0 0]) := by unfold zeroIs; kernel_rfl

set_option maxHeartbeats 4000000 in
theorem keysSigns_c {w : World} {sd : List UInt8} {height : Int} {A : List ActV} {pa : Ad} {pc : Nat} (hs : sd.length = 32) (hA : Cells w pa (A.flatMap ActV.row)) (hAl : A.length ≤ 1073741824)
    (hmsg : ∀ a ∈ A, Cells w a.ad (bc a.msg) ∧ Lives w a.ad ∧ a.msg.length ≤ 1073741000) :
    CallsV Try.prog 5 [.agg (bc sd), .c (.i64 height), .c (.slc pa A.length pc)] w fun en w' => en = .returned (V.c (.bool true)).den ∧ St w [] w' := by
  have hsl : (bc sd).length = 32 := by rw [bc_len, hs]
  obtain ⟨hh, hhe⟩ : ∃ hh : Nat, hh = (UInt64.ofInt height % UInt64.ofNat (Int.toNat 3)).toNat := ⟨_, rfl⟩
  have h2 : hh ≤ 2 := by rw [hhe, UInt64.toNat_mod]; have := Nat.mod_lt (UInt64.ofInt height).toNat (show 0 < (UInt64.ofNat (Int.toNat 3)).toNat by decide); have e3 : (UInt64.ofNat (Int.toNat 3)).toNat = 3 := rfl; omega
  have h6 : hh ≤ 6 := by omega
  have hp2 : pw hh ≤ 4 := pw_mono h2
  have hq : (2 : Int) ^ hh = ((pw hh : Nat) : Int) := by rw [pw_two]; simp
  have hrl := rootT_len hh (lvs_A sd (pw hh)) (lvs_len sd (pw hh))
  have hrb : (bc (rootT hh (lvs sd (pw hh)))).length = 32 := by rw [bc_len, hrl]
  refine calls_in (tb := tb) (fn := Try.f5) Try.func5 rfl rfl rfl [(0, .agg (bc sd)), (1, .c (.i64 height)), (2, .c (.slc pa A.length pc))] rfl [] (St.refl _) ?_
  refine wc_seq ?_
  refine wc_region ?_
  refine wl_ef rfl (ef_box rfl rfl rfl (fun b hb => ?_))
  refine wl_ef rfl (ef_q rfl rfl (qt_pure tbok rfl (by first | exact trivial | omega | exact ⟨by decide, by decide⟩ | (refine ⟨?_, ?_⟩ <;> omega) | (refine ⟨?_, ?_, ?_⟩ <;> omega))) ?_)
  refine wl_done ?_
  refine nk_code ?_
  refine wc_seq ?_
  refine wc_seq ?_
  refine wc_region ?_
  refine wl_ef rfl (ef_pure (v := .c (.bool true)) (by kernel_rfl) rfl rfl (fun w1 _ => awake_c) ?_)
  refine wl_ef rfl (ef_q rfl rfl (qt_pure tbok rfl (by first | exact trivial | omega | exact ⟨by decide, by decide⟩ | (refine ⟨?_, ?_⟩ <;> omega) | (refine ⟨?_, ?_, ?_⟩ <;> omega))) ?_)
  refine wl_done ?_
  refine nk_code ?_
  refine wc_no rfl ?_
  refine wc_skip ?_
  refine nk_code ?_
  refine wc_seq ?_
  refine wc_region ?_
  refine wl_ef rfl (ef_q rfl rfl (qt_pure tbok rfl (by first | exact trivial | omega | exact ⟨by decide, by decide⟩ | (refine ⟨?_, ?_⟩ <;> omega) | (refine ⟨?_, ?_, ?_⟩ <;> omega))) ?_)
  refine wl_ef rfl (ef_q rfl rfl (qt_pure tbok rfl (by first | exact trivial | omega | exact ⟨by decide, by decide⟩ | (refine ⟨?_, ?_⟩ <;> omega) | (refine ⟨?_, ?_, ?_⟩ <;> omega))) ?_)
  refine wl_ef rfl (ef_q rfl rfl (qt_pure tbok rfl (by decide)) ?_)
  refine wl_ef rfl (ef_q rfl rfl (qt_pure tbok rfl (by rw [← hhe]; omega)) ?_)
  refine wl_as (v' := .c (.i64 (hh : Int))) (by rw [hhe]) ?_
  refine wl_ef rfl (ef_q rfl rfl (qt_pure tbok rfl (by first | exact trivial | omega | exact ⟨by decide, by decide⟩ | (refine ⟨?_, ?_⟩ <;> omega) | (refine ⟨?_, ?_, ?_⟩ <;> omega))) ?_)
  refine wl_done ?_
  refine nk_code ?_
  refine wc_seq ?_
  refine wc_region ?_
  refine wl_ef rfl (ef_q rfl rfl (qt_load_ag (l := bc sd) tbok rfl rfl rfl hsl (rs_lk .here at0)) ?_)
  refine wl_ef rfl (ef_q rfl rfl (qt_pure tbok rfl (by first | exact trivial | omega | exact ⟨by decide, by decide⟩ | (refine ⟨?_, ?_⟩ <;> omega) | (refine ⟨?_, ?_, ?_⟩ <;> omega))) ?_)
  refine wl_ef rfl (ef_fresh2 (by kernel_rfl) rfl rfl (fun w1 h1 => new_c hs h6) (fun ⟨kr, y⟩ hy hkD hkK => ?_))
  dsimp only at hy hkD hkK
  dsimp only
  refine wl_ef rfl (ef_q rfl rfl (qt_pure tbok rfl (by first | exact trivial | omega | exact ⟨by decide, by decide⟩ | (refine ⟨?_, ?_⟩ <;> omega) | (refine ⟨?_, ?_, ?_⟩ <;> omega))) ?_)
  refine wl_ef rfl (ef_q rfl rfl (qt_pure tbok rfl (by first | exact trivial | omega | exact ⟨by decide, by decide⟩ | (refine ⟨?_, ?_⟩ <;> omega) | (refine ⟨?_, ?_, ?_⟩ <;> omega))) ?_)
  refine wl_ef rfl (ef_q rfl rfl (qt_pure tbok rfl (by first | exact trivial | omega | exact ⟨by decide, by decide⟩ | (refine ⟨?_, ?_⟩ <;> omega) | (refine ⟨?_, ?_, ?_⟩ <;> omega))) ?_)
  refine wl_ef rfl (ef_q rfl rfl (qt_pure tbok rfl (by first | exact trivial | omega | exact ⟨by decide, by decide⟩ | (refine ⟨?_, ?_⟩ <;> omega) | (refine ⟨?_, ?_, ?_⟩ <;> omega))) ?_)
  refine wl_ef rfl (ef_q rfl rfl (qt_pure tbok rfl (by first | exact trivial | omega | exact ⟨by decide, by decide⟩ | (refine ⟨?_, ?_⟩ <;> omega) | (refine ⟨?_, ?_, ?_⟩ <;> omega))) ?_)
  refine wl_done ?_
  refine nk_code ?_
  refine wc_seq ?_
  refine wc_seq ?_
  refine wc_region ?_
  refine wl_ef rfl (ef_q rfl rfl (qt_pure tbok rfl (by first | exact trivial | omega | exact ⟨by decide, by decide⟩ | (refine ⟨?_, ?_⟩ <;> omega) | (refine ⟨?_, ?_, ?_⟩ <;> omega))) ?_)
  first | refine wl_ef rfl (ef_q rfl rfl (qt_pure tbok rfl (by first | exact trivial | omega | exact ⟨by decide, by decide⟩ | (refine ⟨?_, ?_⟩ <;> omega) | (refine ⟨?_, ?_, ?_⟩ <;> omega))) ?_) | refine wl_ef rfl (ef_q rfl rfl (qt_neqn tbok rfl rfl rfl) ?_)
  refine wl_ef rfl (ef_q rfl rfl (qt_pure tbok rfl (by first | exact trivial | omega | exact ⟨by decide, by decide⟩ | (refine ⟨?_, ?_⟩ <;> omega) | (refine ⟨?_, ?_, ?_⟩ <;> omega))) ?_)
  first | refine wl_gd rfl rfl (ef_q rfl rfl (qt_pure tbok rfl (by first | exact trivial | omega | exact ⟨by decide, by decide⟩ | (refine ⟨?_, ?_⟩ <;> omega) | (refine ⟨?_, ?_, ?_⟩ <;> omega))) ?_) | refine wl_skip rfl rfl rfl rfl rfl ?_
  first | refine wl_gd rfl rfl (ef_q rfl rfl (qt_pure tbok rfl (by first | exact trivial | omega | exact ⟨by decide, by decide⟩ | (refine ⟨?_, ?_⟩ <;> omega) | (refine ⟨?_, ?_, ?_⟩ <;> omega))) ?_) | refine wl_gd rfl rfl (ef_q rfl rfl (qt_eqn tbok rfl rfl rfl) ?_) | refine wl_skip rfl rfl rfl rfl rfl ?_
  refine wl_ef rfl (ef_q rfl rfl (qt_pure tbok rfl (by first | exact trivial | omega | exact ⟨by decide, by decide⟩ | (refine ⟨?_, ?_⟩ <;> omega) | (refine ⟨?_, ?_, ?_⟩ <;> omega))) ?_)
  refine wl_done ?_
  refine nk_code ?_
  refine wc_no rfl ?_
  refine wc_skip ?_
  refine nk_code ?_
  refine wc_seq ?_
  refine wc_region ?_
  refine wl_ef rfl (ef_q rfl rfl (qt_load_ag (l := bc sd) tbok rfl rfl rfl hsl (rs_lk (.there (.there .here)) at0)) ?_)
  refine wl_ef rfl (ef_q rfl rfl (qt_pure tbok rfl (by first | exact trivial | omega | exact ⟨by decide, by decide⟩ | (refine ⟨?_, ?_⟩ <;> omega) | (refine ⟨?_, ?_, ?_⟩ <;> omega))) ?_)
  refine wl_ef rfl (ef_fresh (by kernel_rfl) rfl rfl (fun w1 h1 => leaves_c hs h6) (fun x9 hx9 hk9 => ?_))
  refine wl_ef rfl (ef_q rfl rfl (qt_pure tbok rfl (by first | exact trivial | omega | exact ⟨by decide, by decide⟩ | (refine ⟨?_, ?_⟩ <;> omega) | (refine ⟨?_, ?_, ?_⟩ <;> omega))) ?_)
  refine wl_done ?_
  refine nk_code ?_
  refine wc_seq ?_
  refine wc_region ?_
  refine wl_ef rfl (ef_q rfl rfl (qt_pure tbok rfl (by first | exact trivial | omega | exact ⟨by decide, by decide⟩ | (refine ⟨?_, ?_⟩ <;> omega) | (refine ⟨?_, ?_, ?_⟩ <;> omega))) ?_)
  refine wl_ef rfl (ef_pure (v := .agg (.i64 (hh : Int) :: bc (rootT hh (lvs sd (pw hh))))) (by kernel_rfl) rfl rfl (fun w1 h1 => public_c (h := hh) (nx := 0) hs h6 (cells_own h1 (.there (.there .here))) (lvs_A _ _) (lvs_len _ _) (OwnS.le hy) (cells_own h1 (.there .here))) ?_)
  refine wl_ef rfl (ef_alloc zero32 rfl rfl (fun t10 ht10 => ?_))
  refine wl_ef rfl (ef_store (cs' := .i64 (hh : Int) :: bc (rootT hh (lvs sd (pw hh)))) tbok rfl rfl rfl rfl .here (by show (C.i64 (hh : Int) :: bc (rootT hh (lvs sd (pw hh)))).length = 33; rw [List.length_cons, hrb]) (Nat.le_of_ble_eq_true rfl) (spl_all (by show (C.i64 (hh : Int) :: bc (rootT hh (lvs sd (pw hh)))).length = _; rw [List.length_cons, hrb]; rfl)) ?_)
  refine wl_done ?_
  refine nk_code ?_
  refine wc_seq ?_
  refine wc_region ?_
  refine wl_ef rfl (ef_q rfl rfl (qt_pure tbok rfl (by first | exact trivial | omega | exact ⟨by decide, by decide⟩ | (refine ⟨?_, ?_⟩ <;> omega) | (refine ⟨?_, ?_, ?_⟩ <;> omega))) ?_)
  first | refine wl_ef rfl (ef_q rfl rfl (qt_load tbok rfl rfl rfl (rc_lk .here rfl)) ?_) | refine wl_ef rfl (ef_q rfl rfl (qt_load tbok rfl rfl rfl (rc_lk (.there .here) rfl)) ?_) | refine wl_ef rfl (ef_q rfl rfl (qt_load tbok rfl rfl rfl (rc_lk (.there (.there .here)) rfl)) ?_) | refine wl_ef rfl (ef_q rfl rfl (qt_load tbok rfl rfl rfl (by assumption)) ?_) | refine wl_ef rfl (ef_q rfl rfl (qt_load_ag tbok rfl rfl rfl (by first | rfl | assumption) (by assumption)) ?_)
  refine wl_ef rfl (ef_q rfl rfl (qt_pure tbok rfl (by first | exact trivial | omega | exact ⟨by decide, by decide⟩ | (refine ⟨?_, ?_⟩ <;> omega) | (refine ⟨?_, ?_, ?_⟩ <;> omega))) ?_)
  refine wl_ef rfl (ef_q rfl rfl (qt_load_ag (l := bc (rootT hh (lvs sd (pw hh)))) tbok rfl rfl rfl hrb (rs_lk .here (fun j c hj => by show (C.i64 (hh : Int) :: bc (rootT hh (lvs sd (pw hh))))[1 + j]? = some c; rw [Nat.add_comm]; exact hj))) ?_)
  refine wl_ef rfl (ef_q rfl rfl (qt_build (vs := [(0, .c (.i64 (hh : Int))), (1, .agg (bc (rootT hh (lvs sd (pw hh)))))]) (l := .i64 (hh : Int) :: bc (rootT hh (lvs sd (pw hh)))) tbok rfl zero24 rfl (pfill hrb)) ?_)
  refine wl_ef rfl (ef_alloc zero24 rfl rfl (fun t11 ht11 => ?_))
  refine wl_ef rfl (ef_store (cs' := .i64 (hh : Int) :: bc (rootT hh (lvs sd (pw hh)))) tbok rfl rfl rfl rfl .here (by show (C.i64 (hh : Int) :: bc (rootT hh (lvs sd (pw hh)))).length = 33; rw [List.length_cons, hrb]) (Nat.le_of_ble_eq_true rfl) (spl_all (by show (C.i64 (hh : Int) :: bc (rootT hh (lvs sd (pw hh)))).length = _; rw [List.length_cons, hrb]; rfl)) ?_)
  refine wl_done ?_
  refine nk_code ?_
  refine wc_seq ?_
  refine wc_region ?_
  refine wl_ef rfl (ef_q rfl rfl (qt_pure tbok rfl (by first | exact trivial | omega | exact ⟨by decide, by decide⟩ | (refine ⟨?_, ?_⟩ <;> omega) | (refine ⟨?_, ?_, ?_⟩ <;> omega))) ?_)
  refine wl_done ?_
  refine nk_code ?_
  refine wc_seq ?_
  refine wc_seq ?_
  refine wc_region ?_
  refine wl_ef rfl (ef_q rfl rfl (qt_pure tbok rfl (by first | exact trivial | omega | exact ⟨by decide, by decide⟩ | (refine ⟨?_, ?_⟩ <;> omega) | (refine ⟨?_, ?_, ?_⟩ <;> omega))) ?_)
  refine wl_ef rfl (ef_q rfl rfl (qt_len tbok rfl rfl) ?_)
  refine wl_ef rfl (ef_q rfl rfl (qt_pure tbok rfl (by first | exact trivial | omega | exact ⟨by decide, by decide⟩ | (refine ⟨?_, ?_⟩ <;> omega) | (refine ⟨?_, ?_, ?_⟩ <;> omega))) ?_)
  refine wl_done ?_
  refine nk_code ?_
  refine wc_block ?_
  refine wc_loop (ι := Nat × Nat) (fun j => j.1 ≤ A.length ∧ j.2 ≤ pw hh ∧ (0 < j.1 → j.1 ≤ 8)) (fun j => [(48, .c (.i64 (j.1 : Int))), (47, .c (.i64 (A.length : Int))), (46, .c (.slc pa A.length pc)), (7, .c (.ptr (.at kr 0))), (9, .c (.slc x9.1 (pw hh) x9.2.1)), (10, .c (.ptr (.at t10 0))), (11, .c (.ptr (.at t11 0))), (12, .c (.i64 (j.2 : Int))), (1, .c (.i64 (hh : Int))), (3, .c (.ptr (.at b 0)))]) (fun j => [⟨.at t11 0, .i64 (hh : Int) :: bc (rootT hh (lvs sd (pw hh))), 24, (0, 0), []⟩, ⟨.at t10 0, .i64 (hh : Int) :: bc (rootT hh (lvs sd (pw hh))), 32, (0, 0), []⟩, dob 22 (lvs sd (pw hh)) x9, dob 30 (lvs sd (pw hh)) y, kb kr sd hh y (pw hh) (j.2), ⟨.at b 0, bc sd, 22, (0, 0), []⟩]) (fun j => A.length - j.1) (0, 0) ⟨Nat.zero_le _, Nat.zero_le _, fun h => absurd h (by decide)⟩ (nk_start ⟨rfl, rfl, rfl, rfl, rfl, rfl, rfl, rfl, rfl, rfl, trivial⟩ (fun w hw => hw)) (fun ⟨i, nx⟩ ⟨hi, hnx, h8⟩ => ?_)
  replace hi : i ≤ A.length := hi
  replace hnx : nx ≤ pw hh := hnx
  replace h8 : 0 < i → i ≤ 8 := h8
  have hg := kcs_get hs hh y (pw hh) nx
  dsimp only
  refine wc_seq ?_
  refine wc_region ?_
  refine wl_ef rfl (ef_q rfl rfl (qt_pure tbok rfl (by first | exact trivial | omega | exact ⟨by decide, by decide⟩ | (refine ⟨?_, ?_⟩ <;> omega) | (refine ⟨?_, ?_, ?_⟩ <;> omega))) ?_)
  refine wl_done ?_
  refine nk_code ?_
  refine wc_seq ?_
  refine wc_cond rfl (fun h49 => ?_) (fun h49 => ?_)
  · have hi' : i < A.length := (by have h0 := of_decide_eq_true h49; omega)
    obtain ⟨hmc, hml, hmb⟩ := hmsg _ (act_mem hi')
    obtain ⟨pr, po, hpa⟩ := cells_nn hA (by rw [rows2_len]; omega)
    subst hpa
    refine wc_skip ?_
    refine nk_code ?_
    refine wc_seq ?_
    refine wc_block ?_
    refine wc_seq ?_
    refine wc_region ?_
    refine wl_ef rfl (ef_q rfl rfl (qt_pure tbok rfl (by first | exact trivial | omega | exact ⟨by decide, by decide⟩ | (refine ⟨?_, ?_⟩ <;> omega) | (refine ⟨?_, ?_, ?_⟩ <;> omega))) ?_)
    refine wl_ef rfl (ef_q rfl rfl (qt_pure tbok rfl (by first | exact trivial | omega | exact ⟨by decide, by decide⟩ | (refine ⟨?_, ?_⟩ <;> omega) | (refine ⟨?_, ?_, ?_⟩ <;> omega))) ?_)
    refine wl_ef rfl (ef_q rfl rfl (qt_load_ag (l := [C.i64 (actAt A i).skip, .slc (actAt A i).ad (actAt A i).msg.length (actAt A i).cap]) tbok rfl rfl rfl rfl (rs_cells (hA.sub2 (m := i * 2) (rows2 hi')) (off_new (newKey ht11) (off_new (newKey ht10) (off_new hk9 (off_new hkD (off_new (newKey (hkK _ rfl)) (off_new (newKey hb) off_nil)))))))) ?_)
    refine wl_ef rfl (ef_alloc zero53 rfl rfl (fun t14 h14 => ?_))
    refine wl_ef rfl (ef_q rfl rfl (qt_pure tbok rfl (by first | exact trivial | omega | exact ⟨by decide, by decide⟩ | (refine ⟨?_, ?_⟩ <;> omega) | (refine ⟨?_, ?_, ?_⟩ <;> omega))) ?_)
    refine wl_ef rfl (ef_store (cs' := [C.i64 (actAt A i).skip, .slc (actAt A i).ad (actAt A i).msg.length (actAt A i).cap]) tbok rfl rfl rfl rfl .here rfl (Nat.le_of_ble_eq_true rfl) (spl_all rfl) ?_)
    refine wl_done ?_
    refine nk_code ?_
    refine wc_seq ?_
    refine wc_seq ?_
    by_cases h8' : 8 ≤ i
    · refine wc_quiet follows (by kernel_rfl) ?_
      refine wq_q rfl rfl rfl (qt_pure tbok rfl (by first | exact trivial | omega | exact ⟨by decide, by decide⟩ | (refine ⟨?_, ?_⟩ <;> omega) | (refine ⟨?_, ?_, ?_⟩ <;> omega))) ?_
      refine wq_q rfl rfl rfl (qt_pure tbok rfl (by first | exact trivial | omega | exact ⟨by decide, by decide⟩ | (refine ⟨?_, ?_⟩ <;> omega) | (refine ⟨?_, ?_, ?_⟩ <;> omega))) ?_
      refine wq_as (v' := .c (.bool true)) (congrArg (fun b => V.c (C.bool b)) (decide_eq_true (by omega))) ?_
      refine wq_q rfl rfl rfl (qt_pure tbok rfl (by first | exact trivial | omega | exact ⟨by decide, by decide⟩ | (refine ⟨?_, ?_⟩ <;> omega) | (refine ⟨?_, ?_, ?_⟩ <;> omega))) ?_
      first | refine wq_gd rfl rfl rfl rfl (qt_pure tbok rfl (by first | exact trivial | omega | exact ⟨by decide, by decide⟩ | (refine ⟨?_, ?_⟩ <;> omega) | (refine ⟨?_, ?_, ?_⟩ <;> omega))) ?_ | refine wq_skip rfl rfl rfl rfl rfl ?_
      refine wq_skip rfl rfl rfl rfl rfl ?_
      first | refine wq_gd rfl rfl rfl rfl (qt_pure tbok rfl (by first | exact trivial | omega | exact ⟨by decide, by decide⟩ | (refine ⟨?_, ?_⟩ <;> omega) | (refine ⟨?_, ?_, ?_⟩ <;> omega))) ?_ | refine wq_skip rfl rfl rfl rfl rfl ?_
      refine wq_skip rfl rfl rfl rfl rfl ?_
      first | refine wq_gd rfl rfl rfl rfl (qt_pure tbok rfl (by first | exact trivial | omega | exact ⟨by decide, by decide⟩ | (refine ⟨?_, ?_⟩ <;> omega) | (refine ⟨?_, ?_, ?_⟩ <;> omega))) ?_ | refine wq_skip rfl rfl rfl rfl rfl ?_
      first | refine wq_gd rfl rfl rfl rfl (qt_pure tbok rfl (by first | exact trivial | omega | exact ⟨by decide, by decide⟩ | (refine ⟨?_, ?_⟩ <;> omega) | (refine ⟨?_, ?_, ?_⟩ <;> omega))) ?_ | refine wq_skip rfl rfl rfl rfl rfl ?_
      first | refine wq_gd rfl rfl rfl rfl (qt_pure tbok rfl (by first | exact trivial | omega | exact ⟨by decide, by decide⟩ | (refine ⟨?_, ?_⟩ <;> omega) | (refine ⟨?_, ?_, ?_⟩ <;> omega))) ?_ | refine wq_gd rfl rfl rfl rfl (qt_neqn tbok rfl rfl rfl) ?_ | refine wq_skip rfl rfl rfl rfl rfl ?_
      refine wq_q rfl rfl rfl (qt_pure tbok rfl (by first | exact trivial | omega | exact ⟨by decide, by decide⟩ | (refine ⟨?_, ?_⟩ <;> omega) | (refine ⟨?_, ?_, ?_⟩ <;> omega))) ?_
      refine wq_done ?_
      refine wl_done ?_
      refine nk_code ?_
      refine wc_yes rfl ?_
      refine wc_seq ?_
      refine wc_region ?_
      refine wl_ef rfl (ef_q rfl rfl (qt_pure tbok rfl (by first | exact trivial | omega | exact ⟨by decide, by decide⟩ | (refine ⟨?_, ?_⟩ <;> omega) | (refine ⟨?_, ?_, ?_⟩ <;> omega))) ?_)
      refine wl_ef rfl (ef_q rfl rfl (qt_pure tbok rfl (by first | exact trivial | omega | exact ⟨by decide, by decide⟩ | (refine ⟨?_, ?_⟩ <;> omega) | (refine ⟨?_, ?_, ?_⟩ <;> omega))) ?_)
      refine wl_as (v' := .c (.bool true)) (congrArg (fun b => V.c (C.bool b)) (decide_eq_true (by omega))) ?_
      refine wl_ef rfl (ef_q rfl rfl (qt_pure tbok rfl (by first | exact trivial | omega | exact ⟨by decide, by decide⟩ | (refine ⟨?_, ?_⟩ <;> omega) | (refine ⟨?_, ?_, ?_⟩ <;> omega))) ?_)
      refine wl_done ?_
      refine nk_code ?_
      refine wc_ret ?_
      try dsimp only
      exact fin1 rfl (rv_tmp rfl) (fun w' hw => ⟨rfl, hw.all (new_cons (newKey h14) (new_cons (newKey ht11) (new_cons (newKey ht10) (new_cons hk9 (new_cons hkD (new_cons (newKey (hkK _ rfl)) (new_cons (newKey hb) new_nil)))))))⟩)
    · refine wc_quiet follows (by kernel_rfl) ?_
      refine wq_q rfl rfl rfl (qt_pure tbok rfl (by first | exact trivial | omega | exact ⟨by decide, by decide⟩ | (refine ⟨?_, ?_⟩ <;> omega) | (refine ⟨?_, ?_, ?_⟩ <;> omega))) ?_
      refine wq_q rfl rfl rfl (qt_pure tbok rfl (by first | exact trivial | omega | exact ⟨by decide, by decide⟩ | (refine ⟨?_, ?_⟩ <;> omega) | (refine ⟨?_, ?_, ?_⟩ <;> omega))) ?_
      refine wq_as (v' := .c (.bool false)) (congrArg (fun b => V.c (C.bool b)) (decide_eq_false (by omega))) ?_
      refine wq_q rfl rfl rfl (qt_pure tbok rfl (by first | exact trivial | omega | exact ⟨by decide, by decide⟩ | (refine ⟨?_, ?_⟩ <;> omega) | (refine ⟨?_, ?_, ?_⟩ <;> omega))) ?_
      first | refine wq_gd rfl rfl rfl rfl (qt_pure tbok rfl (by first | exact trivial | omega | exact ⟨by decide, by decide⟩ | (refine ⟨?_, ?_⟩ <;> omega) | (refine ⟨?_, ?_, ?_⟩ <;> omega))) ?_ | refine wq_skip rfl rfl rfl rfl rfl ?_
      refine wq_callg (.c (.i64 ((pw hh - nx : Nat) : Int))) rfl (by kernel_rfl) rfl rfl (fun w1 h1 => left_c hs (by omega) hnx (cells_own h1 (.there (.there (.there (.there (.there .here))))))) ?_
      first | refine wq_gd rfl rfl rfl rfl (qt_pure tbok rfl (by first | exact trivial | omega | exact ⟨by decide, by decide⟩ | (refine ⟨?_, ?_⟩ <;> omega) | (refine ⟨?_, ?_, ?_⟩ <;> omega))) ?_ | refine wq_skip rfl rfl rfl rfl rfl ?_
      refine wq_gd rfl rfl rfl rfl (qt_pure tbok rfl (by rw [Int.toNat_natCast, Int.one_mul, hq]; refine And.intro ?_ (And.intro ?_ (And.intro ?_ ?_)) <;> omega)) ?_
      refine wq_as (v' := .c (.i64 (pw hh : Int))) (congrArg (fun z => V.c (C.i64 z)) (by rw [Int.toNat_natCast, Int.one_mul, hq])) ?_
      first | refine wq_gd rfl rfl rfl rfl (qt_pure tbok rfl (by first | exact trivial | omega | exact ⟨by decide, by decide⟩ | (refine ⟨?_, ?_⟩ <;> omega) | (refine ⟨?_, ?_, ?_⟩ <;> omega))) ?_ | refine wq_skip rfl rfl rfl rfl rfl ?_
      first | refine wq_gd rfl rfl rfl rfl (qt_pure tbok rfl (by first | exact trivial | omega | exact ⟨by decide, by decide⟩ | (refine ⟨?_, ?_⟩ <;> omega) | (refine ⟨?_, ?_, ?_⟩ <;> omega))) ?_ | refine wq_skip rfl rfl rfl rfl rfl ?_
      first | refine wq_gd rfl rfl rfl rfl (qt_pure tbok rfl (by first | exact trivial | omega | exact ⟨by decide, by decide⟩ | (refine ⟨?_, ?_⟩ <;> omega) | (refine ⟨?_, ?_, ?_⟩ <;> omega))) ?_ | refine wq_gd rfl rfl rfl rfl (qt_neqn tbok rfl rfl rfl) ?_ | refine wq_skip rfl rfl rfl rfl rfl ?_
      refine wq_as (v' := .c (.bool false)) (congrArg (fun b => V.c (C.bool (!b))) (decide_eq_true (by omega))) ?_
      refine wq_q rfl rfl rfl (qt_pure tbok rfl (by first | exact trivial | omega | exact ⟨by decide, by decide⟩ | (refine ⟨?_, ?_⟩ <;> omega) | (refine ⟨?_, ?_, ?_⟩ <;> omega))) ?_
      refine wq_done ?_
      refine wl_done ?_
      refine nk_code ?_
      refine wc_no rfl ?_
      refine wc_skip ?_
      refine nk_code ?_
      refine wc_seq ?_
      refine wc_seq ?_
      refine wc_region ?_
      refine wl_ef rfl (ef_q rfl rfl (qt_pure tbok rfl (by first | exact trivial | omega | exact ⟨by decide, by decide⟩ | (refine ⟨?_, ?_⟩ <;> omega) | (refine ⟨?_, ?_, ?_⟩ <;> omega))) ?_)
      first | refine wl_ef rfl (ef_q rfl rfl (qt_load tbok rfl rfl rfl (rc_lk .here rfl)) ?_) | refine wl_ef rfl (ef_q rfl rfl (qt_load tbok rfl rfl rfl (rc_lk (.there .here) rfl)) ?_) | refine wl_ef rfl (ef_q rfl rfl (qt_load tbok rfl rfl rfl (rc_lk (.there (.there .here)) rfl)) ?_) | refine wl_ef rfl (ef_q rfl rfl (qt_load tbok rfl rfl rfl (by assumption)) ?_) | refine wl_ef rfl (ef_q rfl rfl (qt_load_ag tbok rfl rfl rfl (by first | rfl | assumption) (by assumption)) ?_)
      first | refine wl_ef rfl (ef_q rfl rfl (qt_pure tbok rfl (by first | exact trivial | omega | exact ⟨by decide, by decide⟩ | (refine ⟨?_, ?_⟩ <;> omega) | (refine ⟨?_, ?_, ?_⟩ <;> omega))) ?_) | refine wl_ef rfl (ef_q rfl rfl (qt_neqn tbok rfl rfl rfl) ?_)
      refine wl_done ?_
      refine nk_code ?_
      refine wc_cond rfl (fun h68 => ?_) (fun h68 => ?_)
      · have hsk : (actAt A i).skip ≠ 0 := (fun e => by rw [e] at h68; cases h68)
        refine wc_seq ?_
        by_cases hbad : (actAt A i).skip < 0 ∨ (pw hh : Int) - (nx : Int) < (actAt A i).skip
        · refine wc_region ?_
          refine wl_ef rfl (ef_q rfl rfl (qt_pure tbok rfl (by first | exact trivial | omega | exact ⟨by decide, by decide⟩ | (refine ⟨?_, ?_⟩ <;> omega) | (refine ⟨?_, ?_, ?_⟩ <;> omega))) ?_)
          refine wl_ef rfl (ef_q rfl rfl (qt_pure tbok rfl (by first | exact trivial | omega | exact ⟨by decide, by decide⟩ | (refine ⟨?_, ?_⟩ <;> omega) | (refine ⟨?_, ?_, ?_⟩ <;> omega))) ?_)
          first | refine wl_ef rfl (ef_q rfl rfl (qt_load tbok rfl rfl rfl (rc_lk .here rfl)) ?_) | refine wl_ef rfl (ef_q rfl rfl (qt_load tbok rfl rfl rfl (rc_lk (.there .here) rfl)) ?_) | refine wl_ef rfl (ef_q rfl rfl (qt_load tbok rfl rfl rfl (rc_lk (.there (.there .here)) rfl)) ?_) | refine wl_ef rfl (ef_q rfl rfl (qt_load tbok rfl rfl rfl (by assumption)) ?_) | refine wl_ef rfl (ef_q rfl rfl (qt_load_ag tbok rfl rfl rfl (by first | rfl | assumption) (by assumption)) ?_)
          refine wl_ef rfl (ef_pure (v := .c (.i64 1)) (by kernel_rfl) rfl rfl (fun w1 h1 => skipbad_c hs (by omega) hnx hbad (cells_own h1 (.there (.there (.there (.there (.there .here))))))) ?_)
          refine wl_ef rfl (ef_q rfl rfl (qt_pure tbok rfl (by first | exact trivial | omega | exact ⟨by decide, by decide⟩ | (refine ⟨?_, ?_⟩ <;> omega) | (refine ⟨?_, ?_, ?_⟩ <;> omega))) ?_)
          refine wl_done ?_
          refine nk_code ?_
          refine wc_seq ?_
          refine wc_seq ?_
          refine wc_quiet follows (by kernel_rfl) ?_
          refine wq_q rfl rfl rfl (qt_pure tbok rfl (by first | exact trivial | omega | exact ⟨by decide, by decide⟩ | (refine ⟨?_, ?_⟩ <;> omega) | (refine ⟨?_, ?_, ?_⟩ <;> omega))) ?_
          first | refine wq_q rfl rfl rfl (qt_load tbok rfl rfl rfl (rc_lk .here rfl)) ?_ | refine wq_q rfl rfl rfl (qt_load tbok rfl rfl rfl (rc_lk (.there .here) rfl)) ?_ | refine wq_q rfl rfl rfl (qt_load tbok rfl rfl rfl (rc_lk (.there (.there .here)) rfl)) ?_ | refine wq_q rfl rfl rfl (qt_load tbok rfl rfl rfl (by assumption)) ?_ | refine wq_q rfl rfl rfl (qt_load_ag tbok rfl rfl rfl (by first | rfl | assumption) (by assumption)) ?_
          refine wq_q rfl rfl rfl (qt_pure tbok rfl (by first | exact trivial | omega | exact ⟨by decide, by decide⟩ | (refine ⟨?_, ?_⟩ <;> omega) | (refine ⟨?_, ?_, ?_⟩ <;> omega))) ?_
          refine wq_bool (fun hneg => ?_) (fun hneg => ?_)
          · refine wq_q rfl rfl rfl (qt_pure tbok rfl (by first | exact trivial | omega | exact ⟨by decide, by decide⟩ | (refine ⟨?_, ?_⟩ <;> omega) | (refine ⟨?_, ?_, ?_⟩ <;> omega))) ?_
            first | refine wq_gd rfl rfl rfl rfl (qt_pure tbok rfl (by first | exact trivial | omega | exact ⟨by decide, by decide⟩ | (refine ⟨?_, ?_⟩ <;> omega) | (refine ⟨?_, ?_, ?_⟩ <;> omega))) ?_ | refine wq_skip rfl rfl rfl rfl rfl ?_
            first | refine wq_gd rfl rfl rfl rfl (qt_load tbok rfl rfl rfl (rc_lk .here rfl)) ?_ | refine wq_gd rfl rfl rfl rfl (qt_load tbok rfl rfl rfl (rc_lk (.there .here) rfl)) ?_ | refine wq_gd rfl rfl rfl rfl (qt_load tbok rfl rfl rfl (rc_lk (.there (.there .here)) rfl)) ?_ | refine wq_gd rfl rfl rfl rfl (qt_load tbok rfl rfl rfl (by assumption)) ?_ | refine wq_gd rfl rfl rfl rfl (qt_load_ag tbok rfl rfl rfl (by first | rfl | assumption) (by assumption)) ?_ | refine wq_skip rfl rfl rfl rfl rfl ?_
            first | refine wq_gd rfl rfl rfl rfl (qt_pure tbok rfl (by first | exact trivial | omega | exact ⟨by decide, by decide⟩ | (refine ⟨?_, ?_⟩ <;> omega) | (refine ⟨?_, ?_, ?_⟩ <;> omega))) ?_ | refine wq_skip rfl rfl rfl rfl rfl ?_
            refine wq_skip rfl rfl rfl rfl rfl ?_
            first | refine wq_gd rfl rfl rfl rfl (qt_pure tbok rfl (by first | exact trivial | omega | exact ⟨by decide, by decide⟩ | (refine ⟨?_, ?_⟩ <;> omega) | (refine ⟨?_, ?_, ?_⟩ <;> omega))) ?_ | refine wq_skip rfl rfl rfl rfl rfl ?_
            first | refine wq_gd rfl rfl rfl rfl (qt_pure tbok rfl (by first | exact trivial | omega | exact ⟨by decide, by decide⟩ | (refine ⟨?_, ?_⟩ <;> omega) | (refine ⟨?_, ?_, ?_⟩ <;> omega))) ?_ | refine wq_skip rfl rfl rfl rfl rfl ?_
            refine wq_skip rfl rfl rfl rfl rfl ?_
            refine wq_q rfl rfl rfl (qt_pure tbok rfl (by first | exact trivial | omega | exact ⟨by decide, by decide⟩ | (refine ⟨?_, ?_⟩ <;> omega) | (refine ⟨?_, ?_, ?_⟩ <;> omega))) ?_
            refine wq_done ?_
            refine wl_done ?_
            refine nk_code ?_
            refine wc_yes rfl ?_
            refine wc_seq ?_
            refine wc_seq ?_
            refine wc_region ?_
            refine wl_ef rfl (ef_q rfl rfl (qt_pure tbok rfl (by first | exact trivial | omega | exact ⟨by decide, by decide⟩ | (refine ⟨?_, ?_⟩ <;> omega) | (refine ⟨?_, ?_, ?_⟩ <;> omega))) ?_)
            first | refine wl_ef rfl (ef_q rfl rfl (qt_pure tbok rfl (by first | exact trivial | omega | exact ⟨by decide, by decide⟩ | (refine ⟨?_, ?_⟩ <;> omega) | (refine ⟨?_, ?_, ?_⟩ <;> omega))) ?_) | refine wl_ef rfl (ef_q rfl rfl (qt_neqn tbok rfl rfl rfl) ?_)
            refine wl_done ?_
            refine nk_code ?_
            refine wc_no rfl ?_
            refine wc_skip ?_
            refine nk_code ?_
            refine wc_exit rfl ?_
            refine nk_code ?_
            refine wc_region ?_
            refine wl_ef rfl (ef_q rfl rfl (qt_pure tbok rfl (by first | exact trivial | omega | exact ⟨by decide, by decide⟩ | (refine ⟨?_, ?_⟩ <;> omega) | (refine ⟨?_, ?_, ?_⟩ <;> omega))) ?_)
            refine wl_ef rfl (ef_q rfl rfl (qt_pure tbok rfl (by first | exact trivial | omega | exact ⟨by decide, by decide⟩ | (refine ⟨?_, ?_⟩ <;> omega) | (refine ⟨?_, ?_, ?_⟩ <;> omega))) ?_)
            refine wl_done ?_
            exact nk_round (i := (i, nx)) (i + 1, nx) ⟨hi', hnx, by intro _; omega⟩ (by show A.length - (i + 1) < A.length - i; omega) ⟨rfl, rfl, rfl, rfl, rfl, rfl, rfl, rfl, rfl, rfl, trivial⟩ (fun w hw => hw.tail (newKey h14))
          · refine wq_q rfl rfl rfl (qt_pure tbok rfl (by first | exact trivial | omega | exact ⟨by decide, by decide⟩ | (refine ⟨?_, ?_⟩ <;> omega) | (refine ⟨?_, ?_, ?_⟩ <;> omega))) ?_
            first | refine wq_gd rfl rfl rfl rfl (qt_pure tbok rfl (by first | exact trivial | omega | exact ⟨by decide, by decide⟩ | (refine ⟨?_, ?_⟩ <;> omega) | (refine ⟨?_, ?_, ?_⟩ <;> omega))) ?_ | refine wq_skip rfl rfl rfl rfl rfl ?_
            first | refine wq_gd rfl rfl rfl rfl (qt_load tbok rfl rfl rfl (rc_lk .here rfl)) ?_ | refine wq_gd rfl rfl rfl rfl (qt_load tbok rfl rfl rfl (rc_lk (.there .here) rfl)) ?_ | refine wq_gd rfl rfl rfl rfl (qt_load tbok rfl rfl rfl (rc_lk (.there (.there .here)) rfl)) ?_ | refine wq_gd rfl rfl rfl rfl (qt_load tbok rfl rfl rfl (by assumption)) ?_ | refine wq_gd rfl rfl rfl rfl (qt_load_ag tbok rfl rfl rfl (by first | rfl | assumption) (by assumption)) ?_ | refine wq_skip rfl rfl rfl rfl rfl ?_
            first | refine wq_gd rfl rfl rfl rfl (qt_pure tbok rfl (by first | exact trivial | omega | exact ⟨by decide, by decide⟩ | (refine ⟨?_, ?_⟩ <;> omega) | (refine ⟨?_, ?_, ?_⟩ <;> omega))) ?_ | refine wq_skip rfl rfl rfl rfl rfl ?_
            refine wq_gd rfl rfl rfl rfl (qt_pure tbok rfl (by rw [Int.toNat_natCast, Int.one_mul, hq]; refine And.intro ?_ (And.intro ?_ (And.intro ?_ ?_)) <;> omega)) ?_
            refine wq_as (v' := .c (.i64 (pw hh : Int))) (congrArg (fun z => V.c (C.i64 z)) (by rw [Int.toNat_natCast, Int.one_mul, hq])) ?_
            first | refine wq_gd rfl rfl rfl rfl (qt_pure tbok rfl (by first | exact trivial | omega | exact ⟨by decide, by decide⟩ | (refine ⟨?_, ?_⟩ <;> omega) | (refine ⟨?_, ?_, ?_⟩ <;> omega))) ?_ | refine wq_skip rfl rfl rfl rfl rfl ?_
            first | refine wq_gd rfl rfl rfl rfl (qt_pure tbok rfl (by first | exact trivial | omega | exact ⟨by decide, by decide⟩ | (refine ⟨?_, ?_⟩ <;> omega) | (refine ⟨?_, ?_, ?_⟩ <;> omega))) ?_ | refine wq_skip rfl rfl rfl rfl rfl ?_
            first | refine wq_gd rfl rfl rfl rfl (qt_pure tbok rfl (by first | exact trivial | omega | exact ⟨by decide, by decide⟩ | (refine ⟨?_, ?_⟩ <;> omega) | (refine ⟨?_, ?_, ?_⟩ <;> omega))) ?_ | refine wq_skip rfl rfl rfl rfl rfl ?_
            refine wq_as (v' := .c (.bool true)) (congrArg (fun b => V.c (C.bool b)) (decide_eq_true (by have h0 := of_decide_eq_false hneg; omega))) ?_
            refine wq_q rfl rfl rfl (qt_pure tbok rfl (by first | exact trivial | omega | exact ⟨by decide, by decide⟩ | (refine ⟨?_, ?_⟩ <;> omega) | (refine ⟨?_, ?_, ?_⟩ <;> omega))) ?_
            refine wq_done ?_
            refine wl_done ?_
            refine nk_code ?_
            refine wc_yes rfl ?_
            refine wc_seq ?_
            refine wc_seq ?_
            refine wc_region ?_
            refine wl_ef rfl (ef_q rfl rfl (qt_pure tbok rfl (by first | exact trivial | omega | exact ⟨by decide, by decide⟩ | (refine ⟨?_, ?_⟩ <;> omega) | (refine ⟨?_, ?_, ?_⟩ <;> omega))) ?_)
            first | refine wl_ef rfl (ef_q rfl rfl (qt_pure tbok rfl (by first | exact trivial | omega | exact ⟨by decide, by decide⟩ | (refine ⟨?_, ?_⟩ <;> omega) | (refine ⟨?_, ?_, ?_⟩ <;> omega))) ?_) | refine wl_ef rfl (ef_q rfl rfl (qt_neqn tbok rfl rfl rfl) ?_)
            refine wl_done ?_
            refine nk_code ?_
            refine wc_no rfl ?_
            refine wc_skip ?_
            refine nk_code ?_
            refine wc_exit rfl ?_
            refine nk_code ?_
            refine wc_region ?_
            refine wl_ef rfl (ef_q rfl rfl (qt_pure tbok rfl (by first | exact trivial | omega | exact ⟨by decide, by decide⟩ | (refine ⟨?_, ?_⟩ <;> omega) | (refine ⟨?_, ?_, ?_⟩ <;> omega))) ?_)
            refine wl_ef rfl (ef_q rfl rfl (qt_pure tbok rfl (by first | exact trivial | omega | exact ⟨by decide, by decide⟩ | (refine ⟨?_, ?_⟩ <;> omega) | (refine ⟨?_, ?_, ?_⟩ <;> omega))) ?_)
            refine wl_done ?_
            exact nk_round (i := (i, nx)) (i + 1, nx) ⟨hi', hnx, by intro _; omega⟩ (by show A.length - (i + 1) < A.length - i; omega) ⟨rfl, rfl, rfl, rfl, rfl, rfl, rfl, rfl, rfl, rfl, trivial⟩ (fun w hw => hw.tail (newKey h14))
        · refine wc_region ?_
          refine wl_ef rfl (ef_q rfl rfl (qt_pure tbok rfl (by first | exact trivial | omega | exact ⟨by decide, by decide⟩ | (refine ⟨?_, ?_⟩ <;> omega) | (refine ⟨?_, ?_, ?_⟩ <;> omega))) ?_)
          refine wl_ef rfl (ef_q rfl rfl (qt_pure tbok rfl (by first | exact trivial | omega | exact ⟨by decide, by decide⟩ | (refine ⟨?_, ?_⟩ <;> omega) | (refine ⟨?_, ?_, ?_⟩ <;> omega))) ?_)
          first | refine wl_ef rfl (ef_q rfl rfl (qt_load tbok rfl rfl rfl (rc_lk .here rfl)) ?_) | refine wl_ef rfl (ef_q rfl rfl (qt_load tbok rfl rfl rfl (rc_lk (.there .here) rfl)) ?_) | refine wl_ef rfl (ef_q rfl rfl (qt_load tbok rfl rfl rfl (rc_lk (.there (.there .here)) rfl)) ?_) | refine wl_ef rfl (ef_q rfl rfl (qt_load tbok rfl rfl rfl (by assumption)) ?_) | refine wl_ef rfl (ef_q rfl rfl (qt_load_ag tbok rfl rfl rfl (by first | rfl | assumption) (by assumption)) ?_)
          obtain ⟨n, hn⟩ := Int.eq_ofNat_of_zero_le (by omega : 0 ≤ (actAt A i).skip)
          have hnn : nx + n ≤ pw hh := (by omega)
          rw [hn]
          refine wl_ef rfl (ef_turn (by kernel_rfl) rfl rfl (b' := kb kr sd hh y (pw hh) (nx + n)) (.there (.there (.there (.there (.there .here))))) rfl (fun w1 h1 => skip_c hs (by omega) hnn (lk_st h1 (.there (.there (.there (.there (.there .here))))))) ?_)
          refine wl_ef rfl (ef_q rfl rfl (qt_pure tbok rfl (by first | exact trivial | omega | exact ⟨by decide, by decide⟩ | (refine ⟨?_, ?_⟩ <;> omega) | (refine ⟨?_, ?_, ?_⟩ <;> omega))) ?_)
          refine wl_done ?_
          refine nk_code ?_
          refine wc_seq ?_
          refine wc_seq ?_
          refine wc_quiet follows (by kernel_rfl) ?_
          refine wq_q rfl rfl rfl (qt_pure tbok rfl (by first | exact trivial | omega | exact ⟨by decide, by decide⟩ | (refine ⟨?_, ?_⟩ <;> omega) | (refine ⟨?_, ?_, ?_⟩ <;> omega))) ?_
          first | refine wq_q rfl rfl rfl (qt_load tbok rfl rfl rfl (rc_lk .here rfl)) ?_ | refine wq_q rfl rfl rfl (qt_load tbok rfl rfl rfl (rc_lk (.there .here) rfl)) ?_ | refine wq_q rfl rfl rfl (qt_load tbok rfl rfl rfl (rc_lk (.there (.there .here)) rfl)) ?_ | refine wq_q rfl rfl rfl (qt_load tbok rfl rfl rfl (by assumption)) ?_ | refine wq_q rfl rfl rfl (qt_load_ag tbok rfl rfl rfl (by first | rfl | assumption) (by assumption)) ?_
          refine wq_q rfl rfl rfl (qt_pure tbok rfl (by first | exact trivial | omega | exact ⟨by decide, by decide⟩ | (refine ⟨?_, ?_⟩ <;> omega) | (refine ⟨?_, ?_, ?_⟩ <;> omega))) ?_
          refine wq_as (v' := .c (.bool false)) (congrArg (fun b => V.c (C.bool b)) (decide_eq_false (by omega))) ?_
          refine wq_q rfl rfl rfl (qt_pure tbok rfl (by first | exact trivial | omega | exact ⟨by decide, by decide⟩ | (refine ⟨?_, ?_⟩ <;> omega) | (refine ⟨?_, ?_, ?_⟩ <;> omega))) ?_
          first | refine wq_gd rfl rfl rfl rfl (qt_pure tbok rfl (by first | exact trivial | omega | exact ⟨by decide, by decide⟩ | (refine ⟨?_, ?_⟩ <;> omega) | (refine ⟨?_, ?_, ?_⟩ <;> omega))) ?_ | refine wq_skip rfl rfl rfl rfl rfl ?_
          first | refine wq_gd rfl rfl rfl rfl (qt_load tbok rfl rfl rfl (rc_lk .here rfl)) ?_ | refine wq_gd rfl rfl rfl rfl (qt_load tbok rfl rfl rfl (rc_lk (.there .here) rfl)) ?_ | refine wq_gd rfl rfl rfl rfl (qt_load tbok rfl rfl rfl (rc_lk (.there (.there .here)) rfl)) ?_ | refine wq_gd rfl rfl rfl rfl (qt_load tbok rfl rfl rfl (by assumption)) ?_ | refine wq_gd rfl rfl rfl rfl (qt_load_ag tbok rfl rfl rfl (by first | rfl | assumption) (by assumption)) ?_ | refine wq_skip rfl rfl rfl rfl rfl ?_
          first | refine wq_gd rfl rfl rfl rfl (qt_pure tbok rfl (by first | exact trivial | omega | exact ⟨by decide, by decide⟩ | (refine ⟨?_, ?_⟩ <;> omega) | (refine ⟨?_, ?_, ?_⟩ <;> omega))) ?_ | refine wq_skip rfl rfl rfl rfl rfl ?_
          refine wq_gd rfl rfl rfl rfl (qt_pure tbok rfl (by rw [Int.toNat_natCast, Int.one_mul, hq]; refine And.intro ?_ (And.intro ?_ (And.intro ?_ ?_)) <;> omega)) ?_
          refine wq_as (v' := .c (.i64 (pw hh : Int))) (congrArg (fun z => V.c (C.i64 z)) (by rw [Int.toNat_natCast, Int.one_mul, hq])) ?_
          first | refine wq_gd rfl rfl rfl rfl (qt_pure tbok rfl (by first | exact trivial | omega | exact ⟨by decide, by decide⟩ | (refine ⟨?_, ?_⟩ <;> omega) | (refine ⟨?_, ?_, ?_⟩ <;> omega))) ?_ | refine wq_skip rfl rfl rfl rfl rfl ?_
          first | refine wq_gd rfl rfl rfl rfl (qt_pure tbok rfl (by first | exact trivial | omega | exact ⟨by decide, by decide⟩ | (refine ⟨?_, ?_⟩ <;> omega) | (refine ⟨?_, ?_, ?_⟩ <;> omega))) ?_ | refine wq_skip rfl rfl rfl rfl rfl ?_
          first | refine wq_gd rfl rfl rfl rfl (qt_pure tbok rfl (by first | exact trivial | omega | exact ⟨by decide, by decide⟩ | (refine ⟨?_, ?_⟩ <;> omega) | (refine ⟨?_, ?_, ?_⟩ <;> omega))) ?_ | refine wq_skip rfl rfl rfl rfl rfl ?_
          refine wq_as (v' := .c (.bool false)) (congrArg (fun b => V.c (C.bool b)) (decide_eq_false (by omega))) ?_
          refine wq_q rfl rfl rfl (qt_pure tbok rfl (by first | exact trivial | omega | exact ⟨by decide, by decide⟩ | (refine ⟨?_, ?_⟩ <;> omega) | (refine ⟨?_, ?_, ?_⟩ <;> omega))) ?_
          refine wq_done ?_
          refine wl_done ?_
          refine nk_code ?_
          refine wc_no rfl ?_
          refine wc_skip ?_
          refine nk_code ?_
          refine wc_seq ?_
          refine wc_region ?_
          refine wl_ef rfl (ef_q rfl rfl (qt_pure tbok rfl (by first | exact trivial | omega | exact ⟨by decide, by decide⟩ | (refine ⟨?_, ?_⟩ <;> omega) | (refine ⟨?_, ?_, ?_⟩ <;> omega))) ?_)
          refine wl_ef rfl (ef_q rfl rfl (qt_pure tbok rfl (by first | exact trivial | omega | exact ⟨by decide, by decide⟩ | (refine ⟨?_, ?_⟩ <;> omega) | (refine ⟨?_, ?_, ?_⟩ <;> omega))) ?_)
          first | refine wl_ef rfl (ef_q rfl rfl (qt_load tbok rfl rfl rfl (rc_lk .here rfl)) ?_) | refine wl_ef rfl (ef_q rfl rfl (qt_load tbok rfl rfl rfl (rc_lk (.there .here) rfl)) ?_) | refine wl_ef rfl (ef_q rfl rfl (qt_load tbok rfl rfl rfl (rc_lk (.there (.there .here)) rfl)) ?_) | refine wl_ef rfl (ef_q rfl rfl (qt_load tbok rfl rfl rfl (by assumption)) ?_) | refine wl_ef rfl (ef_q rfl rfl (qt_load_ag tbok rfl rfl rfl (by first | rfl | assumption) (by assumption)) ?_)
          refine wl_ef rfl (ef_q rfl rfl (qt_pure tbok rfl (by first | exact trivial | omega | exact ⟨by decide, by decide⟩ | (refine ⟨?_, ?_⟩ <;> omega) | (refine ⟨?_, ?_, ?_⟩ <;> omega))) ?_)
          refine wl_as (v' := .c (.i64 ((nx + n : Nat) : Int))) (congrArg (fun z => V.c (C.i64 z)) (by omega)) ?_
          refine wl_ef rfl (ef_q rfl rfl (qt_pure tbok rfl (by first | exact trivial | omega | exact ⟨by decide, by decide⟩ | (refine ⟨?_, ?_⟩ <;> omega) | (refine ⟨?_, ?_, ?_⟩ <;> omega))) ?_)
          refine wl_done ?_
          refine nk_code ?_
          refine wc_seq ?_
          refine wc_seq ?_
          refine wc_region ?_
          refine wl_ef rfl (ef_q rfl rfl (qt_pure tbok rfl (by first | exact trivial | omega | exact ⟨by decide, by decide⟩ | (refine ⟨?_, ?_⟩ <;> omega) | (refine ⟨?_, ?_, ?_⟩ <;> omega))) ?_)
          first | refine wl_ef rfl (ef_q rfl rfl (qt_pure tbok rfl (by first | exact trivial | omega | exact ⟨by decide, by decide⟩ | (refine ⟨?_, ?_⟩ <;> omega) | (refine ⟨?_, ?_, ?_⟩ <;> omega))) ?_) | refine wl_ef rfl (ef_q rfl rfl (qt_neqn tbok rfl rfl rfl) ?_)
          refine wl_done ?_
          refine nk_code ?_
          refine wc_no rfl ?_
          refine wc_skip ?_
          refine nk_code ?_
          refine wc_exit rfl ?_
          refine nk_code ?_
          refine wc_region ?_
          refine wl_ef rfl (ef_q rfl rfl (qt_pure tbok rfl (by first | exact trivial | omega | exact ⟨by decide, by decide⟩ | (refine ⟨?_, ?_⟩ <;> omega) | (refine ⟨?_, ?_, ?_⟩ <;> omega))) ?_)
          refine wl_ef rfl (ef_q rfl rfl (qt_pure tbok rfl (by first | exact trivial | omega | exact ⟨by decide, by decide⟩ | (refine ⟨?_, ?_⟩ <;> omega) | (refine ⟨?_, ?_, ?_⟩ <;> omega))) ?_)
          refine wl_done ?_
          exact nk_round (i := (i, nx)) (i + 1, nx + n) ⟨hi', hnn, by intro _; omega⟩ (by show A.length - (i + 1) < A.length - i; omega) ⟨rfl, rfl, rfl, rfl, rfl, rfl, rfl, rfl, rfl, rfl, trivial⟩ (fun w hw => hw.tail (newKey h14))
      · have hsk : (actAt A i).skip = 0 := (by have h0 : (!decide ((actAt A i).skip = 0)) = false := h68; simpa using h0)
        refine wc_skip ?_
        refine nk_code ?_
        refine wc_seq ?_
        by_cases hsp : nx = pw hh
        · refine wc_region ?_
          refine wl_ef rfl (ef_q rfl rfl (qt_pure tbok rfl (by first | exact trivial | omega | exact ⟨by decide, by decide⟩ | (refine ⟨?_, ?_⟩ <;> omega) | (refine ⟨?_, ?_, ?_⟩ <;> omega))) ?_)
          refine wl_ef rfl (ef_q rfl rfl (qt_pure tbok rfl (by first | exact trivial | omega | exact ⟨by decide, by decide⟩ | (refine ⟨?_, ?_⟩ <;> omega) | (refine ⟨?_, ?_, ?_⟩ <;> omega))) ?_)
          first | refine wl_ef rfl (ef_q rfl rfl (qt_load tbok rfl rfl rfl (rc_lk .here rfl)) ?_) | refine wl_ef rfl (ef_q rfl rfl (qt_load tbok rfl rfl rfl (rc_lk (.there .here) rfl)) ?_) | refine wl_ef rfl (ef_q rfl rfl (qt_load tbok rfl rfl rfl (rc_lk (.there (.there .here)) rfl)) ?_) | refine wl_ef rfl (ef_q rfl rfl (qt_load tbok rfl rfl rfl (by assumption)) ?_) | refine wl_ef rfl (ef_q rfl rfl (qt_load_ag tbok rfl rfl rfl (by first | rfl | assumption) (by assumption)) ?_)
          refine wl_ef rfl (ef_pure (v := .t2 (.agg z38) (.c (.i64 50))) (by kernel_rfl) rfl rfl (fun w1 h1 => by subst hsp; exact sigspent_c (h := hh) (m := pw hh) hs (by omega) (cells_own h1 (.there (.there (.there (.there (.there .here))))))) ?_)
          refine wl_ef rfl (ef_q rfl rfl (qt_pure tbok rfl (by first | exact trivial | omega | exact ⟨by decide, by decide⟩ | (refine ⟨?_, ?_⟩ <;> omega) | (refine ⟨?_, ?_, ?_⟩ <;> omega))) ?_)
          refine wl_ef rfl (ef_q rfl rfl (qt_pure tbok rfl (by first | exact trivial | omega | exact ⟨by decide, by decide⟩ | (refine ⟨?_, ?_⟩ <;> omega) | (refine ⟨?_, ?_, ?_⟩ <;> omega))) ?_)
          refine wl_ef rfl (ef_q rfl rfl (qt_pure tbok rfl (by first | exact trivial | omega | exact ⟨by decide, by decide⟩ | (refine ⟨?_, ?_⟩ <;> omega) | (refine ⟨?_, ?_, ?_⟩ <;> omega))) ?_)
          refine wl_ef rfl (ef_alloc zero38 rfl rfl (fun t16 ht16 => ?_))
          refine wl_ef rfl (ef_store (cs' := z38) tbok rfl rfl rfl rfl .here z38_len (by show 0 + 2146 ≤ z38.length; rw [z38_len]; decide) (spl_all rfl) ?_)
          refine wl_ef rfl (ef_q rfl rfl (qt_pure tbok rfl (by first | exact trivial | omega | exact ⟨by decide, by decide⟩ | (refine ⟨?_, ?_⟩ <;> omega) | (refine ⟨?_, ?_, ?_⟩ <;> omega))) ?_)
          refine wl_done ?_
          refine nk_code ?_
          refine wc_seq ?_
          refine wc_seq ?_
          refine wc_region ?_
          refine wl_ef rfl (ef_q rfl rfl (qt_pure tbok rfl (by first | exact trivial | omega | exact ⟨by decide, by decide⟩ | (refine ⟨?_, ?_⟩ <;> omega) | (refine ⟨?_, ?_, ?_⟩ <;> omega))) ?_)
          refine wl_ef rfl (ef_q rfl rfl (qt_pure tbok rfl (by first | exact trivial | omega | exact ⟨by decide, by decide⟩ | (refine ⟨?_, ?_⟩ <;> omega) | (refine ⟨?_, ?_, ?_⟩ <;> omega))) ?_)
          refine wl_ef rfl (ef_q rfl rfl (qt_pure tbok rfl (by rw [Int.toNat_natCast, Int.one_mul, hq]; refine And.intro ?_ (And.intro ?_ (And.intro ?_ ?_)) <;> omega)) ?_)
          refine wl_as (v' := .c (.i64 (pw hh : Int))) (congrArg (fun z => V.c (C.i64 z)) (by rw [Int.toNat_natCast, Int.one_mul, hq])) ?_
          first | refine wl_ef rfl (ef_q rfl rfl (qt_pure tbok rfl (by first | exact trivial | omega | exact ⟨by decide, by decide⟩ | (refine ⟨?_, ?_⟩ <;> omega) | (refine ⟨?_, ?_, ?_⟩ <;> omega))) ?_) | refine wl_ef rfl (ef_q rfl rfl (qt_eqn tbok rfl rfl rfl) ?_)
          refine wl_as (v' := .c (.bool true)) (congrArg (fun b => V.c (C.bool b)) (decide_eq_true (by omega))) ?_
          refine wl_done ?_
          refine nk_code ?_
          refine wc_yes rfl ?_
          refine wc_seq ?_
          refine wc_seq ?_
          refine wc_region ?_
          refine wl_ef rfl (ef_q rfl rfl (qt_pure tbok rfl (by first | exact trivial | omega | exact ⟨by decide, by decide⟩ | (refine ⟨?_, ?_⟩ <;> omega) | (refine ⟨?_, ?_, ?_⟩ <;> omega))) ?_)
          first | refine wl_ef rfl (ef_q rfl rfl (qt_pure tbok rfl (by first | exact trivial | omega | exact ⟨by decide, by decide⟩ | (refine ⟨?_, ?_⟩ <;> omega) | (refine ⟨?_, ?_, ?_⟩ <;> omega))) ?_) | refine wl_ef rfl (ef_q rfl rfl (qt_neqn tbok rfl rfl rfl) ?_)
          refine wl_ef rfl (ef_q rfl rfl (qt_pure tbok rfl (by first | exact trivial | omega | exact ⟨by decide, by decide⟩ | (refine ⟨?_, ?_⟩ <;> omega) | (refine ⟨?_, ?_, ?_⟩ <;> omega))) ?_)
          refine wl_gd rfl rfl (ef_q rfl rfl (qt_load_ag (l := z38) tbok rfl rfl rfl z38_len (rs_lk .here at0)) ?_)
          refine wl_gd rfl rfl (ef_fresh (by kernel_rfl) rfl rfl (fun w1 h1 => from_c (i := 0) (CH := Z67) (P := []) (pa := .nil) (pc := 0) Z67_A Z67_len (by intro s hs; cases hs) (by decide) (Nat.zero_le _) rfl) (fun q1 hq1 hkq1 => ?_))
          refine wl_gd rfl rfl (ef_q rfl rfl (qt_build (vs := []) (l := z38) tbok rfl zero29 rfl rfl) ?_)
          refine wl_gd rfl rfl (ef_pure (v := .c (.bool true)) (by kernel_rfl) rfl rfl (fun w1 h1 => same27_t (i := 0) (CH := Z67) (P := []) Z67_A Z67_len (by intro s hs; cases hs) (by decide) cells_none cells_none) ?_)
          first | refine wl_gd rfl rfl (ef_q rfl rfl (qt_pure tbok rfl (by first | exact trivial | omega | exact ⟨by decide, by decide⟩ | (refine ⟨?_, ?_⟩ <;> omega) | (refine ⟨?_, ?_, ?_⟩ <;> omega))) ?_) | refine wl_skip rfl rfl rfl rfl rfl ?_
          refine wl_ef rfl (ef_q rfl rfl (qt_pure tbok rfl (by first | exact trivial | omega | exact ⟨by decide, by decide⟩ | (refine ⟨?_, ?_⟩ <;> omega) | (refine ⟨?_, ?_, ?_⟩ <;> omega))) ?_)
          refine wl_done ?_
          refine nk_code ?_
          refine wc_no rfl ?_
          refine wc_skip ?_
          refine nk_code ?_
          refine wc_exit rfl ?_
          refine nk_code ?_
          refine wc_region ?_
          refine wl_ef rfl (ef_q rfl rfl (qt_pure tbok rfl (by first | exact trivial | omega | exact ⟨by decide, by decide⟩ | (refine ⟨?_, ?_⟩ <;> omega) | (refine ⟨?_, ?_, ?_⟩ <;> omega))) ?_)
          refine wl_ef rfl (ef_q rfl rfl (qt_pure tbok rfl (by first | exact trivial | omega | exact ⟨by decide, by decide⟩ | (refine ⟨?_, ?_⟩ <;> omega) | (refine ⟨?_, ?_, ?_⟩ <;> omega))) ?_)
          refine wl_done ?_
          exact nk_round (i := (i, nx)) (i + 1, nx) ⟨hi', hnx, by intro _; omega⟩ (by show A.length - (i + 1) < A.length - i; omega) ⟨rfl, rfl, rfl, rfl, rfl, rfl, rfl, rfl, rfl, rfl, trivial⟩ (fun w hw => ((hw.tail hkq1).tail (newKey ht16)).tail (newKey h14))
        · refine wc_region ?_
          refine wl_ef rfl (ef_q rfl rfl (qt_pure tbok rfl (by first | exact trivial | omega | exact ⟨by decide, by decide⟩ | (refine ⟨?_, ?_⟩ <;> omega) | (refine ⟨?_, ?_, ?_⟩ <;> omega))) ?_)
          refine wl_ef rfl (ef_q rfl rfl (qt_pure tbok rfl (by first | exact trivial | omega | exact ⟨by decide, by decide⟩ | (refine ⟨?_, ?_⟩ <;> omega) | (refine ⟨?_, ?_, ?_⟩ <;> omega))) ?_)
          first | refine wl_ef rfl (ef_q rfl rfl (qt_load tbok rfl rfl rfl (rc_lk .here rfl)) ?_) | refine wl_ef rfl (ef_q rfl rfl (qt_load tbok rfl rfl rfl (rc_lk (.there .here) rfl)) ?_) | refine wl_ef rfl (ef_q rfl rfl (qt_load tbok rfl rfl rfl (rc_lk (.there (.there .here)) rfl)) ?_) | refine wl_ef rfl (ef_q rfl rfl (qt_load tbok rfl rfl rfl (by assumption)) ?_) | refine wl_ef rfl (ef_q rfl rfl (qt_load_ag tbok rfl rfl rfl (by first | rfl | assumption) (by assumption)) ?_)
          have hlt : nx < pw hh := by omega
          refine wl_ef rfl (ef_turn1 (b' := fun _ => kb kr sd hh y (pw hh) (nx + 1)) (by kernel_rfl) rfl rfl (fun _ => .there (.there (.there (.there (.there .here))))) (fun _ => rfl) (fun w1 h1 => sign26_c hs h6 hlt (lk_st h1 (.there (.there (.there (.there (.there .here)))))) (lvs_A _ _) (lvs_len _ _) (OwnS.le hy) (cells_own h1 (.there (.there (.there (.there .here))))) (st_ne2 h1 (.there (.there (.there (.there .here)))) (.there (.there (.there (.there (.there .here))))) (by show (30 : Nat) ≠ 135; decide) rfl) (cells_rd (rd_cells hmc (off_new (newKey h14) (off_new (newKey ht11) (off_new (newKey ht10) (off_new hk9 (off_new hkD (off_new (newKey (hkK _ rfl)) (off_new (newKey hb) off_nil)))))))) h1) (hml.ne (hkK _ rfl)) hmb) (fun p hp hkp => ?_))
          refine wl_ef rfl (ef_q rfl rfl (qt_pure tbok rfl (by first | exact trivial | omega | exact ⟨by decide, by decide⟩ | (refine ⟨?_, ?_⟩ <;> omega) | (refine ⟨?_, ?_, ?_⟩ <;> omega))) ?_)
          refine wl_ef rfl (ef_q rfl rfl (qt_pure tbok rfl (by first | exact trivial | omega | exact ⟨by decide, by decide⟩ | (refine ⟨?_, ?_⟩ <;> omega) | (refine ⟨?_, ?_, ?_⟩ <;> omega))) ?_)
          refine wl_ef rfl (ef_q rfl rfl (qt_pure tbok rfl (by first | exact trivial | omega | exact ⟨by decide, by decide⟩ | (refine ⟨?_, ?_⟩ <;> omega) | (refine ⟨?_, ?_, ?_⟩ <;> omega))) ?_)
          refine wl_ef rfl (ef_alloc zero38 rfl rfl (fun t16 ht16 => ?_))
          refine wl_ef rfl (ef_store (cs' := scs (nx : Int) (sigF sd hh (lvs sd (pw hh)) nx (actAt A i).msg) p.1 hh p.2.1) tbok rfl rfl rfl rfl .here (scs_len (sigF_len _ _ _ _ _)) (by show 0 + 2146 ≤ z38.length; rw [z38_len]; decide) (spl_all (by show (scs _ _ _ _ _).length = z38.length; rw [scs_len (sigF_len _ _ _ _ _), z38_len])) ?_)
          refine wl_ef rfl (ef_q rfl rfl (qt_pure tbok rfl (by first | exact trivial | omega | exact ⟨by decide, by decide⟩ | (refine ⟨?_, ?_⟩ <;> omega) | (refine ⟨?_, ?_, ?_⟩ <;> omega))) ?_)
          refine wl_done ?_
          refine nk_code ?_
          refine wc_seq ?_
          refine wc_seq ?_
          refine wc_region ?_
          refine wl_ef rfl (ef_q rfl rfl (qt_pure tbok rfl (by first | exact trivial | omega | exact ⟨by decide, by decide⟩ | (refine ⟨?_, ?_⟩ <;> omega) | (refine ⟨?_, ?_, ?_⟩ <;> omega))) ?_)
          refine wl_ef rfl (ef_q rfl rfl (qt_pure tbok rfl (by first | exact trivial | omega | exact ⟨by decide, by decide⟩ | (refine ⟨?_, ?_⟩ <;> omega) | (refine ⟨?_, ?_, ?_⟩ <;> omega))) ?_)
          refine wl_ef rfl (ef_q rfl rfl (qt_pure tbok rfl (by rw [Int.toNat_natCast, Int.one_mul, hq]; refine And.intro ?_ (And.intro ?_ (And.intro ?_ ?_)) <;> omega)) ?_)
          refine wl_as (v' := .c (.i64 (pw hh : Int))) (congrArg (fun z => V.c (C.i64 z)) (by rw [Int.toNat_natCast, Int.one_mul, hq])) ?_
          first | refine wl_ef rfl (ef_q rfl rfl (qt_pure tbok rfl (by first | exact trivial | omega | exact ⟨by decide, by decide⟩ | (refine ⟨?_, ?_⟩ <;> omega) | (refine ⟨?_, ?_, ?_⟩ <;> omega))) ?_) | refine wl_ef rfl (ef_q rfl rfl (qt_eqn tbok rfl rfl rfl) ?_)
          refine wl_as (v' := .c (.bool false)) (congrArg (fun b => V.c (C.bool b)) (decide_eq_false (by omega))) ?_
          refine wl_done ?_
          refine nk_code ?_
          refine wc_no rfl ?_
          refine wc_skip ?_
          refine nk_code ?_
          refine wc_seq ?_
          refine wc_seq ?_
          refine wc_draw (s0 := [⟨.at t16 0, scs (nx : Int) (sigF sd hh (lvs sd (pw hh)) nx (actAt A i).msg) p.1 hh p.2.1, 38, (0, 0), []⟩, dob 30 (pathT hh nx (lvs sd (pw hh))) p, ⟨.at t14 0, [C.i64 (actAt A i).skip, .slc (actAt A i).ad (actAt A i).msg.length (actAt A i).cap], 53, (0, 0), []⟩, ⟨.at t11 0, .i64 (hh : Int) :: bc (rootT hh (lvs sd (pw hh))), 24, (0, 0), []⟩, ⟨.at t10 0, .i64 (hh : Int) :: bc (rootT hh (lvs sd (pw hh))), 32, (0, 0), []⟩, dob 22 (lvs sd (pw hh)) x9, dob 30 (lvs sd (pw hh)) y, kb kr sd hh y (pw hh) (nx + 1), ⟨.at b 0, bc sd, 22, (0, 0), []⟩]) 23 follows ?_
          refine wh_q 0 rfl (by kernel_rfl) rfl rfl rfl (qt_pure tbok rfl (by first | exact trivial | omega | exact ⟨by decide, by decide⟩ | (refine ⟨?_, ?_⟩ <;> omega) | (refine ⟨?_, ?_, ?_⟩ <;> omega))) (fun w hw => hw) ?_
          first | refine wh_q 1 rfl (by kernel_rfl) rfl rfl rfl (qt_pure tbok rfl (by first | exact trivial | omega | exact ⟨by decide, by decide⟩ | (refine ⟨?_, ?_⟩ <;> omega) | (refine ⟨?_, ?_, ?_⟩ <;> omega))) (fun w hw => hw) ?_ | refine wh_q 1 rfl (by kernel_rfl) rfl rfl rfl (qt_neqn tbok rfl rfl rfl) (fun w hw => hw) ?_
          refine wh_q 2 rfl (by kernel_rfl) rfl rfl rfl (qt_pure tbok rfl (by first | exact trivial | omega | exact ⟨by decide, by decide⟩ | (refine ⟨?_, ?_⟩ <;> omega) | (refine ⟨?_, ?_, ?_⟩ <;> omega))) (fun w hw => hw) ?_
          refine wh_gd 3 rfl (by kernel_rfl) rfl rfl rfl rfl (qt_load_ag (l := scs (nx : Int) (sigF sd hh (lvs sd (pw hh)) nx (actAt A i).msg) p.1 hh p.2.1) tbok rfl rfl rfl (scs_len (sigF_len _ _ _ _ _)) (rs_lk .here at0)) (fun w hw => hw) ?_
          refine wh_gd 5 rfl (by kernel_rfl) rfl rfl rfl rfl (qt_load_ag (l := bc sd) tbok rfl rfl rfl hsl (rs_lk (.there (.there (.there (.there (.there (.there (.there (.there .here)))))))) at0)) (fun w hw => hw) ?_
          first | refine wh_gd 6 rfl (by kernel_rfl) rfl rfl rfl rfl (qt_pure tbok rfl (by first | exact trivial | omega | exact ⟨by decide, by decide⟩ | (refine ⟨?_, ?_⟩ <;> omega) | (refine ⟨?_, ?_, ?_⟩ <;> omega))) (fun w hw => hw) ?_ | refine wh_skip 6 rfl (by kernel_rfl) rfl rfl rfl rfl rfl (fun w hw => hw) ?_
          refine wh_gd 7 rfl (by kernel_rfl) rfl rfl rfl rfl (qt_load_ag (l := .i64 (hh : Int) :: bc (rootT hh (lvs sd (pw hh)))) tbok rfl rfl rfl (by rw [List.length_cons, hrb]) (rs_lk (.there (.there (.there .here))) at0)) (fun w hw => hw) ?_
          first | refine wh_gd 8 rfl (by kernel_rfl) rfl rfl rfl rfl (qt_pure tbok rfl (by first | exact trivial | omega | exact ⟨by decide, by decide⟩ | (refine ⟨?_, ?_⟩ <;> omega) | (refine ⟨?_, ?_, ?_⟩ <;> omega))) (fun w hw => hw) ?_ | refine wh_skip 8 rfl (by kernel_rfl) rfl rfl rfl rfl rfl (fun w hw => hw) ?_
          first | refine wh_gd 9 rfl (by kernel_rfl) rfl rfl rfl rfl (qt_pure tbok rfl (by first | exact trivial | omega | exact ⟨by decide, by decide⟩ | (refine ⟨?_, ?_⟩ <;> omega) | (refine ⟨?_, ?_, ?_⟩ <;> omega))) (fun w hw => hw) ?_ | refine wh_skip 9 rfl (by kernel_rfl) rfl rfl rfl rfl rfl (fun w hw => hw) ?_
          first | refine wh_gd 10 rfl (by kernel_rfl) rfl rfl rfl rfl (qt_load tbok rfl rfl rfl (rc_lk .here rfl)) (fun w hw => hw) ?_ | refine wh_gd 10 rfl (by kernel_rfl) rfl rfl rfl rfl (qt_load tbok rfl rfl rfl (rc_lk (.there .here) rfl)) (fun w hw => hw) ?_ | refine wh_gd 10 rfl (by kernel_rfl) rfl rfl rfl rfl (qt_load tbok rfl rfl rfl (rc_lk (.there (.there .here)) rfl)) (fun w hw => hw) ?_ | refine wh_gd 10 rfl (by kernel_rfl) rfl rfl rfl rfl (qt_load tbok rfl rfl rfl (by assumption)) (fun w hw => hw) ?_ | refine wh_gd 10 rfl (by kernel_rfl) rfl rfl rfl rfl (qt_load_ag tbok rfl rfl rfl (by first | rfl | assumption) (by assumption)) (fun w hw => hw) ?_ | refine wh_skip 10 rfl (by kernel_rfl) rfl rfl rfl rfl rfl (fun w hw => hw) ?_
          refine wh_one 4 (by kernel_rfl) (wo_efg rfl rfl rfl (ef_fresh (by kernel_rfl) rfl rfl (fun w1 h1 => by have h2 := from_c (i := (nx : Int)) (CH := sgL sd (UInt32.ofInt (nx : Int)) (wordH (hh : Int) (rootT hh (lvs sd (pw hh))) (nx : Int) (actAt A i).msg)) (P := pathT hh nx (lvs sd (pw hh))) (sgL_A _ _ _) (sgL_len _ _ _) (pathT_A hh (lvs_A _ _) (lvs_len _ _)) (by rw [pathT_len]; omega) (by rw [pathT_len]; exact OwnS.le hp) (cells_own h1 (.there .here)); rw [pathT_len] at h2; exact h2) (fun q1 hq1 hkq1 => ⟨fun w hw => hw.tail hkq1, ?_⟩)))
          refine wh_one 11 (by kernel_rfl) (wo_efg rfl rfl rfl (ef_fresh (by kernel_rfl) rfl rfl (fun w1 h1 => sign29_c hs hrl h6 hlt (lvs_A _ _) (lvs_len _ _) (OwnS.le hx9) (cells_own h1 (.there (.there (.there (.there (.there (.there .here))))))) (cells_rd (rd_cells hmc (off_new hkp (off_new (newKey h14) (off_new (newKey ht11) (off_new (newKey ht10) (off_new hk9 (off_new hkD (off_new (newKey (hkK _ rfl)) (off_new (newKey hb) off_nil))))))))) ((h1.tail hkq1).tail (newKey ht16))) hmb) (fun q2 hq2 hkq2 => ⟨fun w hw => (hw.tail hkq2).tail hkq1, ?_⟩)))
          refine wh_one 12 (by kernel_rfl) (wo_efg rfl rfl rfl (ef_pure (v := .c (.bool true)) (by kernel_rfl) rfl rfl (fun w1 h1 => by have h2 := same27_t (i := (nx : Int)) (CH := sgL sd (UInt32.ofInt (nx : Int)) (wordH (hh : Int) (rootT hh (lvs sd (pw hh))) (nx : Int) (actAt A i).msg)) (P := pathT hh nx (lvs sd (pw hh))) (sgL_A _ _ _) (sgL_len _ _ _) (pathT_A hh (lvs_A _ _) (lvs_len _ _)) (by rw [pathT_len]; omega) (ac := q1.2.1) (bcap := q2.2.1) (cells_own h1 (.there .here)) (cells_own h1 .here); rw [pathT_len] at h2; exact h2) ⟨fun w hw => (hw.tail hkq2).tail hkq1, ?_⟩))
          first | refine wh_gd 13 rfl (by kernel_rfl) rfl rfl rfl rfl (qt_pure tbok rfl (by first | exact trivial | omega | exact ⟨by decide, by decide⟩ | (refine ⟨?_, ?_⟩ <;> omega) | (refine ⟨?_, ?_, ?_⟩ <;> omega))) (fun w hw => (hw.tail hkq2).tail hkq1) ?_ | refine wh_skip 13 rfl (by kernel_rfl) rfl rfl rfl rfl rfl (fun w hw => (hw.tail hkq2).tail hkq1) ?_
          refine wh_q 14 rfl (by kernel_rfl) rfl rfl rfl (qt_pure tbok rfl (by first | exact trivial | omega | exact ⟨by decide, by decide⟩ | (refine ⟨?_, ?_⟩ <;> omega) | (refine ⟨?_, ?_, ?_⟩ <;> omega))) (fun w hw => (hw.tail hkq2).tail hkq1) ?_
          refine wh_q 15 rfl (by kernel_rfl) rfl rfl rfl (qt_pure tbok rfl (by first | exact trivial | omega | exact ⟨by decide, by decide⟩ | (refine ⟨?_, ?_⟩ <;> omega) | (refine ⟨?_, ?_, ?_⟩ <;> omega))) (fun w hw => (hw.tail hkq2).tail hkq1) ?_
          refine wh_gd 16 rfl (by kernel_rfl) rfl rfl rfl rfl (qt_load_ag (l := .i64 (hh : Int) :: bc (rootT hh (lvs sd (pw hh)))) tbok rfl rfl rfl (by rw [List.length_cons, hrb]) (rs_lk (.there (.there (.there (.there .here)))) at0)) (fun w hw => (hw.tail hkq2).tail hkq1) ?_
          first | refine wh_gd 17 rfl (by kernel_rfl) rfl rfl rfl rfl (qt_pure tbok rfl (by first | exact trivial | omega | exact ⟨by decide, by decide⟩ | (refine ⟨?_, ?_⟩ <;> omega) | (refine ⟨?_, ?_, ?_⟩ <;> omega))) (fun w hw => (hw.tail hkq2).tail hkq1) ?_ | refine wh_skip 17 rfl (by kernel_rfl) rfl rfl rfl rfl rfl (fun w hw => (hw.tail hkq2).tail hkq1) ?_
          first | refine wh_gd 18 rfl (by kernel_rfl) rfl rfl rfl rfl (qt_load tbok rfl rfl rfl (rc_lk .here rfl)) (fun w hw => (hw.tail hkq2).tail hkq1) ?_ | refine wh_gd 18 rfl (by kernel_rfl) rfl rfl rfl rfl (qt_load tbok rfl rfl rfl (rc_lk (.there .here) rfl)) (fun w hw => (hw.tail hkq2).tail hkq1) ?_ | refine wh_gd 18 rfl (by kernel_rfl) rfl rfl rfl rfl (qt_load tbok rfl rfl rfl (rc_lk (.there (.there .here)) rfl)) (fun w hw => (hw.tail hkq2).tail hkq1) ?_ | refine wh_gd 18 rfl (by kernel_rfl) rfl rfl rfl rfl (qt_load tbok rfl rfl rfl (by assumption)) (fun w hw => (hw.tail hkq2).tail hkq1) ?_ | refine wh_gd 18 rfl (by kernel_rfl) rfl rfl rfl rfl (qt_load_ag tbok rfl rfl rfl (by first | rfl | assumption) (by assumption)) (fun w hw => (hw.tail hkq2).tail hkq1) ?_ | refine wh_skip 18 rfl (by kernel_rfl) rfl rfl rfl rfl rfl (fun w hw => (hw.tail hkq2).tail hkq1) ?_
          refine wh_gd 19 rfl (by kernel_rfl) rfl rfl rfl rfl (qt_load_ag (l := scs (nx : Int) (sigF sd hh (lvs sd (pw hh)) nx (actAt A i).msg) p.1 hh p.2.1) tbok rfl rfl rfl (scs_len (sigF_len _ _ _ _ _)) (rs_lk .here at0)) (fun w hw => (hw.tail hkq2).tail hkq1) ?_
          refine wh_one 20 (by kernel_rfl) (wo_efg rfl rfl rfl (ef_pure (v := .c (.bool true)) (by kernel_rfl) rfl rfl (fun w1 h1 => by have h2 := ver16_c (h := (hh : Int)) (i := (nx : Int)) (CH := sgL sd (UInt32.ofInt (nx : Int)) (wordH (hh : Int) (rootT hh (lvs sd (pw hh))) (nx : Int) (actAt A i).msg)) (P := pathT hh nx (lvs sd (pw hh))) (msg := (actAt A i).msg) (ma := (actAt A i).ad) (mc := (actAt A i).cap) (pc := p.2.1) hrl (sgL_A _ _ _) (sgL_len _ _ _) (pathT_A hh (lvs_A _ _) (lvs_len _ _)) (by rw [pathT_len]; exact OwnS.le hp) (cells_own h1 (.there (.there (.there .here)))) (cells_rd (rd_cells hmc (off_new hkp (off_new (newKey h14) (off_new (newKey ht11) (off_new (newKey ht10) (off_new hk9 (off_new hkD (off_new (newKey (hkK _ rfl)) (off_new (newKey hb) off_nil))))))))) (((h1.tail hkq2).tail hkq1).tail (newKey ht16))) hmb; rw [ver_ok h6 hlt, pathT_len] at h2; exact h2) ⟨fun w hw => (hw.tail hkq2).tail hkq1, ?_⟩))
          first | refine wh_gd 21 rfl (by kernel_rfl) rfl rfl rfl rfl (qt_pure tbok rfl (by first | exact trivial | omega | exact ⟨by decide, by decide⟩ | (refine ⟨?_, ?_⟩ <;> omega) | (refine ⟨?_, ?_, ?_⟩ <;> omega))) (fun w hw => (hw.tail hkq2).tail hkq1) ?_ | refine wh_skip 21 rfl (by kernel_rfl) rfl rfl rfl rfl rfl (fun w hw => (hw.tail hkq2).tail hkq1) ?_
          refine wh_q 22 rfl (by kernel_rfl) rfl rfl rfl (qt_pure tbok rfl (by first | exact trivial | omega | exact ⟨by decide, by decide⟩ | (refine ⟨?_, ?_⟩ <;> omega) | (refine ⟨?_, ?_, ?_⟩ <;> omega))) (fun w hw => (hw.tail hkq2).tail hkq1) ?_
          refine wh_done (by kernel_rfl) ?_
          refine nk_code ?_
          refine wc_no rfl ?_
          refine wc_skip ?_
          refine nk_code ?_
          refine wc_region ?_
          refine wl_ef rfl (ef_q rfl rfl (qt_pure tbok rfl (by first | exact trivial | omega | exact ⟨by decide, by decide⟩ | (refine ⟨?_, ?_⟩ <;> omega) | (refine ⟨?_, ?_, ?_⟩ <;> omega))) ?_)
          refine wl_ef rfl (ef_q rfl rfl (qt_pure tbok rfl (by first | exact trivial | omega | exact ⟨by decide, by decide⟩ | (refine ⟨?_, ?_⟩ <;> omega) | (refine ⟨?_, ?_, ?_⟩ <;> omega))) ?_)
          refine wl_as (v' := .c (.i64 ((nx + 1 : Nat) : Int))) (congrArg (fun z => V.c (C.i64 z)) (by omega)) ?_
          refine wl_ef rfl (ef_q rfl rfl (qt_pure tbok rfl (by first | exact trivial | omega | exact ⟨by decide, by decide⟩ | (refine ⟨?_, ?_⟩ <;> omega) | (refine ⟨?_, ?_, ?_⟩ <;> omega))) ?_)
          refine wl_done ?_
          refine nk_code ?_
          refine wc_region ?_
          refine wl_ef rfl (ef_q rfl rfl (qt_pure tbok rfl (by first | exact trivial | omega | exact ⟨by decide, by decide⟩ | (refine ⟨?_, ?_⟩ <;> omega) | (refine ⟨?_, ?_, ?_⟩ <;> omega))) ?_)
          refine wl_ef rfl (ef_q rfl rfl (qt_pure tbok rfl (by first | exact trivial | omega | exact ⟨by decide, by decide⟩ | (refine ⟨?_, ?_⟩ <;> omega) | (refine ⟨?_, ?_, ?_⟩ <;> omega))) ?_)
          refine wl_done ?_
          exact nk_round (i := (i, nx)) (i + 1, nx + 1) ⟨hi', hlt, by intro _; omega⟩ (by show A.length - (i + 1) < A.length - i; omega) ⟨rfl, rfl, rfl, rfl, rfl, rfl, rfl, rfl, rfl, rfl, trivial⟩ (fun w hw => ((((hw.tail hkq2).tail hkq1).tail (newKey ht16)).tail hkp).tail (newKey h14))
  · refine wc_exit rfl ?_
    refine nk_code ?_
    refine wc_seq ?_
    refine wc_quiet follows (by kernel_rfl) ?_
    refine wq_q rfl rfl rfl (qt_pure tbok rfl (by first | exact trivial | omega | exact ⟨by decide, by decide⟩ | (refine ⟨?_, ?_⟩ <;> omega) | (refine ⟨?_, ?_, ?_⟩ <;> omega))) ?_
    first | refine wq_q rfl rfl rfl (qt_load tbok rfl rfl rfl (rc_lk .here rfl)) ?_ | refine wq_q rfl rfl rfl (qt_load tbok rfl rfl rfl (rc_lk (.there .here) rfl)) ?_ | refine wq_q rfl rfl rfl (qt_load tbok rfl rfl rfl (rc_lk (.there (.there .here)) rfl)) ?_ | refine wq_q rfl rfl rfl (qt_load tbok rfl rfl rfl (by assumption)) ?_ | refine wq_q rfl rfl rfl (qt_load_ag tbok rfl rfl rfl (by first | rfl | assumption) (by assumption)) ?_
    refine wq_q rfl rfl rfl (qt_pure tbok rfl (by first | exact trivial | omega | exact ⟨by decide, by decide⟩ | (refine ⟨?_, ?_⟩ <;> omega) | (refine ⟨?_, ?_, ?_⟩ <;> omega))) ?_
    first | refine wq_q rfl rfl rfl (qt_pure tbok rfl (by first | exact trivial | omega | exact ⟨by decide, by decide⟩ | (refine ⟨?_, ?_⟩ <;> omega) | (refine ⟨?_, ?_, ?_⟩ <;> omega))) ?_ | refine wq_q rfl rfl rfl (qt_eqn tbok rfl rfl rfl) ?_
    refine wq_as (v' := .c (.bool true)) (congrArg (fun b => V.c (C.bool b)) (decide_eq_true (rfl))) ?_
    refine wq_q rfl rfl rfl (qt_pure tbok rfl (by first | exact trivial | omega | exact ⟨by decide, by decide⟩ | (refine ⟨?_, ?_⟩ <;> omega) | (refine ⟨?_, ?_, ?_⟩ <;> omega))) ?_
    first | refine wq_gd rfl rfl rfl rfl (qt_pure tbok rfl (by first | exact trivial | omega | exact ⟨by decide, by decide⟩ | (refine ⟨?_, ?_⟩ <;> omega) | (refine ⟨?_, ?_, ?_⟩ <;> omega))) ?_ | refine wq_skip rfl rfl rfl rfl rfl ?_
    refine wq_callg (.c (.i64 ((pw hh - nx : Nat) : Int))) rfl (by kernel_rfl) rfl rfl (fun w1 h1 => left_c hs (by omega) hnx (cells_own h1 (.there (.there (.there (.there .here)))))) ?_
    first | refine wq_gd rfl rfl rfl rfl (qt_pure tbok rfl (by first | exact trivial | omega | exact ⟨by decide, by decide⟩ | (refine ⟨?_, ?_⟩ <;> omega) | (refine ⟨?_, ?_, ?_⟩ <;> omega))) ?_ | refine wq_skip rfl rfl rfl rfl rfl ?_
    refine wq_gd rfl rfl rfl rfl (qt_pure tbok rfl (by rw [Int.toNat_natCast, Int.one_mul, hq]; refine And.intro ?_ (And.intro ?_ (And.intro ?_ ?_)) <;> omega)) ?_
    refine wq_as (v' := .c (.i64 (pw hh : Int))) (congrArg (fun z => V.c (C.i64 z)) (by rw [Int.toNat_natCast, Int.one_mul, hq])) ?_
    first | refine wq_gd rfl rfl rfl rfl (qt_pure tbok rfl (by first | exact trivial | omega | exact ⟨by decide, by decide⟩ | (refine ⟨?_, ?_⟩ <;> omega) | (refine ⟨?_, ?_, ?_⟩ <;> omega))) ?_ | refine wq_skip rfl rfl rfl rfl rfl ?_
    first | refine wq_gd rfl rfl rfl rfl (qt_pure tbok rfl (by first | exact trivial | omega | exact ⟨by decide, by decide⟩ | (refine ⟨?_, ?_⟩ <;> omega) | (refine ⟨?_, ?_, ?_⟩ <;> omega))) ?_ | refine wq_skip rfl rfl rfl rfl rfl ?_
    first | refine wq_gd rfl rfl rfl rfl (qt_pure tbok rfl (by first | exact trivial | omega | exact ⟨by decide, by decide⟩ | (refine ⟨?_, ?_⟩ <;> omega) | (refine ⟨?_, ?_, ?_⟩ <;> omega))) ?_ | refine wq_gd rfl rfl rfl rfl (qt_eqn tbok rfl rfl rfl) ?_ | refine wq_skip rfl rfl rfl rfl rfl ?_
    refine wq_as (v' := .c (.bool true)) (congrArg (fun b => V.c (C.bool b)) (decide_eq_true (by omega))) ?_
    refine wq_q rfl rfl rfl (qt_pure tbok rfl (by first | exact trivial | omega | exact ⟨by decide, by decide⟩ | (refine ⟨?_, ?_⟩ <;> omega) | (refine ⟨?_, ?_, ?_⟩ <;> omega))) ?_
    refine wq_q rfl rfl rfl (qt_pure tbok rfl (by first | exact trivial | omega | exact ⟨by decide, by decide⟩ | (refine ⟨?_, ?_⟩ <;> omega) | (refine ⟨?_, ?_, ?_⟩ <;> omega))) ?_
    refine wq_done ?_
    refine wl_done ?_
    refine nk_code ?_
    refine wc_ret ?_
    try dsimp only
    exact fin1 rfl (rv_tmp rfl) (fun w' hw => ⟨rfl, hw.all (new_cons (newKey ht11) (new_cons (newKey ht10) (new_cons hk9 (new_cons hkD (new_cons (newKey (hkK _ rfl)) (new_cons (newKey hb) new_nil))))))⟩)
end Go.Proofs.Ytjhmcmadleabjaa
