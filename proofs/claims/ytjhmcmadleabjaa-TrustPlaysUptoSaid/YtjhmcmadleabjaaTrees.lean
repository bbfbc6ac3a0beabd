/- merkle.Check and hallmarkref03.Check say the same of whole trees. -/
import Derived.Test.YtjhmcmadleabjaaRefSum
set_option linter.unusedVariables false
set_option maxRecDepth 100000
namespace Go.Proofs.Ytjhmcmadleabjaa
open Go Go.Hw Go.Proofs

def pw : Nat → Nat
  | 0 => 1
  | n + 1 => 2 * pw n
theorem pw_pos : ∀ n, 0 < pw n
  | 0 => by decide
  | n + 1 => by have := pw_pos n; show 0 < 2 * pw n; omega
theorem pw_mono {a b : Nat} (h : a ≤ b) : pw a ≤ pw b := by
  induction h with
  | refl => exact Nat.le_refl _
  | step _ ih => exact Nat.le_trans ih (by show _ ≤ 2 * pw _; omega)
theorem pw_60 {a : Nat} (h : a ≤ 60) : pw a ≤ 1152921504606846976 := Nat.le_trans (pw_mono h) (by decide)
theorem pw_two : ∀ n, pw n = 2 ^ n
  | 0 => rfl
  | n + 1 => by show 2 * pw n = _; rw [pw_two n, Nat.pow_succ, Nat.mul_comm]

/-- The way up a tree: the place's lowest bit tells on which side the other lies. -/
def cl (k : Nat) (t : List UInt8) : List (List UInt8) → List UInt8
  | [] => t
  | s :: ps => cl (k / 2) (if k % 2 = 1 then nodeH s t else nodeH t s) ps
abbrev A32 (P : List (List UInt8)) : Prop := ∀ s ∈ P, s.length = 32
theorem cl_len : ∀ (P : List (List UInt8)) (k : Nat) (t : List UInt8), t.length = 32 → (cl k t P).length = 32
  | [], _, _, h => h
  | s :: ps, k, t, h => cl_len ps _ _ (by split <;> rfl)
theorem flat_len : ∀ {P : List (List UInt8)}, A32 P → P.flatten.length = P.length * 32
  | [], _ => rfl
  | s :: ps, h => by
    have h1 : s.length = 32 := h s (by simp)
    have h2 := flat_len (P := ps) fun x hx => h x (by simp [hx])
    simp only [List.flatten_cons, List.length_append, List.length_cons, h1, h2]; omega
theorem flat_head {s : List UInt8} {P : List (List UInt8)} (h : s.length = 32) : ∀ (i : Nat) c, (bc s)[i]? = some c → (bc (s :: P).flatten)[i]? = some c := fun i c hi => by
  rw [List.flatten_cons, bc_app, List.getElem?_append_left (List.getElem?_eq_some_iff.1 hi).1]; exact hi
theorem flat_drop {s : List UInt8} {P : List (List UInt8)} (h : s.length = 32) : (bc (s :: P).flatten).drop (1 * 32) = bc P.flatten := by
  rw [List.flatten_cons, bc_app, List.drop_append, List.drop_of_length_le (by rw [bc_len]; omega), bc_len, h]; rfl

theorem climb_c {w : World} {k : Nat} {t : List UInt8} {P : List (List UInt8)} {pa : Ad} {pc : Nat} (hP : A32 P) (hk : k < pw P.length) (hh : P.length ≤ 60) (ht : t.length = 32) (hc : Cells w pa (bc P.flatten)) (hcap : P.length ≤ pc) :
    CallsV Try.prog 97 [.c (.i64 (pw P.length : Int)), .c (.i64 (k : Int)), .agg (bc t), .c (.slc pa P.length pc)] w fun en w' => en = .returned (V.t2 (.agg (bc (cl k t P))) (.c (.bool true))).den ∧ St w [] w' := by
  have hpp := pw_pos P.length
  have hp60 := pw_60 hh
  refine calls_in (tb := tb) (fn := Try.f97) Try.func97 rfl rfl rfl [(0, .c (.i64 (pw P.length : Int))), (1, .c (.i64 (k : Int))), (2, .agg (bc t)), (3, .c (.slc pa P.length pc))] rfl [] (St.refl _) ?_
  refine wc_seq ?_
  refine wc_region ?_
  refine wl_ef rfl (ef_box rfl rfl rfl (fun b hb => ?_))
  refine wl_ef rfl (ef_alloc zero30 rfl rfl (fun o ho => ?_))
  refine wl_q rfl rfl rfl (qt_p tbok rfl) ?_
  refine wl_done ?_
  refine nk_code ?_
  refine wc_seq ?_
  refine wc_region ?_
  refine wl_q rfl rfl rfl (qt_p tbok rfl) ?_
  refine wl_q rfl rfl rfl (qt_p tbok rfl) ?_
  refine wl_q rfl rfl rfl (qt_p tbok rfl) ?_
  refine wl_done ?_
  refine nk_code ?_
  refine wc_seq ?_
  refine wc_region ?_
  refine wl_q rfl rfl rfl (qt_load_ag (l := bc t) tbok rfl rfl rfl (by rw [bc_len, ht]) (rs_lk (.there .here) at0)) ?_
  refine wl_ef rfl (ef_alloc zero30 rfl rfl (fun tr htr => ?_))
  refine wl_ef rfl (ef_store (cs' := bc t) tbok rfl rfl rfl rfl .here (by show (bc t).length = 32; rw [bc_len, ht]) (Nat.le_of_ble_eq_true rfl) (spl_all (by show (bc t).length = 32; rw [bc_len, ht])) ?_)
  refine wl_done ?_
  refine nk_code ?_
  refine wc_seq ?_
  refine wc_block ?_
  refine wc_loop (ι := Nat × List UInt8 × List (List UInt8) × Ad × Nat) (fun x => A32 x.2.2.1 ∧ x.1 < pw x.2.2.1.length ∧ x.2.2.1.length ≤ 60 ∧ x.2.1.length = 32 ∧ Cells w x.2.2.2.1 (bc x.2.2.1.flatten) ∧ x.2.2.1.length ≤ x.2.2.2.2 ∧ cl x.1 x.2.1 x.2.2.1 = cl k t P) (fun x => [(10, .c (.i64 ((pw x.2.2.1.length : Int) - 1))), (1, .c (.i64 (x.1 : Int))), (3, .c (.slc x.2.2.2.1 x.2.2.1.length x.2.2.2.2)), (11, .c (.ptr (.at tr 0))), (8, .c (.ptr (.at o 0)))]) (fun x => [⟨.at tr 0, bc x.2.1, 30, (0, 0), []⟩, ⟨.at o 0, bc (List.replicate 32 0), 30, (0, 0), []⟩]) (fun x => x.2.2.1.length) (k, t, P, pa, pc) ⟨hP, hk, hh, ht, hc, hcap, rfl⟩ (nk_start ⟨rfl, rfl, rfl, rfl, rfl, trivial⟩ (fun w hw => Rm.sub_St hw (.there (.there .here)) (newKey hb))) (fun ⟨k1, t1, P1, a1, c1⟩ ⟨g1, g2, g3, g4, g5, g6, g7⟩ => ?_)
  replace g1 : A32 P1 := g1
  replace g2 : k1 < pw P1.length := g2
  replace g3 : P1.length ≤ 60 := g3
  replace g4 : t1.length = 32 := g4
  replace g5 : Cells w a1 (bc P1.flatten) := g5
  replace g6 : P1.length ≤ c1 := g6
  replace g7 : cl k1 t1 P1 = cl k t P := g7
  have hb1 : (bc t1).length = 32 := (by rw [bc_len, g4])
  have hq := pw_60 g3
  dsimp only
  refine wc_seq ?_
  refine wc_seq ?_
  refine wc_region ?_
  refine wl_q rfl rfl rfl (qt_p tbok rfl) ?_
  refine wl_q rfl rfl rfl (qt_p tbok rfl) ?_
  refine wl_done ?_
  refine nk_code ?_
  refine wc_cond rfl (fun h16 => ?_) (fun h16 => ?_)
  · obtain ⟨s, P2, rfl⟩ : ∃ s P2, P1 = s :: P2 := (by cases P1 with | nil => exact absurd (of_decide_eq_true h16) (by decide) | cons s P2 => exact ⟨s, P2, rfl⟩)
    have hs : s.length = 32 := g1 s (by simp)
    have hbs : (bc s).length = 32 := (by rw [bc_len, hs])
    have hpw : pw (s :: P2).length = 2 * pw P2.length := rfl
    have hpos := pw_pos P2.length
    obtain ⟨ar, ao, rfl⟩ := cells_nn g5 (by rw [bc_len, flat_len g1, List.length_cons]; omega)
    have hln : (s :: P2).length = P2.length + 1 := rfl
    refine wc_skip ?_
    refine nk_code ?_
    refine wc_block ?_
    refine wc_seq ?_
    refine wc_seq ?_
    refine wc_region ?_
    refine wl_q rfl rfl rfl (qt_p tbok rfl) ?_
    refine wl_q rfl rfl rfl (qt_p tbok rfl) ?_
    refine wl_as (v' := .c (.i64 ((k1 % 2 : Nat) : Int))) (congrArg (fun z => V.c (C.i64 z)) (by omega)) ?_
    first | refine wl_q rfl rfl rfl (qt_p tbok rfl) ?_ | refine wl_q rfl rfl rfl (qt_eqn tbok rfl rfl rfl) ?_
    refine wl_q rfl rfl rfl (qt_p tbok rfl) ?_
    refine wl_bool (fun hodd => ?_) (fun hodd => ?_)
    · have ho2 : k1 % 2 = 1 := (by have h0 := of_decide_eq_true hodd; omega)
      first | refine wl_g rfl rfl rfl rfl (qt_p tbok rfl) ?_ | refine wl_skip rfl rfl rfl rfl rfl ?_
      first | refine wl_g rfl rfl rfl rfl (qt_p tbok rfl) ?_ | refine wl_skip rfl rfl rfl rfl rfl ?_
      first | refine wl_g rfl rfl rfl rfl (qt_p tbok rfl) ?_ | refine wl_skip rfl rfl rfl rfl rfl ?_
      refine wl_q rfl rfl rfl (qt_p tbok rfl) ?_
      refine wl_done ?_
      refine nk_code ?_
      refine wc_yes rfl ?_
      refine wc_seq ?_
      refine wc_seq ?_
      refine wc_region ?_
      refine wl_q rfl rfl rfl (qt_p tbok rfl) ?_
      refine wl_q rfl rfl rfl (qt_len tbok rfl rfl) ?_
      first | refine wl_q rfl rfl rfl (qt_p tbok rfl) ?_ | refine wl_q rfl rfl rfl (qt_eqn tbok rfl rfl rfl) ?_
      refine wl_as (v' := .c (.bool false)) (congrArg (fun z => V.c (C.bool z)) (decide_eq_false (by omega))) ?_
      refine wl_done ?_
      refine nk_code ?_
      refine wc_no rfl ?_
      refine wc_skip ?_
      refine nk_code ?_
      refine wc_seq ?_
      refine wc_seq ?_
      refine wc_region ?_
      refine wl_q rfl rfl rfl (qt_p tbok rfl) ?_
      refine wl_q rfl rfl rfl (qt_p tbok rfl) ?_
      refine wl_as (v' := .c (.i64 ((k1 % 2 : Nat) : Int))) (congrArg (fun z => V.c (C.i64 z)) (by omega)) ?_
      first | refine wl_q rfl rfl rfl (qt_p tbok rfl) ?_ | refine wl_q rfl rfl rfl (qt_eqn tbok rfl rfl rfl) ?_
      refine wl_as (v' := .c (.bool true)) (congrArg (fun z => V.c (C.bool z)) (decide_eq_true (by omega))) ?_
      refine wl_done ?_
      refine nk_code ?_
      refine wc_yes rfl ?_
      refine wc_tail 5 follows (by kernel_rfl) ?_
      refine wq_q rfl rfl rfl (qt_p tbok rfl) ?_
      refine wq_q rfl rfl rfl (qt_p tbok rfl) ?_
      refine wq_q rfl rfl rfl (qt_load_ag (l := bc s) tbok rfl rfl rfl hbs (rs_cells (g5.sub (flat_head hs) (fun h => by cases h)) (off_new (newKey htr) (off_new (newKey ho) off_nil)))) ?_
      refine wq_q rfl rfl rfl (qt_load_ag (l := bc t1) tbok rfl rfl rfl hb1 (rs_lk .here at0)) ?_
      refine wq_call (.agg (bc (nodeH s t1))) (by kernel_rfl) rfl rfl (fun w1 _ => node_c hs g4) ?_
      refine wq_done ?_
      refine wl_ef rfl (ef_store (cs' := bc (nodeH s t1)) tbok rfl rfl rfl rfl .here rfl (by rw [hb1]; decide) (spl_all (by rw [hb1]; rfl)) ?_)
      refine wl_done ?_
      refine nk_code ?_
      refine wc_region ?_
      refine wl_q rfl rfl rfl (qt_p tbok rfl) ?_
      first | refine wl_q rfl rfl rfl (qt_sl tbok rfl rfl rfl rfl) ?_ | refine wl_q rfl rfl rfl (qt_sa tbok rfl rfl rfl rfl) ?_
      refine wl_q rfl rfl rfl (qt_p tbok rfl) ?_
      refine wl_done ?_
      refine nk_code ?_
      refine wc_region ?_
      refine wl_q rfl rfl rfl (qt_p tbok rfl) ?_
      refine wl_q rfl rfl rfl (qt_p tbok rfl) ?_
      refine wl_as (v' := .c (.i64 ((k1 / 2 : Nat) : Int))) (congrArg (fun z => V.c (C.i64 z)) (by omega)) ?_
      refine wl_q rfl rfl rfl (qt_p tbok rfl) ?_
      refine wl_q rfl rfl rfl (qt_p tbok rfl) ?_
      refine wl_as (v' := .c (.i64 ((pw P2.length : Int) - 1))) (congrArg (fun z => V.c (C.i64 z)) (by omega)) ?_
      refine wl_q rfl rfl rfl (qt_p tbok rfl) ?_
      refine wl_q rfl rfl rfl (qt_p tbok rfl) ?_
      refine wl_done ?_
      exact nk_round (i := (k1, t1, s :: P2, .at ar ao, c1)) (k1 / 2, nodeH s t1, P2, (Ad.at ar ao).adv 1 c1 32, c1 - 1) ⟨fun x hx => g1 x (by simp [hx]), by show k1 / 2 < pw P2.length; omega, by show P2.length ≤ 60; omega, rfl, by (have h2 := g5.advz (k := 1) (m := c1) (z := 32) (by rw [bc_len, flat_len g1]; omega)); rw [flat_drop hs] at h2; exact h2, by show P2.length ≤ c1 - 1; omega, by rw [← g7]; show _ = cl (k1 / 2) (if k1 % 2 = 1 then nodeH s t1 else nodeH t1 s) P2; rw [if_pos ho2]⟩ (by show P2.length < P2.length + 1; omega) ⟨rfl, rfl, rfl, rfl, rfl, trivial⟩ (fun w hw => hw)
    · have ho2 : ¬ k1 % 2 = 1 := (by have h0 := of_decide_eq_false hodd; omega)
      first | refine wl_g rfl rfl rfl rfl (qt_p tbok rfl) ?_ | refine wl_skip rfl rfl rfl rfl rfl ?_
      first | refine wl_g rfl rfl rfl rfl (qt_p tbok rfl) ?_ | refine wl_skip rfl rfl rfl rfl rfl ?_
      first | refine wl_g rfl rfl rfl rfl (qt_p tbok rfl) ?_ | refine wl_skip rfl rfl rfl rfl rfl ?_
      refine wl_as (v' := .c (.bool true)) (congrArg (fun z => V.c (C.bool z)) (decide_eq_true (by omega))) ?_
      refine wl_q rfl rfl rfl (qt_p tbok rfl) ?_
      refine wl_done ?_
      refine nk_code ?_
      refine wc_yes rfl ?_
      refine wc_seq ?_
      refine wc_seq ?_
      refine wc_region ?_
      refine wl_q rfl rfl rfl (qt_p tbok rfl) ?_
      refine wl_q rfl rfl rfl (qt_len tbok rfl rfl) ?_
      first | refine wl_q rfl rfl rfl (qt_p tbok rfl) ?_ | refine wl_q rfl rfl rfl (qt_eqn tbok rfl rfl rfl) ?_
      refine wl_as (v' := .c (.bool false)) (congrArg (fun z => V.c (C.bool z)) (decide_eq_false (by omega))) ?_
      refine wl_done ?_
      refine nk_code ?_
      refine wc_no rfl ?_
      refine wc_skip ?_
      refine nk_code ?_
      refine wc_seq ?_
      refine wc_seq ?_
      refine wc_region ?_
      refine wl_q rfl rfl rfl (qt_p tbok rfl) ?_
      refine wl_q rfl rfl rfl (qt_p tbok rfl) ?_
      refine wl_as (v' := .c (.i64 ((k1 % 2 : Nat) : Int))) (congrArg (fun z => V.c (C.i64 z)) (by omega)) ?_
      first | refine wl_q rfl rfl rfl (qt_p tbok rfl) ?_ | refine wl_q rfl rfl rfl (qt_eqn tbok rfl rfl rfl) ?_
      refine wl_as (v' := .c (.bool false)) (congrArg (fun z => V.c (C.bool z)) (decide_eq_false (by omega))) ?_
      refine wl_done ?_
      refine nk_code ?_
      refine wc_no rfl ?_
      refine wc_tail 5 follows (by kernel_rfl) ?_
      refine wq_q rfl rfl rfl (qt_load_ag (l := bc t1) tbok rfl rfl rfl hb1 (rs_lk .here at0)) ?_
      refine wq_q rfl rfl rfl (qt_p tbok rfl) ?_
      refine wq_q rfl rfl rfl (qt_p tbok rfl) ?_
      refine wq_q rfl rfl rfl (qt_load_ag (l := bc s) tbok rfl rfl rfl hbs (rs_cells (g5.sub (flat_head hs) (fun h => by cases h)) (off_new (newKey htr) (off_new (newKey ho) off_nil)))) ?_
      refine wq_call (.agg (bc (nodeH t1 s))) (by kernel_rfl) rfl rfl (fun w1 _ => node_c g4 hs) ?_
      refine wq_done ?_
      refine wl_ef rfl (ef_store (cs' := bc (nodeH t1 s)) tbok rfl rfl rfl rfl .here rfl (by rw [hb1]; decide) (spl_all (by rw [hb1]; rfl)) ?_)
      refine wl_done ?_
      refine nk_code ?_
      refine wc_region ?_
      refine wl_q rfl rfl rfl (qt_p tbok rfl) ?_
      first | refine wl_q rfl rfl rfl (qt_sl tbok rfl rfl rfl rfl) ?_ | refine wl_q rfl rfl rfl (qt_sa tbok rfl rfl rfl rfl) ?_
      refine wl_q rfl rfl rfl (qt_p tbok rfl) ?_
      refine wl_done ?_
      refine nk_code ?_
      refine wc_region ?_
      refine wl_q rfl rfl rfl (qt_p tbok rfl) ?_
      refine wl_q rfl rfl rfl (qt_p tbok rfl) ?_
      refine wl_as (v' := .c (.i64 ((k1 / 2 : Nat) : Int))) (congrArg (fun z => V.c (C.i64 z)) (by omega)) ?_
      refine wl_q rfl rfl rfl (qt_p tbok rfl) ?_
      refine wl_q rfl rfl rfl (qt_p tbok rfl) ?_
      refine wl_as (v' := .c (.i64 ((pw P2.length : Int) - 1))) (congrArg (fun z => V.c (C.i64 z)) (by omega)) ?_
      refine wl_q rfl rfl rfl (qt_p tbok rfl) ?_
      refine wl_q rfl rfl rfl (qt_p tbok rfl) ?_
      refine wl_done ?_
      exact nk_round (i := (k1, t1, s :: P2, .at ar ao, c1)) (k1 / 2, nodeH t1 s, P2, (Ad.at ar ao).adv 1 c1 32, c1 - 1) ⟨fun x hx => g1 x (by simp [hx]), by show k1 / 2 < pw P2.length; omega, by show P2.length ≤ 60; omega, rfl, by (have h2 := g5.advz (k := 1) (m := c1) (z := 32) (by rw [bc_len, flat_len g1]; omega)); rw [flat_drop hs] at h2; exact h2, by show P2.length ≤ c1 - 1; omega, by rw [← g7]; show _ = cl (k1 / 2) (if k1 % 2 = 1 then nodeH s t1 else nodeH t1 s) P2; rw [if_neg ho2]⟩ (by show P2.length < P2.length + 1; omega) ⟨rfl, rfl, rfl, rfl, rfl, trivial⟩ (fun w hw => hw)
  · have hnil : P1 = [] := (by cases P1 with | nil => rfl | cons s P2 => exact absurd (of_decide_eq_false h16) (by have h0 := pw_pos P2.length; show ¬ ¬ (0 : Int) < ((2 * pw P2.length : Nat) : Int) - 1; omega))
    subst hnil
    have g8 : t1 = cl k t P := g7
    subst g8
    refine wc_exit rfl ?_
    refine nk_code ?_
    refine wc_seq ?_
    refine wc_region ?_
    refine wl_q rfl rfl rfl (qt_load_ag (l := bc (cl k t P)) tbok rfl rfl rfl hb1 (rs_lk .here at0)) ?_
    refine wl_q rfl rfl rfl (qt_p tbok rfl) ?_
    refine wl_q rfl rfl rfl (qt_len tbok rfl rfl) ?_
    first | refine wl_q rfl rfl rfl (qt_p tbok rfl) ?_ | refine wl_q rfl rfl rfl (qt_eqn tbok rfl rfl rfl) ?_
    refine wl_as (v' := .c (.bool true)) (rfl) ?_
    refine wl_ef rfl (ef_store (cs' := bc (cl k t P)) tbok rfl rfl rfl rfl (.there .here) hb1 (Nat.le_of_ble_eq_true rfl) (spl_all hb1) ?_)
    refine wl_q rfl rfl rfl (qt_p tbok rfl) ?_
    refine wl_done ?_
    refine nk_code ?_
    refine wc_ret ?_
    try dsimp only
    exact fin2 rfl (rv_ag (l := bc (cl k t P)) tbok rfl rfl rfl hb1 (rs_lk (.there .here) at0)) (rv_tmp rfl) (fun w' hw => ⟨rfl, hw.all (new_cons (newKey htr) (new_cons (newKey ho) new_nil))⟩)
end Go.Proofs.Ytjhmcmadleabjaa

set_option maxRecDepth 100000
namespace Go.Proofs.Ytjhmcmadleabjaa
open Go Go.Hw Go.Proofs

theorem half_c {w : World} {n j : Nat} (h1 : pw j < n) (h2 : n ≤ 2 * pw j) (hj : j ≤ 60) : CallsV Try.prog 117 [.c (.i64 (n : Int))] w fun en w' => en = .returned (V.c (.i64 (pw j : Int))).den ∧ St w [] w' := by
  have hq := pw_60 hj
  refine calls_in (tb := tb) (fn := Try.f117) Try.func117 rfl rfl rfl [(0, .c (.i64 (n : Int)))] rfl [] (St.refl _) ?_
  refine wc_seq ?_
  refine wc_region ?_
  refine wl_q rfl rfl rfl (qt_p tbok rfl) ?_
  refine wl_done ?_
  refine nk_code ?_
  refine wc_seq ?_
  refine wc_region ?_
  refine wl_q rfl rfl rfl (qt_p tbok rfl) ?_
  refine wl_done ?_
  refine nk_code ?_
  refine wc_seq ?_
  refine wc_block ?_
  refine wc_loop (ι := Nat) (fun i => i ≤ j) (fun i => [(3, .c (.i64 (pw i : Int))), (0, .c (.i64 (n : Int)))]) (fun i => []) (fun i => j - i) 0 (Nat.zero_le _) (nk_start ⟨rfl, rfl, trivial⟩ (fun w hw => hw)) (fun i hi => ?_)
  have hm := pw_mono hi
  have hpi := pw_pos i
  refine wc_seq ?_
  refine wc_seq ?_
  refine wc_region ?_
  refine wl_q rfl rfl rfl (qt_p tbok rfl) ?_
  refine wl_q rfl rfl rfl (qt_p tbok rfl) ?_
  refine wl_q rfl rfl rfl (qt_p tbok rfl) ?_
  refine wl_q rfl rfl rfl (qt_p tbok rfl) ?_
  refine wl_q rfl rfl rfl (qt_p tbok rfl) ?_
  refine wl_done ?_
  refine nk_code ?_
  refine wc_cond rfl (fun h8 => ?_) (fun h8 => ?_)
  · have hi' : i < j := Nat.lt_of_le_of_ne hi (fun e => by subst e; have h0 := of_decide_eq_true h8; omega)
    have hm2 : pw (i + 1) ≤ pw j := pw_mono hi'
    have hpw : pw (i + 1) = 2 * pw i := rfl
    refine wc_skip ?_
    refine nk_code ?_
    refine wc_block ?_
    refine wc_region ?_
    refine wl_q rfl rfl rfl (qt_p tbok rfl) ?_
    refine wl_q rfl rfl rfl (qt_p tbok rfl) ?_
    refine wl_as (v' := .c (.i64 (pw (i + 1) : Int))) (congrArg (fun z => V.c (C.i64 z)) (by omega)) ?_
    refine wl_q rfl rfl rfl (qt_p tbok rfl) ?_
    refine wl_done ?_
    exact nk_round (i + 1) hi' (by omega) ⟨rfl, rfl, trivial⟩ (fun _ h => h)
  · have he : i = j := (Nat.le_antisymm hi (Nat.le_of_not_lt (fun h => by have hm2 : pw (i + 1) ≤ pw j := pw_mono h; have hpw : pw (i + 1) = 2 * pw i := rfl; have h0 := of_decide_eq_false h8; omega)))
    subst he
    refine wc_exit rfl ?_
    refine nk_code ?_
    refine wc_seq ?_
    refine wc_region ?_
    refine wl_q rfl rfl rfl (qt_p tbok rfl) ?_
    refine wl_q rfl rfl rfl (qt_p tbok rfl) ?_
    refine wl_done ?_
    refine nk_code ?_
    refine wc_ret ?_
    try dsimp only
    exact fin1 rfl (rv_tmp rfl) (fun w' hw => ⟨rfl, hw⟩)
end Go.Proofs.Ytjhmcmadleabjaa

set_option maxRecDepth 100000
namespace Go.Proofs.Ytjhmcmadleabjaa
open Go Go.Hw Go.Proofs

/-- A slice of 32-byte elements, its first h cut off one by one. -/
def adN : Nat → Ad × Nat → Ad × Nat
  | 0, x => x
  | h + 1, x => ((adN h x).1.adv 1 (adN h x).2 32, (adN h x).2 - 1)
theorem adN_cells {w : World} {P : List (List UInt8)} {pa : Ad} {pc : Nat} (hP : A32 P) (hc : Cells w pa (bc P.flatten)) (hcap : P.length ≤ pc) : ∀ h, h ≤ P.length → Cells w (adN h (pa, pc)).1 (bc (P.drop h).flatten) ∧ (adN h (pa, pc)).2 = pc - h
  | 0, _ => ⟨hc, rfl⟩
  | h + 1, hh => by
    obtain ⟨h1, h2⟩ := adN_cells hP hc hcap h (by omega)
    have hlt : h < P.length := hh
    have hd : P.drop h = P[h] :: P.drop (h + 1) := List.drop_eq_getElem_cons hlt
    have hs : P[h].length = 32 := hP _ (List.getElem_mem hlt)
    have hA : A32 (P[h] :: P.drop (h + 1)) := fun x hx => hP x (by rw [← hd] at hx; exact List.mem_of_mem_drop hx)
    refine ⟨?_, by show (adN h (pa, pc)).2 - 1 = _; omega⟩
    rw [hd] at h1
    have h3 := h1.advz (k := 1) (m := (adN h (pa, pc)).2) (z := 32) (by rw [bc_len, flat_len hA, h2, List.length_cons, List.length_drop]; omega)
    rw [flat_drop hs] at h3
    exact h3

theorem cl_snoc : ∀ (ps : List (List UInt8)) (k : Nat) (t s : List UInt8), k < 2 * pw ps.length → cl k t (ps ++ [s]) = if k < pw ps.length then nodeH (cl k t ps) s else nodeH s (cl (k - pw ps.length) t ps)
  | [], k, t, s, hk => by
    have hk2 : k < 2 := hk
    show (if k % 2 = 1 then nodeH s t else nodeH t s) = if k < 1 then nodeH t s else nodeH s t
    by_cases h : k < 1
    · rw [if_neg (by omega), if_pos h]
    · rw [if_pos (by omega), if_neg h]
  | q :: qs, k, t, s, hk => by
    have hpw : pw (q :: qs).length = 2 * pw qs.length := rfl
    have hpos := pw_pos qs.length
    show cl (k / 2) _ (qs ++ [s]) = _
    rw [cl_snoc qs (k / 2) _ s (by omega)]
    by_cases h : k < pw (q :: qs).length
    · rw [if_pos h, if_pos (by omega)]; rfl
    · rw [if_neg h, if_neg (by omega)]
      show _ = nodeH s (cl ((k - pw (q :: qs).length) / 2) (if (k - pw (q :: qs).length) % 2 = 1 then nodeH q t else nodeH t q) qs)
      have e1 : (k - pw (q :: qs).length) / 2 = k / 2 - pw qs.length := by omega
      have e2 : (k - pw (q :: qs).length) % 2 = k % 2 := by omega
      rw [e1, e2]

theorem up_c : ∀ (h : Nat) {w : World} {k : Nat} {t : List UInt8} {P : List (List UInt8)} {pa : Ad} {pc : Nat}, A32 P → k < pw h → h ≤ 60 → h ≤ P.length → P.length ≤ 1073741824 → t.length = 32 → Cells w pa (bc P.flatten) → P.length ≤ pc →
    CallsV Try.prog 101 [.c (.i64 (pw h : Int)), .c (.i64 (k : Int)), .agg (bc t), .c (.slc pa P.length pc)] w fun en w' => en = .returned (V.t3 (.agg (bc (cl k t (P.take h)))) (.c (.slc (adN h (pa, pc)).1 (P.length - h) (adN h (pa, pc)).2)) (.c (.bool true))).den ∧ St w [] w' := by
  intro h
  induction h
  case zero =>
    intro w k t P pa pc hP hk hh hhP hmax ht hc hcap
    have hb1 : (bc t).length = 32 := by rw [bc_len, ht]
    refine calls_in (tb := tb) (fn := Try.f101) Try.func101 rfl rfl rfl [(0, .c (.i64 (pw 0 : Int))), (1, .c (.i64 (k : Int))), (2, .agg (bc t)), (3, .c (.slc pa P.length pc))] rfl [] (St.refl _) ?_
    refine wc_seq ?_
    refine wc_region ?_
    refine wl_ef rfl (ef_box rfl rfl rfl (fun b hb => ?_))
    refine wl_ef rfl (ef_alloc zero22 rfl rfl (fun o ho => ?_))
    refine wl_q rfl rfl rfl (qt_p tbok rfl) ?_
    refine wl_q rfl rfl rfl (qt_p tbok rfl) ?_
    refine wl_done ?_
    refine nk_code ?_
    refine wc_seq ?_
    refine wc_seq ?_
    refine wc_region ?_
    refine wl_q rfl rfl rfl (qt_p tbok rfl) ?_
    refine wl_q rfl rfl rfl (qt_p tbok rfl) ?_
    refine wl_done ?_
    refine nk_code ?_
    refine wc_yes rfl ?_
    refine wc_seq ?_
    refine wc_region ?_
    refine wl_q rfl rfl rfl (qt_load_ag (l := bc t) tbok rfl rfl rfl hb1 (rs_lk (.there .here) at0)) ?_
    refine wl_q rfl rfl rfl (qt_p tbok rfl) ?_
    refine wl_ef rfl (ef_store (cs' := bc t) tbok rfl rfl rfl rfl .here hb1 (Nat.le_of_ble_eq_true rfl) (spl_all hb1) ?_)
    refine wl_q rfl rfl rfl (qt_p tbok rfl) ?_
    refine wl_q rfl rfl rfl (qt_p tbok rfl) ?_
    refine wl_done ?_
    refine nk_code ?_
    refine wc_ret ?_
    try dsimp only
    exact fin3 rfl (rv_ag (l := bc t) tbok rfl rfl rfl hb1 (rs_lk .here at0)) (rv_tmp rfl) (rv_tmp rfl) (fun w' hw => ⟨rfl, hw.all (new_cons (newKey ho) (new_cons (newKey hb) new_nil))⟩)
  case succ h ih =>
    intro w k t P pa pc hP hk hh hhP hmax ht hc hcap
    have hb1 : (bc t).length = 32 := by rw [bc_len, ht]
    have hpw : pw (h + 1) = 2 * pw h := rfl
    have hpos := pw_pos h
    have hp60 := pw_60 hh
    have hlt : h < P.length := hhP
    obtain ⟨hac, hacp⟩ := adN_cells hP hc hcap h (by omega)
    have hd : P.drop h = P[h] :: P.drop (h + 1) := List.drop_eq_getElem_cons hlt
    have hs : P[h].length = 32 := hP _ (List.getElem_mem hlt)
    have hbs : (bc P[h]).length = 32 := by rw [bc_len, hs]
    rw [hd] at hac
    have htk : P.take (h + 1) = P.take h ++ [P[h]] := by rw [List.take_add_one, List.getElem?_eq_getElem hlt]; rfl
    have htl : (P.take h).length = h := List.length_take_of_le (by omega)
    have hsn := cl_snoc (P.take h) k t P[h] (by rw [htl]; omega)
    rw [← htk, htl] at hsn
    have hnext : adN (h + 1) (pa, pc) = ((adN h (pa, pc)).1.adv 1 (adN h (pa, pc)).2 32, (adN h (pa, pc)).2 - 1) := rfl
    generalize hy : adN h (pa, pc) = y at *
    obtain ⟨ya, yc⟩ := y
    have hyc : yc = pc - h := hacp
    obtain ⟨yr, yo, hya⟩ := cells_nn hac (by rw [List.flatten_cons, bc_len, List.length_append]; omega)
    have hya2 : ya = .at yr yo := hya
    subst hya2
    rw [hnext]
    refine calls_in (tb := tb) (fn := Try.f101) Try.func101 rfl rfl rfl [(0, .c (.i64 (pw (h + 1) : Int))), (1, .c (.i64 (k : Int))), (2, .agg (bc t)), (3, .c (.slc pa P.length pc))] rfl [] (St.refl _) ?_
    refine wc_seq ?_
    refine wc_region ?_
    refine wl_ef rfl (ef_box rfl rfl rfl (fun b hb => ?_))
    refine wl_ef rfl (ef_alloc zero22 rfl rfl (fun o ho => ?_))
    refine wl_q rfl rfl rfl (qt_p tbok rfl) ?_
    refine wl_q rfl rfl rfl (qt_p tbok rfl) ?_
    refine wl_done ?_
    refine nk_code ?_
    refine wc_seq ?_
    refine wc_seq ?_
    refine wc_region ?_
    refine wl_q rfl rfl rfl (qt_p tbok rfl) ?_
    refine wl_q rfl rfl rfl (qt_p tbok rfl) ?_
    refine wl_as (v' := .c (.bool false)) (congrArg (fun z => V.c (C.bool z)) (decide_eq_false (by omega))) ?_
    refine wl_done ?_
    refine nk_code ?_
    refine wc_no rfl ?_
    refine wc_skip ?_
    refine nk_code ?_
    refine wc_seq ?_
    refine wc_region ?_
    refine wl_q rfl rfl rfl (qt_p tbok rfl) ?_
    refine wl_ef rfl (ef_pure (v := .c (.i64 (pw h : Int))) (by kernel_rfl) rfl rfl (fun w1 _ => half_c (by omega) (by omega) (by omega)) ?_)
    refine wl_q rfl rfl rfl (qt_p tbok rfl) ?_
    refine wl_done ?_
    refine nk_code ?_
    refine wc_seq ?_
    refine wc_seq ?_
    refine wc_region ?_
    refine wl_q rfl rfl rfl (qt_p tbok rfl) ?_
    refine wl_q rfl rfl rfl (qt_p tbok rfl) ?_
    refine wl_q rfl rfl rfl (qt_p tbok rfl) ?_
    refine wl_done ?_
    refine nk_code ?_
    refine wc_cond rfl (fun h26 => ?_) (fun h26 => ?_)
    · have hkh : k < pw h := (by have h0 := of_decide_eq_true h26; omega)
      rw [if_pos hkh] at hsn
      have htp : (bc (cl k t (P.take h))).length = 32 := (by rw [bc_len, cl_len _ _ _ ht])
      refine wc_seq ?_
      refine wc_region ?_
      refine wl_q rfl rfl rfl (qt_p tbok rfl) ?_
      refine wl_q rfl rfl rfl (qt_p tbok rfl) ?_
      refine wl_q rfl rfl rfl (qt_load_ag (l := bc t) tbok rfl rfl rfl hb1 (rs_lk (.there .here) at0)) ?_
      refine wl_q rfl rfl rfl (qt_p tbok rfl) ?_
      refine wl_ef rfl (ef_pure (v := .t3 (.agg (bc (cl k t (P.take h)))) (.c (.slc (.at yr yo) (P.length - h) yc)) (.c (.bool true))) (by kernel_rfl) rfl rfl (fun w1 h1 => by have h2 := ih hP hkh (by omega) (by omega) hmax ht (cells_rd (rd_cells hc (off_new (newKey ho) (off_new (newKey hb) off_nil))) h1) hcap; rw [hy] at h2; exact h2) ?_)
      refine wl_q rfl rfl rfl (qt_p tbok rfl) ?_
      refine wl_q rfl rfl rfl (qt_p tbok rfl) ?_
      refine wl_q rfl rfl rfl (qt_p tbok rfl) ?_
      refine wl_q rfl rfl rfl (qt_p tbok rfl) ?_
      refine wl_ef rfl (ef_alloc zero22 rfl rfl (fun tr htr => ?_))
      refine wl_ef rfl (ef_store (cs' := bc (cl k t (P.take h))) tbok rfl rfl rfl rfl .here htp (Nat.le_of_ble_eq_true rfl) (spl_all htp) ?_)
      refine wl_q rfl rfl rfl (qt_p tbok rfl) ?_
      refine wl_q rfl rfl rfl (qt_p tbok rfl) ?_
      refine wl_done ?_
      refine nk_code ?_
      refine wc_seq ?_
      refine wc_seq ?_
      refine wc_region ?_
      refine wl_q rfl rfl rfl (qt_p tbok rfl) ?_
      refine wl_q rfl rfl rfl (qt_p tbok rfl) ?_
      refine wl_q rfl rfl rfl (qt_p tbok rfl) ?_
      first | refine wl_g rfl rfl rfl rfl (qt_p tbok rfl) ?_ | refine wl_skip rfl rfl rfl rfl rfl ?_
      first | refine wl_g rfl rfl rfl rfl (qt_len tbok rfl rfl) ?_ | refine wl_skip rfl rfl rfl rfl rfl ?_
      first | refine wl_g rfl rfl rfl rfl (qt_p tbok rfl) ?_ | refine wl_g rfl rfl rfl rfl (qt_eqn tbok rfl rfl rfl) ?_ | refine wl_skip rfl rfl rfl rfl rfl ?_
      refine wl_as (v' := .c (.bool false)) (congrArg (fun z => V.c (C.bool z)) (decide_eq_false (by omega))) ?_
      refine wl_q rfl rfl rfl (qt_p tbok rfl) ?_
      refine wl_done ?_
      refine nk_code ?_
      refine wc_no rfl ?_
      refine wc_skip ?_
      refine nk_code ?_
      refine wc_seq ?_
      refine wc_draw (s0 := [⟨.at tr 0, bc (cl k t (P.take h)), 22, (0, 0), []⟩]) 10 follows ?_
      refine wh_q 0 rfl (by kernel_rfl) rfl rfl rfl (qt_load_ag (l := bc (cl k t (P.take h))) tbok rfl rfl rfl htp (rs_lk .here at0)) (fun w hw => Rm.sub_St (Rm.sub_St hw (.there .here) (newKey ho)) (.there .here) (newKey hb)) ?_
      refine wh_q 1 rfl (by kernel_rfl) rfl rfl rfl (qt_p tbok rfl) (fun w hw => Rm.sub_St (Rm.sub_St hw (.there .here) (newKey ho)) (.there .here) (newKey hb)) ?_
      refine wh_q 2 rfl (by kernel_rfl) rfl rfl rfl (qt_p tbok rfl) (fun w hw => Rm.sub_St (Rm.sub_St hw (.there .here) (newKey ho)) (.there .here) (newKey hb)) ?_
      refine wh_q 3 rfl (by kernel_rfl) rfl rfl rfl (qt_load_ag (l := bc P[h]) tbok rfl rfl rfl hbs (rs_cells (hac.sub (flat_head hs) (fun h => by cases h)) (off_new (newKey htr) off_nil))) (fun w hw => Rm.sub_St (Rm.sub_St hw (.there .here) (newKey ho)) (.there .here) (newKey hb)) ?_
      refine wh_q 5 rfl (by kernel_rfl) rfl rfl rfl (qt_p tbok rfl) (fun w hw => Rm.sub_St (Rm.sub_St hw (.there .here) (newKey ho)) (.there .here) (newKey hb)) ?_
      first | refine wh_q 6 rfl (by kernel_rfl) rfl rfl rfl (qt_sl tbok rfl rfl rfl rfl) (fun w hw => Rm.sub_St (Rm.sub_St hw (.there .here) (newKey ho)) (.there .here) (newKey hb)) ?_ | refine wh_q 6 rfl (by kernel_rfl) rfl rfl rfl (qt_sa tbok rfl rfl rfl rfl) (fun w hw => Rm.sub_St (Rm.sub_St hw (.there .here) (newKey ho)) (.there .here) (newKey hb)) ?_
      refine wh_one 4 (by kernel_rfl) (wo_ef rfl rfl (ef_pure (v := .agg (bc (nodeH (cl k t (P.take h)) P[h]))) (by kernel_rfl) rfl rfl (fun w1 _ => node2_c (cl_len _ _ _ ht) hs) ⟨fun w hw => Rm.sub_St (Rm.sub_St hw (.there .here) (newKey ho)) (.there .here) (newKey hb), ?_⟩))
      refine wh_one 7 (by kernel_rfl) (wo_ef rfl rfl (ef_store (cs' := bc (nodeH (cl k t (P.take h)) P[h])) tbok rfl rfl rfl rfl (.there .here) rfl (Nat.le_of_ble_eq_true rfl) (spl_all rfl) ⟨fun w hw => Rm.sub_St (Rm.sub_St hw (.there .here) (newKey ho)) (.there .here) (newKey hb), ?_⟩))
      refine wh_q 8 rfl (by kernel_rfl) rfl rfl rfl (qt_p tbok rfl) (fun w hw => Rm.sub_St (Rm.sub_St hw (.there .here) (newKey ho)) (.there .here) (newKey hb)) ?_
      refine wh_q 9 rfl (by kernel_rfl) rfl rfl rfl (qt_p tbok rfl) (fun w hw => Rm.sub_St (Rm.sub_St hw (.there .here) (newKey ho)) (.there .here) (newKey hb)) ?_
      refine wh_done (by kernel_rfl) ?_
      refine nk_code ?_
      refine wc_ret ?_
      try dsimp only
      rw [hsn]
      exact fin3 rfl (rv_ag (l := bc (nodeH (cl k t (P.take h)) P[h])) tbok rfl rfl rfl rfl (rs_lk (.there .here) at0)) (rv_tmp rfl) (rv_tmp rfl) (fun w' hw => ⟨rfl, hw.all (new_cons (newKey htr) (new_cons (newKey ho) (new_cons (newKey hb) new_nil)))⟩)
    · have hkh : ¬ k < pw h := (by have h0 := of_decide_eq_false h26; omega)
      rw [if_neg hkh] at hsn
      have htp : (bc (cl (k - pw h) t (P.take h))).length = 32 := (by rw [bc_len, cl_len _ _ _ ht])
      refine wc_skip ?_
      refine nk_code ?_
      refine wc_seq ?_
      refine wc_region ?_
      refine wl_q rfl rfl rfl (qt_p tbok rfl) ?_
      refine wl_q rfl rfl rfl (qt_p tbok rfl) ?_
      refine wl_q rfl rfl rfl (qt_p tbok rfl) ?_
      refine wl_as (v' := .c (.i64 (pw h : Int))) (congrArg (fun z => V.c (C.i64 z)) (by omega)) ?_
      refine wl_q rfl rfl rfl (qt_p tbok rfl) ?_
      refine wl_q rfl rfl rfl (qt_p tbok rfl) ?_
      refine wl_q rfl rfl rfl (qt_p tbok rfl) ?_
      refine wl_as (v' := .c (.i64 ((k - pw h : Nat) : Int))) (congrArg (fun z => V.c (C.i64 z)) (by omega)) ?_
      refine wl_q rfl rfl rfl (qt_load_ag (l := bc t) tbok rfl rfl rfl hb1 (rs_lk (.there .here) at0)) ?_
      refine wl_q rfl rfl rfl (qt_p tbok rfl) ?_
      refine wl_ef rfl (ef_pure (v := .t3 (.agg (bc (cl (k - pw h) t (P.take h)))) (.c (.slc (.at yr yo) (P.length - h) yc)) (.c (.bool true))) (by kernel_rfl) rfl rfl (fun w1 h1 => by have h2 := ih hP (k := k - pw h) (by omega) (by omega) (by omega) hmax ht (cells_rd (rd_cells hc (off_new (newKey ho) (off_new (newKey hb) off_nil))) h1) hcap; rw [hy] at h2; exact h2) ?_)
      refine wl_q rfl rfl rfl (qt_p tbok rfl) ?_
      refine wl_q rfl rfl rfl (qt_p tbok rfl) ?_
      refine wl_q rfl rfl rfl (qt_p tbok rfl) ?_
      refine wl_q rfl rfl rfl (qt_p tbok rfl) ?_
      refine wl_ef rfl (ef_alloc zero22 rfl rfl (fun tr htr => ?_))
      refine wl_ef rfl (ef_store (cs' := bc (cl (k - pw h) t (P.take h))) tbok rfl rfl rfl rfl .here htp (Nat.le_of_ble_eq_true rfl) (spl_all htp) ?_)
      refine wl_q rfl rfl rfl (qt_p tbok rfl) ?_
      refine wl_q rfl rfl rfl (qt_p tbok rfl) ?_
      refine wl_done ?_
      refine nk_code ?_
      refine wc_seq ?_
      refine wc_seq ?_
      refine wc_region ?_
      refine wl_q rfl rfl rfl (qt_p tbok rfl) ?_
      refine wl_q rfl rfl rfl (qt_p tbok rfl) ?_
      refine wl_q rfl rfl rfl (qt_p tbok rfl) ?_
      first | refine wl_g rfl rfl rfl rfl (qt_p tbok rfl) ?_ | refine wl_skip rfl rfl rfl rfl rfl ?_
      first | refine wl_g rfl rfl rfl rfl (qt_len tbok rfl rfl) ?_ | refine wl_skip rfl rfl rfl rfl rfl ?_
      first | refine wl_g rfl rfl rfl rfl (qt_p tbok rfl) ?_ | refine wl_g rfl rfl rfl rfl (qt_eqn tbok rfl rfl rfl) ?_ | refine wl_skip rfl rfl rfl rfl rfl ?_
      refine wl_as (v' := .c (.bool false)) (congrArg (fun z => V.c (C.bool z)) (decide_eq_false (by omega))) ?_
      refine wl_q rfl rfl rfl (qt_p tbok rfl) ?_
      refine wl_done ?_
      refine nk_code ?_
      refine wc_no rfl ?_
      refine wc_skip ?_
      refine nk_code ?_
      refine wc_seq ?_
      refine wc_draw (s0 := [⟨.at tr 0, bc (cl (k - pw h) t (P.take h)), 22, (0, 0), []⟩]) 10 follows ?_
      refine wh_q 0 rfl (by kernel_rfl) rfl rfl rfl (qt_p tbok rfl) (fun w hw => Rm.sub_St (Rm.sub_St hw (.there .here) (newKey ho)) (.there .here) (newKey hb)) ?_
      refine wh_q 1 rfl (by kernel_rfl) rfl rfl rfl (qt_p tbok rfl) (fun w hw => Rm.sub_St (Rm.sub_St hw (.there .here) (newKey ho)) (.there .here) (newKey hb)) ?_
      refine wh_q 2 rfl (by kernel_rfl) rfl rfl rfl (qt_load_ag (l := bc P[h]) tbok rfl rfl rfl hbs (rs_cells (hac.sub (flat_head hs) (fun h => by cases h)) (off_new (newKey htr) off_nil))) (fun w hw => Rm.sub_St (Rm.sub_St hw (.there .here) (newKey ho)) (.there .here) (newKey hb)) ?_
      refine wh_q 3 rfl (by kernel_rfl) rfl rfl rfl (qt_load_ag (l := bc (cl (k - pw h) t (P.take h))) tbok rfl rfl rfl htp (rs_lk .here at0)) (fun w hw => Rm.sub_St (Rm.sub_St hw (.there .here) (newKey ho)) (.there .here) (newKey hb)) ?_
      refine wh_q 5 rfl (by kernel_rfl) rfl rfl rfl (qt_p tbok rfl) (fun w hw => Rm.sub_St (Rm.sub_St hw (.there .here) (newKey ho)) (.there .here) (newKey hb)) ?_
      first | refine wh_q 6 rfl (by kernel_rfl) rfl rfl rfl (qt_sl tbok rfl rfl rfl rfl) (fun w hw => Rm.sub_St (Rm.sub_St hw (.there .here) (newKey ho)) (.there .here) (newKey hb)) ?_ | refine wh_q 6 rfl (by kernel_rfl) rfl rfl rfl (qt_sa tbok rfl rfl rfl rfl) (fun w hw => Rm.sub_St (Rm.sub_St hw (.there .here) (newKey ho)) (.there .here) (newKey hb)) ?_
      refine wh_one 4 (by kernel_rfl) (wo_ef rfl rfl (ef_pure (v := .agg (bc (nodeH P[h] (cl (k - pw h) t (P.take h))))) (by kernel_rfl) rfl rfl (fun w1 _ => node2_c hs (cl_len _ _ _ ht)) ⟨fun w hw => Rm.sub_St (Rm.sub_St hw (.there .here) (newKey ho)) (.there .here) (newKey hb), ?_⟩))
      refine wh_one 7 (by kernel_rfl) (wo_ef rfl rfl (ef_store (cs' := bc (nodeH P[h] (cl (k - pw h) t (P.take h)))) tbok rfl rfl rfl rfl (.there .here) rfl (Nat.le_of_ble_eq_true rfl) (spl_all rfl) ⟨fun w hw => Rm.sub_St (Rm.sub_St hw (.there .here) (newKey ho)) (.there .here) (newKey hb), ?_⟩))
      refine wh_q 8 rfl (by kernel_rfl) rfl rfl rfl (qt_p tbok rfl) (fun w hw => Rm.sub_St (Rm.sub_St hw (.there .here) (newKey ho)) (.there .here) (newKey hb)) ?_
      refine wh_q 9 rfl (by kernel_rfl) rfl rfl rfl (qt_p tbok rfl) (fun w hw => Rm.sub_St (Rm.sub_St hw (.there .here) (newKey ho)) (.there .here) (newKey hb)) ?_
      refine wh_done (by kernel_rfl) ?_
      refine nk_code ?_
      refine wc_ret ?_
      try dsimp only
      rw [hsn]
      exact fin3 rfl (rv_ag (l := bc (nodeH P[h] (cl (k - pw h) t (P.take h)))) tbok rfl rfl rfl rfl (rs_lk (.there .here) at0)) (rv_tmp rfl) (rv_tmp rfl) (fun w' hw => ⟨rfl, hw.all (new_cons (newKey htr) (new_cons (newKey ho) (new_cons (newKey hb) new_nil)))⟩)
end Go.Proofs.Ytjhmcmadleabjaa

set_option maxRecDepth 100000
namespace Go.Proofs.Ytjhmcmadleabjaa
open Go Go.Hw Go.Proofs

theorem eq30 : BArr Try.prog 10000 30 32 := barr_u8 tbok rfl rfl 9998
theorem eq22 : BArr Try.prog 10000 22 32 := barr_u8 tbok rfl rfl 9998
theorem ng30 : noGuard Try.prog 30 = true := by kernel_rfl
theorem ng22 : noGuard Try.prog 22 = true := by kernel_rfl

theorem check_c {w : World} {k : Nat} {t root : List UInt8} {P : List (List UInt8)} {pa : Ad} {pc : Nat} (hP : A32 P) (hk : k < pw P.length) (hh : P.length ≤ 60) (ht : t.length = 32) (hr : root.length = 32) (hc : Cells w pa (bc P.flatten)) (hcap : P.length ≤ pc) :
    CallsV Try.prog 64 [.agg (bc root), .c (.i64 (pw P.length : Int)), .c (.i64 (k : Int)), .agg (bc t), .c (.slc pa P.length pc)] w fun en w' => en = .returned (V.c (.bool (decide (cl k t P = root)))).den ∧ St w [] w' := by
  have hb1 : (bc t).length = 32 := by rw [bc_len, ht]
  have hb2 : (bc root).length = 32 := by rw [bc_len, hr]
  have hb3 : (bc (cl k t P)).length = 32 := by rw [bc_len, cl_len _ _ _ ht]
  refine calls_in (tb := tb) (fn := Try.f64) Try.func64 rfl rfl rfl [(0, .agg (bc root)), (1, .c (.i64 (pw P.length : Int))), (2, .c (.i64 (k : Int))), (3, .agg (bc t)), (4, .c (.slc pa P.length pc))] rfl [] (St.refl _) ?_
  refine wc_seq ?_
  refine wc_region ?_
  refine wl_ef rfl (ef_box rfl rfl rfl (fun b hb => ?_))
  refine wl_ef rfl (ef_box rfl rfl rfl (fun b2 hbb => ?_))
  refine wl_q rfl rfl rfl (qt_p tbok rfl) ?_
  refine wl_done ?_
  refine nk_code ?_
  refine wc_seq ?_
  refine wc_seq ?_
  refine wc_region ?_
  refine wl_q rfl rfl rfl (qt_p tbok rfl) ?_
  refine wl_q rfl rfl rfl (qt_p tbok rfl) ?_
  refine wl_as (v' := .c (.bool false)) (congrArg (fun z => V.c (C.bool z)) (decide_eq_false (by omega))) ?_
  refine wl_q rfl rfl rfl (qt_p tbok rfl) ?_
  first | refine wl_g rfl rfl rfl rfl (qt_p tbok rfl) ?_ | refine wl_skip rfl rfl rfl rfl rfl ?_
  first | refine wl_g rfl rfl rfl rfl (qt_p tbok rfl) ?_ | refine wl_skip rfl rfl rfl rfl rfl ?_
  first | refine wl_g rfl rfl rfl rfl (qt_p tbok rfl) ?_ | refine wl_skip rfl rfl rfl rfl rfl ?_
  refine wl_as (v' := .c (.bool false)) (congrArg (fun z => V.c (C.bool z)) (decide_eq_false (by omega))) ?_
  refine wl_q rfl rfl rfl (qt_p tbok rfl) ?_
  refine wl_done ?_
  refine nk_code ?_
  refine wc_no rfl ?_
  refine wc_skip ?_
  refine nk_code ?_
  refine wc_seq ?_
  refine wc_region ?_
  refine wl_q rfl rfl rfl (qt_p tbok rfl) ?_
  refine wl_q rfl rfl rfl (qt_p tbok rfl) ?_
  refine wl_q rfl rfl rfl (qt_load_ag (l := bc t) tbok rfl rfl rfl hb1 (rs_lk .here at0)) ?_
  refine wl_q rfl rfl rfl (qt_p tbok rfl) ?_
  refine wl_ef rfl (ef_pure (v := .t2 (.agg (bc (cl k t P))) (.c (.bool true))) (by kernel_rfl) rfl rfl (fun w1 h1 => climb_c hP hk hh ht (cells_rd (rd_cells hc (off_new (newKey hbb) (off_new (newKey hb) off_nil))) h1) hcap) ?_)
  refine wl_q rfl rfl rfl (qt_p tbok rfl) ?_
  refine wl_q rfl rfl rfl (qt_p tbok rfl) ?_
  refine wl_q rfl rfl rfl (qt_p tbok rfl) ?_
  refine wl_ef rfl (ef_alloc zero30 rfl rfl (fun tr htr => ?_))
  refine wl_ef rfl (ef_store (cs' := bc (cl k t P)) tbok rfl rfl rfl rfl .here hb3 (Nat.le_of_ble_eq_true rfl) (spl_all hb3) ?_)
  refine wl_q rfl rfl rfl (qt_p tbok rfl) ?_
  refine wl_done ?_
  refine nk_code ?_
  refine wc_seq ?_
  refine wc_region ?_
  refine wl_q rfl rfl rfl (qt_p tbok rfl) ?_
  refine wl_q rfl rfl rfl (qt_p tbok rfl) ?_
  refine wl_g rfl rfl rfl rfl (qt_load_ag (l := bc (cl k t P)) tbok rfl rfl rfl hb3 (rs_lk .here at0)) ?_
  refine wl_g rfl rfl rfl rfl (qt_load_ag (l := bc root) tbok rfl rfl rfl hb2 (rs_lk (.there (.there .here)) at0)) ?_
  refine wl_g rfl rfl rfl rfl (qt_eq_bytes eq30 ng30 rfl rfl (cl_len _ _ _ ht) hr) ?_
  refine wl_q rfl rfl rfl (qt_p tbok rfl) ?_
  refine wl_q rfl rfl rfl (qt_p tbok rfl) ?_
  refine wl_done ?_
  refine nk_code ?_
  refine wc_ret ?_
  try dsimp only
  exact fin1 rfl (rv_tmp rfl) (fun w' hw => ⟨rfl, hw.all (new_cons (newKey htr) (new_cons (newKey hbb) (new_cons (newKey hb) new_nil)))⟩)

theorem check2_c {w : World} {k : Nat} {t root : List UInt8} {P : List (List UInt8)} {pa : Ad} {pc : Nat} (hP : A32 P) (hk : k < pw P.length) (hh : P.length ≤ 60) (ht : t.length = 32) (hr : root.length = 32) (hc : Cells w pa (bc P.flatten)) (hcap : P.length ≤ pc) :
    CallsV Try.prog 68 [.agg (bc root), .c (.i64 (pw P.length : Int)), .c (.i64 (k : Int)), .agg (bc t), .c (.slc pa P.length pc)] w fun en w' => en = .returned (V.c (.bool (decide (cl k t P = root)))).den ∧ St w [] w' := by
  have hb1 : (bc t).length = 32 := by rw [bc_len, ht]
  have hb2 : (bc root).length = 32 := by rw [bc_len, hr]
  have hb3 : (bc (cl k t P)).length = 32 := by rw [bc_len, cl_len _ _ _ ht]
  refine calls_in (tb := tb) (fn := Try.f68) Try.func68 rfl rfl rfl [(0, .agg (bc root)), (1, .c (.i64 (pw P.length : Int))), (2, .c (.i64 (k : Int))), (3, .agg (bc t)), (4, .c (.slc pa P.length pc))] rfl [] (St.refl _) ?_
  refine wc_seq ?_
  refine wc_region ?_
  refine wl_ef rfl (ef_box rfl rfl rfl (fun b hb => ?_))
  refine wl_ef rfl (ef_box rfl rfl rfl (fun b2 hbb => ?_))
  refine wl_q rfl rfl rfl (qt_p tbok rfl) ?_
  refine wl_done ?_
  refine nk_code ?_
  refine wc_seq ?_
  refine wc_seq ?_
  refine wc_region ?_
  refine wl_q rfl rfl rfl (qt_p tbok rfl) ?_
  refine wl_q rfl rfl rfl (qt_p tbok rfl) ?_
  refine wl_as (v' := .c (.bool false)) (congrArg (fun z => V.c (C.bool z)) (decide_eq_false (by omega))) ?_
  refine wl_q rfl rfl rfl (qt_p tbok rfl) ?_
  first | refine wl_g rfl rfl rfl rfl (qt_p tbok rfl) ?_ | refine wl_skip rfl rfl rfl rfl rfl ?_
  first | refine wl_g rfl rfl rfl rfl (qt_p tbok rfl) ?_ | refine wl_skip rfl rfl rfl rfl rfl ?_
  first | refine wl_g rfl rfl rfl rfl (qt_p tbok rfl) ?_ | refine wl_skip rfl rfl rfl rfl rfl ?_
  refine wl_as (v' := .c (.bool false)) (congrArg (fun z => V.c (C.bool z)) (decide_eq_false (by omega))) ?_
  refine wl_q rfl rfl rfl (qt_p tbok rfl) ?_
  refine wl_done ?_
  refine nk_code ?_
  refine wc_no rfl ?_
  refine wc_skip ?_
  refine nk_code ?_
  refine wc_seq ?_
  refine wc_region ?_
  refine wl_q rfl rfl rfl (qt_p tbok rfl) ?_
  refine wl_q rfl rfl rfl (qt_p tbok rfl) ?_
  refine wl_q rfl rfl rfl (qt_load_ag (l := bc t) tbok rfl rfl rfl hb1 (rs_lk .here at0)) ?_
  refine wl_q rfl rfl rfl (qt_p tbok rfl) ?_
  refine wl_ef rfl (ef_pure (v := .t3 (.agg (bc (cl k t P))) (.c (.slc (adN P.length (pa, pc)).1 (P.length - P.length) (adN P.length (pa, pc)).2)) (.c (.bool true))) (by kernel_rfl) rfl rfl (fun w1 h1 => by have h2 := up_c P.length hP hk hh (Nat.le_refl _) (by omega) ht (cells_rd (rd_cells hc (off_new (newKey hbb) (off_new (newKey hb) off_nil))) h1) hcap; rw [List.take_length] at h2; exact h2) ?_)
  refine wl_q rfl rfl rfl (qt_p tbok rfl) ?_
  refine wl_q rfl rfl rfl (qt_p tbok rfl) ?_
  refine wl_q rfl rfl rfl (qt_p tbok rfl) ?_
  refine wl_q rfl rfl rfl (qt_p tbok rfl) ?_
  refine wl_ef rfl (ef_alloc zero22 rfl rfl (fun tr htr => ?_))
  refine wl_ef rfl (ef_store (cs' := bc (cl k t P)) tbok rfl rfl rfl rfl .here hb3 (Nat.le_of_ble_eq_true rfl) (spl_all hb3) ?_)
  refine wl_q rfl rfl rfl (qt_p tbok rfl) ?_
  refine wl_q rfl rfl rfl (qt_p tbok rfl) ?_
  refine wl_done ?_
  refine nk_code ?_
  refine wc_seq ?_
  refine wc_region ?_
  refine wl_q rfl rfl rfl (qt_p tbok rfl) ?_
  refine wl_q rfl rfl rfl (qt_p tbok rfl) ?_
  first | refine wl_g rfl rfl rfl rfl (qt_p tbok rfl) ?_ | refine wl_skip rfl rfl rfl rfl rfl ?_
  first | refine wl_g rfl rfl rfl rfl (qt_len tbok rfl rfl) ?_ | refine wl_skip rfl rfl rfl rfl rfl ?_
  first | refine wl_g rfl rfl rfl rfl (qt_p tbok rfl) ?_ | refine wl_g rfl rfl rfl rfl (qt_eqn tbok rfl rfl rfl) ?_ | refine wl_skip rfl rfl rfl rfl rfl ?_
  refine wl_as (v' := .c (.bool true)) (congrArg (fun z => V.c (C.bool z)) (decide_eq_true (by omega))) ?_
  refine wl_q rfl rfl rfl (qt_p tbok rfl) ?_
  refine wl_q rfl rfl rfl (qt_p tbok rfl) ?_
  refine wl_g rfl rfl rfl rfl (qt_load_ag (l := bc (cl k t P)) tbok rfl rfl rfl hb3 (rs_lk .here at0)) ?_
  refine wl_g rfl rfl rfl rfl (qt_load_ag (l := bc root) tbok rfl rfl rfl hb2 (rs_lk (.there (.there .here)) at0)) ?_
  refine wl_g rfl rfl rfl rfl (qt_eq_bytes eq22 ng22 rfl rfl (cl_len _ _ _ ht) hr) ?_
  refine wl_q rfl rfl rfl (qt_p tbok rfl) ?_
  refine wl_q rfl rfl rfl (qt_p tbok rfl) ?_
  refine wl_done ?_
  refine nk_code ?_
  refine wc_ret ?_
  try dsimp only
  exact fin1 rfl (rv_tmp rfl) (fun w' hw => ⟨rfl, hw.all (new_cons (newKey htr) (new_cons (newKey hbb) (new_cons (newKey hb) new_nil)))⟩)
end Go.Proofs.Ytjhmcmadleabjaa
