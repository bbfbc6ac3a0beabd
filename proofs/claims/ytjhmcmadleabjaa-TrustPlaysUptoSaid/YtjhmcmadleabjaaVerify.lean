/- keys.Verify and hallmarkref05.Verify answer by the same function. -/
import Derived.Test.YtjhmcmadleabjaaKeys
set_option linter.unusedVariables false
set_option maxRecDepth 100000
namespace Go.Proofs.Ytjhmcmadleabjaa
open Go Go.Hw Go.Proofs

/-- Whether a signature is one of a message. -/
def verB (h : Int) (rt msg : List UInt8) (i : Int) (CH P : List (List UInt8)) : Bool :=
  if h < 0 ∨ 6 < h ∨ i < 0 ∨ ((pw h.toNat : Nat) : Int) ≤ i ∨ (P.length : Int) ≠ h then false
  else decide (cl i.toNat (leafH (recH (UInt32.ofInt i) (wordH h rt i msg) CH)) P = rt)
theorem sh1 {h : Int} (h0 : 0 ≤ h) (h6 : h ≤ 6) : (1 : Int) * 2 ^ h.toNat = ((pw h.toNat : Nat) : Int) ∧ pw h.toNat ≤ 64 := by
  refine ⟨by rw [pw_two, Int.one_mul]; simp, pw_mono (b := 6) (by omega)⟩
theorem recH_len (n : UInt32) (x : List UInt8) (L : List (List UInt8)) : (recH n x L).length = 32 := sha_len _

theorem ver16_f0 {w : World} {h i : Int} {rt msg : List UInt8} {CH P : List (List UInt8)} {pa ma : Ad} {pc mc : Nat} (hF : CH.flatten.length = 2144) (c : h < 0) : CallsV Try.prog 16 [.agg (.i64 h :: bc rt), .c (.slc ma msg.length mc), .agg (scs i CH.flatten pa P.length pc)] w fun en w' => en = .returned (V.c (.bool false)).den ∧ St w [] w' := by
  refine calls_in (tb := tb) (fn := Try.f16) Try.func16 rfl rfl rfl [(0, .agg (.i64 h :: bc rt)), (1, .c (.slc ma msg.length mc)), (2, .agg (scs i CH.flatten pa P.length pc))] rfl [] (St.refl _) ?_
  refine wc_seq ?_
  refine wc_region ?_
  refine wl_ef rfl (ef_box rfl rfl rfl (fun b hb => ?_))
  refine wl_ef rfl (ef_box rfl rfl rfl (fun b2 hb2 => ?_))
  refine wl_q rfl rfl rfl (qt_p tbok rfl) ?_
  refine wl_done ?_
  refine nk_code ?_
  refine wc_seq ?_
  refine wc_seq ?_
  refine wc_quiet follows (by kernel_rfl) ?_
  refine wq_q rfl rfl rfl (qt_p tbok rfl) ?_
  first | refine wq_q rfl rfl rfl (qt_l tbok rfl rfl rfl) ?_ | refine wq_q rfl rfl rfl (qt_la tbok rfl rfl rfl) ?_
  refine wq_q rfl rfl rfl (qt_p tbok rfl) ?_
  refine wq_as (v' := .c (.bool true)) (congrArg (fun b => V.c (C.bool b)) (decide_eq_true (by omega))) ?_
  refine wq_q rfl rfl rfl (qt_p tbok rfl) ?_
  first | refine wq_gd rfl rfl rfl rfl (qt_p tbok rfl) ?_ | refine wq_skip rfl rfl rfl rfl rfl ?_
  first | refine wq_gd rfl rfl rfl rfl (qt_l tbok rfl rfl rfl) ?_ | refine wq_gd rfl rfl rfl rfl (qt_la tbok rfl rfl rfl) ?_ | refine wq_skip rfl rfl rfl rfl rfl ?_
  first | refine wq_gd rfl rfl rfl rfl (qt_p tbok rfl) ?_ | refine wq_skip rfl rfl rfl rfl rfl ?_
  refine wq_q rfl rfl rfl (qt_p tbok rfl) ?_
  refine wq_q rfl rfl rfl (qt_p tbok rfl) ?_
  first | refine wq_gd rfl rfl rfl rfl (qt_p tbok rfl) ?_ | refine wq_skip rfl rfl rfl rfl rfl ?_
  first | refine wq_gd rfl rfl rfl rfl (qt_l tbok rfl rfl rfl) ?_ | refine wq_gd rfl rfl rfl rfl (qt_la tbok rfl rfl rfl) ?_ | refine wq_skip rfl rfl rfl rfl rfl ?_
  first | refine wq_gd rfl rfl rfl rfl (qt_p tbok rfl) ?_ | refine wq_skip rfl rfl rfl rfl rfl ?_
  refine wq_q rfl rfl rfl (qt_p tbok rfl) ?_
  refine wq_q rfl rfl rfl (qt_p tbok rfl) ?_
  first | refine wq_gd rfl rfl rfl rfl (qt_p tbok rfl) ?_ | refine wq_skip rfl rfl rfl rfl rfl ?_
  first | refine wq_gd rfl rfl rfl rfl (qt_l tbok rfl rfl rfl) ?_ | refine wq_gd rfl rfl rfl rfl (qt_la tbok rfl rfl rfl) ?_ | refine wq_skip rfl rfl rfl rfl rfl ?_
  first | refine wq_gd rfl rfl rfl rfl (qt_p tbok rfl) ?_ | refine wq_skip rfl rfl rfl rfl rfl ?_
  first | refine wq_gd rfl rfl rfl rfl (qt_l tbok rfl rfl rfl) ?_ | refine wq_gd rfl rfl rfl rfl (qt_la tbok rfl rfl rfl) ?_ | refine wq_skip rfl rfl rfl rfl rfl ?_
  first | refine wq_gd rfl rfl rfl rfl (qt_p tbok rfl) ?_ | refine wq_skip rfl rfl rfl rfl rfl ?_
  first | refine wq_gd rfl rfl rfl rfl (qt_p tbok rfl) ?_ | refine wq_skip rfl rfl rfl rfl rfl ?_
  refine wq_q rfl rfl rfl (qt_p tbok rfl) ?_
  refine wq_q rfl rfl rfl (qt_p tbok rfl) ?_
  first | refine wq_gd rfl rfl rfl rfl (qt_p tbok rfl) ?_ | refine wq_skip rfl rfl rfl rfl rfl ?_
  first | refine wq_gd rfl rfl rfl rfl (qt_l tbok rfl rfl rfl) ?_ | refine wq_gd rfl rfl rfl rfl (qt_la tbok rfl rfl rfl) ?_ | refine wq_skip rfl rfl rfl rfl rfl ?_
  first | refine wq_gd rfl rfl rfl rfl (qt_len tbok rfl rfl) ?_ | refine wq_skip rfl rfl rfl rfl rfl ?_
  first | refine wq_gd rfl rfl rfl rfl (qt_p tbok rfl) ?_ | refine wq_skip rfl rfl rfl rfl rfl ?_
  first | refine wq_gd rfl rfl rfl rfl (qt_l tbok rfl rfl rfl) ?_ | refine wq_gd rfl rfl rfl rfl (qt_la tbok rfl rfl rfl) ?_ | refine wq_skip rfl rfl rfl rfl rfl ?_
  first | refine wq_gd rfl rfl rfl rfl (qt_p tbok rfl) ?_ | refine wq_gd rfl rfl rfl rfl (qt_neqn tbok rfl rfl rfl) ?_ | refine wq_skip rfl rfl rfl rfl rfl ?_
  refine wq_q rfl rfl rfl (qt_p tbok rfl) ?_
  refine wq_done ?_
  refine wl_done ?_
  refine nk_code ?_
  refine wc_yes rfl ?_
  refine wc_seq ?_
  refine wc_region ?_
  refine wl_q rfl rfl rfl (qt_p tbok rfl) ?_
  refine wl_done ?_
  refine nk_code ?_
  refine wc_ret ?_
  try dsimp only
  exact fin1 rfl (rv_tmp rfl) (fun w' hw => ⟨rfl, hw.all (new_cons (newKey hb2) (new_cons (newKey hb) new_nil))⟩)

theorem ver16_f1 {w : World} {h i : Int} {rt msg : List UInt8} {CH P : List (List UInt8)} {pa ma : Ad} {pc mc : Nat} (hF : CH.flatten.length = 2144) (c1 : 0 ≤ h) (c : 6 < h) : CallsV Try.prog 16 [.agg (.i64 h :: bc rt), .c (.slc ma msg.length mc), .agg (scs i CH.flatten pa P.length pc)] w fun en w' => en = .returned (V.c (.bool false)).den ∧ St w [] w' := by
  refine calls_in (tb := tb) (fn := Try.f16) Try.func16 rfl rfl rfl [(0, .agg (.i64 h :: bc rt)), (1, .c (.slc ma msg.length mc)), (2, .agg (scs i CH.flatten pa P.length pc))] rfl [] (St.refl _) ?_
  refine wc_seq ?_
  refine wc_region ?_
  refine wl_ef rfl (ef_box rfl rfl rfl (fun b hb => ?_))
  refine wl_ef rfl (ef_box rfl rfl rfl (fun b2 hb2 => ?_))
  refine wl_q rfl rfl rfl (qt_p tbok rfl) ?_
  refine wl_done ?_
  refine nk_code ?_
  refine wc_seq ?_
  refine wc_seq ?_
  refine wc_quiet follows (by kernel_rfl) ?_
  refine wq_q rfl rfl rfl (qt_p tbok rfl) ?_
  first | refine wq_q rfl rfl rfl (qt_l tbok rfl rfl rfl) ?_ | refine wq_q rfl rfl rfl (qt_la tbok rfl rfl rfl) ?_
  refine wq_q rfl rfl rfl (qt_p tbok rfl) ?_
  refine wq_as (v' := .c (.bool false)) (congrArg (fun b => V.c (C.bool b)) (decide_eq_false (by omega))) ?_
  refine wq_q rfl rfl rfl (qt_p tbok rfl) ?_
  first | refine wq_gd rfl rfl rfl rfl (qt_p tbok rfl) ?_ | refine wq_skip rfl rfl rfl rfl rfl ?_
  first | refine wq_gd rfl rfl rfl rfl (qt_l tbok rfl rfl rfl) ?_ | refine wq_gd rfl rfl rfl rfl (qt_la tbok rfl rfl rfl) ?_ | refine wq_skip rfl rfl rfl rfl rfl ?_
  first | refine wq_gd rfl rfl rfl rfl (qt_p tbok rfl) ?_ | refine wq_skip rfl rfl rfl rfl rfl ?_
  refine wq_as (v' := .c (.bool true)) (congrArg (fun b => V.c (C.bool b)) (decide_eq_true (by omega))) ?_
  refine wq_q rfl rfl rfl (qt_p tbok rfl) ?_
  refine wq_q rfl rfl rfl (qt_p tbok rfl) ?_
  first | refine wq_gd rfl rfl rfl rfl (qt_p tbok rfl) ?_ | refine wq_skip rfl rfl rfl rfl rfl ?_
  first | refine wq_gd rfl rfl rfl rfl (qt_l tbok rfl rfl rfl) ?_ | refine wq_gd rfl rfl rfl rfl (qt_la tbok rfl rfl rfl) ?_ | refine wq_skip rfl rfl rfl rfl rfl ?_
  first | refine wq_gd rfl rfl rfl rfl (qt_p tbok rfl) ?_ | refine wq_skip rfl rfl rfl rfl rfl ?_
  refine wq_q rfl rfl rfl (qt_p tbok rfl) ?_
  refine wq_q rfl rfl rfl (qt_p tbok rfl) ?_
  first | refine wq_gd rfl rfl rfl rfl (qt_p tbok rfl) ?_ | refine wq_skip rfl rfl rfl rfl rfl ?_
  first | refine wq_gd rfl rfl rfl rfl (qt_l tbok rfl rfl rfl) ?_ | refine wq_gd rfl rfl rfl rfl (qt_la tbok rfl rfl rfl) ?_ | refine wq_skip rfl rfl rfl rfl rfl ?_
  first | refine wq_gd rfl rfl rfl rfl (qt_p tbok rfl) ?_ | refine wq_skip rfl rfl rfl rfl rfl ?_
  first | refine wq_gd rfl rfl rfl rfl (qt_l tbok rfl rfl rfl) ?_ | refine wq_gd rfl rfl rfl rfl (qt_la tbok rfl rfl rfl) ?_ | refine wq_skip rfl rfl rfl rfl rfl ?_
  first | refine wq_gd rfl rfl rfl rfl (qt_p tbok rfl) ?_ | refine wq_skip rfl rfl rfl rfl rfl ?_
  first | refine wq_gd rfl rfl rfl rfl (qt_p tbok rfl) ?_ | refine wq_skip rfl rfl rfl rfl rfl ?_
  refine wq_q rfl rfl rfl (qt_p tbok rfl) ?_
  refine wq_q rfl rfl rfl (qt_p tbok rfl) ?_
  first | refine wq_gd rfl rfl rfl rfl (qt_p tbok rfl) ?_ | refine wq_skip rfl rfl rfl rfl rfl ?_
  first | refine wq_gd rfl rfl rfl rfl (qt_l tbok rfl rfl rfl) ?_ | refine wq_gd rfl rfl rfl rfl (qt_la tbok rfl rfl rfl) ?_ | refine wq_skip rfl rfl rfl rfl rfl ?_
  first | refine wq_gd rfl rfl rfl rfl (qt_len tbok rfl rfl) ?_ | refine wq_skip rfl rfl rfl rfl rfl ?_
  first | refine wq_gd rfl rfl rfl rfl (qt_p tbok rfl) ?_ | refine wq_skip rfl rfl rfl rfl rfl ?_
  first | refine wq_gd rfl rfl rfl rfl (qt_l tbok rfl rfl rfl) ?_ | refine wq_gd rfl rfl rfl rfl (qt_la tbok rfl rfl rfl) ?_ | refine wq_skip rfl rfl rfl rfl rfl ?_
  first | refine wq_gd rfl rfl rfl rfl (qt_p tbok rfl) ?_ | refine wq_gd rfl rfl rfl rfl (qt_neqn tbok rfl rfl rfl) ?_ | refine wq_skip rfl rfl rfl rfl rfl ?_
  refine wq_q rfl rfl rfl (qt_p tbok rfl) ?_
  refine wq_done ?_
  refine wl_done ?_
  refine nk_code ?_
  refine wc_yes rfl ?_
  refine wc_seq ?_
  refine wc_region ?_
  refine wl_q rfl rfl rfl (qt_p tbok rfl) ?_
  refine wl_done ?_
  refine nk_code ?_
  refine wc_ret ?_
  try dsimp only
  exact fin1 rfl (rv_tmp rfl) (fun w' hw => ⟨rfl, hw.all (new_cons (newKey hb2) (new_cons (newKey hb) new_nil))⟩)

theorem ver16_f2 {w : World} {h i : Int} {rt msg : List UInt8} {CH P : List (List UInt8)} {pa ma : Ad} {pc mc : Nat} (hF : CH.flatten.length = 2144) (c1 : 0 ≤ h) (c2 : h ≤ 6) (c : i < 0) : CallsV Try.prog 16 [.agg (.i64 h :: bc rt), .c (.slc ma msg.length mc), .agg (scs i CH.flatten pa P.length pc)] w fun en w' => en = .returned (V.c (.bool false)).den ∧ St w [] w' := by
  refine calls_in (tb := tb) (fn := Try.f16) Try.func16 rfl rfl rfl [(0, .agg (.i64 h :: bc rt)), (1, .c (.slc ma msg.length mc)), (2, .agg (scs i CH.flatten pa P.length pc))] rfl [] (St.refl _) ?_
  refine wc_seq ?_
  refine wc_region ?_
  refine wl_ef rfl (ef_box rfl rfl rfl (fun b hb => ?_))
  refine wl_ef rfl (ef_box rfl rfl rfl (fun b2 hb2 => ?_))
  refine wl_q rfl rfl rfl (qt_p tbok rfl) ?_
  refine wl_done ?_
  refine nk_code ?_
  refine wc_seq ?_
  refine wc_seq ?_
  refine wc_quiet follows (by kernel_rfl) ?_
  refine wq_q rfl rfl rfl (qt_p tbok rfl) ?_
  first | refine wq_q rfl rfl rfl (qt_l tbok rfl rfl rfl) ?_ | refine wq_q rfl rfl rfl (qt_la tbok rfl rfl rfl) ?_
  refine wq_q rfl rfl rfl (qt_p tbok rfl) ?_
  refine wq_as (v' := .c (.bool false)) (congrArg (fun b => V.c (C.bool b)) (decide_eq_false (by omega))) ?_
  refine wq_q rfl rfl rfl (qt_p tbok rfl) ?_
  first | refine wq_gd rfl rfl rfl rfl (qt_p tbok rfl) ?_ | refine wq_skip rfl rfl rfl rfl rfl ?_
  first | refine wq_gd rfl rfl rfl rfl (qt_l tbok rfl rfl rfl) ?_ | refine wq_gd rfl rfl rfl rfl (qt_la tbok rfl rfl rfl) ?_ | refine wq_skip rfl rfl rfl rfl rfl ?_
  first | refine wq_gd rfl rfl rfl rfl (qt_p tbok rfl) ?_ | refine wq_skip rfl rfl rfl rfl rfl ?_
  refine wq_as (v' := .c (.bool false)) (congrArg (fun b => V.c (C.bool b)) (decide_eq_false (by omega))) ?_
  refine wq_q rfl rfl rfl (qt_p tbok rfl) ?_
  refine wq_q rfl rfl rfl (qt_p tbok rfl) ?_
  first | refine wq_gd rfl rfl rfl rfl (qt_p tbok rfl) ?_ | refine wq_skip rfl rfl rfl rfl rfl ?_
  first | refine wq_gd rfl rfl rfl rfl (qt_l tbok rfl rfl rfl) ?_ | refine wq_gd rfl rfl rfl rfl (qt_la tbok rfl rfl rfl) ?_ | refine wq_skip rfl rfl rfl rfl rfl ?_
  first | refine wq_gd rfl rfl rfl rfl (qt_p tbok rfl) ?_ | refine wq_skip rfl rfl rfl rfl rfl ?_
  refine wq_as (v' := .c (.bool true)) (congrArg (fun b => V.c (C.bool b)) (decide_eq_true (by omega))) ?_
  refine wq_q rfl rfl rfl (qt_p tbok rfl) ?_
  refine wq_q rfl rfl rfl (qt_p tbok rfl) ?_
  first | refine wq_gd rfl rfl rfl rfl (qt_p tbok rfl) ?_ | refine wq_skip rfl rfl rfl rfl rfl ?_
  first | refine wq_gd rfl rfl rfl rfl (qt_l tbok rfl rfl rfl) ?_ | refine wq_gd rfl rfl rfl rfl (qt_la tbok rfl rfl rfl) ?_ | refine wq_skip rfl rfl rfl rfl rfl ?_
  first | refine wq_gd rfl rfl rfl rfl (qt_p tbok rfl) ?_ | refine wq_skip rfl rfl rfl rfl rfl ?_
  first | refine wq_gd rfl rfl rfl rfl (qt_l tbok rfl rfl rfl) ?_ | refine wq_gd rfl rfl rfl rfl (qt_la tbok rfl rfl rfl) ?_ | refine wq_skip rfl rfl rfl rfl rfl ?_
  first | refine wq_gd rfl rfl rfl rfl (qt_p tbok rfl) ?_ | refine wq_skip rfl rfl rfl rfl rfl ?_
  first | refine wq_gd rfl rfl rfl rfl (qt_p tbok rfl) ?_ | refine wq_skip rfl rfl rfl rfl rfl ?_
  refine wq_q rfl rfl rfl (qt_p tbok rfl) ?_
  refine wq_q rfl rfl rfl (qt_p tbok rfl) ?_
  first | refine wq_gd rfl rfl rfl rfl (qt_p tbok rfl) ?_ | refine wq_skip rfl rfl rfl rfl rfl ?_
  first | refine wq_gd rfl rfl rfl rfl (qt_l tbok rfl rfl rfl) ?_ | refine wq_gd rfl rfl rfl rfl (qt_la tbok rfl rfl rfl) ?_ | refine wq_skip rfl rfl rfl rfl rfl ?_
  first | refine wq_gd rfl rfl rfl rfl (qt_len tbok rfl rfl) ?_ | refine wq_skip rfl rfl rfl rfl rfl ?_
  first | refine wq_gd rfl rfl rfl rfl (qt_p tbok rfl) ?_ | refine wq_skip rfl rfl rfl rfl rfl ?_
  first | refine wq_gd rfl rfl rfl rfl (qt_l tbok rfl rfl rfl) ?_ | refine wq_gd rfl rfl rfl rfl (qt_la tbok rfl rfl rfl) ?_ | refine wq_skip rfl rfl rfl rfl rfl ?_
  first | refine wq_gd rfl rfl rfl rfl (qt_p tbok rfl) ?_ | refine wq_gd rfl rfl rfl rfl (qt_neqn tbok rfl rfl rfl) ?_ | refine wq_skip rfl rfl rfl rfl rfl ?_
  refine wq_q rfl rfl rfl (qt_p tbok rfl) ?_
  refine wq_done ?_
  refine wl_done ?_
  refine nk_code ?_
  refine wc_yes rfl ?_
  refine wc_seq ?_
  refine wc_region ?_
  refine wl_q rfl rfl rfl (qt_p tbok rfl) ?_
  refine wl_done ?_
  refine nk_code ?_
  refine wc_ret ?_
  try dsimp only
  exact fin1 rfl (rv_tmp rfl) (fun w' hw => ⟨rfl, hw.all (new_cons (newKey hb2) (new_cons (newKey hb) new_nil))⟩)

theorem ver16_f3 {w : World} {h i : Int} {rt msg : List UInt8} {CH P : List (List UInt8)} {pa ma : Ad} {pc mc : Nat} (hF : CH.flatten.length = 2144) (c1 : 0 ≤ h) (c2 : h ≤ 6) (c3 : 0 ≤ i) (c : ((pw h.toNat : Nat) : Int) ≤ i) : CallsV Try.prog 16 [.agg (.i64 h :: bc rt), .c (.slc ma msg.length mc), .agg (scs i CH.flatten pa P.length pc)] w fun en w' => en = .returned (V.c (.bool false)).den ∧ St w [] w' := by
  have hsh := sh1 c1 c2
  have hu : UInt64.ofInt h = UInt64.ofNat h.toNat := by rw [← u64_ofInt, Int.toNat_of_nonneg c1]
  have hn : (UInt64.ofNat h.toNat).toNat = h.toNat := by simp; omega
  refine calls_in (tb := tb) (fn := Try.f16) Try.func16 rfl rfl rfl [(0, .agg (.i64 h :: bc rt)), (1, .c (.slc ma msg.length mc)), (2, .agg (scs i CH.flatten pa P.length pc))] rfl [] (St.refl _) ?_
  refine wc_seq ?_
  refine wc_region ?_
  refine wl_ef rfl (ef_box rfl rfl rfl (fun b hb => ?_))
  refine wl_ef rfl (ef_box rfl rfl rfl (fun b2 hb2 => ?_))
  refine wl_q rfl rfl rfl (qt_p tbok rfl) ?_
  refine wl_done ?_
  refine nk_code ?_
  refine wc_seq ?_
  refine wc_seq ?_
  refine wc_quiet follows (by kernel_rfl) ?_
  refine wq_q rfl rfl rfl (qt_p tbok rfl) ?_
  first | refine wq_q rfl rfl rfl (qt_l tbok rfl rfl rfl) ?_ | refine wq_q rfl rfl rfl (qt_la tbok rfl rfl rfl) ?_
  refine wq_q rfl rfl rfl (qt_p tbok rfl) ?_
  refine wq_as (v' := .c (.bool false)) (congrArg (fun b => V.c (C.bool b)) (decide_eq_false (by omega))) ?_
  refine wq_q rfl rfl rfl (qt_p tbok rfl) ?_
  first | refine wq_gd rfl rfl rfl rfl (qt_p tbok rfl) ?_ | refine wq_skip rfl rfl rfl rfl rfl ?_
  first | refine wq_gd rfl rfl rfl rfl (qt_l tbok rfl rfl rfl) ?_ | refine wq_gd rfl rfl rfl rfl (qt_la tbok rfl rfl rfl) ?_ | refine wq_skip rfl rfl rfl rfl rfl ?_
  first | refine wq_gd rfl rfl rfl rfl (qt_p tbok rfl) ?_ | refine wq_skip rfl rfl rfl rfl rfl ?_
  refine wq_as (v' := .c (.bool false)) (congrArg (fun b => V.c (C.bool b)) (decide_eq_false (by omega))) ?_
  refine wq_q rfl rfl rfl (qt_p tbok rfl) ?_
  refine wq_q rfl rfl rfl (qt_p tbok rfl) ?_
  first | refine wq_gd rfl rfl rfl rfl (qt_p tbok rfl) ?_ | refine wq_skip rfl rfl rfl rfl rfl ?_
  first | refine wq_gd rfl rfl rfl rfl (qt_l tbok rfl rfl rfl) ?_ | refine wq_gd rfl rfl rfl rfl (qt_la tbok rfl rfl rfl) ?_ | refine wq_skip rfl rfl rfl rfl rfl ?_
  first | refine wq_gd rfl rfl rfl rfl (qt_p tbok rfl) ?_ | refine wq_skip rfl rfl rfl rfl rfl ?_
  refine wq_as (v' := .c (.bool false)) (congrArg (fun b => V.c (C.bool b)) (decide_eq_false (by omega))) ?_
  refine wq_q rfl rfl rfl (qt_p tbok rfl) ?_
  refine wq_q rfl rfl rfl (qt_p tbok rfl) ?_
  first | refine wq_gd rfl rfl rfl rfl (qt_p tbok rfl) ?_ | refine wq_skip rfl rfl rfl rfl rfl ?_
  first | refine wq_gd rfl rfl rfl rfl (qt_l tbok rfl rfl rfl) ?_ | refine wq_gd rfl rfl rfl rfl (qt_la tbok rfl rfl rfl) ?_ | refine wq_skip rfl rfl rfl rfl rfl ?_
  first | refine wq_gd rfl rfl rfl rfl (qt_p tbok rfl) ?_ | refine wq_skip rfl rfl rfl rfl rfl ?_
  first | refine wq_gd rfl rfl rfl rfl (qt_l tbok rfl rfl rfl) ?_ | refine wq_gd rfl rfl rfl rfl (qt_la tbok rfl rfl rfl) ?_ | refine wq_skip rfl rfl rfl rfl rfl ?_
  refine wq_gd rfl rfl rfl rfl (qt_pure tbok rfl (by rw [hsh.1]; refine And.intro ?_ (And.intro ?_ (And.intro ?_ ?_)) <;> omega)) ?_
  refine wq_as (v' := .c (.i64 (pw h.toNat : Int))) (congrArg (fun z => V.c (C.i64 z)) hsh.1) ?_
  first | refine wq_gd rfl rfl rfl rfl (qt_p tbok rfl) ?_ | refine wq_skip rfl rfl rfl rfl rfl ?_
  refine wq_as (v' := .c (.bool true)) (congrArg (fun b => V.c (C.bool b)) (decide_eq_true (by omega))) ?_
  refine wq_q rfl rfl rfl (qt_p tbok rfl) ?_
  refine wq_q rfl rfl rfl (qt_p tbok rfl) ?_
  first | refine wq_gd rfl rfl rfl rfl (qt_p tbok rfl) ?_ | refine wq_skip rfl rfl rfl rfl rfl ?_
  first | refine wq_gd rfl rfl rfl rfl (qt_l tbok rfl rfl rfl) ?_ | refine wq_gd rfl rfl rfl rfl (qt_la tbok rfl rfl rfl) ?_ | refine wq_skip rfl rfl rfl rfl rfl ?_
  first | refine wq_gd rfl rfl rfl rfl (qt_len tbok rfl rfl) ?_ | refine wq_skip rfl rfl rfl rfl rfl ?_
  first | refine wq_gd rfl rfl rfl rfl (qt_p tbok rfl) ?_ | refine wq_skip rfl rfl rfl rfl rfl ?_
  first | refine wq_gd rfl rfl rfl rfl (qt_l tbok rfl rfl rfl) ?_ | refine wq_gd rfl rfl rfl rfl (qt_la tbok rfl rfl rfl) ?_ | refine wq_skip rfl rfl rfl rfl rfl ?_
  first | refine wq_gd rfl rfl rfl rfl (qt_p tbok rfl) ?_ | refine wq_gd rfl rfl rfl rfl (qt_neqn tbok rfl rfl rfl) ?_ | refine wq_skip rfl rfl rfl rfl rfl ?_
  refine wq_q rfl rfl rfl (qt_p tbok rfl) ?_
  refine wq_done ?_
  refine wl_done ?_
  refine nk_code ?_
  refine wc_yes rfl ?_
  refine wc_seq ?_
  refine wc_region ?_
  refine wl_q rfl rfl rfl (qt_p tbok rfl) ?_
  refine wl_done ?_
  refine nk_code ?_
  refine wc_ret ?_
  try dsimp only
  exact fin1 rfl (rv_tmp rfl) (fun w' hw => ⟨rfl, hw.all (new_cons (newKey hb2) (new_cons (newKey hb) new_nil))⟩)

theorem ver16_f4 {w : World} {h i : Int} {rt msg : List UInt8} {CH P : List (List UInt8)} {pa ma : Ad} {pc mc : Nat} (hF : CH.flatten.length = 2144) (c1 : 0 ≤ h) (c2 : h ≤ 6) (c3 : 0 ≤ i) (c4 : i < ((pw h.toNat : Nat) : Int)) (c : (P.length : Int) ≠ h) : CallsV Try.prog 16 [.agg (.i64 h :: bc rt), .c (.slc ma msg.length mc), .agg (scs i CH.flatten pa P.length pc)] w fun en w' => en = .returned (V.c (.bool false)).den ∧ St w [] w' := by
  have hsh := sh1 c1 c2
  have hu : UInt64.ofInt h = UInt64.ofNat h.toNat := by rw [← u64_ofInt, Int.toNat_of_nonneg c1]
  have hn : (UInt64.ofNat h.toNat).toNat = h.toNat := by simp; omega
  refine calls_in (tb := tb) (fn := Try.f16) Try.func16 rfl rfl rfl [(0, .agg (.i64 h :: bc rt)), (1, .c (.slc ma msg.length mc)), (2, .agg (scs i CH.flatten pa P.length pc))] rfl [] (St.refl _) ?_
  refine wc_seq ?_
  refine wc_region ?_
  refine wl_ef rfl (ef_box rfl rfl rfl (fun b hb => ?_))
  refine wl_ef rfl (ef_box rfl rfl rfl (fun b2 hb2 => ?_))
  refine wl_q rfl rfl rfl (qt_p tbok rfl) ?_
  refine wl_done ?_
  refine nk_code ?_
  refine wc_seq ?_
  refine wc_seq ?_
  refine wc_quiet follows (by kernel_rfl) ?_
  refine wq_q rfl rfl rfl (qt_p tbok rfl) ?_
  first | refine wq_q rfl rfl rfl (qt_l tbok rfl rfl rfl) ?_ | refine wq_q rfl rfl rfl (qt_la tbok rfl rfl rfl) ?_
  refine wq_q rfl rfl rfl (qt_p tbok rfl) ?_
  refine wq_as (v' := .c (.bool false)) (congrArg (fun b => V.c (C.bool b)) (decide_eq_false (by omega))) ?_
  refine wq_q rfl rfl rfl (qt_p tbok rfl) ?_
  first | refine wq_gd rfl rfl rfl rfl (qt_p tbok rfl) ?_ | refine wq_skip rfl rfl rfl rfl rfl ?_
  first | refine wq_gd rfl rfl rfl rfl (qt_l tbok rfl rfl rfl) ?_ | refine wq_gd rfl rfl rfl rfl (qt_la tbok rfl rfl rfl) ?_ | refine wq_skip rfl rfl rfl rfl rfl ?_
  first | refine wq_gd rfl rfl rfl rfl (qt_p tbok rfl) ?_ | refine wq_skip rfl rfl rfl rfl rfl ?_
  refine wq_as (v' := .c (.bool false)) (congrArg (fun b => V.c (C.bool b)) (decide_eq_false (by omega))) ?_
  refine wq_q rfl rfl rfl (qt_p tbok rfl) ?_
  refine wq_q rfl rfl rfl (qt_p tbok rfl) ?_
  first | refine wq_gd rfl rfl rfl rfl (qt_p tbok rfl) ?_ | refine wq_skip rfl rfl rfl rfl rfl ?_
  first | refine wq_gd rfl rfl rfl rfl (qt_l tbok rfl rfl rfl) ?_ | refine wq_gd rfl rfl rfl rfl (qt_la tbok rfl rfl rfl) ?_ | refine wq_skip rfl rfl rfl rfl rfl ?_
  first | refine wq_gd rfl rfl rfl rfl (qt_p tbok rfl) ?_ | refine wq_skip rfl rfl rfl rfl rfl ?_
  refine wq_as (v' := .c (.bool false)) (congrArg (fun b => V.c (C.bool b)) (decide_eq_false (by omega))) ?_
  refine wq_q rfl rfl rfl (qt_p tbok rfl) ?_
  refine wq_q rfl rfl rfl (qt_p tbok rfl) ?_
  first | refine wq_gd rfl rfl rfl rfl (qt_p tbok rfl) ?_ | refine wq_skip rfl rfl rfl rfl rfl ?_
  first | refine wq_gd rfl rfl rfl rfl (qt_l tbok rfl rfl rfl) ?_ | refine wq_gd rfl rfl rfl rfl (qt_la tbok rfl rfl rfl) ?_ | refine wq_skip rfl rfl rfl rfl rfl ?_
  first | refine wq_gd rfl rfl rfl rfl (qt_p tbok rfl) ?_ | refine wq_skip rfl rfl rfl rfl rfl ?_
  first | refine wq_gd rfl rfl rfl rfl (qt_l tbok rfl rfl rfl) ?_ | refine wq_gd rfl rfl rfl rfl (qt_la tbok rfl rfl rfl) ?_ | refine wq_skip rfl rfl rfl rfl rfl ?_
  refine wq_gd rfl rfl rfl rfl (qt_pure tbok rfl (by rw [hsh.1]; refine And.intro ?_ (And.intro ?_ (And.intro ?_ ?_)) <;> omega)) ?_
  refine wq_as (v' := .c (.i64 (pw h.toNat : Int))) (congrArg (fun z => V.c (C.i64 z)) hsh.1) ?_
  first | refine wq_gd rfl rfl rfl rfl (qt_p tbok rfl) ?_ | refine wq_skip rfl rfl rfl rfl rfl ?_
  refine wq_as (v' := .c (.bool false)) (congrArg (fun b => V.c (C.bool b)) (decide_eq_false (by omega))) ?_
  refine wq_q rfl rfl rfl (qt_p tbok rfl) ?_
  refine wq_q rfl rfl rfl (qt_p tbok rfl) ?_
  first | refine wq_gd rfl rfl rfl rfl (qt_p tbok rfl) ?_ | refine wq_skip rfl rfl rfl rfl rfl ?_
  refine wq_gd rfl rfl rfl rfl (qt_load tbok rfl rfl rfl (rc_lk .here (scs_get hF).2.2)) ?_
  first | refine wq_gd rfl rfl rfl rfl (qt_len tbok rfl rfl) ?_ | refine wq_skip rfl rfl rfl rfl rfl ?_
  first | refine wq_gd rfl rfl rfl rfl (qt_p tbok rfl) ?_ | refine wq_skip rfl rfl rfl rfl rfl ?_
  first | refine wq_gd rfl rfl rfl rfl (qt_l tbok rfl rfl rfl) ?_ | refine wq_gd rfl rfl rfl rfl (qt_la tbok rfl rfl rfl) ?_ | refine wq_skip rfl rfl rfl rfl rfl ?_
  first | refine wq_gd rfl rfl rfl rfl (qt_p tbok rfl) ?_ | refine wq_gd rfl rfl rfl rfl (qt_neqn tbok rfl rfl rfl) ?_ | refine wq_skip rfl rfl rfl rfl rfl ?_
  refine wq_as (v' := .c (.bool true)) (congrArg (fun b => V.c (C.bool (!b))) (decide_eq_false (by omega))) ?_
  refine wq_q rfl rfl rfl (qt_p tbok rfl) ?_
  refine wq_done ?_
  refine wl_done ?_
  refine nk_code ?_
  refine wc_yes rfl ?_
  refine wc_seq ?_
  refine wc_region ?_
  refine wl_q rfl rfl rfl (qt_p tbok rfl) ?_
  refine wl_done ?_
  refine nk_code ?_
  refine wc_ret ?_
  try dsimp only
  exact fin1 rfl (rv_tmp rfl) (fun w' hw => ⟨rfl, hw.all (new_cons (newKey hb2) (new_cons (newKey hb) new_nil))⟩)

theorem ver16_t {w : World} {k : Nat} {rt msg : List UInt8} {CH P : List (List UInt8)} {pa ma : Ad} {pc mc : Nat} (hr : rt.length = 32) (hC : A32 CH) (hCl : CH.length = 67) (hP : A32 P) (h6 : P.length ≤ 6) (hk : k < pw P.length) (hcap : P.length ≤ pc) (hc : Cells w pa (bc P.flatten)) (hm : Cells w ma (bc msg)) (hmax : msg.length ≤ 1073741000) :
    CallsV Try.prog 16 [.agg (.i64 (P.length : Int) :: bc rt), .c (.slc ma msg.length mc), .agg (scs (k : Int) CH.flatten pa P.length pc)] w fun en w' => en = .returned (V.c (.bool (decide (cl k (leafH (recH (UInt32.ofInt (k : Int)) (wordH (P.length : Int) rt (k : Int) msg) CH)) P = rt)))).den ∧ St w [] w' := by
  have hF : CH.flatten.length = 2144 := by rw [flat_len hC, hCl]
  have hFb : (bc CH.flatten).length = 2144 := by rw [bc_len, hF]
  have hrb : (bc rt).length = 32 := by rw [bc_len, hr]
  have hRb : (bc (recH (UInt32.ofInt (k : Int)) (wordH (P.length : Int) rt (k : Int) msg) CH)).length = 32 := by rw [bc_len, recH_len]
  have hp6 : pw P.length ≤ 64 := pw_mono h6
  have hq : (2 : Int) ^ P.length = ((pw P.length : Nat) : Int) := by rw [pw_two]; simp
  have hn2 : (UInt64.ofNat P.length).toNat = P.length := by simp; omega
  obtain ⟨h, hh⟩ : ∃ h : Int, h = (P.length : Int) := ⟨_, rfl⟩
  have ht : h.toNat = P.length := by omega
  have hsh := sh1 (h := h) (by omega) (by omega)
  have hu : UInt64.ofInt h = UInt64.ofNat h.toNat := by rw [← u64_ofInt, Int.toNat_of_nonneg (by omega)]
  have hn : (UInt64.ofNat h.toNat).toNat = h.toNat := by simp; omega
  rw [ht] at hsh hu hn
  rw [hh] at hu
  refine calls_in (tb := tb) (fn := Try.f16) Try.func16 rfl rfl rfl [(0, .agg (.i64 (P.length : Int) :: bc rt)), (1, .c (.slc ma msg.length mc)), (2, .agg (scs (k : Int) CH.flatten pa P.length pc))] rfl [] (St.refl _) ?_
  refine wc_seq ?_
  refine wc_region ?_
  refine wl_ef rfl (ef_box rfl rfl rfl (fun b hb => ?_))
  refine wl_ef rfl (ef_box rfl rfl rfl (fun b2 hb2 => ?_))
  have offm : Off w ma [⟨.at b2 0, scs (k : Int) CH.flatten pa P.length pc, 38, (0, 0), []⟩, ⟨.at b 0, .i64 (P.length : Int) :: bc rt, 32, (0, 0), []⟩] := off_new (newKey hb2) (off_new (newKey hb) off_nil)
  have offp : Off w pa [⟨.at b2 0, scs (k : Int) CH.flatten pa P.length pc, 38, (0, 0), []⟩, ⟨.at b 0, .i64 (P.length : Int) :: bc rt, 32, (0, 0), []⟩] := off_new (newKey hb2) (off_new (newKey hb) off_nil)
  have hS : ∀ w', St w [⟨.at b2 0, scs (k : Int) CH.flatten pa P.length pc, 38, (0, 0), []⟩, ⟨.at b 0, .i64 (P.length : Int) :: bc rt, 32, (0, 0), []⟩] w' → St w [⟨.at b2 0, scs (k : Int) CH.flatten pa P.length pc, 38, (0, 0), []⟩, ⟨.at b 0, .i64 (P.length : Int) :: bc rt, 32, (0, 0), []⟩] w' := fun _ h => h
  refine wl_q rfl rfl rfl (qt_p tbok rfl) ?_
  refine wl_done ?_
  refine nk_code ?_
  refine wc_seq ?_
  refine wc_seq ?_
  refine wc_quiet follows (by kernel_rfl) ?_
  refine wq_q rfl rfl rfl (qt_p tbok rfl) ?_
  first | refine wq_q rfl rfl rfl (qt_l tbok rfl rfl rfl) ?_ | refine wq_q rfl rfl rfl (qt_la tbok rfl rfl rfl) ?_
  refine wq_q rfl rfl rfl (qt_p tbok rfl) ?_
  refine wq_as (v' := .c (.bool false)) (congrArg (fun b => V.c (C.bool b)) (decide_eq_false (by omega))) ?_
  refine wq_q rfl rfl rfl (qt_p tbok rfl) ?_
  first | refine wq_gd rfl rfl rfl rfl (qt_p tbok rfl) ?_ | refine wq_skip rfl rfl rfl rfl rfl ?_
  first | refine wq_gd rfl rfl rfl rfl (qt_l tbok rfl rfl rfl) ?_ | refine wq_gd rfl rfl rfl rfl (qt_la tbok rfl rfl rfl) ?_ | refine wq_skip rfl rfl rfl rfl rfl ?_
  first | refine wq_gd rfl rfl rfl rfl (qt_p tbok rfl) ?_ | refine wq_skip rfl rfl rfl rfl rfl ?_
  refine wq_as (v' := .c (.bool false)) (congrArg (fun b => V.c (C.bool b)) (decide_eq_false (by omega))) ?_
  refine wq_q rfl rfl rfl (qt_p tbok rfl) ?_
  refine wq_q rfl rfl rfl (qt_p tbok rfl) ?_
  first | refine wq_gd rfl rfl rfl rfl (qt_p tbok rfl) ?_ | refine wq_skip rfl rfl rfl rfl rfl ?_
  first | refine wq_gd rfl rfl rfl rfl (qt_l tbok rfl rfl rfl) ?_ | refine wq_gd rfl rfl rfl rfl (qt_la tbok rfl rfl rfl) ?_ | refine wq_skip rfl rfl rfl rfl rfl ?_
  first | refine wq_gd rfl rfl rfl rfl (qt_p tbok rfl) ?_ | refine wq_skip rfl rfl rfl rfl rfl ?_
  refine wq_as (v' := .c (.bool false)) (congrArg (fun b => V.c (C.bool b)) (decide_eq_false (by omega))) ?_
  refine wq_q rfl rfl rfl (qt_p tbok rfl) ?_
  refine wq_q rfl rfl rfl (qt_p tbok rfl) ?_
  first | refine wq_gd rfl rfl rfl rfl (qt_p tbok rfl) ?_ | refine wq_skip rfl rfl rfl rfl rfl ?_
  first | refine wq_gd rfl rfl rfl rfl (qt_l tbok rfl rfl rfl) ?_ | refine wq_gd rfl rfl rfl rfl (qt_la tbok rfl rfl rfl) ?_ | refine wq_skip rfl rfl rfl rfl rfl ?_
  first | refine wq_gd rfl rfl rfl rfl (qt_p tbok rfl) ?_ | refine wq_skip rfl rfl rfl rfl rfl ?_
  first | refine wq_gd rfl rfl rfl rfl (qt_l tbok rfl rfl rfl) ?_ | refine wq_gd rfl rfl rfl rfl (qt_la tbok rfl rfl rfl) ?_ | refine wq_skip rfl rfl rfl rfl rfl ?_
  refine wq_gd rfl rfl rfl rfl (qt_pure tbok rfl (by rw [Int.toNat_natCast, hsh.1]; refine And.intro ?_ (And.intro ?_ (And.intro ?_ ?_)) <;> omega)) ?_
  refine wq_as (v' := .c (.i64 (pw P.length : Int))) (congrArg (fun z => V.c (C.i64 z)) (by rw [Int.toNat_natCast, hsh.1])) ?_
  first | refine wq_gd rfl rfl rfl rfl (qt_p tbok rfl) ?_ | refine wq_skip rfl rfl rfl rfl rfl ?_
  refine wq_as (v' := .c (.bool false)) (congrArg (fun b => V.c (C.bool b)) (decide_eq_false (by omega))) ?_
  refine wq_q rfl rfl rfl (qt_p tbok rfl) ?_
  refine wq_q rfl rfl rfl (qt_p tbok rfl) ?_
  first | refine wq_gd rfl rfl rfl rfl (qt_p tbok rfl) ?_ | refine wq_skip rfl rfl rfl rfl rfl ?_
  refine wq_gd rfl rfl rfl rfl (qt_load tbok rfl rfl rfl (rc_lk .here (scs_get hF).2.2)) ?_
  first | refine wq_gd rfl rfl rfl rfl (qt_len tbok rfl rfl) ?_ | refine wq_skip rfl rfl rfl rfl rfl ?_
  first | refine wq_gd rfl rfl rfl rfl (qt_p tbok rfl) ?_ | refine wq_skip rfl rfl rfl rfl rfl ?_
  first | refine wq_gd rfl rfl rfl rfl (qt_l tbok rfl rfl rfl) ?_ | refine wq_gd rfl rfl rfl rfl (qt_la tbok rfl rfl rfl) ?_ | refine wq_skip rfl rfl rfl rfl rfl ?_
  first | refine wq_gd rfl rfl rfl rfl (qt_p tbok rfl) ?_ | refine wq_gd rfl rfl rfl rfl (qt_neqn tbok rfl rfl rfl) ?_ | refine wq_skip rfl rfl rfl rfl rfl ?_
  refine wq_as (v' := .c (.bool false)) (congrArg (fun b => V.c (C.bool (!b))) (decide_eq_true (by omega))) ?_
  refine wq_q rfl rfl rfl (qt_p tbok rfl) ?_
  refine wq_done ?_
  refine wl_done ?_
  refine nk_code ?_
  refine wc_no rfl ?_
  refine wc_skip ?_
  refine nk_code ?_
  refine wc_seq ?_
  refine wc_draw (s0 := [⟨.at b2 0, scs (k : Int) CH.flatten pa P.length pc, 38, (0, 0), []⟩, ⟨.at b 0, .i64 (P.length : Int) :: bc rt, 32, (0, 0), []⟩]) 12 follows ?_
  refine wh_q 0 rfl (by kernel_rfl) rfl rfl rfl (qt_p tbok rfl) (hS) ?_
  first | refine wh_q 1 rfl (by kernel_rfl) rfl rfl rfl (qt_l tbok rfl rfl rfl) (hS) ?_ | refine wh_q 1 rfl (by kernel_rfl) rfl rfl rfl (qt_la tbok rfl rfl rfl) (hS) ?_
  refine wh_q 2 rfl (by kernel_rfl) rfl rfl rfl (qt_p tbok rfl) (hS) ?_
  refine wh_q 3 rfl (by kernel_rfl) rfl rfl rfl (qt_load_ag (l := .i64 (P.length : Int) :: bc rt) tbok rfl rfl rfl (by rw [List.length_cons, hrb]) (rs_lk (.there .here) at0)) (hS) ?_
  refine wh_q 4 rfl (by kernel_rfl) rfl rfl rfl (qt_p tbok rfl) (hS) ?_
  first | refine wh_q 5 rfl (by kernel_rfl) rfl rfl rfl (qt_l tbok rfl rfl rfl) (hS) ?_ | refine wh_q 5 rfl (by kernel_rfl) rfl rfl rfl (qt_la tbok rfl rfl rfl) (hS) ?_
  refine wh_q 6 rfl (by kernel_rfl) rfl rfl rfl (qt_p tbok rfl) (hS) ?_
  refine wh_q 8 rfl (by kernel_rfl) rfl rfl rfl (qt_p tbok rfl) (hS) ?_
  refine wh_q 9 rfl (by kernel_rfl) rfl rfl rfl (qt_load_ag (l := bc CH.flatten) tbok rfl rfl rfl hFb (rs_lk .here (scs_get hF).2.1)) (hS) ?_
  refine wh_two 7 11 (by kernel_rfl) ?_ ?_
  · refine wo_ef rfl rfl (ef_pure (v := .agg (bc (wordH (P.length : Int) rt (k : Int) msg))) (by kernel_rfl) rfl rfl (fun w1 h1 => word_c hr (cells_rd (rd_cells hm offm) (hS w1 h1)) (by omega)) ⟨hS, ?_⟩)
    refine wh_two 10 11 (by kernel_rfl) ?_ ?_
    · refine wo_ef rfl rfl (ef_pure (v := .agg (bc (recH (UInt32.ofInt (k : Int)) (wordH (P.length : Int) rt (k : Int) msg) CH))) (by kernel_rfl) rfl rfl (fun w1 _ => recover_c (wordH_len _ _ _ _) hC hCl) ⟨hS, ?_⟩)
      refine wh_one 11 (by kernel_rfl) (wo_ef rfl rfl (ef_alloc zero30 rfl rfl (fun r hr2 => ⟨fun w hw => hw.tail (newKey hr2), ?_⟩)))
      have hS : ∀ w', St w (⟨.at r 0, bc (List.replicate 32 0), 30, (0, 0), []⟩ :: [⟨.at b2 0, scs (k : Int) CH.flatten pa P.length pc, 38, (0, 0), []⟩, ⟨.at b 0, .i64 (P.length : Int) :: bc rt, 32, (0, 0), []⟩]) w' → St w [⟨.at b2 0, scs (k : Int) CH.flatten pa P.length pc, 38, (0, 0), []⟩, ⟨.at b 0, .i64 (P.length : Int) :: bc rt, 32, (0, 0), []⟩] w' := fun _ h => h.tail (newKey hr2)
      refine wh_one 12 (by kernel_rfl) (wo_fin rfl rfl (ef_store (cs' := bc (recH (UInt32.ofInt (k : Int)) (wordH (P.length : Int) rt (k : Int) msg) CH)) tbok rfl rfl rfl rfl .here hRb (Nat.le_of_ble_eq_true rfl) (spl_all hRb) ?_))
      refine wh_done (by kernel_rfl) ?_
      refine nk_code ?_
      refine wc_seq ?_
      refine wc_quiet follows (by kernel_rfl) ?_
      refine wq_q rfl rfl rfl (qt_p tbok rfl) ?_
      refine wq_q rfl rfl rfl (qt_load_ag (l := bc rt) tbok rfl rfl rfl hrb (rs_lk (.there (.there .here)) (fun j c hj => by show (C.i64 (P.length : Int) :: bc rt)[1 + j]? = some c; rw [Nat.add_comm]; exact hj))) ?_
      refine wq_q rfl rfl rfl (qt_p tbok rfl) ?_
      first | refine wq_q rfl rfl rfl (qt_l tbok rfl rfl rfl) ?_ | refine wq_q rfl rfl rfl (qt_la tbok rfl rfl rfl) ?_
      refine wq_q rfl rfl rfl (qt_pure tbok rfl (by rw [Int.toNat_natCast, Int.one_mul, hq]; refine And.intro ?_ (And.intro ?_ (And.intro ?_ ?_)) <;> omega)) ?_
      refine wq_as (v' := .c (.i64 (pw P.length : Int))) (congrArg (fun z => V.c (C.i64 z)) (by rw [Int.toNat_natCast, Int.one_mul, hq])) ?_
      refine wq_q rfl rfl rfl (qt_p tbok rfl) ?_
      first | refine wq_q rfl rfl rfl (qt_l tbok rfl rfl rfl) ?_ | refine wq_q rfl rfl rfl (qt_la tbok rfl rfl rfl) ?_
      refine wq_q rfl rfl rfl (qt_load_ag (l := bc (recH (UInt32.ofInt (k : Int)) (wordH (P.length : Int) rt (k : Int) msg) CH)) tbok rfl rfl rfl hRb (rs_lk .here at0)) ?_
      refine wq_call (.agg (bc (leafH (recH (UInt32.ofInt (k : Int)) (wordH (P.length : Int) rt (k : Int) msg) CH)))) (by kernel_rfl) rfl rfl (fun w1 _ => kleaf_c (recH_len _ _ _)) ?_
      refine wq_q rfl rfl rfl (qt_p tbok rfl) ?_
      refine wq_q rfl rfl rfl (qt_load tbok rfl rfl rfl (rc_lk (.there .here) (scs_get hF).2.2)) ?_
      refine wq_call (.c (.bool (decide (cl k (leafH (recH (UInt32.ofInt (k : Int)) (wordH (P.length : Int) rt (k : Int) msg) CH)) P = rt)))) (by kernel_rfl) rfl rfl (fun w1 h1 => check_c hP hk (by omega) (sha_len _) hr (cells_rd (rd_cells hc offp) (h1.tail (newKey hr2))) hcap) ?_
      refine wq_q rfl rfl rfl (qt_p tbok rfl) ?_
      refine wq_done ?_
      refine wl_done ?_
      refine nk_code ?_
      refine wc_ret ?_
      try dsimp only
      exact fin1 rfl (rv_tmp rfl) (fun w' hw => ⟨rfl, hw.all (new_cons (newKey hr2) (new_cons (newKey hb2) (new_cons (newKey hb) new_nil)))⟩)
    · refine wo_ef rfl rfl (ef_alloc zero30 rfl rfl (fun r hr2 => ⟨fun w hw => hw.tail (newKey hr2), ?_⟩))
      have hS : ∀ w', St w (⟨.at r 0, bc (List.replicate 32 0), 30, (0, 0), []⟩ :: [⟨.at b2 0, scs (k : Int) CH.flatten pa P.length pc, 38, (0, 0), []⟩, ⟨.at b 0, .i64 (P.length : Int) :: bc rt, 32, (0, 0), []⟩]) w' → St w [⟨.at b2 0, scs (k : Int) CH.flatten pa P.length pc, 38, (0, 0), []⟩, ⟨.at b 0, .i64 (P.length : Int) :: bc rt, 32, (0, 0), []⟩] w' := fun _ h => h.tail (newKey hr2)
      refine wh_one 10 (by kernel_rfl) (wo_ef rfl rfl (ef_pure (v := .agg (bc (recH (UInt32.ofInt (k : Int)) (wordH (P.length : Int) rt (k : Int) msg) CH))) (by kernel_rfl) rfl rfl (fun w1 _ => recover_c (wordH_len _ _ _ _) hC hCl) ⟨hS, ?_⟩))
      refine wh_one 12 (by kernel_rfl) (wo_fin rfl rfl (ef_store (cs' := bc (recH (UInt32.ofInt (k : Int)) (wordH (P.length : Int) rt (k : Int) msg) CH)) tbok rfl rfl rfl rfl .here hRb (Nat.le_of_ble_eq_true rfl) (spl_all hRb) ?_))
      refine wh_done (by kernel_rfl) ?_
      refine nk_code ?_
      refine wc_seq ?_
      refine wc_quiet follows (by kernel_rfl) ?_
      refine wq_q rfl rfl rfl (qt_p tbok rfl) ?_
      refine wq_q rfl rfl rfl (qt_load_ag (l := bc rt) tbok rfl rfl rfl hrb (rs_lk (.there (.there .here)) (fun j c hj => by show (C.i64 (P.length : Int) :: bc rt)[1 + j]? = some c; rw [Nat.add_comm]; exact hj))) ?_
      refine wq_q rfl rfl rfl (qt_p tbok rfl) ?_
      first | refine wq_q rfl rfl rfl (qt_l tbok rfl rfl rfl) ?_ | refine wq_q rfl rfl rfl (qt_la tbok rfl rfl rfl) ?_
      refine wq_q rfl rfl rfl (qt_pure tbok rfl (by rw [Int.toNat_natCast, Int.one_mul, hq]; refine And.intro ?_ (And.intro ?_ (And.intro ?_ ?_)) <;> omega)) ?_
      refine wq_as (v' := .c (.i64 (pw P.length : Int))) (congrArg (fun z => V.c (C.i64 z)) (by rw [Int.toNat_natCast, Int.one_mul, hq])) ?_
      refine wq_q rfl rfl rfl (qt_p tbok rfl) ?_
      first | refine wq_q rfl rfl rfl (qt_l tbok rfl rfl rfl) ?_ | refine wq_q rfl rfl rfl (qt_la tbok rfl rfl rfl) ?_
      refine wq_q rfl rfl rfl (qt_load_ag (l := bc (recH (UInt32.ofInt (k : Int)) (wordH (P.length : Int) rt (k : Int) msg) CH)) tbok rfl rfl rfl hRb (rs_lk .here at0)) ?_
      refine wq_call (.agg (bc (leafH (recH (UInt32.ofInt (k : Int)) (wordH (P.length : Int) rt (k : Int) msg) CH)))) (by kernel_rfl) rfl rfl (fun w1 _ => kleaf_c (recH_len _ _ _)) ?_
      refine wq_q rfl rfl rfl (qt_p tbok rfl) ?_
      refine wq_q rfl rfl rfl (qt_load tbok rfl rfl rfl (rc_lk (.there .here) (scs_get hF).2.2)) ?_
      refine wq_call (.c (.bool (decide (cl k (leafH (recH (UInt32.ofInt (k : Int)) (wordH (P.length : Int) rt (k : Int) msg) CH)) P = rt)))) (by kernel_rfl) rfl rfl (fun w1 h1 => check_c hP hk (by omega) (sha_len _) hr (cells_rd (rd_cells hc offp) (h1.tail (newKey hr2))) hcap) ?_
      refine wq_q rfl rfl rfl (qt_p tbok rfl) ?_
      refine wq_done ?_
      refine wl_done ?_
      refine nk_code ?_
      refine wc_ret ?_
      try dsimp only
      exact fin1 rfl (rv_tmp rfl) (fun w' hw => ⟨rfl, hw.all (new_cons (newKey hr2) (new_cons (newKey hb2) (new_cons (newKey hb) new_nil)))⟩)
  · refine wo_ef rfl rfl (ef_alloc zero30 rfl rfl (fun r hr2 => ⟨fun w hw => hw.tail (newKey hr2), ?_⟩))
    have hS : ∀ w', St w (⟨.at r 0, bc (List.replicate 32 0), 30, (0, 0), []⟩ :: [⟨.at b2 0, scs (k : Int) CH.flatten pa P.length pc, 38, (0, 0), []⟩, ⟨.at b 0, .i64 (P.length : Int) :: bc rt, 32, (0, 0), []⟩]) w' → St w [⟨.at b2 0, scs (k : Int) CH.flatten pa P.length pc, 38, (0, 0), []⟩, ⟨.at b 0, .i64 (P.length : Int) :: bc rt, 32, (0, 0), []⟩] w' := fun _ h => h.tail (newKey hr2)
    refine wh_one 7 (by kernel_rfl) (wo_ef rfl rfl (ef_pure (v := .agg (bc (wordH (P.length : Int) rt (k : Int) msg))) (by kernel_rfl) rfl rfl (fun w1 h1 => word_c hr (cells_rd (rd_cells hm offm) (hS w1 h1)) (by omega)) ⟨hS, ?_⟩))
    refine wh_one 10 (by kernel_rfl) (wo_ef rfl rfl (ef_pure (v := .agg (bc (recH (UInt32.ofInt (k : Int)) (wordH (P.length : Int) rt (k : Int) msg) CH))) (by kernel_rfl) rfl rfl (fun w1 _ => recover_c (wordH_len _ _ _ _) hC hCl) ⟨hS, ?_⟩))
    refine wh_one 12 (by kernel_rfl) (wo_fin rfl rfl (ef_store (cs' := bc (recH (UInt32.ofInt (k : Int)) (wordH (P.length : Int) rt (k : Int) msg) CH)) tbok rfl rfl rfl rfl .here hRb (Nat.le_of_ble_eq_true rfl) (spl_all hRb) ?_))
    refine wh_done (by kernel_rfl) ?_
    refine nk_code ?_
    refine wc_seq ?_
    refine wc_quiet follows (by kernel_rfl) ?_
    refine wq_q rfl rfl rfl (qt_p tbok rfl) ?_
    refine wq_q rfl rfl rfl (qt_load_ag (l := bc rt) tbok rfl rfl rfl hrb (rs_lk (.there (.there .here)) (fun j c hj => by show (C.i64 (P.length : Int) :: bc rt)[1 + j]? = some c; rw [Nat.add_comm]; exact hj))) ?_
    refine wq_q rfl rfl rfl (qt_p tbok rfl) ?_
    first | refine wq_q rfl rfl rfl (qt_l tbok rfl rfl rfl) ?_ | refine wq_q rfl rfl rfl (qt_la tbok rfl rfl rfl) ?_
    refine wq_q rfl rfl rfl (qt_pure tbok rfl (by rw [Int.toNat_natCast, Int.one_mul, hq]; refine And.intro ?_ (And.intro ?_ (And.intro ?_ ?_)) <;> omega)) ?_
    refine wq_as (v' := .c (.i64 (pw P.length : Int))) (congrArg (fun z => V.c (C.i64 z)) (by rw [Int.toNat_natCast, Int.one_mul, hq])) ?_
    refine wq_q rfl rfl rfl (qt_p tbok rfl) ?_
    first | refine wq_q rfl rfl rfl (qt_l tbok rfl rfl rfl) ?_ | refine wq_q rfl rfl rfl (qt_la tbok rfl rfl rfl) ?_
    refine wq_q rfl rfl rfl (qt_load_ag (l := bc (recH (UInt32.ofInt (k : Int)) (wordH (P.length : Int) rt (k : Int) msg) CH)) tbok rfl rfl rfl hRb (rs_lk .here at0)) ?_
    refine wq_call (.agg (bc (leafH (recH (UInt32.ofInt (k : Int)) (wordH (P.length : Int) rt (k : Int) msg) CH)))) (by kernel_rfl) rfl rfl (fun w1 _ => kleaf_c (recH_len _ _ _)) ?_
    refine wq_q rfl rfl rfl (qt_p tbok rfl) ?_
    refine wq_q rfl rfl rfl (qt_load tbok rfl rfl rfl (rc_lk (.there .here) (scs_get hF).2.2)) ?_
    refine wq_call (.c (.bool (decide (cl k (leafH (recH (UInt32.ofInt (k : Int)) (wordH (P.length : Int) rt (k : Int) msg) CH)) P = rt)))) (by kernel_rfl) rfl rfl (fun w1 h1 => check_c hP hk (by omega) (sha_len _) hr (cells_rd (rd_cells hc offp) (h1.tail (newKey hr2))) hcap) ?_
    refine wq_q rfl rfl rfl (qt_p tbok rfl) ?_
    refine wq_done ?_
    refine wl_done ?_
    refine nk_code ?_
    refine wc_ret ?_
    try dsimp only
    exact fin1 rfl (rv_tmp rfl) (fun w' hw => ⟨rfl, hw.all (new_cons (newKey hr2) (new_cons (newKey hb2) (new_cons (newKey hb) new_nil)))⟩)

theorem ver16_c {w : World} {h i : Int} {rt msg : List UInt8} {CH P : List (List UInt8)} {pa ma : Ad} {pc mc : Nat} (hr : rt.length = 32) (hC : A32 CH) (hCl : CH.length = 67) (hP : A32 P) (hcap : P.length ≤ pc) (hc : Cells w pa (bc P.flatten)) (hm : Cells w ma (bc msg)) (hmax : msg.length ≤ 1073741000) :
    CallsV Try.prog 16 [.agg (.i64 h :: bc rt), .c (.slc ma msg.length mc), .agg (scs i CH.flatten pa P.length pc)] w fun en w' => en = .returned (V.c (.bool (verB h rt msg i CH P))).den ∧ St w [] w' := by
  have hF : CH.flatten.length = 2144 := by rw [flat_len hC, hCl]
  unfold verB
  by_cases c : h < 0
  · rw [if_pos (.inl c)]; exact ver16_f0 hF c
  by_cases c2 : 6 < h
  · rw [if_pos (.inr (.inl c2))]; exact ver16_f1 hF (by omega) c2
  by_cases c3 : i < 0
  · rw [if_pos (.inr (.inr (.inl c3)))]; exact ver16_f2 hF (by omega) (by omega) c3
  by_cases c4 : ((pw h.toNat : Nat) : Int) ≤ i
  · rw [if_pos (.inr (.inr (.inr (.inl c4))))]; exact ver16_f3 hF (by omega) (by omega) (by omega) c4
  by_cases c5 : (P.length : Int) ≠ h
  · rw [if_pos (.inr (.inr (.inr (.inr c5))))]; exact ver16_f4 hF (by omega) (by omega) (by omega) (by omega) c5
  rw [if_neg (by intro h; rcases h with h | h | h | h | h <;> omega)]
  have e1 : h = (P.length : Int) := by omega
  subst e1
  obtain ⟨k, rfl⟩ := Int.eq_ofNat_of_zero_le (by omega : 0 ≤ i)
  rw [Int.toNat_natCast] at c4 ⊢
  exact ver16_t hr hC hCl hP (by omega) (by omega) hcap hc hm hmax

theorem ver18_f0 {w : World} {h i : Int} {rt msg : List UInt8} {CH P : List (List UInt8)} {pa ma : Ad} {pc mc : Nat} (hF : CH.flatten.length = 2144) (c : h < 0) : CallsV Try.prog 18 [.agg (.i64 h :: bc rt), .c (.slc ma msg.length mc), .agg (scs i CH.flatten pa P.length pc)] w fun en w' => en = .returned (V.c (.bool false)).den ∧ St w [] w' := by
  refine calls_in (tb := tb) (fn := Try.f18) Try.func18 rfl rfl rfl [(0, .agg (.i64 h :: bc rt)), (1, .c (.slc ma msg.length mc)), (2, .agg (scs i CH.flatten pa P.length pc))] rfl [] (St.refl _) ?_
  refine wc_seq ?_
  refine wc_region ?_
  refine wl_ef rfl (ef_box rfl rfl rfl (fun b hb => ?_))
  refine wl_ef rfl (ef_box rfl rfl rfl (fun b2 hb2 => ?_))
  refine wl_q rfl rfl rfl (qt_p tbok rfl) ?_
  refine wl_done ?_
  refine nk_code ?_
  refine wc_seq ?_
  refine wc_seq ?_
  refine wc_region ?_
  refine wl_q rfl rfl rfl (qt_p tbok rfl) ?_
  first | refine wl_q rfl rfl rfl (qt_l tbok rfl rfl rfl) ?_ | refine wl_q rfl rfl rfl (qt_la tbok rfl rfl rfl) ?_
  refine wl_q rfl rfl rfl (qt_p tbok rfl) ?_
  refine wl_as (v' := .c (.bool true)) (congrArg (fun b => V.c (C.bool b)) (decide_eq_true (by omega))) ?_
  refine wl_q rfl rfl rfl (qt_p tbok rfl) ?_
  first | refine wl_g rfl rfl rfl rfl (qt_p tbok rfl) ?_ | refine wl_skip rfl rfl rfl rfl rfl ?_
  first | refine wl_g rfl rfl rfl rfl (qt_l tbok rfl rfl rfl) ?_ | refine wl_g rfl rfl rfl rfl (qt_la tbok rfl rfl rfl) ?_ | refine wl_skip rfl rfl rfl rfl rfl ?_
  first | refine wl_g rfl rfl rfl rfl (qt_p tbok rfl) ?_ | refine wl_skip rfl rfl rfl rfl rfl ?_
  refine wl_q rfl rfl rfl (qt_p tbok rfl) ?_
  refine wl_q rfl rfl rfl (qt_p tbok rfl) ?_
  first | refine wl_g rfl rfl rfl rfl (qt_p tbok rfl) ?_ | refine wl_skip rfl rfl rfl rfl rfl ?_
  first | refine wl_g rfl rfl rfl rfl (qt_l tbok rfl rfl rfl) ?_ | refine wl_g rfl rfl rfl rfl (qt_la tbok rfl rfl rfl) ?_ | refine wl_skip rfl rfl rfl rfl rfl ?_
  first | refine wl_g rfl rfl rfl rfl (qt_p tbok rfl) ?_ | refine wl_skip rfl rfl rfl rfl rfl ?_
  refine wl_q rfl rfl rfl (qt_p tbok rfl) ?_
  refine wl_q rfl rfl rfl (qt_p tbok rfl) ?_
  first | refine wl_g rfl rfl rfl rfl (qt_p tbok rfl) ?_ | refine wl_skip rfl rfl rfl rfl rfl ?_
  first | refine wl_g rfl rfl rfl rfl (qt_l tbok rfl rfl rfl) ?_ | refine wl_g rfl rfl rfl rfl (qt_la tbok rfl rfl rfl) ?_ | refine wl_skip rfl rfl rfl rfl rfl ?_
  first | refine wl_g rfl rfl rfl rfl (qt_p tbok rfl) ?_ | refine wl_skip rfl rfl rfl rfl rfl ?_
  first | refine wl_g rfl rfl rfl rfl (qt_l tbok rfl rfl rfl) ?_ | refine wl_g rfl rfl rfl rfl (qt_la tbok rfl rfl rfl) ?_ | refine wl_skip rfl rfl rfl rfl rfl ?_
  first | refine wl_g rfl rfl rfl rfl (qt_p tbok rfl) ?_ | refine wl_skip rfl rfl rfl rfl rfl ?_
  first | refine wl_g rfl rfl rfl rfl (qt_p tbok rfl) ?_ | refine wl_skip rfl rfl rfl rfl rfl ?_
  first | refine wl_g rfl rfl rfl rfl (qt_p tbok rfl) ?_ | refine wl_skip rfl rfl rfl rfl rfl ?_
  refine wl_q rfl rfl rfl (qt_p tbok rfl) ?_
  refine wl_q rfl rfl rfl (qt_p tbok rfl) ?_
  first | refine wl_g rfl rfl rfl rfl (qt_p tbok rfl) ?_ | refine wl_skip rfl rfl rfl rfl rfl ?_
  first | refine wl_g rfl rfl rfl rfl (qt_l tbok rfl rfl rfl) ?_ | refine wl_g rfl rfl rfl rfl (qt_la tbok rfl rfl rfl) ?_ | refine wl_skip rfl rfl rfl rfl rfl ?_
  first | refine wl_g rfl rfl rfl rfl (qt_len tbok rfl rfl) ?_ | refine wl_skip rfl rfl rfl rfl rfl ?_
  first | refine wl_g rfl rfl rfl rfl (qt_p tbok rfl) ?_ | refine wl_skip rfl rfl rfl rfl rfl ?_
  first | refine wl_g rfl rfl rfl rfl (qt_l tbok rfl rfl rfl) ?_ | refine wl_g rfl rfl rfl rfl (qt_la tbok rfl rfl rfl) ?_ | refine wl_skip rfl rfl rfl rfl rfl ?_
  first | refine wl_g rfl rfl rfl rfl (qt_p tbok rfl) ?_ | refine wl_g rfl rfl rfl rfl (qt_neqn tbok rfl rfl rfl) ?_ | refine wl_skip rfl rfl rfl rfl rfl ?_
  refine wl_q rfl rfl rfl (qt_p tbok rfl) ?_
  refine wl_done ?_
  refine nk_code ?_
  refine wc_yes rfl ?_
  refine wc_seq ?_
  refine wc_region ?_
  refine wl_q rfl rfl rfl (qt_p tbok rfl) ?_
  refine wl_done ?_
  refine nk_code ?_
  refine wc_ret ?_
  try dsimp only
  exact fin1 rfl (rv_tmp rfl) (fun w' hw => ⟨rfl, hw.all (new_cons (newKey hb2) (new_cons (newKey hb) new_nil))⟩)

theorem ver18_f1 {w : World} {h i : Int} {rt msg : List UInt8} {CH P : List (List UInt8)} {pa ma : Ad} {pc mc : Nat} (hF : CH.flatten.length = 2144) (c1 : 0 ≤ h) (c : 6 < h) : CallsV Try.prog 18 [.agg (.i64 h :: bc rt), .c (.slc ma msg.length mc), .agg (scs i CH.flatten pa P.length pc)] w fun en w' => en = .returned (V.c (.bool false)).den ∧ St w [] w' := by
  refine calls_in (tb := tb) (fn := Try.f18) Try.func18 rfl rfl rfl [(0, .agg (.i64 h :: bc rt)), (1, .c (.slc ma msg.length mc)), (2, .agg (scs i CH.flatten pa P.length pc))] rfl [] (St.refl _) ?_
  refine wc_seq ?_
  refine wc_region ?_
  refine wl_ef rfl (ef_box rfl rfl rfl (fun b hb => ?_))
  refine wl_ef rfl (ef_box rfl rfl rfl (fun b2 hb2 => ?_))
  refine wl_q rfl rfl rfl (qt_p tbok rfl) ?_
  refine wl_done ?_
  refine nk_code ?_
  refine wc_seq ?_
  refine wc_seq ?_
  refine wc_region ?_
  refine wl_q rfl rfl rfl (qt_p tbok rfl) ?_
  first | refine wl_q rfl rfl rfl (qt_l tbok rfl rfl rfl) ?_ | refine wl_q rfl rfl rfl (qt_la tbok rfl rfl rfl) ?_
  refine wl_q rfl rfl rfl (qt_p tbok rfl) ?_
  refine wl_as (v' := .c (.bool false)) (congrArg (fun b => V.c (C.bool b)) (decide_eq_false (by omega))) ?_
  refine wl_q rfl rfl rfl (qt_p tbok rfl) ?_
  first | refine wl_g rfl rfl rfl rfl (qt_p tbok rfl) ?_ | refine wl_skip rfl rfl rfl rfl rfl ?_
  first | refine wl_g rfl rfl rfl rfl (qt_l tbok rfl rfl rfl) ?_ | refine wl_g rfl rfl rfl rfl (qt_la tbok rfl rfl rfl) ?_ | refine wl_skip rfl rfl rfl rfl rfl ?_
  first | refine wl_g rfl rfl rfl rfl (qt_p tbok rfl) ?_ | refine wl_skip rfl rfl rfl rfl rfl ?_
  refine wl_as (v' := .c (.bool true)) (congrArg (fun b => V.c (C.bool b)) (decide_eq_true (by omega))) ?_
  refine wl_q rfl rfl rfl (qt_p tbok rfl) ?_
  refine wl_q rfl rfl rfl (qt_p tbok rfl) ?_
  first | refine wl_g rfl rfl rfl rfl (qt_p tbok rfl) ?_ | refine wl_skip rfl rfl rfl rfl rfl ?_
  first | refine wl_g rfl rfl rfl rfl (qt_l tbok rfl rfl rfl) ?_ | refine wl_g rfl rfl rfl rfl (qt_la tbok rfl rfl rfl) ?_ | refine wl_skip rfl rfl rfl rfl rfl ?_
  first | refine wl_g rfl rfl rfl rfl (qt_p tbok rfl) ?_ | refine wl_skip rfl rfl rfl rfl rfl ?_
  refine wl_q rfl rfl rfl (qt_p tbok rfl) ?_
  refine wl_q rfl rfl rfl (qt_p tbok rfl) ?_
  first | refine wl_g rfl rfl rfl rfl (qt_p tbok rfl) ?_ | refine wl_skip rfl rfl rfl rfl rfl ?_
  first | refine wl_g rfl rfl rfl rfl (qt_l tbok rfl rfl rfl) ?_ | refine wl_g rfl rfl rfl rfl (qt_la tbok rfl rfl rfl) ?_ | refine wl_skip rfl rfl rfl rfl rfl ?_
  first | refine wl_g rfl rfl rfl rfl (qt_p tbok rfl) ?_ | refine wl_skip rfl rfl rfl rfl rfl ?_
  first | refine wl_g rfl rfl rfl rfl (qt_l tbok rfl rfl rfl) ?_ | refine wl_g rfl rfl rfl rfl (qt_la tbok rfl rfl rfl) ?_ | refine wl_skip rfl rfl rfl rfl rfl ?_
  first | refine wl_g rfl rfl rfl rfl (qt_p tbok rfl) ?_ | refine wl_skip rfl rfl rfl rfl rfl ?_
  first | refine wl_g rfl rfl rfl rfl (qt_p tbok rfl) ?_ | refine wl_skip rfl rfl rfl rfl rfl ?_
  first | refine wl_g rfl rfl rfl rfl (qt_p tbok rfl) ?_ | refine wl_skip rfl rfl rfl rfl rfl ?_
  refine wl_q rfl rfl rfl (qt_p tbok rfl) ?_
  refine wl_q rfl rfl rfl (qt_p tbok rfl) ?_
  first | refine wl_g rfl rfl rfl rfl (qt_p tbok rfl) ?_ | refine wl_skip rfl rfl rfl rfl rfl ?_
  first | refine wl_g rfl rfl rfl rfl (qt_l tbok rfl rfl rfl) ?_ | refine wl_g rfl rfl rfl rfl (qt_la tbok rfl rfl rfl) ?_ | refine wl_skip rfl rfl rfl rfl rfl ?_
  first | refine wl_g rfl rfl rfl rfl (qt_len tbok rfl rfl) ?_ | refine wl_skip rfl rfl rfl rfl rfl ?_
  first | refine wl_g rfl rfl rfl rfl (qt_p tbok rfl) ?_ | refine wl_skip rfl rfl rfl rfl rfl ?_
  first | refine wl_g rfl rfl rfl rfl (qt_l tbok rfl rfl rfl) ?_ | refine wl_g rfl rfl rfl rfl (qt_la tbok rfl rfl rfl) ?_ | refine wl_skip rfl rfl rfl rfl rfl ?_
  first | refine wl_g rfl rfl rfl rfl (qt_p tbok rfl) ?_ | refine wl_g rfl rfl rfl rfl (qt_neqn tbok rfl rfl rfl) ?_ | refine wl_skip rfl rfl rfl rfl rfl ?_
  refine wl_q rfl rfl rfl (qt_p tbok rfl) ?_
  refine wl_done ?_
  refine nk_code ?_
  refine wc_yes rfl ?_
  refine wc_seq ?_
  refine wc_region ?_
  refine wl_q rfl rfl rfl (qt_p tbok rfl) ?_
  refine wl_done ?_
  refine nk_code ?_
  refine wc_ret ?_
  try dsimp only
  exact fin1 rfl (rv_tmp rfl) (fun w' hw => ⟨rfl, hw.all (new_cons (newKey hb2) (new_cons (newKey hb) new_nil))⟩)

theorem ver18_f2 {w : World} {h i : Int} {rt msg : List UInt8} {CH P : List (List UInt8)} {pa ma : Ad} {pc mc : Nat} (hF : CH.flatten.length = 2144) (c1 : 0 ≤ h) (c2 : h ≤ 6) (c : i < 0) : CallsV Try.prog 18 [.agg (.i64 h :: bc rt), .c (.slc ma msg.length mc), .agg (scs i CH.flatten pa P.length pc)] w fun en w' => en = .returned (V.c (.bool false)).den ∧ St w [] w' := by
  refine calls_in (tb := tb) (fn := Try.f18) Try.func18 rfl rfl rfl [(0, .agg (.i64 h :: bc rt)), (1, .c (.slc ma msg.length mc)), (2, .agg (scs i CH.flatten pa P.length pc))] rfl [] (St.refl _) ?_
  refine wc_seq ?_
  refine wc_region ?_
  refine wl_ef rfl (ef_box rfl rfl rfl (fun b hb => ?_))
  refine wl_ef rfl (ef_box rfl rfl rfl (fun b2 hb2 => ?_))
  refine wl_q rfl rfl rfl (qt_p tbok rfl) ?_
  refine wl_done ?_
  refine nk_code ?_
  refine wc_seq ?_
  refine wc_seq ?_
  refine wc_region ?_
  refine wl_q rfl rfl rfl (qt_p tbok rfl) ?_
  first | refine wl_q rfl rfl rfl (qt_l tbok rfl rfl rfl) ?_ | refine wl_q rfl rfl rfl (qt_la tbok rfl rfl rfl) ?_
  refine wl_q rfl rfl rfl (qt_p tbok rfl) ?_
  refine wl_as (v' := .c (.bool false)) (congrArg (fun b => V.c (C.bool b)) (decide_eq_false (by omega))) ?_
  refine wl_q rfl rfl rfl (qt_p tbok rfl) ?_
  first | refine wl_g rfl rfl rfl rfl (qt_p tbok rfl) ?_ | refine wl_skip rfl rfl rfl rfl rfl ?_
  first | refine wl_g rfl rfl rfl rfl (qt_l tbok rfl rfl rfl) ?_ | refine wl_g rfl rfl rfl rfl (qt_la tbok rfl rfl rfl) ?_ | refine wl_skip rfl rfl rfl rfl rfl ?_
  first | refine wl_g rfl rfl rfl rfl (qt_p tbok rfl) ?_ | refine wl_skip rfl rfl rfl rfl rfl ?_
  refine wl_as (v' := .c (.bool false)) (congrArg (fun b => V.c (C.bool b)) (decide_eq_false (by omega))) ?_
  refine wl_q rfl rfl rfl (qt_p tbok rfl) ?_
  refine wl_q rfl rfl rfl (qt_p tbok rfl) ?_
  first | refine wl_g rfl rfl rfl rfl (qt_p tbok rfl) ?_ | refine wl_skip rfl rfl rfl rfl rfl ?_
  first | refine wl_g rfl rfl rfl rfl (qt_l tbok rfl rfl rfl) ?_ | refine wl_g rfl rfl rfl rfl (qt_la tbok rfl rfl rfl) ?_ | refine wl_skip rfl rfl rfl rfl rfl ?_
  first | refine wl_g rfl rfl rfl rfl (qt_p tbok rfl) ?_ | refine wl_skip rfl rfl rfl rfl rfl ?_
  refine wl_as (v' := .c (.bool true)) (congrArg (fun b => V.c (C.bool b)) (decide_eq_true (by omega))) ?_
  refine wl_q rfl rfl rfl (qt_p tbok rfl) ?_
  refine wl_q rfl rfl rfl (qt_p tbok rfl) ?_
  first | refine wl_g rfl rfl rfl rfl (qt_p tbok rfl) ?_ | refine wl_skip rfl rfl rfl rfl rfl ?_
  first | refine wl_g rfl rfl rfl rfl (qt_l tbok rfl rfl rfl) ?_ | refine wl_g rfl rfl rfl rfl (qt_la tbok rfl rfl rfl) ?_ | refine wl_skip rfl rfl rfl rfl rfl ?_
  first | refine wl_g rfl rfl rfl rfl (qt_p tbok rfl) ?_ | refine wl_skip rfl rfl rfl rfl rfl ?_
  first | refine wl_g rfl rfl rfl rfl (qt_l tbok rfl rfl rfl) ?_ | refine wl_g rfl rfl rfl rfl (qt_la tbok rfl rfl rfl) ?_ | refine wl_skip rfl rfl rfl rfl rfl ?_
  first | refine wl_g rfl rfl rfl rfl (qt_p tbok rfl) ?_ | refine wl_skip rfl rfl rfl rfl rfl ?_
  first | refine wl_g rfl rfl rfl rfl (qt_p tbok rfl) ?_ | refine wl_skip rfl rfl rfl rfl rfl ?_
  first | refine wl_g rfl rfl rfl rfl (qt_p tbok rfl) ?_ | refine wl_skip rfl rfl rfl rfl rfl ?_
  refine wl_q rfl rfl rfl (qt_p tbok rfl) ?_
  refine wl_q rfl rfl rfl (qt_p tbok rfl) ?_
  first | refine wl_g rfl rfl rfl rfl (qt_p tbok rfl) ?_ | refine wl_skip rfl rfl rfl rfl rfl ?_
  first | refine wl_g rfl rfl rfl rfl (qt_l tbok rfl rfl rfl) ?_ | refine wl_g rfl rfl rfl rfl (qt_la tbok rfl rfl rfl) ?_ | refine wl_skip rfl rfl rfl rfl rfl ?_
  first | refine wl_g rfl rfl rfl rfl (qt_len tbok rfl rfl) ?_ | refine wl_skip rfl rfl rfl rfl rfl ?_
  first | refine wl_g rfl rfl rfl rfl (qt_p tbok rfl) ?_ | refine wl_skip rfl rfl rfl rfl rfl ?_
  first | refine wl_g rfl rfl rfl rfl (qt_l tbok rfl rfl rfl) ?_ | refine wl_g rfl rfl rfl rfl (qt_la tbok rfl rfl rfl) ?_ | refine wl_skip rfl rfl rfl rfl rfl ?_
  first | refine wl_g rfl rfl rfl rfl (qt_p tbok rfl) ?_ | refine wl_g rfl rfl rfl rfl (qt_neqn tbok rfl rfl rfl) ?_ | refine wl_skip rfl rfl rfl rfl rfl ?_
  refine wl_q rfl rfl rfl (qt_p tbok rfl) ?_
  refine wl_done ?_
  refine nk_code ?_
  refine wc_yes rfl ?_
  refine wc_seq ?_
  refine wc_region ?_
  refine wl_q rfl rfl rfl (qt_p tbok rfl) ?_
  refine wl_done ?_
  refine nk_code ?_
  refine wc_ret ?_
  try dsimp only
  exact fin1 rfl (rv_tmp rfl) (fun w' hw => ⟨rfl, hw.all (new_cons (newKey hb2) (new_cons (newKey hb) new_nil))⟩)

theorem ver18_f3 {w : World} {h i : Int} {rt msg : List UInt8} {CH P : List (List UInt8)} {pa ma : Ad} {pc mc : Nat} (hF : CH.flatten.length = 2144) (c1 : 0 ≤ h) (c2 : h ≤ 6) (c3 : 0 ≤ i) (c : ((pw h.toNat : Nat) : Int) ≤ i) : CallsV Try.prog 18 [.agg (.i64 h :: bc rt), .c (.slc ma msg.length mc), .agg (scs i CH.flatten pa P.length pc)] w fun en w' => en = .returned (V.c (.bool false)).den ∧ St w [] w' := by
  have hsh := sh1 c1 c2
  have hu : UInt64.ofInt h = UInt64.ofNat h.toNat := by rw [← u64_ofInt, Int.toNat_of_nonneg c1]
  have hn : (UInt64.ofNat h.toNat).toNat = h.toNat := by simp; omega
  refine calls_in (tb := tb) (fn := Try.f18) Try.func18 rfl rfl rfl [(0, .agg (.i64 h :: bc rt)), (1, .c (.slc ma msg.length mc)), (2, .agg (scs i CH.flatten pa P.length pc))] rfl [] (St.refl _) ?_
  refine wc_seq ?_
  refine wc_region ?_
  refine wl_ef rfl (ef_box rfl rfl rfl (fun b hb => ?_))
  refine wl_ef rfl (ef_box rfl rfl rfl (fun b2 hb2 => ?_))
  refine wl_q rfl rfl rfl (qt_p tbok rfl) ?_
  refine wl_done ?_
  refine nk_code ?_
  refine wc_seq ?_
  refine wc_seq ?_
  refine wc_region ?_
  refine wl_q rfl rfl rfl (qt_p tbok rfl) ?_
  first | refine wl_q rfl rfl rfl (qt_l tbok rfl rfl rfl) ?_ | refine wl_q rfl rfl rfl (qt_la tbok rfl rfl rfl) ?_
  refine wl_q rfl rfl rfl (qt_p tbok rfl) ?_
  refine wl_as (v' := .c (.bool false)) (congrArg (fun b => V.c (C.bool b)) (decide_eq_false (by omega))) ?_
  refine wl_q rfl rfl rfl (qt_p tbok rfl) ?_
  first | refine wl_g rfl rfl rfl rfl (qt_p tbok rfl) ?_ | refine wl_skip rfl rfl rfl rfl rfl ?_
  first | refine wl_g rfl rfl rfl rfl (qt_l tbok rfl rfl rfl) ?_ | refine wl_g rfl rfl rfl rfl (qt_la tbok rfl rfl rfl) ?_ | refine wl_skip rfl rfl rfl rfl rfl ?_
  first | refine wl_g rfl rfl rfl rfl (qt_p tbok rfl) ?_ | refine wl_skip rfl rfl rfl rfl rfl ?_
  refine wl_as (v' := .c (.bool false)) (congrArg (fun b => V.c (C.bool b)) (decide_eq_false (by omega))) ?_
  refine wl_q rfl rfl rfl (qt_p tbok rfl) ?_
  refine wl_q rfl rfl rfl (qt_p tbok rfl) ?_
  first | refine wl_g rfl rfl rfl rfl (qt_p tbok rfl) ?_ | refine wl_skip rfl rfl rfl rfl rfl ?_
  first | refine wl_g rfl rfl rfl rfl (qt_l tbok rfl rfl rfl) ?_ | refine wl_g rfl rfl rfl rfl (qt_la tbok rfl rfl rfl) ?_ | refine wl_skip rfl rfl rfl rfl rfl ?_
  first | refine wl_g rfl rfl rfl rfl (qt_p tbok rfl) ?_ | refine wl_skip rfl rfl rfl rfl rfl ?_
  refine wl_as (v' := .c (.bool false)) (congrArg (fun b => V.c (C.bool b)) (decide_eq_false (by omega))) ?_
  refine wl_q rfl rfl rfl (qt_p tbok rfl) ?_
  refine wl_q rfl rfl rfl (qt_p tbok rfl) ?_
  first | refine wl_g rfl rfl rfl rfl (qt_p tbok rfl) ?_ | refine wl_skip rfl rfl rfl rfl rfl ?_
  first | refine wl_g rfl rfl rfl rfl (qt_l tbok rfl rfl rfl) ?_ | refine wl_g rfl rfl rfl rfl (qt_la tbok rfl rfl rfl) ?_ | refine wl_skip rfl rfl rfl rfl rfl ?_
  first | refine wl_g rfl rfl rfl rfl (qt_p tbok rfl) ?_ | refine wl_skip rfl rfl rfl rfl rfl ?_
  first | refine wl_g rfl rfl rfl rfl (qt_l tbok rfl rfl rfl) ?_ | refine wl_g rfl rfl rfl rfl (qt_la tbok rfl rfl rfl) ?_ | refine wl_skip rfl rfl rfl rfl rfl ?_
  first | refine wl_g rfl rfl rfl rfl (qt_p tbok rfl) ?_ | refine wl_skip rfl rfl rfl rfl rfl ?_
  refine wl_as (v' := .c (.u64 (UInt64.ofNat h.toNat))) (congrArg (fun z => V.c (C.u64 z)) hu) ?_
  refine wl_g rfl rfl rfl rfl (qt_pure tbok rfl (by rw [hn, Int.toNat_natCast, hsh.1]; refine And.intro ?_ (And.intro ?_ (And.intro ?_ ?_)) <;> omega)) ?_
  refine wl_as (v' := .c (.i64 (pw h.toNat : Int))) (congrArg (fun z => V.c (C.i64 z)) (by rw [hn, Int.toNat_natCast, hsh.1])) ?_
  first | refine wl_g rfl rfl rfl rfl (qt_p tbok rfl) ?_ | refine wl_skip rfl rfl rfl rfl rfl ?_
  refine wl_as (v' := .c (.bool true)) (congrArg (fun b => V.c (C.bool b)) (decide_eq_true (by omega))) ?_
  refine wl_q rfl rfl rfl (qt_p tbok rfl) ?_
  refine wl_q rfl rfl rfl (qt_p tbok rfl) ?_
  first | refine wl_g rfl rfl rfl rfl (qt_p tbok rfl) ?_ | refine wl_skip rfl rfl rfl rfl rfl ?_
  first | refine wl_g rfl rfl rfl rfl (qt_l tbok rfl rfl rfl) ?_ | refine wl_g rfl rfl rfl rfl (qt_la tbok rfl rfl rfl) ?_ | refine wl_skip rfl rfl rfl rfl rfl ?_
  first | refine wl_g rfl rfl rfl rfl (qt_len tbok rfl rfl) ?_ | refine wl_skip rfl rfl rfl rfl rfl ?_
  first | refine wl_g rfl rfl rfl rfl (qt_p tbok rfl) ?_ | refine wl_skip rfl rfl rfl rfl rfl ?_
  first | refine wl_g rfl rfl rfl rfl (qt_l tbok rfl rfl rfl) ?_ | refine wl_g rfl rfl rfl rfl (qt_la tbok rfl rfl rfl) ?_ | refine wl_skip rfl rfl rfl rfl rfl ?_
  first | refine wl_g rfl rfl rfl rfl (qt_p tbok rfl) ?_ | refine wl_g rfl rfl rfl rfl (qt_neqn tbok rfl rfl rfl) ?_ | refine wl_skip rfl rfl rfl rfl rfl ?_
  refine wl_q rfl rfl rfl (qt_p tbok rfl) ?_
  refine wl_done ?_
  refine nk_code ?_
  refine wc_yes rfl ?_
  refine wc_seq ?_
  refine wc_region ?_
  refine wl_q rfl rfl rfl (qt_p tbok rfl) ?_
  refine wl_done ?_
  refine nk_code ?_
  refine wc_ret ?_
  try dsimp only
  exact fin1 rfl (rv_tmp rfl) (fun w' hw => ⟨rfl, hw.all (new_cons (newKey hb2) (new_cons (newKey hb) new_nil))⟩)

theorem ver18_f4 {w : World} {h i : Int} {rt msg : List UInt8} {CH P : List (List UInt8)} {pa ma : Ad} {pc mc : Nat} (hF : CH.flatten.length = 2144) (c1 : 0 ≤ h) (c2 : h ≤ 6) (c3 : 0 ≤ i) (c4 : i < ((pw h.toNat : Nat) : Int)) (c : (P.length : Int) ≠ h) : CallsV Try.prog 18 [.agg (.i64 h :: bc rt), .c (.slc ma msg.length mc), .agg (scs i CH.flatten pa P.length pc)] w fun en w' => en = .returned (V.c (.bool false)).den ∧ St w [] w' := by
  have hsh := sh1 c1 c2
  have hu : UInt64.ofInt h = UInt64.ofNat h.toNat := by rw [← u64_ofInt, Int.toNat_of_nonneg c1]
  have hn : (UInt64.ofNat h.toNat).toNat = h.toNat := by simp; omega
  refine calls_in (tb := tb) (fn := Try.f18) Try.func18 rfl rfl rfl [(0, .agg (.i64 h :: bc rt)), (1, .c (.slc ma msg.length mc)), (2, .agg (scs i CH.flatten pa P.length pc))] rfl [] (St.refl _) ?_
  refine wc_seq ?_
  refine wc_region ?_
  refine wl_ef rfl (ef_box rfl rfl rfl (fun b hb => ?_))
  refine wl_ef rfl (ef_box rfl rfl rfl (fun b2 hb2 => ?_))
  refine wl_q rfl rfl rfl (qt_p tbok rfl) ?_
  refine wl_done ?_
  refine nk_code ?_
  refine wc_seq ?_
  refine wc_seq ?_
  refine wc_region ?_
  refine wl_q rfl rfl rfl (qt_p tbok rfl) ?_
  first | refine wl_q rfl rfl rfl (qt_l tbok rfl rfl rfl) ?_ | refine wl_q rfl rfl rfl (qt_la tbok rfl rfl rfl) ?_
  refine wl_q rfl rfl rfl (qt_p tbok rfl) ?_
  refine wl_as (v' := .c (.bool false)) (congrArg (fun b => V.c (C.bool b)) (decide_eq_false (by omega))) ?_
  refine wl_q rfl rfl rfl (qt_p tbok rfl) ?_
  first | refine wl_g rfl rfl rfl rfl (qt_p tbok rfl) ?_ | refine wl_skip rfl rfl rfl rfl rfl ?_
  first | refine wl_g rfl rfl rfl rfl (qt_l tbok rfl rfl rfl) ?_ | refine wl_g rfl rfl rfl rfl (qt_la tbok rfl rfl rfl) ?_ | refine wl_skip rfl rfl rfl rfl rfl ?_
  first | refine wl_g rfl rfl rfl rfl (qt_p tbok rfl) ?_ | refine wl_skip rfl rfl rfl rfl rfl ?_
  refine wl_as (v' := .c (.bool false)) (congrArg (fun b => V.c (C.bool b)) (decide_eq_false (by omega))) ?_
  refine wl_q rfl rfl rfl (qt_p tbok rfl) ?_
  refine wl_q rfl rfl rfl (qt_p tbok rfl) ?_
  first | refine wl_g rfl rfl rfl rfl (qt_p tbok rfl) ?_ | refine wl_skip rfl rfl rfl rfl rfl ?_
  first | refine wl_g rfl rfl rfl rfl (qt_l tbok rfl rfl rfl) ?_ | refine wl_g rfl rfl rfl rfl (qt_la tbok rfl rfl rfl) ?_ | refine wl_skip rfl rfl rfl rfl rfl ?_
  first | refine wl_g rfl rfl rfl rfl (qt_p tbok rfl) ?_ | refine wl_skip rfl rfl rfl rfl rfl ?_
  refine wl_as (v' := .c (.bool false)) (congrArg (fun b => V.c (C.bool b)) (decide_eq_false (by omega))) ?_
  refine wl_q rfl rfl rfl (qt_p tbok rfl) ?_
  refine wl_q rfl rfl rfl (qt_p tbok rfl) ?_
  first | refine wl_g rfl rfl rfl rfl (qt_p tbok rfl) ?_ | refine wl_skip rfl rfl rfl rfl rfl ?_
  first | refine wl_g rfl rfl rfl rfl (qt_l tbok rfl rfl rfl) ?_ | refine wl_g rfl rfl rfl rfl (qt_la tbok rfl rfl rfl) ?_ | refine wl_skip rfl rfl rfl rfl rfl ?_
  first | refine wl_g rfl rfl rfl rfl (qt_p tbok rfl) ?_ | refine wl_skip rfl rfl rfl rfl rfl ?_
  first | refine wl_g rfl rfl rfl rfl (qt_l tbok rfl rfl rfl) ?_ | refine wl_g rfl rfl rfl rfl (qt_la tbok rfl rfl rfl) ?_ | refine wl_skip rfl rfl rfl rfl rfl ?_
  first | refine wl_g rfl rfl rfl rfl (qt_p tbok rfl) ?_ | refine wl_skip rfl rfl rfl rfl rfl ?_
  refine wl_as (v' := .c (.u64 (UInt64.ofNat h.toNat))) (congrArg (fun z => V.c (C.u64 z)) hu) ?_
  refine wl_g rfl rfl rfl rfl (qt_pure tbok rfl (by rw [hn, Int.toNat_natCast, hsh.1]; refine And.intro ?_ (And.intro ?_ (And.intro ?_ ?_)) <;> omega)) ?_
  refine wl_as (v' := .c (.i64 (pw h.toNat : Int))) (congrArg (fun z => V.c (C.i64 z)) (by rw [hn, Int.toNat_natCast, hsh.1])) ?_
  first | refine wl_g rfl rfl rfl rfl (qt_p tbok rfl) ?_ | refine wl_skip rfl rfl rfl rfl rfl ?_
  refine wl_as (v' := .c (.bool false)) (congrArg (fun b => V.c (C.bool b)) (decide_eq_false (by omega))) ?_
  refine wl_q rfl rfl rfl (qt_p tbok rfl) ?_
  refine wl_q rfl rfl rfl (qt_p tbok rfl) ?_
  first | refine wl_g rfl rfl rfl rfl (qt_p tbok rfl) ?_ | refine wl_skip rfl rfl rfl rfl rfl ?_
  refine wl_g rfl rfl rfl rfl (qt_load tbok rfl rfl rfl (rc_lk .here (scs_get hF).2.2)) ?_
  first | refine wl_g rfl rfl rfl rfl (qt_len tbok rfl rfl) ?_ | refine wl_skip rfl rfl rfl rfl rfl ?_
  first | refine wl_g rfl rfl rfl rfl (qt_p tbok rfl) ?_ | refine wl_skip rfl rfl rfl rfl rfl ?_
  first | refine wl_g rfl rfl rfl rfl (qt_l tbok rfl rfl rfl) ?_ | refine wl_g rfl rfl rfl rfl (qt_la tbok rfl rfl rfl) ?_ | refine wl_skip rfl rfl rfl rfl rfl ?_
  first | refine wl_g rfl rfl rfl rfl (qt_p tbok rfl) ?_ | refine wl_g rfl rfl rfl rfl (qt_neqn tbok rfl rfl rfl) ?_ | refine wl_skip rfl rfl rfl rfl rfl ?_
  refine wl_as (v' := .c (.bool true)) (congrArg (fun b => V.c (C.bool (!b))) (decide_eq_false (by omega))) ?_
  refine wl_q rfl rfl rfl (qt_p tbok rfl) ?_
  refine wl_done ?_
  refine nk_code ?_
  refine wc_yes rfl ?_
  refine wc_seq ?_
  refine wc_region ?_
  refine wl_q rfl rfl rfl (qt_p tbok rfl) ?_
  refine wl_done ?_
  refine nk_code ?_
  refine wc_ret ?_
  try dsimp only
  exact fin1 rfl (rv_tmp rfl) (fun w' hw => ⟨rfl, hw.all (new_cons (newKey hb2) (new_cons (newKey hb) new_nil))⟩)

theorem ver18_t {w : World} {k : Nat} {rt msg : List UInt8} {CH P : List (List UInt8)} {pa ma : Ad} {pc mc : Nat} (hr : rt.length = 32) (hC : A32 CH) (hCl : CH.length = 67) (hP : A32 P) (h6 : P.length ≤ 6) (hk : k < pw P.length) (hcap : P.length ≤ pc) (hc : Cells w pa (bc P.flatten)) (hm : Cells w ma (bc msg)) (hmax : msg.length ≤ 1073741000) :
    CallsV Try.prog 18 [.agg (.i64 (P.length : Int) :: bc rt), .c (.slc ma msg.length mc), .agg (scs (k : Int) CH.flatten pa P.length pc)] w fun en w' => en = .returned (V.c (.bool (decide (cl k (leafH (recH (UInt32.ofInt (k : Int)) (wordH (P.length : Int) rt (k : Int) msg) CH)) P = rt)))).den ∧ St w [] w' := by
  have hF : CH.flatten.length = 2144 := by rw [flat_len hC, hCl]
  have hFb : (bc CH.flatten).length = 2144 := by rw [bc_len, hF]
  have hrb : (bc rt).length = 32 := by rw [bc_len, hr]
  have hRb : (bc (recH (UInt32.ofInt (k : Int)) (wordH (P.length : Int) rt (k : Int) msg) CH)).length = 32 := by rw [bc_len, recH_len]
  have hp6 : pw P.length ≤ 64 := pw_mono h6
  have hq : (2 : Int) ^ P.length = ((pw P.length : Nat) : Int) := by rw [pw_two]; simp
  have hn2 : (UInt64.ofNat P.length).toNat = P.length := by simp; omega
  obtain ⟨h, hh⟩ : ∃ h : Int, h = (P.length : Int) := ⟨_, rfl⟩
  have ht : h.toNat = P.length := by omega
  have hsh := sh1 (h := h) (by omega) (by omega)
  have hu : UInt64.ofInt h = UInt64.ofNat h.toNat := by rw [← u64_ofInt, Int.toNat_of_nonneg (by omega)]
  have hn : (UInt64.ofNat h.toNat).toNat = h.toNat := by simp; omega
  rw [ht] at hsh hu hn
  rw [hh] at hu
  refine calls_in (tb := tb) (fn := Try.f18) Try.func18 rfl rfl rfl [(0, .agg (.i64 (P.length : Int) :: bc rt)), (1, .c (.slc ma msg.length mc)), (2, .agg (scs (k : Int) CH.flatten pa P.length pc))] rfl [] (St.refl _) ?_
  refine wc_seq ?_
  refine wc_region ?_
  refine wl_ef rfl (ef_box rfl rfl rfl (fun b hb => ?_))
  refine wl_ef rfl (ef_box rfl rfl rfl (fun b2 hb2 => ?_))
  have offm : Off w ma [⟨.at b2 0, scs (k : Int) CH.flatten pa P.length pc, 29, (0, 0), []⟩, ⟨.at b 0, .i64 (P.length : Int) :: bc rt, 24, (0, 0), []⟩] := off_new (newKey hb2) (off_new (newKey hb) off_nil)
  have offp : Off w pa [⟨.at b2 0, scs (k : Int) CH.flatten pa P.length pc, 29, (0, 0), []⟩, ⟨.at b 0, .i64 (P.length : Int) :: bc rt, 24, (0, 0), []⟩] := off_new (newKey hb2) (off_new (newKey hb) off_nil)
  have hS : ∀ w', St w [⟨.at b2 0, scs (k : Int) CH.flatten pa P.length pc, 29, (0, 0), []⟩, ⟨.at b 0, .i64 (P.length : Int) :: bc rt, 24, (0, 0), []⟩] w' → St w [⟨.at b2 0, scs (k : Int) CH.flatten pa P.length pc, 29, (0, 0), []⟩, ⟨.at b 0, .i64 (P.length : Int) :: bc rt, 24, (0, 0), []⟩] w' := fun _ h => h
  refine wl_q rfl rfl rfl (qt_p tbok rfl) ?_
  refine wl_done ?_
  refine nk_code ?_
  refine wc_seq ?_
  refine wc_seq ?_
  refine wc_region ?_
  refine wl_q rfl rfl rfl (qt_p tbok rfl) ?_
  first | refine wl_q rfl rfl rfl (qt_l tbok rfl rfl rfl) ?_ | refine wl_q rfl rfl rfl (qt_la tbok rfl rfl rfl) ?_
  refine wl_q rfl rfl rfl (qt_p tbok rfl) ?_
  refine wl_as (v' := .c (.bool false)) (congrArg (fun b => V.c (C.bool b)) (decide_eq_false (by omega))) ?_
  refine wl_q rfl rfl rfl (qt_p tbok rfl) ?_
  first | refine wl_g rfl rfl rfl rfl (qt_p tbok rfl) ?_ | refine wl_skip rfl rfl rfl rfl rfl ?_
  first | refine wl_g rfl rfl rfl rfl (qt_l tbok rfl rfl rfl) ?_ | refine wl_g rfl rfl rfl rfl (qt_la tbok rfl rfl rfl) ?_ | refine wl_skip rfl rfl rfl rfl rfl ?_
  first | refine wl_g rfl rfl rfl rfl (qt_p tbok rfl) ?_ | refine wl_skip rfl rfl rfl rfl rfl ?_
  refine wl_as (v' := .c (.bool false)) (congrArg (fun b => V.c (C.bool b)) (decide_eq_false (by omega))) ?_
  refine wl_q rfl rfl rfl (qt_p tbok rfl) ?_
  refine wl_q rfl rfl rfl (qt_p tbok rfl) ?_
  first | refine wl_g rfl rfl rfl rfl (qt_p tbok rfl) ?_ | refine wl_skip rfl rfl rfl rfl rfl ?_
  first | refine wl_g rfl rfl rfl rfl (qt_l tbok rfl rfl rfl) ?_ | refine wl_g rfl rfl rfl rfl (qt_la tbok rfl rfl rfl) ?_ | refine wl_skip rfl rfl rfl rfl rfl ?_
  first | refine wl_g rfl rfl rfl rfl (qt_p tbok rfl) ?_ | refine wl_skip rfl rfl rfl rfl rfl ?_
  refine wl_as (v' := .c (.bool false)) (congrArg (fun b => V.c (C.bool b)) (decide_eq_false (by omega))) ?_
  refine wl_q rfl rfl rfl (qt_p tbok rfl) ?_
  refine wl_q rfl rfl rfl (qt_p tbok rfl) ?_
  first | refine wl_g rfl rfl rfl rfl (qt_p tbok rfl) ?_ | refine wl_skip rfl rfl rfl rfl rfl ?_
  first | refine wl_g rfl rfl rfl rfl (qt_l tbok rfl rfl rfl) ?_ | refine wl_g rfl rfl rfl rfl (qt_la tbok rfl rfl rfl) ?_ | refine wl_skip rfl rfl rfl rfl rfl ?_
  first | refine wl_g rfl rfl rfl rfl (qt_p tbok rfl) ?_ | refine wl_skip rfl rfl rfl rfl rfl ?_
  first | refine wl_g rfl rfl rfl rfl (qt_l tbok rfl rfl rfl) ?_ | refine wl_g rfl rfl rfl rfl (qt_la tbok rfl rfl rfl) ?_ | refine wl_skip rfl rfl rfl rfl rfl ?_
  first | refine wl_g rfl rfl rfl rfl (qt_p tbok rfl) ?_ | refine wl_skip rfl rfl rfl rfl rfl ?_
  refine wl_as (v' := .c (.u64 (UInt64.ofNat P.length))) (congrArg (fun z => V.c (C.u64 z)) hu) ?_
  refine wl_g rfl rfl rfl rfl (qt_pure tbok rfl (by rw [hn, Int.toNat_natCast, hsh.1]; refine And.intro ?_ (And.intro ?_ (And.intro ?_ ?_)) <;> omega)) ?_
  refine wl_as (v' := .c (.i64 (pw P.length : Int))) (congrArg (fun z => V.c (C.i64 z)) (by rw [hn, Int.toNat_natCast, hsh.1])) ?_
  first | refine wl_g rfl rfl rfl rfl (qt_p tbok rfl) ?_ | refine wl_skip rfl rfl rfl rfl rfl ?_
  refine wl_as (v' := .c (.bool false)) (congrArg (fun b => V.c (C.bool b)) (decide_eq_false (by omega))) ?_
  refine wl_q rfl rfl rfl (qt_p tbok rfl) ?_
  refine wl_q rfl rfl rfl (qt_p tbok rfl) ?_
  first | refine wl_g rfl rfl rfl rfl (qt_p tbok rfl) ?_ | refine wl_skip rfl rfl rfl rfl rfl ?_
  refine wl_g rfl rfl rfl rfl (qt_load tbok rfl rfl rfl (rc_lk .here (scs_get hF).2.2)) ?_
  first | refine wl_g rfl rfl rfl rfl (qt_len tbok rfl rfl) ?_ | refine wl_skip rfl rfl rfl rfl rfl ?_
  first | refine wl_g rfl rfl rfl rfl (qt_p tbok rfl) ?_ | refine wl_skip rfl rfl rfl rfl rfl ?_
  first | refine wl_g rfl rfl rfl rfl (qt_l tbok rfl rfl rfl) ?_ | refine wl_g rfl rfl rfl rfl (qt_la tbok rfl rfl rfl) ?_ | refine wl_skip rfl rfl rfl rfl rfl ?_
  first | refine wl_g rfl rfl rfl rfl (qt_p tbok rfl) ?_ | refine wl_g rfl rfl rfl rfl (qt_neqn tbok rfl rfl rfl) ?_ | refine wl_skip rfl rfl rfl rfl rfl ?_
  refine wl_as (v' := .c (.bool false)) (congrArg (fun b => V.c (C.bool (!b))) (decide_eq_true (by omega))) ?_
  refine wl_q rfl rfl rfl (qt_p tbok rfl) ?_
  refine wl_done ?_
  refine nk_code ?_
  refine wc_no rfl ?_
  refine wc_skip ?_
  refine nk_code ?_
  refine wc_seq ?_
  refine wc_draw (s0 := [⟨.at b2 0, scs (k : Int) CH.flatten pa P.length pc, 29, (0, 0), []⟩, ⟨.at b 0, .i64 (P.length : Int) :: bc rt, 24, (0, 0), []⟩]) 12 follows ?_
  refine wh_q 0 rfl (by kernel_rfl) rfl rfl rfl (qt_p tbok rfl) (hS) ?_
  first | refine wh_q 1 rfl (by kernel_rfl) rfl rfl rfl (qt_l tbok rfl rfl rfl) (hS) ?_ | refine wh_q 1 rfl (by kernel_rfl) rfl rfl rfl (qt_la tbok rfl rfl rfl) (hS) ?_
  refine wh_q 2 rfl (by kernel_rfl) rfl rfl rfl (qt_p tbok rfl) (hS) ?_
  refine wh_q 3 rfl (by kernel_rfl) rfl rfl rfl (qt_load_ag (l := .i64 (P.length : Int) :: bc rt) tbok rfl rfl rfl (by rw [List.length_cons, hrb]) (rs_lk (.there .here) at0)) (hS) ?_
  refine wh_q 4 rfl (by kernel_rfl) rfl rfl rfl (qt_p tbok rfl) (hS) ?_
  first | refine wh_q 5 rfl (by kernel_rfl) rfl rfl rfl (qt_l tbok rfl rfl rfl) (hS) ?_ | refine wh_q 5 rfl (by kernel_rfl) rfl rfl rfl (qt_la tbok rfl rfl rfl) (hS) ?_
  refine wh_q 6 rfl (by kernel_rfl) rfl rfl rfl (qt_p tbok rfl) (hS) ?_
  refine wh_q 8 rfl (by kernel_rfl) rfl rfl rfl (qt_p tbok rfl) (hS) ?_
  refine wh_q 9 rfl (by kernel_rfl) rfl rfl rfl (qt_load_ag (l := bc CH.flatten) tbok rfl rfl rfl hFb (rs_lk .here (scs_get hF).2.1)) (hS) ?_
  refine wh_two 7 11 (by kernel_rfl) ?_ ?_
  · refine wo_ef rfl rfl (ef_pure (v := .agg (bc (wordH (P.length : Int) rt (k : Int) msg))) (by kernel_rfl) rfl rfl (fun w1 h1 => word2_c hr (cells_rd (rd_cells hm offm) (hS w1 h1)) (by omega)) ⟨hS, ?_⟩)
    refine wh_two 10 11 (by kernel_rfl) ?_ ?_
    · refine wo_ef rfl rfl (ef_pure (v := .agg (bc (recH (UInt32.ofInt (k : Int)) (wordH (P.length : Int) rt (k : Int) msg) CH))) (by kernel_rfl) rfl rfl (fun w1 _ => recover2_c (wordH_len _ _ _ _) hC hCl) ⟨hS, ?_⟩)
      refine wh_one 11 (by kernel_rfl) (wo_ef rfl rfl (ef_alloc zero22 rfl rfl (fun r hr2 => ⟨fun w hw => hw.tail (newKey hr2), ?_⟩)))
      have hS : ∀ w', St w (⟨.at r 0, bc (List.replicate 32 0), 22, (0, 0), []⟩ :: [⟨.at b2 0, scs (k : Int) CH.flatten pa P.length pc, 29, (0, 0), []⟩, ⟨.at b 0, .i64 (P.length : Int) :: bc rt, 24, (0, 0), []⟩]) w' → St w [⟨.at b2 0, scs (k : Int) CH.flatten pa P.length pc, 29, (0, 0), []⟩, ⟨.at b 0, .i64 (P.length : Int) :: bc rt, 24, (0, 0), []⟩] w' := fun _ h => h.tail (newKey hr2)
      refine wh_one 12 (by kernel_rfl) (wo_fin rfl rfl (ef_store (cs' := bc (recH (UInt32.ofInt (k : Int)) (wordH (P.length : Int) rt (k : Int) msg) CH)) tbok rfl rfl rfl rfl .here hRb (Nat.le_of_ble_eq_true rfl) (spl_all hRb) ?_))
      refine wh_done (by kernel_rfl) ?_
      refine nk_code ?_
      refine wc_seq ?_
      refine wc_quiet follows (by kernel_rfl) ?_
      refine wq_q rfl rfl rfl (qt_p tbok rfl) ?_
      refine wq_q rfl rfl rfl (qt_load_ag (l := bc rt) tbok rfl rfl rfl hrb (rs_lk (.there (.there .here)) (fun j c hj => by show (C.i64 (P.length : Int) :: bc rt)[1 + j]? = some c; rw [Nat.add_comm]; exact hj))) ?_
      refine wq_q rfl rfl rfl (qt_p tbok rfl) ?_
      first | refine wq_q rfl rfl rfl (qt_l tbok rfl rfl rfl) ?_ | refine wq_q rfl rfl rfl (qt_la tbok rfl rfl rfl) ?_
      refine wq_q rfl rfl rfl (qt_p tbok rfl) ?_
      refine wq_as (v' := .c (.u64 (UInt64.ofNat P.length))) (congrArg (fun z => V.c (C.u64 z)) (u64_ofInt _)) ?_
      refine wq_q rfl rfl rfl (qt_pure tbok rfl (by rw [hn2, Int.toNat_natCast, Int.one_mul, hq]; refine And.intro ?_ (And.intro ?_ (And.intro ?_ ?_)) <;> omega)) ?_
      refine wq_as (v' := .c (.i64 (pw P.length : Int))) (congrArg (fun z => V.c (C.i64 z)) (by rw [hn2, Int.toNat_natCast, Int.one_mul, hq])) ?_
      refine wq_q rfl rfl rfl (qt_p tbok rfl) ?_
      first | refine wq_q rfl rfl rfl (qt_l tbok rfl rfl rfl) ?_ | refine wq_q rfl rfl rfl (qt_la tbok rfl rfl rfl) ?_
      refine wq_q rfl rfl rfl (qt_load_ag (l := bc (recH (UInt32.ofInt (k : Int)) (wordH (P.length : Int) rt (k : Int) msg) CH)) tbok rfl rfl rfl hRb (rs_lk .here at0)) ?_
      refine wq_call (.agg (bc (leafH (recH (UInt32.ofInt (k : Int)) (wordH (P.length : Int) rt (k : Int) msg) CH)))) (by kernel_rfl) rfl rfl (fun w1 _ => kleaf2_c (recH_len _ _ _)) ?_
      refine wq_q rfl rfl rfl (qt_p tbok rfl) ?_
      refine wq_q rfl rfl rfl (qt_load tbok rfl rfl rfl (rc_lk (.there .here) (scs_get hF).2.2)) ?_
      refine wq_call (.c (.bool (decide (cl k (leafH (recH (UInt32.ofInt (k : Int)) (wordH (P.length : Int) rt (k : Int) msg) CH)) P = rt)))) (by kernel_rfl) rfl rfl (fun w1 h1 => check2_c hP hk (by omega) (sha_len _) hr (cells_rd (rd_cells hc offp) (h1.tail (newKey hr2))) hcap) ?_
      refine wq_q rfl rfl rfl (qt_p tbok rfl) ?_
      refine wq_done ?_
      refine wl_done ?_
      refine nk_code ?_
      refine wc_ret ?_
      try dsimp only
      exact fin1 rfl (rv_tmp rfl) (fun w' hw => ⟨rfl, hw.all (new_cons (newKey hr2) (new_cons (newKey hb2) (new_cons (newKey hb) new_nil)))⟩)
    · refine wo_ef rfl rfl (ef_alloc zero22 rfl rfl (fun r hr2 => ⟨fun w hw => hw.tail (newKey hr2), ?_⟩))
      have hS : ∀ w', St w (⟨.at r 0, bc (List.replicate 32 0), 22, (0, 0), []⟩ :: [⟨.at b2 0, scs (k : Int) CH.flatten pa P.length pc, 29, (0, 0), []⟩, ⟨.at b 0, .i64 (P.length : Int) :: bc rt, 24, (0, 0), []⟩]) w' → St w [⟨.at b2 0, scs (k : Int) CH.flatten pa P.length pc, 29, (0, 0), []⟩, ⟨.at b 0, .i64 (P.length : Int) :: bc rt, 24, (0, 0), []⟩] w' := fun _ h => h.tail (newKey hr2)
      refine wh_one 10 (by kernel_rfl) (wo_ef rfl rfl (ef_pure (v := .agg (bc (recH (UInt32.ofInt (k : Int)) (wordH (P.length : Int) rt (k : Int) msg) CH))) (by kernel_rfl) rfl rfl (fun w1 _ => recover2_c (wordH_len _ _ _ _) hC hCl) ⟨hS, ?_⟩))
      refine wh_one 12 (by kernel_rfl) (wo_fin rfl rfl (ef_store (cs' := bc (recH (UInt32.ofInt (k : Int)) (wordH (P.length : Int) rt (k : Int) msg) CH)) tbok rfl rfl rfl rfl .here hRb (Nat.le_of_ble_eq_true rfl) (spl_all hRb) ?_))
      refine wh_done (by kernel_rfl) ?_
      refine nk_code ?_
      refine wc_seq ?_
      refine wc_quiet follows (by kernel_rfl) ?_
      refine wq_q rfl rfl rfl (qt_p tbok rfl) ?_
      refine wq_q rfl rfl rfl (qt_load_ag (l := bc rt) tbok rfl rfl rfl hrb (rs_lk (.there (.there .here)) (fun j c hj => by show (C.i64 (P.length : Int) :: bc rt)[1 + j]? = some c; rw [Nat.add_comm]; exact hj))) ?_
      refine wq_q rfl rfl rfl (qt_p tbok rfl) ?_
      first | refine wq_q rfl rfl rfl (qt_l tbok rfl rfl rfl) ?_ | refine wq_q rfl rfl rfl (qt_la tbok rfl rfl rfl) ?_
      refine wq_q rfl rfl rfl (qt_p tbok rfl) ?_
      refine wq_as (v' := .c (.u64 (UInt64.ofNat P.length))) (congrArg (fun z => V.c (C.u64 z)) (u64_ofInt _)) ?_
      refine wq_q rfl rfl rfl (qt_pure tbok rfl (by rw [hn2, Int.toNat_natCast, Int.one_mul, hq]; refine And.intro ?_ (And.intro ?_ (And.intro ?_ ?_)) <;> omega)) ?_
      refine wq_as (v' := .c (.i64 (pw P.length : Int))) (congrArg (fun z => V.c (C.i64 z)) (by rw [hn2, Int.toNat_natCast, Int.one_mul, hq])) ?_
      refine wq_q rfl rfl rfl (qt_p tbok rfl) ?_
      first | refine wq_q rfl rfl rfl (qt_l tbok rfl rfl rfl) ?_ | refine wq_q rfl rfl rfl (qt_la tbok rfl rfl rfl) ?_
      refine wq_q rfl rfl rfl (qt_load_ag (l := bc (recH (UInt32.ofInt (k : Int)) (wordH (P.length : Int) rt (k : Int) msg) CH)) tbok rfl rfl rfl hRb (rs_lk .here at0)) ?_
      refine wq_call (.agg (bc (leafH (recH (UInt32.ofInt (k : Int)) (wordH (P.length : Int) rt (k : Int) msg) CH)))) (by kernel_rfl) rfl rfl (fun w1 _ => kleaf2_c (recH_len _ _ _)) ?_
      refine wq_q rfl rfl rfl (qt_p tbok rfl) ?_
      refine wq_q rfl rfl rfl (qt_load tbok rfl rfl rfl (rc_lk (.there .here) (scs_get hF).2.2)) ?_
      refine wq_call (.c (.bool (decide (cl k (leafH (recH (UInt32.ofInt (k : Int)) (wordH (P.length : Int) rt (k : Int) msg) CH)) P = rt)))) (by kernel_rfl) rfl rfl (fun w1 h1 => check2_c hP hk (by omega) (sha_len _) hr (cells_rd (rd_cells hc offp) (h1.tail (newKey hr2))) hcap) ?_
      refine wq_q rfl rfl rfl (qt_p tbok rfl) ?_
      refine wq_done ?_
      refine wl_done ?_
      refine nk_code ?_
      refine wc_ret ?_
      try dsimp only
      exact fin1 rfl (rv_tmp rfl) (fun w' hw => ⟨rfl, hw.all (new_cons (newKey hr2) (new_cons (newKey hb2) (new_cons (newKey hb) new_nil)))⟩)
  · refine wo_ef rfl rfl (ef_alloc zero22 rfl rfl (fun r hr2 => ⟨fun w hw => hw.tail (newKey hr2), ?_⟩))
    have hS : ∀ w', St w (⟨.at r 0, bc (List.replicate 32 0), 22, (0, 0), []⟩ :: [⟨.at b2 0, scs (k : Int) CH.flatten pa P.length pc, 29, (0, 0), []⟩, ⟨.at b 0, .i64 (P.length : Int) :: bc rt, 24, (0, 0), []⟩]) w' → St w [⟨.at b2 0, scs (k : Int) CH.flatten pa P.length pc, 29, (0, 0), []⟩, ⟨.at b 0, .i64 (P.length : Int) :: bc rt, 24, (0, 0), []⟩] w' := fun _ h => h.tail (newKey hr2)
    refine wh_one 7 (by kernel_rfl) (wo_ef rfl rfl (ef_pure (v := .agg (bc (wordH (P.length : Int) rt (k : Int) msg))) (by kernel_rfl) rfl rfl (fun w1 h1 => word2_c hr (cells_rd (rd_cells hm offm) (hS w1 h1)) (by omega)) ⟨hS, ?_⟩))
    refine wh_one 10 (by kernel_rfl) (wo_ef rfl rfl (ef_pure (v := .agg (bc (recH (UInt32.ofInt (k : Int)) (wordH (P.length : Int) rt (k : Int) msg) CH))) (by kernel_rfl) rfl rfl (fun w1 _ => recover2_c (wordH_len _ _ _ _) hC hCl) ⟨hS, ?_⟩))
    refine wh_one 12 (by kernel_rfl) (wo_fin rfl rfl (ef_store (cs' := bc (recH (UInt32.ofInt (k : Int)) (wordH (P.length : Int) rt (k : Int) msg) CH)) tbok rfl rfl rfl rfl .here hRb (Nat.le_of_ble_eq_true rfl) (spl_all hRb) ?_))
    refine wh_done (by kernel_rfl) ?_
    refine nk_code ?_
    refine wc_seq ?_
    refine wc_quiet follows (by kernel_rfl) ?_
    refine wq_q rfl rfl rfl (qt_p tbok rfl) ?_
    refine wq_q rfl rfl rfl (qt_load_ag (l := bc rt) tbok rfl rfl rfl hrb (rs_lk (.there (.there .here)) (fun j c hj => by show (C.i64 (P.length : Int) :: bc rt)[1 + j]? = some c; rw [Nat.add_comm]; exact hj))) ?_
    refine wq_q rfl rfl rfl (qt_p tbok rfl) ?_
    first | refine wq_q rfl rfl rfl (qt_l tbok rfl rfl rfl) ?_ | refine wq_q rfl rfl rfl (qt_la tbok rfl rfl rfl) ?_
    refine wq_q rfl rfl rfl (qt_p tbok rfl) ?_
    refine wq_as (v' := .c (.u64 (UInt64.ofNat P.length))) (congrArg (fun z => V.c (C.u64 z)) (u64_ofInt _)) ?_
    refine wq_q rfl rfl rfl (qt_pure tbok rfl (by rw [hn2, Int.toNat_natCast, Int.one_mul, hq]; refine And.intro ?_ (And.intro ?_ (And.intro ?_ ?_)) <;> omega)) ?_
    refine wq_as (v' := .c (.i64 (pw P.length : Int))) (congrArg (fun z => V.c (C.i64 z)) (by rw [hn2, Int.toNat_natCast, Int.one_mul, hq])) ?_
    refine wq_q rfl rfl rfl (qt_p tbok rfl) ?_
    first | refine wq_q rfl rfl rfl (qt_l tbok rfl rfl rfl) ?_ | refine wq_q rfl rfl rfl (qt_la tbok rfl rfl rfl) ?_
    refine wq_q rfl rfl rfl (qt_load_ag (l := bc (recH (UInt32.ofInt (k : Int)) (wordH (P.length : Int) rt (k : Int) msg) CH)) tbok rfl rfl rfl hRb (rs_lk .here at0)) ?_
    refine wq_call (.agg (bc (leafH (recH (UInt32.ofInt (k : Int)) (wordH (P.length : Int) rt (k : Int) msg) CH)))) (by kernel_rfl) rfl rfl (fun w1 _ => kleaf2_c (recH_len _ _ _)) ?_
    refine wq_q rfl rfl rfl (qt_p tbok rfl) ?_
    refine wq_q rfl rfl rfl (qt_load tbok rfl rfl rfl (rc_lk (.there .here) (scs_get hF).2.2)) ?_
    refine wq_call (.c (.bool (decide (cl k (leafH (recH (UInt32.ofInt (k : Int)) (wordH (P.length : Int) rt (k : Int) msg) CH)) P = rt)))) (by kernel_rfl) rfl rfl (fun w1 h1 => check2_c hP hk (by omega) (sha_len _) hr (cells_rd (rd_cells hc offp) (h1.tail (newKey hr2))) hcap) ?_
    refine wq_q rfl rfl rfl (qt_p tbok rfl) ?_
    refine wq_done ?_
    refine wl_done ?_
    refine nk_code ?_
    refine wc_ret ?_
    try dsimp only
    exact fin1 rfl (rv_tmp rfl) (fun w' hw => ⟨rfl, hw.all (new_cons (newKey hr2) (new_cons (newKey hb2) (new_cons (newKey hb) new_nil)))⟩)

theorem ver18_c {w : World} {h i : Int} {rt msg : List UInt8} {CH P : List (List UInt8)} {pa ma : Ad} {pc mc : Nat} (hr : rt.length = 32) (hC : A32 CH) (hCl : CH.length = 67) (hP : A32 P) (hcap : P.length ≤ pc) (hc : Cells w pa (bc P.flatten)) (hm : Cells w ma (bc msg)) (hmax : msg.length ≤ 1073741000) :
    CallsV Try.prog 18 [.agg (.i64 h :: bc rt), .c (.slc ma msg.length mc), .agg (scs i CH.flatten pa P.length pc)] w fun en w' => en = .returned (V.c (.bool (verB h rt msg i CH P))).den ∧ St w [] w' := by
  have hF : CH.flatten.length = 2144 := by rw [flat_len hC, hCl]
  unfold verB
  by_cases c : h < 0
  · rw [if_pos (.inl c)]; exact ver18_f0 hF c
  by_cases c2 : 6 < h
  · rw [if_pos (.inr (.inl c2))]; exact ver18_f1 hF (by omega) c2
  by_cases c3 : i < 0
  · rw [if_pos (.inr (.inr (.inl c3)))]; exact ver18_f2 hF (by omega) (by omega) c3
  by_cases c4 : ((pw h.toNat : Nat) : Int) ≤ i
  · rw [if_pos (.inr (.inr (.inr (.inl c4))))]; exact ver18_f3 hF (by omega) (by omega) (by omega) c4
  by_cases c5 : (P.length : Int) ≠ h
  · rw [if_pos (.inr (.inr (.inr (.inr c5))))]; exact ver18_f4 hF (by omega) (by omega) (by omega) (by omega) c5
  rw [if_neg (by intro h; rcases h with h | h | h | h | h <;> omega)]
  have e1 : h = (P.length : Int) := by omega
  subst e1
  obtain ⟨k, rfl⟩ := Int.eq_ofNat_of_zero_le (by omega : 0 ≤ i)
  rw [Int.toNat_natCast] at c4 ⊢
  exact ver18_t hr hC hCl hP (by omega) (by omega) hcap hc hm hmax
end Go.Proofs.Ytjhmcmadleabjaa
