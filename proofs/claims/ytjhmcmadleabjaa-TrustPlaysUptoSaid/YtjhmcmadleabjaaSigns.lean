/- Sign, Public, Root and Path of both sides are the same functions (trees of up to 256 leaves). -/
import Derived.Test.YtjhmcmadleabjaaChains
import Derived.Test.YtjhmcmadleabjaaFrameB
set_option linter.unusedVariables false
set_option maxRecDepth 100000
namespace Go.Proofs.Ytjhmcmadleabjaa
open Go Go.Hw Go.Proofs

/-- The chains of a signature, the ends of a key's chains, the key's sum. -/
def sgOf (sd : List UInt8) (n : UInt32) (d : List UInt8) (i : Nat) : List UInt8 := clm n (UInt8.ofInt (i : Int)) 0 (d.getD i 0).toNat (secH sd n (UInt8.ofInt (i : Int)))
def sgL (sd : List UInt8) (n : UInt32) (word : List UInt8) : List (List UInt8) := (List.range 67).map (sgOf sd n (dgs word))
def pbOf (sd : List UInt8) (n : UInt32) (i : Nat) : List UInt8 := clm n (UInt8.ofInt (i : Int)) 0 15 (secH sd n (UInt8.ofInt (i : Int)))
def pbL (sd : List UInt8) (n : UInt32) : List (List UInt8) := (List.range 67).map (pbOf sd n)
def pubH (sd : List UInt8) (n : UInt32) : List UInt8 := prH (pbL sd n)
theorem sgOf_len (sd : List UInt8) (n : UInt32) (d : List UInt8) (i : Nat) : (sgOf sd n d i).length = 32 := clm_len _ _ _ _ _ rfl
theorem pbOf_len (sd : List UInt8) (n : UInt32) (i : Nat) : (pbOf sd n i).length = 32 := clm_len _ _ _ _ _ rfl
theorem sgL_A (sd : List UInt8) (n : UInt32) (x : List UInt8) : A32 (sgL sd n x) := map_A fun i _ => sgOf_len sd n _ i
theorem sgL_len (sd : List UInt8) (n : UInt32) (x : List UInt8) : (sgL sd n x).length = 67 := by simp [sgL]
theorem pbL_A (sd : List UInt8) (n : UInt32) : A32 (pbL sd n) := map_A fun i _ => pbOf_len sd n i
theorem pbL_len (sd : List UInt8) (n : UInt32) : (pbL sd n).length = 67 := by simp [pbL]
theorem Z67_len : Z67.length = 67 := by simp [Z67]
theorem zero35 : zeroIs Try.prog 35 (.agg (bc (List.replicate 2144 0))) := by unfold zeroIs; kernel_rfl

/-- What a key's chains sign is told by the key's sum. -/
theorem rec_sign (sd : List UInt8) (n : UInt32) (x : List UInt8) : recH n x (sgL sd n x) = pubH sd n := by
  unfold recH pubH endsOf pbL
  congr 1
  refine List.map_congr_left fun i hi => ?_
  have hi' := List.mem_range.1 hi
  have hd := dg_lt x i
  unfold endOf pbOf
  have e : (sgL sd n x).getD i [] = sgOf sd n (dgs x) i := by simp [sgL, hi']
  rw [e]
  unfold sgOf
  rw [dgs_getD x hi']
  have h := clm_add n (UInt8.ofInt (i : Int)) (dg x i).toNat 0 (15 - (dg x i).toNat) (secH sd n (UInt8.ofInt (i : Int)))
  rw [Nat.zero_add, show (dg x i).toNat + (15 - (dg x i).toNat) = 15 by omega] at h
  exact h

theorem sign_c {w : World} {sd x : List UInt8} {n : UInt32} (hs : sd.length = 32) (hx : x.length = 32) :
    CallsV Try.prog 75 [.agg (bc sd), .c (.u32 n), .agg (bc x)] w fun en w' => en = .returned (V.agg (bc (sgL sd n x).flatten)).den ∧ St w [] w' := by
  have hxl : (bc x).length = 32 := by rw [bc_len, hx]
  have hsl : (bc sd).length = 32 := by rw [bc_len, hs]
  have hEl : (bc (sgL sd n x).flatten).length = 2144 := by rw [bc_len, flat_len (sgL_A _ _ _), sgL_len]
  have hfA : ∀ i, i < 67 → (sgOf sd n (dgs x) i).length = 32 := fun i _ => sgOf_len _ _ _ i
  have hul : ∀ i, i ≤ 67 → (upE (sgOf sd n (dgs x)) Z67 i).flatten.length = 2144 := fun i hi => by rw [flat_len (upE_A hfA Z67_A), upE_len Z67_len hi]
  refine calls_in (tb := tb) (fn := Try.f75) Try.func75 rfl rfl rfl [(0, .agg (bc sd)), (1, .c (.u32 n)), (2, .agg (bc x))] rfl [] (St.refl _) ?_
  refine wc_seq ?_
  refine wc_region ?_
  refine wl_ef rfl (ef_box rfl rfl rfl (fun b hb => ?_))
  refine wl_ef rfl (ef_box rfl rfl rfl (fun b2 hb2 => ?_))
  refine wl_ef rfl (ef_alloc zero35 rfl rfl (fun o ho => ?_))
  refine wl_done ?_
  refine nk_code ?_
  refine wc_seq ?_
  refine wc_region ?_
  refine wl_ef rfl (ef_alloc zero35 rfl rfl (fun r hr => ?_))
  refine wl_done ?_
  refine nk_code ?_
  refine wc_seq ?_
  refine wc_seq ?_
  refine wc_region ?_
  refine wl_q rfl rfl rfl (qt_load_ag (l := bc x) tbok rfl rfl rfl hxl (rs_lk (.there (.there .here)) at0)) ?_
  refine wl_ef rfl (ef_pure (v := .agg (bc (dgs x))) (by kernel_rfl) rfl rfl (fun w1 _ => digits_c hx) ?_)
  refine wl_q rfl rfl rfl (qt_p tbok rfl) ?_
  refine wl_done ?_
  refine nk_code ?_
  refine wc_block ?_
  refine wc_loop (ι := Nat) (fun i => i ≤ 67) (fun i => [(12, .c (.i64 (i : Int))), (11, .agg (bc (dgs x))), (1, .c (.u32 n)), (3, .c (.ptr (.at b 0))), (6, .c (.ptr (.at o 0))), (7, .c (.ptr (.at r 0)))]) (fun i => [⟨.at r 0, bc (upE (sgOf sd n (dgs x)) Z67 i).flatten, 35, (0, 0), []⟩, ⟨.at o 0, bc (List.replicate 2144 0), 35, (0, 0), []⟩, ⟨.at b 0, bc sd, 30, (0, 0), []⟩]) (fun i => 67 - i) 0 (by omega) (nk_start ⟨rfl, rfl, rfl, rfl, rfl, rfl, trivial⟩ (fun w hw => by rw [upE_zero, Z67_flat]; exact Rm.sub_St hw (.there (.there .here)) (newKey hb2))) (fun i hi => ?_)
  refine wc_seq ?_
  refine wc_region ?_
  refine wl_q rfl rfl rfl (qt_p tbok rfl) ?_
  refine wl_done ?_
  refine nk_code ?_
  refine wc_seq ?_
  refine wc_cond rfl (fun h13 => ?_) (fun h13 => ?_)
  · have hi' : i < 67 := (by have h0 := of_decide_eq_true h13; omega)
    have hdg := dg_lt x i
    have hfl := hul i hi
    refine wc_skip ?_
    refine nk_code ?_
    refine wc_seq ?_
    refine wc_block ?_
    refine wc_seq ?_
    refine wc_region ?_
    refine wl_q rfl rfl rfl (qt_p tbok rfl) ?_
    refine wl_q rfl rfl rfl (qt_index_sc tbok rfl rfl rfl rfl rfl ⟨by omega, by omega⟩ (c := .u8 ((dgs x).getD i 0)) (by rw [Int.toNat_natCast]; exact bc_getD (by simp [dgs]; omega))) ?_
    refine wl_q rfl rfl rfl (qt_p tbok rfl) ?_
    refine wl_q rfl rfl rfl (qt_p tbok rfl) ?_
    refine wl_done ?_
    refine nk_code ?_
    refine wc_region ?_
    refine wl_q rfl rfl rfl (qt_p tbok rfl) ?_
    refine wl_q rfl rfl rfl (qt_p tbok rfl) ?_
    refine wl_q rfl rfl rfl (qt_p tbok rfl) ?_
    refine wl_q rfl rfl rfl (qt_p tbok rfl) ?_
    refine wl_q rfl rfl rfl (qt_load_ag (l := bc sd) tbok rfl rfl rfl hsl (rs_lk (.there (.there .here)) at0)) ?_
    refine wl_q rfl rfl rfl (qt_p tbok rfl) ?_
    refine wl_q rfl rfl rfl (qt_p tbok rfl) ?_
    refine wl_q rfl rfl rfl (qt_p tbok rfl) ?_
    refine wl_ef rfl (ef_pure (v := .agg (bc (secH sd n (UInt8.ofInt (i : Int))))) (by kernel_rfl) rfl rfl (fun w1 _ => sec_c hs) ?_)
    refine wl_q rfl rfl rfl (qt_p tbok rfl) ?_
    refine wl_q rfl rfl rfl (qt_p tbok rfl) ?_
    refine wl_ef rfl (ef_pure (v := .t2 (.agg (bc (sgOf sd n (dgs x) i))) (.c (.i64 0))) (by kernel_rfl) rfl rfl (fun w1 _ => climb95_c (a := 0) rfl (Nat.zero_le _) (by rw [dgs_getD x hi']; exact hdg)) ?_)
    refine wl_q rfl rfl rfl (qt_p tbok rfl) ?_
    refine wl_q rfl rfl rfl (qt_p tbok rfl) ?_
    refine wl_q rfl rfl rfl (qt_p tbok rfl) ?_
    refine wl_q rfl rfl rfl (qt_p tbok rfl) ?_
    refine wl_ef rfl (ef_store (cs' := bc (upE (sgOf sd n (dgs x)) Z67 (i + 1)).flatten) tbok rfl rfl rfl rfl .here (by show (bc (sgOf sd n (dgs x) i)).length = 32; rw [bc_len, sgOf_len]) (by rw [bc_len, hfl]; omega) (by rw [show 0 + (i : Int).toNat * 32 = i * 32 by omega]; exact upE_set hfA Z67_A Z67_len hi') ?_)
    refine wl_done ?_
    refine nk_code ?_
    refine wc_region ?_
    refine wl_q rfl rfl rfl (qt_p tbok rfl) ?_
    refine wl_q rfl rfl rfl (qt_p tbok rfl) ?_
    refine wl_done ?_
    exact nk_round (i + 1) (by omega) (by omega) ⟨rfl, rfl, rfl, rfl, rfl, rfl, trivial⟩ (fun _ h => h)
  · have he : i = 67 := (by have h0 := of_decide_eq_false h13; omega)
    subst he
    refine wc_exit rfl ?_
    refine nk_code ?_
    refine wc_seq ?_
    refine wc_region ?_
    refine wl_q rfl rfl rfl (qt_load_ag (l := bc (sgL sd n x).flatten) tbok rfl rfl rfl hEl (rs_lk .here (by rw [upE_full Z67_len]; exact at0))) ?_
    refine wl_ef rfl (ef_store (cs' := bc (sgL sd n x).flatten) tbok rfl rfl rfl rfl (.there .here) hEl (Nat.le_of_ble_eq_true rfl) (spl_all (by show (bc (sgL sd n x).flatten).length = (bc (List.replicate 2144 0)).length; rw [hEl, bc_len, List.length_replicate])) ?_)
    refine wl_done ?_
    refine nk_code ?_
    refine wc_ret ?_
    try dsimp only
    exact fin1 rfl (rv_ag (l := bc (sgL sd n x).flatten) tbok rfl rfl rfl hEl (rs_lk (.there .here) at0)) (fun w' hw => ⟨rfl, hw.all (new_cons (newKey hr) (new_cons (newKey ho) (new_cons (newKey hb) new_nil)))⟩)

theorem sign2_c {w : World} {sd x : List UInt8} {n : UInt32} (hs : sd.length = 32) (hx : x.length = 32) :
    CallsV Try.prog 78 [.agg (bc sd), .c (.u32 n), .agg (bc x)] w fun en w' => en = .returned (V.agg (bc (sgL sd n x).flatten)).den ∧ St w [] w' := by
  have hxl : (bc x).length = 32 := by rw [bc_len, hx]
  have hsl : (bc sd).length = 32 := by rw [bc_len, hs]
  have hEl : (bc (sgL sd n x).flatten).length = 2144 := by rw [bc_len, flat_len (sgL_A _ _ _), sgL_len]
  have hfA : ∀ i, i < 67 → (sgOf sd n (dgs x) i).length = 32 := fun i _ => sgOf_len _ _ _ i
  have hul : ∀ i, i ≤ 67 → (upE (sgOf sd n (dgs x)) Z67 i).flatten.length = 2144 := fun i hi => by rw [flat_len (upE_A hfA Z67_A), upE_len Z67_len hi]
  refine calls_in (tb := tb) (fn := Try.f78) Try.func78 rfl rfl rfl [(0, .agg (bc sd)), (1, .c (.u32 n)), (2, .agg (bc x))] rfl [] (St.refl _) ?_
  refine wc_seq ?_
  refine wc_region ?_
  refine wl_ef rfl (ef_box rfl rfl rfl (fun b hb => ?_))
  refine wl_ef rfl (ef_box rfl rfl rfl (fun b2 hb2 => ?_))
  refine wl_ef rfl (ef_alloc zero26 rfl rfl (fun o ho => ?_))
  refine wl_done ?_
  refine nk_code ?_
  refine wc_seq ?_
  refine wc_region ?_
  refine wl_q rfl rfl rfl (qt_load_ag (l := bc x) tbok rfl rfl rfl hxl (rs_lk (.there .here) at0)) ?_
  refine wl_ef rfl (ef_pure (v := .agg (bc (dgs x))) (by kernel_rfl) rfl rfl (fun w1 _ => digits2_c hx) ?_)
  refine wl_ef rfl (ef_alloc zero167 rfl rfl (fun dr hdr => ?_))
  refine wl_ef rfl (ef_store (cs' := bc (dgs x)) tbok rfl rfl rfl rfl .here rfl (Nat.le_of_ble_eq_true rfl) (spl_all rfl) ?_)
  refine wl_done ?_
  refine nk_code ?_
  refine wc_seq ?_
  refine wc_region ?_
  refine wl_ef rfl (ef_alloc zero26 rfl rfl (fun r hr => ?_))
  refine wl_done ?_
  refine nk_code ?_
  refine wc_seq ?_
  refine wc_seq ?_
  refine wc_region ?_
  refine wl_q rfl rfl rfl (qt_p tbok rfl) ?_
  refine wl_done ?_
  refine nk_code ?_
  refine wc_block ?_
  refine wc_loop (ι := Nat) (fun i => i ≤ 67) (fun i => [(9, .c (.i64 (i : Int))), (7, .c (.ptr (.at dr 0))), (1, .c (.u32 n)), (3, .c (.ptr (.at b 0))), (6, .c (.ptr (.at o 0))), (8, .c (.ptr (.at r 0)))]) (fun i => [⟨.at r 0, bc (upE (sgOf sd n (dgs x)) Z67 i).flatten, 26, (0, 0), []⟩, ⟨.at dr 0, bc (dgs x), 167, (0, 0), []⟩, ⟨.at o 0, bc (List.replicate 2144 0), 26, (0, 0), []⟩, ⟨.at b2 0, bc x, 22, (0, 0), []⟩, ⟨.at b 0, bc sd, 22, (0, 0), []⟩]) (fun i => 67 - i) 0 (by omega) (nk_start ⟨rfl, rfl, rfl, rfl, rfl, rfl, trivial⟩ (fun w hw => by rw [upE_zero, Z67_flat]; exact hw)) (fun i hi => ?_)
  refine wc_seq ?_
  refine wc_seq ?_
  refine wc_region ?_
  refine wl_q rfl rfl rfl (qt_p tbok rfl) ?_
  refine wl_q rfl rfl rfl (qt_p tbok rfl) ?_
  refine wl_done ?_
  refine nk_code ?_
  refine wc_cond rfl (fun h13 => ?_) (fun h13 => ?_)
  · have hi' : i < 67 := (by have h0 := of_decide_eq_true h13; omega)
    have hdg := dg_lt x i
    have hfl := hul i hi
    refine wc_skip ?_
    refine nk_code ?_
    refine wc_seq ?_
    refine wc_block ?_
    refine wc_tail 15 follows (by kernel_rfl) ?_
    refine wq_q rfl rfl rfl (qt_p tbok rfl) ?_
    refine wq_q rfl rfl rfl (qt_p tbok rfl) ?_
    refine wq_q rfl rfl rfl (qt_p tbok rfl) ?_
    refine wq_q rfl rfl rfl (qt_p tbok rfl) ?_
    refine wq_q rfl rfl rfl (qt_load_ag (l := bc sd) tbok rfl rfl rfl hsl (rs_lk (.there (.there (.there (.there .here)))) at0)) ?_
    refine wq_q rfl rfl rfl (qt_p tbok rfl) ?_
    refine wq_q rfl rfl rfl (qt_p tbok rfl) ?_
    refine wq_q rfl rfl rfl (qt_p tbok rfl) ?_
    refine wq_call (.agg (bc (secH sd n (UInt8.ofInt (i : Int))))) (by kernel_rfl) rfl rfl (fun w1 _ => sec2_c hs) ?_
    refine wq_q rfl rfl rfl (qt_p tbok rfl) ?_
    refine wq_q rfl rfl rfl (qt_p tbok rfl) ?_
    refine wq_q rfl rfl rfl (qt_load (c := .u8 ((dgs x).getD i 0)) tbok rfl rfl rfl (rc_lk (.there .here) (by rw [show 0 + (i : Int).toNat * 1 = i by omega]; exact bc_getD (by simp [dgs]; omega)))) ?_
    refine wq_q rfl rfl rfl (qt_p tbok rfl) ?_
    refine wq_call (.agg (bc (sgOf sd n (dgs x) i))) (by kernel_rfl) rfl rfl (fun w1 _ => climb115_c (a := 0) rfl (Nat.zero_le _) (by rw [dgs_getD x hi']; exact hdg)) ?_
    refine wq_q rfl rfl rfl (qt_p tbok rfl) ?_
    refine wq_done ?_
    refine wl_ef rfl (ef_store (cs' := bc (upE (sgOf sd n (dgs x)) Z67 (i + 1)).flatten) tbok rfl rfl rfl rfl .here (by show (bc (sgOf sd n (dgs x) i)).length = 32; rw [bc_len, sgOf_len]) (by rw [bc_len, hfl]; omega) (by rw [show 0 + (i : Int).toNat * 32 = i * 32 by omega]; exact upE_set hfA Z67_A Z67_len hi') ?_)
    refine wl_done ?_
    refine nk_code ?_
    refine wc_region ?_
    refine wl_q rfl rfl rfl (qt_p tbok rfl) ?_
    refine wl_q rfl rfl rfl (qt_p tbok rfl) ?_
    refine wl_q rfl rfl rfl (qt_p tbok rfl) ?_
    refine wl_done ?_
    exact nk_round (i + 1) (by omega) (by omega) ⟨rfl, rfl, rfl, rfl, rfl, rfl, trivial⟩ (fun _ h => h)
  · have he : i = 67 := (by have h0 := of_decide_eq_false h13; omega)
    subst he
    refine wc_exit rfl ?_
    refine nk_code ?_
    refine wc_seq ?_
    refine wc_region ?_
    refine wl_q rfl rfl rfl (qt_load_ag (l := bc (sgL sd n x).flatten) tbok rfl rfl rfl hEl (rs_lk .here (by rw [upE_full Z67_len]; exact at0))) ?_
    refine wl_ef rfl (ef_store (cs' := bc (sgL sd n x).flatten) tbok rfl rfl rfl rfl (.there (.there .here)) hEl (Nat.le_of_ble_eq_true rfl) (spl_all (by show (bc (sgL sd n x).flatten).length = (bc (List.replicate 2144 0)).length; rw [hEl, bc_len, List.length_replicate])) ?_)
    refine wl_done ?_
    refine nk_code ?_
    refine wc_ret ?_
    try dsimp only
    exact fin1 rfl (rv_ag (l := bc (sgL sd n x).flatten) tbok rfl rfl rfl hEl (rs_lk (.there (.there .here)) at0)) (fun w' hw => ⟨rfl, hw.all (new_cons (newKey hr) (new_cons (newKey hdr) (new_cons (newKey ho) (new_cons (newKey hb2) (new_cons (newKey hb) new_nil)))))⟩)
end Go.Proofs.Ytjhmcmadleabjaa

set_option maxRecDepth 100000
namespace Go.Proofs.Ytjhmcmadleabjaa
open Go Go.Hw Go.Proofs

theorem pubH_len (sd : List UInt8) (n : UInt32) : (pubH sd n).length = 32 := sha_len _
theorem pubH_blen (sd : List UInt8) (n : UInt32) : (bc (pubH sd n)).length = 32 := by rw [bc_len, pubH_len]

theorem pub72_c {w : World} {sd : List UInt8} {n : UInt32} (hs : sd.length = 32) :
    CallsV Try.prog 72 [.agg (bc sd), .c (.u32 n)] w fun en w' => en = .returned (V.agg (bc (pubH sd n))).den ∧ St w [] w' := by
  have hsl : (bc sd).length = 32 := by rw [bc_len, hs]
  have hfA : ∀ i, i < 67 → (pbOf sd n i).length = 32 := fun i _ => pbOf_len _ _ i
  have hul : ∀ i, i ≤ 67 → (upE (pbOf sd n) Z67 i).flatten.length = 2144 := fun i hi => by rw [flat_len (upE_A hfA Z67_A), upE_len Z67_len hi]
  have hpl := pubH_blen sd n
  refine calls_in (tb := tb) (fn := Try.f72) Try.func72 rfl rfl rfl [(0, .agg (bc sd)), (1, .c (.u32 n))] rfl [] (St.refl _) ?_
  refine wc_seq ?_
  refine wc_region ?_
  refine wl_ef rfl (ef_box rfl rfl rfl (fun b hb => ?_))
  refine wl_ef rfl (ef_alloc zero30 rfl rfl (fun o ho => ?_))
  refine wl_done ?_
  refine nk_code ?_
  refine wc_seq ?_
  refine wc_region ?_
  refine wl_ef rfl (ef_alloc zero35 rfl rfl (fun r hr => ?_))
  refine wl_done ?_
  refine nk_code ?_
  refine wc_seq ?_
  refine wc_seq ?_
  refine wc_region ?_
  refine wl_q rfl rfl rfl (qt_p tbok rfl) ?_
  refine wl_done ?_
  refine nk_code ?_
  refine wc_block ?_
  refine wc_loop (ι := Nat) (fun i => i ≤ 67) (fun i => [(7, .c (.i64 (i : Int))), (1, .c (.u32 n)), (2, .c (.ptr (.at b 0))), (4, .c (.ptr (.at o 0))), (5, .c (.ptr (.at r 0)))]) (fun i => [⟨.at r 0, bc (upE (pbOf sd n) Z67 i).flatten, 35, (0, 0), []⟩, ⟨.at o 0, bc (List.replicate 32 0), 30, (0, 0), []⟩, ⟨.at b 0, bc sd, 30, (0, 0), []⟩]) (fun i => 67 - i) 0 (by omega) (nk_start ⟨rfl, rfl, rfl, rfl, rfl, trivial⟩ (fun w hw => by rw [upE_zero, Z67_flat]; exact hw)) (fun i hi => ?_)
  refine wc_seq ?_
  refine wc_region ?_
  refine wl_q rfl rfl rfl (qt_p tbok rfl) ?_
  refine wl_done ?_
  refine nk_code ?_
  refine wc_seq ?_
  refine wc_cond rfl (fun h8 => ?_) (fun h8 => ?_)
  · have hi' : i < 67 := (by have h0 := of_decide_eq_true h8; omega)
    have hfl := hul i hi
    refine wc_skip ?_
    refine nk_code ?_
    refine wc_seq ?_
    refine wc_block ?_
    refine wc_seq ?_
    refine wc_region ?_
    refine wl_q rfl rfl rfl (qt_p tbok rfl) ?_
    refine wl_q rfl rfl rfl (qt_p tbok rfl) ?_
    refine wl_done ?_
    refine nk_code ?_
    refine wc_region ?_
    refine wl_q rfl rfl rfl (qt_p tbok rfl) ?_
    refine wl_q rfl rfl rfl (qt_p tbok rfl) ?_
    refine wl_q rfl rfl rfl (qt_p tbok rfl) ?_
    refine wl_q rfl rfl rfl (qt_p tbok rfl) ?_
    refine wl_q rfl rfl rfl (qt_load_ag (l := bc sd) tbok rfl rfl rfl hsl (rs_lk (.there (.there .here)) at0)) ?_
    refine wl_q rfl rfl rfl (qt_p tbok rfl) ?_
    refine wl_q rfl rfl rfl (qt_p tbok rfl) ?_
    refine wl_q rfl rfl rfl (qt_p tbok rfl) ?_
    refine wl_ef rfl (ef_pure (v := .agg (bc (secH sd n (UInt8.ofInt (i : Int))))) (by kernel_rfl) rfl rfl (fun w1 _ => sec_c hs) ?_)
    refine wl_ef rfl (ef_pure (v := .t2 (.agg (bc (pbOf sd n i))) (.c (.i64 0))) (by kernel_rfl) rfl rfl (fun w1 _ => climb95_c (a := 0) (q := 15) rfl (by omega) (by omega)) ?_)
    refine wl_q rfl rfl rfl (qt_p tbok rfl) ?_
    refine wl_q rfl rfl rfl (qt_p tbok rfl) ?_
    refine wl_q rfl rfl rfl (qt_p tbok rfl) ?_
    refine wl_q rfl rfl rfl (qt_p tbok rfl) ?_
    refine wl_ef rfl (ef_store (cs' := bc (upE (pbOf sd n) Z67 (i + 1)).flatten) tbok rfl rfl rfl rfl .here (by show (bc (pbOf sd n i)).length = 32; rw [bc_len, pbOf_len]) (by rw [bc_len, hfl]; omega) (by rw [show 0 + (i : Int).toNat * 32 = i * 32 by omega]; exact upE_set hfA Z67_A Z67_len hi') ?_)
    refine wl_done ?_
    refine nk_code ?_
    refine wc_region ?_
    refine wl_q rfl rfl rfl (qt_p tbok rfl) ?_
    refine wl_q rfl rfl rfl (qt_p tbok rfl) ?_
    refine wl_done ?_
    exact nk_round (i + 1) (by omega) (by omega) ⟨rfl, rfl, rfl, rfl, rfl, trivial⟩ (fun _ h => h)
  · have he : i = 67 := (by have h0 := of_decide_eq_false h8; omega)
    subst he
    refine wc_exit rfl ?_
    refine nk_code ?_
    refine wc_seq ?_
    refine wc_region ?_
    refine wl_ef rfl (ef_pure (v := .agg (bc (pubH sd n))) (by kernel_rfl) rfl rfl (fun w1 h1 => press_c (pbL_A sd n) (pbL_len sd n) (by have := cells_own h1 (.here); rw [upE_full Z67_len] at this; exact this)) ?_)
    refine wl_ef rfl (ef_store (cs' := bc (pubH sd n)) tbok rfl rfl rfl rfl (.there .here) hpl (Nat.le_of_ble_eq_true rfl) (spl_all hpl) ?_)
    refine wl_done ?_
    refine nk_code ?_
    refine wc_ret ?_
    try dsimp only
    exact fin1 rfl (rv_ag (l := bc (pubH sd n)) tbok rfl rfl rfl hpl (rs_lk (.there .here) at0)) (fun w' hw => ⟨rfl, hw.all (new_cons (newKey hr) (new_cons (newKey ho) (new_cons (newKey hb) new_nil)))⟩)

theorem ends_c {w : World} {sd : List UInt8} {n : UInt32} (hs : sd.length = 32) :
    CallsV Try.prog 110 [.agg (bc sd), .c (.u32 n)] w fun en w' => en = .returned (V.agg (bc (pbL sd n).flatten)).den ∧ St w [] w' := by
  have hsl : (bc sd).length = 32 := by rw [bc_len, hs]
  have hEl : (bc (pbL sd n).flatten).length = 2144 := by rw [bc_len, flat_len (pbL_A _ _), pbL_len]
  have hfA : ∀ i, i < 67 → (pbOf sd n i).length = 32 := fun i _ => pbOf_len _ _ i
  have hul : ∀ i, i ≤ 67 → (upE (pbOf sd n) Z67 i).flatten.length = 2144 := fun i hi => by rw [flat_len (upE_A hfA Z67_A), upE_len Z67_len hi]
  refine calls_in (tb := tb) (fn := Try.f110) Try.func110 rfl rfl rfl [(0, .agg (bc sd)), (1, .c (.u32 n))] rfl [] (St.refl _) ?_
  refine wc_seq ?_
  refine wc_region ?_
  refine wl_ef rfl (ef_box rfl rfl rfl (fun b hb => ?_))
  refine wl_ef rfl (ef_alloc zero26 rfl rfl (fun o ho => ?_))
  refine wl_done ?_
  refine nk_code ?_
  refine wc_seq ?_
  refine wc_region ?_
  refine wl_ef rfl (ef_alloc zero26 rfl rfl (fun r hr => ?_))
  refine wl_done ?_
  refine nk_code ?_
  refine wc_seq ?_
  refine wc_seq ?_
  refine wc_region ?_
  refine wl_q rfl rfl rfl (qt_p tbok rfl) ?_
  refine wl_done ?_
  refine nk_code ?_
  refine wc_block ?_
  refine wc_loop (ι := Nat) (fun i => i ≤ 67) (fun i => [(6, .c (.i64 (i : Int))), (1, .c (.u32 n)), (2, .c (.ptr (.at b 0))), (4, .c (.ptr (.at o 0))), (5, .c (.ptr (.at r 0)))]) (fun i => [⟨.at r 0, bc (upE (pbOf sd n) Z67 i).flatten, 26, (0, 0), []⟩, ⟨.at o 0, bc (List.replicate 2144 0), 26, (0, 0), []⟩, ⟨.at b 0, bc sd, 22, (0, 0), []⟩]) (fun i => 67 - i) 0 (by omega) (nk_start ⟨rfl, rfl, rfl, rfl, rfl, trivial⟩ (fun w hw => by rw [upE_zero, Z67_flat]; exact hw)) (fun i hi => ?_)
  refine wc_seq ?_
  refine wc_seq ?_
  refine wc_region ?_
  refine wl_q rfl rfl rfl (qt_p tbok rfl) ?_
  refine wl_q rfl rfl rfl (qt_p tbok rfl) ?_
  refine wl_done ?_
  refine nk_code ?_
  refine wc_cond rfl (fun h8 => ?_) (fun h8 => ?_)
  · have hi' : i < 67 := (by have h0 := of_decide_eq_true h8; omega)
    have hfl := hul i hi
    refine wc_skip ?_
    refine nk_code ?_
    refine wc_seq ?_
    refine wc_block ?_
    refine wc_region ?_
    refine wl_q rfl rfl rfl (qt_p tbok rfl) ?_
    refine wl_q rfl rfl rfl (qt_p tbok rfl) ?_
    refine wl_q rfl rfl rfl (qt_p tbok rfl) ?_
    refine wl_q rfl rfl rfl (qt_p tbok rfl) ?_
    refine wl_q rfl rfl rfl (qt_load_ag (l := bc sd) tbok rfl rfl rfl hsl (rs_lk (.there (.there .here)) at0)) ?_
    refine wl_q rfl rfl rfl (qt_p tbok rfl) ?_
    refine wl_q rfl rfl rfl (qt_p tbok rfl) ?_
    refine wl_q rfl rfl rfl (qt_p tbok rfl) ?_
    refine wl_ef rfl (ef_pure (v := .agg (bc (secH sd n (UInt8.ofInt (i : Int))))) (by kernel_rfl) rfl rfl (fun w1 _ => sec2_c hs) ?_)
    refine wl_ef rfl (ef_pure (v := .agg (bc (pbOf sd n i))) (by kernel_rfl) rfl rfl (fun w1 _ => climb115_c (a := 0) (q := 15) rfl (by omega) (by omega)) ?_)
    refine wl_q rfl rfl rfl (qt_p tbok rfl) ?_
    refine wl_ef rfl (ef_store (cs' := bc (upE (pbOf sd n) Z67 (i + 1)).flatten) tbok rfl rfl rfl rfl .here (by show (bc (pbOf sd n i)).length = 32; rw [bc_len, pbOf_len]) (by rw [bc_len, hfl]; omega) (by rw [show 0 + (i : Int).toNat * 32 = i * 32 by omega]; exact upE_set hfA Z67_A Z67_len hi') ?_)
    refine wl_done ?_
    refine nk_code ?_
    refine wc_region ?_
    refine wl_q rfl rfl rfl (qt_p tbok rfl) ?_
    refine wl_q rfl rfl rfl (qt_p tbok rfl) ?_
    refine wl_q rfl rfl rfl (qt_p tbok rfl) ?_
    refine wl_done ?_
    exact nk_round (i + 1) (by omega) (by omega) ⟨rfl, rfl, rfl, rfl, rfl, trivial⟩ (fun _ h => h)
  · have he : i = 67 := (by have h0 := of_decide_eq_false h8; omega)
    subst he
    refine wc_exit rfl ?_
    refine nk_code ?_
    refine wc_seq ?_
    refine wc_region ?_
    refine wl_q rfl rfl rfl (qt_load_ag (l := bc (pbL sd n).flatten) tbok rfl rfl rfl hEl (rs_lk .here (by rw [upE_full Z67_len]; exact at0))) ?_
    refine wl_ef rfl (ef_store (cs' := bc (pbL sd n).flatten) tbok rfl rfl rfl rfl (.there .here) hEl (Nat.le_of_ble_eq_true rfl) (spl_all (by show (bc (pbL sd n).flatten).length = (bc (List.replicate 2144 0)).length; rw [hEl, bc_len, List.length_replicate])) ?_)
    refine wl_done ?_
    refine nk_code ?_
    refine wc_ret ?_
    try dsimp only
    exact fin1 rfl (rv_ag (l := bc (pbL sd n).flatten) tbok rfl rfl rfl hEl (rs_lk (.there .here) at0)) (fun w' hw => ⟨rfl, hw.all (new_cons (newKey hr) (new_cons (newKey ho) (new_cons (newKey hb) new_nil)))⟩)

theorem pub73_c {w : World} {sd : List UInt8} {n : UInt32} (hs : sd.length = 32) :
    CallsV Try.prog 73 [.agg (bc sd), .c (.u32 n)] w fun en w' => en = .returned (V.agg (bc (pubH sd n))).den ∧ St w [] w' := by
  have hsl : (bc sd).length = 32 := by rw [bc_len, hs]
  have hpl := pubH_blen sd n
  refine calls_in (tb := tb) (fn := Try.f73) Try.func73 rfl rfl rfl [(0, .agg (bc sd)), (1, .c (.u32 n))] rfl [] (St.refl _) ?_
  refine wc_seq ?_
  refine wc_region ?_
  refine wl_ef rfl (ef_box rfl rfl rfl (fun b hb => ?_))
  refine wl_ef rfl (ef_alloc zero22 rfl rfl (fun o ho => ?_))
  refine wl_done ?_
  refine nk_code ?_
  refine wc_seq ?_
  refine wc_region ?_
  refine wl_q rfl rfl rfl (qt_load_ag (l := bc sd) tbok rfl rfl rfl hsl (rs_lk (.there .here) at0)) ?_
  refine wl_q rfl rfl rfl (qt_p tbok rfl) ?_
  refine wl_ef rfl (ef_pure (v := .agg (bc (pbL sd n).flatten)) (by kernel_rfl) rfl rfl (fun w1 _ => ends_c hs) ?_)
  refine wl_ef rfl (ef_pure (v := .agg (bc (pubH sd n))) (by kernel_rfl) rfl rfl (fun w1 _ => press2_c (pbL_A sd n) (pbL_len sd n)) ?_)
  refine wl_ef rfl (ef_store (cs' := bc (pubH sd n)) tbok rfl rfl rfl rfl .here hpl (Nat.le_of_ble_eq_true rfl) (spl_all hpl) ?_)
  refine wl_done ?_
  refine nk_code ?_
  refine wc_ret ?_
  try dsimp only
  exact fin1 rfl (rv_ag (l := bc (pubH sd n)) tbok rfl rfl rfl hpl (rs_lk .here at0)) (fun w' hw => ⟨rfl, hw.all (new_cons (newKey ho) (new_cons (newKey hb) new_nil))⟩)
end Go.Proofs.Ytjhmcmadleabjaa

set_option maxRecDepth 100000
namespace Go.Proofs.Ytjhmcmadleabjaa
open Go Go.Hw Go.Proofs

def lenL : List UInt8 := [0, 1, 2, 2, 3, 3, 3, 3] ++ List.replicate 8 4 ++ List.replicate 16 5 ++ List.replicate 32 6 ++ List.replicate 64 7 ++ List.replicate 128 8
def lenS : ByteArray := ⟨lenL.toArray⟩
theorem lenS_get {k : Nat} (h : k < 256) : lenS[k]? = some (lenL.getD k 0) := by
  have hl : lenL.length = 256 := by kernel_rfl
  have : lenS.size = 256 := by kernel_rfl
  rw [getElem?_pos lenS k (by omega)]
  simp only [lenS, List.getD_eq_getElem?_getD]
  rw [List.getElem?_eq_getElem (by omega)]
  rfl
theorem lenL_pow : ∀ (j : Fin 8) (k : Fin 129), pw j.val ≤ k.val → k.val < 2 * pw j.val → (lenL.getD k.val 0).toNat = j.val + 1 := by
  have h : (List.all (List.range 8) fun j => List.all (List.range 129) fun k => !(Nat.ble (pw j) k) || !(Nat.blt k (2 * pw j)) || Nat.beq (lenL.getD k 0).toNat (j + 1)) = true := by kernel_rfl
  intro j k h1 h2
  have h3 := List.all_eq_true.1 h j.val (List.mem_range.2 j.isLt)
  have h4 := List.all_eq_true.1 h3 k.val (List.mem_range.2 k.isLt)
  simp only [Bool.or_eq_true, Bool.not_eq_true'] at h4
  rcases h4 with (h5 | h5) | h5
  · have : Nat.ble (pw j.val) k.val = true := Nat.ble_eq_true_of_le h1
    rw [this] at h5; cases h5
  · have : Nat.blt k.val (2 * pw j.val) = true := Nat.ble_eq_true_of_le h2
    rw [this] at h5; cases h5
  · exact Nat.eq_of_beq_eq_true h5

theorem len64_c {w : World} {x : UInt64} {k : Nat} (hx : x.toNat = k) (hk : k < 256) : CallsV Try.prog 133 [.c (.u64 x)] w fun en w' => en = .returned (V.c (.i64 ((lenL.getD k 0).toNat : Int))).den ∧ St w [] w' := by
  have g1 : ¬ (4294967296 : UInt64) ≤ x := by rw [UInt64.le_iff_toNat_le, hx]; simp; omega
  have g2 : ¬ (65536 : UInt64) ≤ x := by rw [UInt64.le_iff_toNat_le, hx]; simp; omega
  have g3 : ¬ (256 : UInt64) ≤ x := by rw [UInt64.le_iff_toNat_le, hx]; simp; omega
  have h8 : x.toUInt8.toNat = k := by simp [hx]; omega
  have hlb : (lenL.getD k 0).toNat < 256 := UInt8.toNat_lt _
  refine calls_in (tb := tb) (fn := Try.f133) Try.func133 rfl rfl rfl [(0, .c (.u64 x))] rfl [] (St.refl _) ?_
  refine wc_seq ?_
  refine wc_region ?_
  refine wl_q rfl rfl rfl (qt_p tbok rfl) ?_
  refine wl_done ?_
  refine nk_code ?_
  refine wc_seq ?_
  refine wc_seq ?_
  refine wc_region ?_
  refine wl_q rfl rfl rfl (qt_p tbok rfl) ?_
  refine wl_q rfl rfl rfl (qt_p tbok rfl) ?_
  refine wl_as (v' := .c (.bool false)) (congrArg (fun b => V.c (C.bool b)) (decide_eq_false g1)) ?_
  refine wl_done ?_
  refine nk_code ?_
  refine wc_no rfl ?_
  refine wc_skip ?_
  refine nk_code ?_
  refine wc_seq ?_
  refine wc_seq ?_
  refine wc_region ?_
  refine wl_q rfl rfl rfl (qt_p tbok rfl) ?_
  refine wl_q rfl rfl rfl (qt_p tbok rfl) ?_
  refine wl_as (v' := .c (.bool false)) (congrArg (fun b => V.c (C.bool b)) (decide_eq_false g2)) ?_
  refine wl_done ?_
  refine nk_code ?_
  refine wc_no rfl ?_
  refine wc_skip ?_
  refine nk_code ?_
  refine wc_seq ?_
  refine wc_seq ?_
  refine wc_region ?_
  refine wl_q rfl rfl rfl (qt_p tbok rfl) ?_
  refine wl_q rfl rfl rfl (qt_p tbok rfl) ?_
  refine wl_as (v' := .c (.bool false)) (congrArg (fun b => V.c (C.bool b)) (decide_eq_false g3)) ?_
  refine wl_done ?_
  refine nk_code ?_
  refine wc_no rfl ?_
  refine wc_skip ?_
  refine nk_code ?_
  refine wc_seq ?_
  refine wc_region ?_
  refine wl_q rfl rfl rfl (qt_p tbok rfl) ?_
  refine wl_q rfl rfl rfl (qt_p tbok rfl) ?_
  refine wl_q rfl rfl rfl (qt_p tbok rfl) ?_
  refine wl_q rfl rfl rfl (qt_index_str (S := lenS) (c := .u8 x.toUInt8) (k := k) (b := lenL.getD k 0) tbok rfl (by kernel_rfl) rfl (by show some ((x.toUInt8.toNat : Nat) : Int) = _; rw [h8]) (lenS_get hk)) ?_
  refine wl_q rfl rfl rfl (qt_p tbok rfl) ?_
  refine wl_q rfl rfl rfl (qt_p tbok rfl) ?_
  refine wl_as (v' := .c (.i64 ((lenL.getD k 0).toNat : Int))) (congrArg (fun z => V.c (C.i64 z)) (by omega)) ?_
  refine wl_q rfl rfl rfl (qt_p tbok rfl) ?_
  refine wl_done ?_
  refine nk_code ?_
  refine wc_ret ?_
  try dsimp only
  exact fin1 rfl (rv_tmp rfl) (fun w' hw => ⟨rfl, hw⟩)

theorem len_c {w : World} {x : UInt64} {k : Nat} (hx : x.toNat = k) (hk : k < 256) : CallsV Try.prog 126 [.c (.u64 x)] w fun en w' => en = .returned (V.c (.i64 ((lenL.getD k 0).toNat : Int))).den ∧ St w [] w' := by
  refine calls_in (tb := tb) (fn := Try.f126) Try.func126 rfl rfl rfl [(0, .c (.u64 x))] rfl [] (St.refl _) ?_
  refine wc_seq ?_
  refine wc_region ?_
  refine wl_q rfl rfl rfl (qt_p tbok rfl) ?_
  refine wl_done ?_
  refine nk_code ?_
  refine wc_seq ?_
  refine wc_no rfl ?_
  refine wc_skip ?_
  refine nk_code ?_
  refine wc_seq ?_
  refine wc_region ?_
  refine wl_q rfl rfl rfl (qt_p tbok rfl) ?_
  refine wl_ef rfl (ef_pure (v := .c (.i64 ((lenL.getD k 0).toNat : Int))) (by kernel_rfl) rfl rfl (fun w1 _ => len64_c hx hk) ?_)
  refine wl_q rfl rfl rfl (qt_p tbok rfl) ?_
  refine wl_done ?_
  refine nk_code ?_
  refine wc_ret ?_
  try dsimp only
  exact fin1 rfl (rv_tmp rfl) (fun w' hw => ⟨rfl, hw⟩)

theorem split_c {w : World} {n j : Nat} (h1 : pw j < n) (h2 : n ≤ 2 * pw j) (hj : j ≤ 7) : CallsV Try.prog 111 [.c (.i64 (n : Int))] w fun en w' => en = .returned (V.c (.i64 (pw j : Int))).den ∧ St w [] w' := by
  have hp : pw j ≤ pw 7 := pw_mono hj
  have hp7 : pw 7 = 128 := rfl
  have hpos := pw_pos j
  have e1 : UInt64.ofInt ((n : Int) - 1) = UInt64.ofNat (n - 1) := by
    rw [show (n : Int) - 1 = ((n - 1 : Nat) : Int) by omega, u64_ofInt]
  have e2 : (UInt64.ofNat (n - 1)).toNat = n - 1 := by simp; omega
  have hl : (lenL.getD (n - 1) 0).toNat = j + 1 := by
    by_cases h8 : n - 1 < 129
    · exact lenL_pow ⟨j, by omega⟩ ⟨n - 1, h8⟩ (by show pw j ≤ n - 1; omega) (by show n - 1 < 2 * pw j; omega)
    · have hj7 : j = 7 := by
        rcases Nat.lt_or_ge j 7 with h | h
        · have : pw j ≤ pw 6 := pw_mono (by omega)
          have h6 : pw 6 = 64 := rfl
          omega
        · omega
      subst hj7
      have h : (List.all (List.range 128) fun k => Nat.beq (lenL.getD (128 + k) 0).toNat 8) = true := by kernel_rfl
      have h3 := List.all_eq_true.1 h (n - 1 - 128) (List.mem_range.2 (by omega))
      rw [show 128 + (n - 1 - 128) = n - 1 by omega] at h3
      exact Nat.eq_of_beq_eq_true h3
  refine calls_in (tb := tb) (fn := Try.f111) Try.func111 rfl rfl rfl [(0, .c (.i64 (n : Int)))] rfl [] (St.refl _) ?_
  refine wc_seq ?_
  refine wc_region ?_
  refine wl_q rfl rfl rfl (qt_p tbok rfl) ?_
  refine wl_done ?_
  refine nk_code ?_
  refine wc_seq ?_
  refine wc_region ?_
  refine wl_q rfl rfl rfl (qt_p tbok rfl) ?_
  refine wl_q rfl rfl rfl (qt_p tbok rfl) ?_
  refine wl_q rfl rfl rfl (qt_p tbok rfl) ?_
  refine wl_as (v' := .c (.u64 (UInt64.ofNat (n - 1)))) (congrArg (fun z => V.c (C.u64 z)) e1) ?_
  refine wl_ef rfl (ef_pure (v := .c (.i64 ((j + 1 : Nat) : Int))) (by kernel_rfl) rfl rfl (fun w1 _ => by rw [← hl]; exact len_c e2 (by omega)) ?_)
  refine wl_q rfl rfl rfl (qt_p tbok rfl) ?_
  refine wl_as (v' := .c (.i64 (j : Int))) (congrArg (fun z => V.c (C.i64 z)) (by omega)) ?_
  refine wl_q rfl rfl rfl (qt_pure tbok rfl (by rw [Int.toNat_natCast]; have hq : (2 : Int) ^ j = ((pw j : Nat) : Int) := (by rw [pw_two]; simp); rw [Int.one_mul, hq]; refine And.intro ?_ (And.intro ?_ (And.intro ?_ ?_)) <;> omega)) ?_
  refine wl_as (v' := .c (.i64 (pw j : Int))) (congrArg (fun z => V.c (C.i64 z)) (by rw [Int.toNat_natCast, Int.one_mul, pw_two]; simp)) ?_
  refine wl_q rfl rfl rfl (qt_p tbok rfl) ?_
  refine wl_done ?_
  refine nk_code ?_
  refine wc_ret ?_
  try dsimp only
  exact fin1 rfl (rv_tmp rfl) (fun w' hw => ⟨rfl, hw⟩)
end Go.Proofs.Ytjhmcmadleabjaa

set_option maxRecDepth 100000
namespace Go.Proofs.Ytjhmcmadleabjaa
open Go Go.Hw Go.Proofs

/-- The root of a whole tree, a leaf's way in it. -/
def rootT : Nat → List (List UInt8) → List UInt8
  | 0, L => L.getD 0 []
  | h + 1, L => nodeH (rootT h (L.take (pw h))) (rootT h (L.drop (pw h)))
def pathT : Nat → Nat → List (List UInt8) → List (List UInt8)
  | 0, _, _ => []
  | h + 1, k, L => if k < pw h then pathT h k (L.take (pw h)) ++ [rootT h (L.drop (pw h))] else pathT h (k - pw h) (L.drop (pw h)) ++ [rootT h (L.take (pw h))]
theorem A32.take {L : List (List UInt8)} (h : A32 L) (k : Nat) : A32 (L.take k) := fun s hs => h s (List.mem_of_mem_take hs)
theorem A32.drop {L : List (List UInt8)} (h : A32 L) (k : Nat) : A32 (L.drop k) := fun s hs => h s (List.mem_of_mem_drop hs)
theorem rootT_len : ∀ (h : Nat) {L : List (List UInt8)}, A32 L → L.length = pw h → (rootT h L).length = 32
  | 0, L, hA, hl => by
    match L, hl with
    | [x], _ => exact hA x (by simp)
  | h + 1, L, _, _ => rfl
theorem pathT_len : ∀ (h k : Nat) (L : List (List UInt8)), (pathT h k L).length = h
  | 0, _, _ => rfl
  | h + 1, k, L => by
    unfold pathT
    split <;> simp [pathT_len h]
theorem pathT_A : ∀ (h : Nat) {k : Nat} {L : List (List UInt8)}, A32 L → L.length = pw (h) → A32 (pathT h k L)
  | 0, _, _, _, _ => fun s hs => by cases hs
  | h + 1, k, L, hA, hl => by
    have hpw : pw (h + 1) = 2 * pw h := rfl
    have h1 : (L.take (pw h)).length = pw h := by simp; omega
    have h2 : (L.drop (pw h)).length = pw h := by simp; omega
    intro s hs
    unfold pathT at hs
    split at hs
    · rcases List.mem_append.1 hs with h3 | h3
      · exact pathT_A h (hA.take _) h1 s h3
      · rw [List.mem_singleton.1 h3]; exact rootT_len h (hA.drop _) h2
    · rcases List.mem_append.1 hs with h3 | h3
      · exact pathT_A h (hA.drop _) h2 s h3
      · rw [List.mem_singleton.1 h3]; exact rootT_len h (hA.take _) h1
/-- A leaf's way leads to the root. -/
theorem path_root : ∀ (h k : Nat) {L : List (List UInt8)}, A32 L → L.length = pw h → k < pw h → cl k (L.getD k []) (pathT h k L) = rootT h L
  | 0, k, L, hA, hl, hk => by
    have hk1 : k < 1 := hk
    have : k = 0 := by omega
    subst this; rfl
  | h + 1, k, L, hA, hl, hk => by
    have hpw : pw (h + 1) = 2 * pw h := rfl
    have h1 : (L.take (pw h)).length = pw h := by simp; omega
    have h2 : (L.drop (pw h)).length = pw h := by simp; omega
    unfold pathT
    split
    · rename_i hlt
      rw [cl_snoc _ _ _ _ (by rw [pathT_len]; omega), pathT_len, if_pos hlt]
      have e : L.getD k [] = (L.take (pw h)).getD k [] := by
        simp [List.getD_eq_getElem?_getD, hlt]
      rw [e, path_root h k (hA.take _) h1 hlt]
      rfl
    · rename_i hlt
      rw [cl_snoc _ _ _ _ (by rw [pathT_len]; omega), pathT_len, if_neg hlt]
      have e : L.getD k [] = (L.drop (pw h)).getD (k - pw h) [] := by
        simp only [List.getD_eq_getElem?_getD, List.getElem?_drop]
        rw [show pw h + (k - pw h) = k by omega]
      rw [e, path_root h (k - pw h) (hA.drop _) h2 (by omega)]
      rfl

theorem flat_take2 : ∀ {L : List (List UInt8)} (k : Nat), A32 L → k ≤ L.length → (L.take k).flatten = L.flatten.take (k * 32) ∧ (L.drop k).flatten = L.flatten.drop (k * 32)
  | L, 0, _, _ => by simp
  | s :: ps, k + 1, hA, hk => by
    have hs : s.length = 32 := hA s (by simp)
    obtain ⟨h1, h2⟩ := flat_take2 (L := ps) k (fun x hx => hA x (by simp [hx])) (by simpa using hk)
    constructor
    · rw [List.take_succ_cons, List.flatten_cons, List.flatten_cons, h1, List.take_append, List.take_of_length_le (l := s) (by omega), hs, show (k + 1) * 32 - 32 = k * 32 by omega]
    · rw [List.drop_succ_cons, List.flatten_cons, h2, List.drop_append, List.drop_of_length_le (l := s) (by omega), hs, show (k + 1) * 32 - 32 = k * 32 by omega, List.nil_append]
theorem cells_cut {w : World} {pa : Ad} {pc k : Nat} {L : List (List UInt8)} (hA : A32 L) (hc : Cells w pa (bc L.flatten)) (hk : k ≤ L.length) (hcap : L.length ≤ pc) :
    Cells w (pa.adv 0 pc 32) (bc (L.take k).flatten) ∧ Cells w (pa.adv k pc 32) (bc (L.drop k).flatten) := by
  have hl := flat_len hA
  obtain ⟨h1, h2⟩ := flat_take2 k hA hk
  have g1 := hc.advz (k := 0) (m := pc) (z := 32) (by rw [bc_len, hl]; omega)
  have g2 := hc.advz (k := k) (m := pc) (z := 32) (by rw [bc_len, hl]; omega)
  rw [h1, h2, ← bc_take, ← bc_drop]
  refine ⟨?_, g2⟩
  rw [Nat.zero_mul, List.drop_zero] at g1
  exact g1.take _

theorem root74_c : ∀ (h : Nat) {w : World} {L : List (List UInt8)} {pa : Ad} {pc : Nat}, A32 L → L.length = pw h → h ≤ 8 → L.length ≤ pc → Cells w pa (bc L.flatten) →
    CallsV Try.prog 74 [.c (.slc pa (pw h) pc)] w fun en w' => en = .returned (V.agg (bc (rootT h L))).den ∧ St w [] w' := by
  intro h
  induction h
  case zero =>
    intro w L pa pc hA hl hh hcap hc
    have hl1 : L.length = 1 := hl
    have hfl := flat_len hA
    obtain ⟨pr, po, hpa⟩ := cells_nn hc (by rw [bc_len, hfl]; omega)
    subst hpa
    have hrl := rootT_len 0 hA hl
    have hbl : (bc (rootT 0 L)).length = 32 := by rw [bc_len, hrl]
    have hL : L = [rootT 0 L] := by
      match L, hl1 with
      | [x], _ => rfl
    refine calls_in (tb := tb) (fn := Try.f74) Try.func74 rfl rfl rfl [(0, .c (.slc (.at pr po) (pw 0) pc))] rfl [] (St.refl _) ?_
    refine wc_seq ?_
    refine wc_region ?_
    refine wl_ef rfl (ef_alloc zero30 rfl rfl (fun o ho => ?_))
    refine wl_done ?_
    refine nk_code ?_
    refine wc_seq ?_
    refine wc_seq ?_
    refine wc_region ?_
    refine wl_q rfl rfl rfl (qt_p tbok rfl) ?_
    refine wl_q rfl rfl rfl (qt_len tbok rfl rfl) ?_
    refine wl_done ?_
    refine nk_code ?_
    refine wc_block ?_
    refine wc_seq ?_
    refine wc_region ?_
    first | refine wl_q rfl rfl rfl (qt_p tbok rfl) ?_ | refine wl_q rfl rfl rfl (qt_eqn tbok rfl rfl rfl) ?_
    refine wl_q rfl rfl rfl (qt_p tbok rfl) ?_
    refine wl_done ?_
    refine nk_code ?_
    refine wc_no rfl ?_
    refine wc_seq ?_
    refine wc_region ?_
    first | refine wl_q rfl rfl rfl (qt_p tbok rfl) ?_ | refine wl_q rfl rfl rfl (qt_eqn tbok rfl rfl rfl) ?_
    refine wl_q rfl rfl rfl (qt_p tbok rfl) ?_
    refine wl_done ?_
    refine nk_code ?_
    refine wc_yes rfl ?_
    refine wc_seq ?_
    refine wc_region ?_
    refine wl_q rfl rfl rfl (qt_p tbok rfl) ?_
    refine wl_q rfl rfl rfl (qt_p tbok rfl) ?_
    refine wl_q rfl rfl rfl (qt_load_ag (l := bc (rootT 0 L)) tbok rfl rfl rfl hbl (rs_cells (hc.sub (fun i c hi => by rw [hL]; exact flat_head hrl i c hi) (fun h => by cases h)) (off_new (newKey ho) off_nil))) ?_
    refine wl_ef rfl (ef_store (cs' := bc (rootT 0 L)) tbok rfl rfl rfl rfl .here hbl (Nat.le_of_ble_eq_true rfl) (spl_all hbl) ?_)
    refine wl_done ?_
    refine nk_code ?_
    refine wc_ret ?_
    try dsimp only
    exact fin1 rfl (rv_ag (l := bc (rootT 0 L)) tbok rfl rfl rfl hbl (rs_lk .here at0)) (fun w' hw => ⟨rfl, hw.all (new_cons (newKey ho) new_nil)⟩)
  case succ h ih =>
    intro w L pa pc hA hl hh hcap hc
    have hpw : pw (h + 1) = 2 * pw h := rfl
    have hpos := pw_pos h
    have hp60 := pw_60 (a := h) (by omega)
    have hfl := flat_len hA
    have ht : (L.take (pw h)).length = pw h := by simp; omega
    have hd : (L.drop (pw h)).length = pw h := by simp; omega
    have ht1 := rootT_len h (hA.take (pw h)) ht
    have hd1 := rootT_len h (hA.drop (pw h)) hd
    refine calls_in (tb := tb) (fn := Try.f74) Try.func74 rfl rfl rfl [(0, .c (.slc pa (pw (h + 1)) pc))] rfl [] (St.refl _) ?_
    refine wc_seq ?_
    refine wc_region ?_
    refine wl_ef rfl (ef_alloc zero30 rfl rfl (fun o ho => ?_))
    refine wl_done ?_
    refine nk_code ?_
    refine wc_seq ?_
    refine wc_seq ?_
    refine wc_region ?_
    refine wl_q rfl rfl rfl (qt_p tbok rfl) ?_
    refine wl_q rfl rfl rfl (qt_len tbok rfl rfl) ?_
    refine wl_done ?_
    refine nk_code ?_
    refine wc_block ?_
    refine wc_seq ?_
    refine wc_region ?_
    first | refine wl_q rfl rfl rfl (qt_p tbok rfl) ?_ | refine wl_q rfl rfl rfl (qt_eqn tbok rfl rfl rfl) ?_
    refine wl_as (v' := .c (.bool false)) (congrArg (fun b => V.c (C.bool b)) (decide_eq_false (by omega))) ?_
    refine wl_q rfl rfl rfl (qt_p tbok rfl) ?_
    refine wl_done ?_
    refine nk_code ?_
    refine wc_no rfl ?_
    refine wc_seq ?_
    refine wc_region ?_
    first | refine wl_q rfl rfl rfl (qt_p tbok rfl) ?_ | refine wl_q rfl rfl rfl (qt_eqn tbok rfl rfl rfl) ?_
    refine wl_as (v' := .c (.bool false)) (congrArg (fun b => V.c (C.bool b)) (decide_eq_false (by omega))) ?_
    refine wl_q rfl rfl rfl (qt_p tbok rfl) ?_
    refine wl_done ?_
    refine nk_code ?_
    refine wc_no rfl ?_
    refine wc_skip ?_
    refine nk_code ?_
    refine wc_seq ?_
    refine wc_region ?_
    refine wl_q rfl rfl rfl (qt_p tbok rfl) ?_
    refine wl_q rfl rfl rfl (qt_len tbok rfl rfl) ?_
    refine wl_ef rfl (ef_pure (v := .c (.i64 (pw h : Int))) (by kernel_rfl) rfl rfl (fun w1 _ => split_c (by omega) (by omega) (by omega)) ?_)
    refine wl_q rfl rfl rfl (qt_p tbok rfl) ?_
    refine wl_done ?_
    refine nk_code ?_
    refine wc_seq ?_
    refine wc_tail 9 follows (by kernel_rfl) ?_
    refine wq_q rfl rfl rfl (qt_p tbok rfl) ?_
    refine wq_q rfl rfl rfl (qt_p tbok rfl) ?_
    first | refine wq_q rfl rfl rfl (qt_sl tbok rfl rfl rfl rfl) ?_ | refine wq_q rfl rfl rfl (qt_sa tbok rfl rfl rfl rfl) ?_
    refine wq_as (v' := .c (.slc (pa.adv 0 pc 32) (pw h) pc)) (congrArg (fun z => V.c (C.slc (pa.adv 0 pc 32) z pc)) (by omega)) ?_
    refine wq_call (.agg (bc (rootT h (L.take (pw h))))) (by kernel_rfl) rfl rfl (fun w1 h1 => ih (hA.take _) ht (by omega) (by omega) (cells_cut hA (cells_rd (rd_cells hc (off_new (newKey ho) off_nil)) h1) (by omega) hcap).1) ?_
    refine wq_q rfl rfl rfl (qt_p tbok rfl) ?_
    refine wq_q rfl rfl rfl (qt_p tbok rfl) ?_
    first | refine wq_q rfl rfl rfl (qt_sl tbok rfl rfl rfl rfl) ?_ | refine wq_q rfl rfl rfl (qt_sa tbok rfl rfl rfl rfl) ?_
    refine wq_as (v' := .c (.slc (pa.adv (pw h) pc 32) (pw h) (pc - pw h))) (by rw [Int.toNat_natCast, show (pw (h + 1) : Int).toNat - pw h = pw h by omega]) ?_
    refine wq_call (.agg (bc (rootT h (L.drop (pw h))))) (by kernel_rfl) rfl rfl (fun w1 h1 => ih (hA.drop _) hd (by omega) (by omega) (cells_cut hA (cells_rd (rd_cells hc (off_new (newKey ho) off_nil)) h1) (by omega) hcap).2) ?_
    refine wq_call (.agg (bc (rootT (h + 1) L))) (by kernel_rfl) rfl rfl (fun w1 _ => node_c ht1 hd1) ?_
    refine wq_done ?_
    refine wl_ef rfl (ef_store (cs' := bc (rootT (h + 1) L)) tbok rfl rfl rfl rfl .here rfl (Nat.le_of_ble_eq_true rfl) (spl_all rfl) ?_)
    refine wl_done ?_
    refine nk_code ?_
    refine wc_ret ?_
    try dsimp only
    exact fin1 rfl (rv_ag (l := bc (rootT (h + 1) L)) tbok rfl rfl rfl rfl (rs_lk .here at0)) (fun w' hw => ⟨rfl, hw.all (new_cons (newKey ho) new_nil)⟩)

theorem root118_c : ∀ (h : Nat) {w : World} {L : List (List UInt8)} {pa : Ad} {pc : Nat}, A32 L → L.length = pw h → h ≤ 60 → L.length ≤ pc → Cells w pa (bc L.flatten) →
    CallsV Try.prog 118 [.c (.slc pa (pw h) pc)] w fun en w' => en = .returned (V.agg (bc (rootT h L))).den ∧ St w [] w' := by
  intro h
  induction h
  case zero =>
    intro w L pa pc hA hl hh hcap hc
    have hl1 : L.length = 1 := hl
    have hfl := flat_len hA
    obtain ⟨pr, po, hpa⟩ := cells_nn hc (by rw [bc_len, hfl]; omega)
    subst hpa
    have hrl := rootT_len 0 hA hl
    have hbl : (bc (rootT 0 L)).length = 32 := by rw [bc_len, hrl]
    have hL : L = [rootT 0 L] := by
      match L, hl1 with
      | [x], _ => rfl
    refine calls_in (tb := tb) (fn := Try.f118) Try.func118 rfl rfl rfl [(0, .c (.slc (.at pr po) (pw 0) pc))] rfl [] (St.refl _) ?_
    refine wc_seq ?_
    refine wc_region ?_
    refine wl_ef rfl (ef_alloc zero22 rfl rfl (fun o ho => ?_))
    refine wl_done ?_
    refine nk_code ?_
    refine wc_seq ?_
    refine wc_seq ?_
    refine wc_region ?_
    refine wl_q rfl rfl rfl (qt_p tbok rfl) ?_
    refine wl_q rfl rfl rfl (qt_len tbok rfl rfl) ?_
    first | refine wl_q rfl rfl rfl (qt_p tbok rfl) ?_ | refine wl_q rfl rfl rfl (qt_eqn tbok rfl rfl rfl) ?_
    refine wl_done ?_
    refine nk_code ?_
    refine wc_no rfl ?_
    refine wc_skip ?_
    refine nk_code ?_
    refine wc_seq ?_
    refine wc_seq ?_
    refine wc_region ?_
    refine wl_q rfl rfl rfl (qt_p tbok rfl) ?_
    refine wl_q rfl rfl rfl (qt_len tbok rfl rfl) ?_
    first | refine wl_q rfl rfl rfl (qt_p tbok rfl) ?_ | refine wl_q rfl rfl rfl (qt_eqn tbok rfl rfl rfl) ?_
    refine wl_done ?_
    refine nk_code ?_
    refine wc_yes rfl ?_
    refine wc_seq ?_
    refine wc_region ?_
    refine wl_q rfl rfl rfl (qt_p tbok rfl) ?_
    refine wl_q rfl rfl rfl (qt_p tbok rfl) ?_
    refine wl_q rfl rfl rfl (qt_load_ag (l := bc (rootT 0 L)) tbok rfl rfl rfl hbl (rs_cells (hc.sub (fun i c hi => by rw [hL]; exact flat_head hrl i c hi) (fun h => by cases h)) (off_new (newKey ho) off_nil))) ?_
    refine wl_ef rfl (ef_store (cs' := bc (rootT 0 L)) tbok rfl rfl rfl rfl .here hbl (Nat.le_of_ble_eq_true rfl) (spl_all hbl) ?_)
    refine wl_done ?_
    refine nk_code ?_
    refine wc_ret ?_
    try dsimp only
    exact fin1 rfl (rv_ag (l := bc (rootT 0 L)) tbok rfl rfl rfl hbl (rs_lk .here at0)) (fun w' hw => ⟨rfl, hw.all (new_cons (newKey ho) new_nil)⟩)
  case succ h ih =>
    intro w L pa pc hA hl hh hcap hc
    have hpw : pw (h + 1) = 2 * pw h := rfl
    have hpos := pw_pos h
    have hp60 := pw_60 (a := h) (by omega)
    have hfl := flat_len hA
    have ht : (L.take (pw h)).length = pw h := by simp; omega
    have hd : (L.drop (pw h)).length = pw h := by simp; omega
    have ht1 := rootT_len h (hA.take (pw h)) ht
    have hd1 := rootT_len h (hA.drop (pw h)) hd
    have htb : (bc (rootT h (L.take (pw h)))).length = 32 := by rw [bc_len, ht1]
    have hdb : (bc (rootT h (L.drop (pw h)))).length = 32 := by rw [bc_len, hd1]
    refine calls_in (tb := tb) (fn := Try.f118) Try.func118 rfl rfl rfl [(0, .c (.slc pa (pw (h + 1)) pc))] rfl [] (St.refl _) ?_
    refine wc_seq ?_
    refine wc_region ?_
    refine wl_ef rfl (ef_alloc zero22 rfl rfl (fun o ho => ?_))
    refine wl_done ?_
    refine nk_code ?_
    refine wc_seq ?_
    refine wc_seq ?_
    refine wc_region ?_
    refine wl_q rfl rfl rfl (qt_p tbok rfl) ?_
    refine wl_q rfl rfl rfl (qt_len tbok rfl rfl) ?_
    first | refine wl_q rfl rfl rfl (qt_p tbok rfl) ?_ | refine wl_q rfl rfl rfl (qt_eqn tbok rfl rfl rfl) ?_
    refine wl_as (v' := .c (.bool false)) (congrArg (fun b => V.c (C.bool b)) (decide_eq_false (by omega))) ?_
    refine wl_done ?_
    refine nk_code ?_
    refine wc_no rfl ?_
    refine wc_skip ?_
    refine nk_code ?_
    refine wc_seq ?_
    refine wc_seq ?_
    refine wc_region ?_
    refine wl_q rfl rfl rfl (qt_p tbok rfl) ?_
    refine wl_q rfl rfl rfl (qt_len tbok rfl rfl) ?_
    first | refine wl_q rfl rfl rfl (qt_p tbok rfl) ?_ | refine wl_q rfl rfl rfl (qt_eqn tbok rfl rfl rfl) ?_
    refine wl_as (v' := .c (.bool false)) (congrArg (fun b => V.c (C.bool b)) (decide_eq_false (by omega))) ?_
    refine wl_done ?_
    refine nk_code ?_
    refine wc_no rfl ?_
    refine wc_skip ?_
    refine nk_code ?_
    refine wc_seq ?_
    refine wc_region ?_
    refine wl_q rfl rfl rfl (qt_p tbok rfl) ?_
    refine wl_q rfl rfl rfl (qt_len tbok rfl rfl) ?_
    refine wl_ef rfl (ef_pure (v := .c (.i64 (pw h : Int))) (by kernel_rfl) rfl rfl (fun w1 _ => half_c (by omega) (by omega) (by omega)) ?_)
    refine wl_q rfl rfl rfl (qt_p tbok rfl) ?_
    refine wl_done ?_
    refine nk_code ?_
    refine wc_seq ?_
    refine wc_region ?_
    refine wl_q rfl rfl rfl (qt_p tbok rfl) ?_
    refine wl_q rfl rfl rfl (qt_p tbok rfl) ?_
    first | refine wl_q rfl rfl rfl (qt_sl tbok rfl rfl rfl rfl) ?_ | refine wl_q rfl rfl rfl (qt_sa tbok rfl rfl rfl rfl) ?_
    refine wl_as (v' := .c (.slc (pa.adv 0 pc 32) (pw h) pc)) (congrArg (fun z => V.c (C.slc (pa.adv 0 pc 32) z pc)) (by omega)) ?_
    refine wl_ef rfl (ef_pure (v := .agg (bc (rootT h (L.take (pw h))))) (by kernel_rfl) rfl rfl (fun w1 h1 => ih (hA.take _) ht (by omega) (by omega) (cells_cut hA (cells_rd (rd_cells hc (off_new (newKey ho) off_nil)) h1) (by omega) hcap).1) ?_)
    refine wl_ef rfl (ef_alloc zero22 rfl rfl (fun o2 ho2 => ?_))
    refine wl_ef rfl (ef_store (cs' := bc (rootT h (L.take (pw h)))) tbok rfl rfl rfl rfl .here htb (Nat.le_of_ble_eq_true rfl) (spl_all htb) ?_)
    refine wl_done ?_
    refine nk_code ?_
    refine wc_seq ?_
    refine wc_region ?_
    refine wl_q rfl rfl rfl (qt_p tbok rfl) ?_
    refine wl_q rfl rfl rfl (qt_p tbok rfl) ?_
    first | refine wl_q rfl rfl rfl (qt_sl tbok rfl rfl rfl rfl) ?_ | refine wl_q rfl rfl rfl (qt_sa tbok rfl rfl rfl rfl) ?_
    refine wl_as (v' := .c (.slc (pa.adv (pw h) pc 32) (pw h) (pc - pw h))) (by rw [Int.toNat_natCast, show (pw (h + 1) : Int).toNat - pw h = pw h by omega]) ?_
    refine wl_ef rfl (ef_pure (v := .agg (bc (rootT h (L.drop (pw h))))) (by kernel_rfl) rfl rfl (fun w1 h1 => ih (hA.drop _) hd (by omega) (by omega) (cells_cut hA (cells_rd (rd_cells hc (off_new (newKey ho2) (off_new (newKey ho) off_nil))) h1) (by omega) hcap).2) ?_)
    refine wl_ef rfl (ef_alloc zero22 rfl rfl (fun o3 ho3 => ?_))
    refine wl_ef rfl (ef_store (cs' := bc (rootT h (L.drop (pw h)))) tbok rfl rfl rfl rfl .here hdb (Nat.le_of_ble_eq_true rfl) (spl_all hdb) ?_)
    refine wl_done ?_
    refine nk_code ?_
    refine wc_seq ?_
    refine wc_region ?_
    refine wl_q rfl rfl rfl (qt_load_ag (l := bc (rootT h (L.take (pw h)))) tbok rfl rfl rfl htb (rs_lk (.there .here) at0)) ?_
    refine wl_q rfl rfl rfl (qt_load_ag (l := bc (rootT h (L.drop (pw h)))) tbok rfl rfl rfl hdb (rs_lk .here at0)) ?_
    refine wl_ef rfl (ef_pure (v := .agg (bc (rootT (h + 1) L))) (by kernel_rfl) rfl rfl (fun w1 _ => node2_c ht1 hd1) ?_)
    refine wl_ef rfl (ef_store (cs' := bc (rootT (h + 1) L)) tbok rfl rfl rfl rfl (.there (.there .here)) rfl (Nat.le_of_ble_eq_true rfl) (spl_all rfl) ?_)
    refine wl_done ?_
    refine nk_code ?_
    refine wc_ret ?_
    try dsimp only
    exact fin1 rfl (rv_ag (l := bc (rootT (h + 1) L)) tbok rfl rfl rfl rfl (rs_lk (.there (.there .here)) at0)) (fun w' hw => ⟨rfl, hw.all (new_cons (newKey ho3) (new_cons (newKey ho2) (new_cons (newKey ho) new_nil)))⟩)
end Go.Proofs.Ytjhmcmadleabjaa

set_option maxRecDepth 100000
namespace Go.Proofs.Ytjhmcmadleabjaa
open Go Go.Hw Go.Proofs

/-- Slices of sums of 32 bytes. -/
abbrev dob (T : Nat) (P : List (List UInt8)) (x : Os) : Blk := ⟨x.1, bc P.flatten, T, (0, 0), x.2.2⟩
abbrev Doi (P : List (List UInt8)) (x : Os) : Prop := OwnS x.1 P.length x.2.1 32 (bc P.flatten) x.2.2
theorem doi_nil : Doi [] (.nil, 0, []) := ⟨rfl, rfl, rfl, rfl⟩
theorem el30 : elOk Try.prog 30 32 32 (.agg (bc (List.replicate 32 0))) = true := by kernel_rfl
theorem el22 : elOk Try.prog 22 32 32 (.agg (bc (List.replicate 32 0))) = true := by kernel_rfl
theorem fill_one {z l : List C} (hz : z.length = 32) (hl : l.length = 32) : fillS (placeA 32) ((List.replicate 1 z).flatten) [(0, .agg l)] = some l := by
  have h1 : Nat.beq l.length 32 = true := by rw [hl]; rfl
  have h2 : Nat.ble (0 * 32 + 32) z.length = true := by rw [hz]; rfl
  have h3 : (List.replicate 1 z).flatten = z := by simp
  rw [h3]
  simp only [fillS, placeA, V.flat, V.cs, h1, h2, Bool.and_self]
  simp [spl, hz, hl]
theorem flat_snoc (P : List (List UInt8)) (x : List UInt8) : bc P.flatten ++ bc x = bc (P ++ [x]).flatten := by simp [bc]
theorem doi_app {P : List (List UInt8)} {x : List UInt8} {ad : Ad} {n cap : Nat} {tl : List Value} (h : OwnS ad (n + 1) cap 32 (bc P.flatten ++ bc x) tl) (hn : P.length = n) : Doi (P ++ [x]) (ad, cap, tl) := by
  subst hn
  rw [flat_snoc] at h
  show OwnS ad (P ++ [x]).length cap 32 _ tl
  rw [List.length_append]; exact h

theorem path113_c : ∀ (h : Nat) {w : World} {L : List (List UInt8)} {k : Nat} {pa : Ad} {pc : Nat}, A32 L → L.length = pw h → k < pw h → h ≤ 8 → L.length ≤ pc → Cells w pa (bc L.flatten) →
    CallsV Try.prog 113 [.c (.slc pa (pw h) pc), .c (.i64 (k : Int))] w fun en w' => ∃ x : Os, en = .returned (V.c (.slc x.1 h x.2.1)).den ∧ OwnS x.1 h x.2.1 32 (bc (pathT h k L).flatten) x.2.2 ∧ (∀ k', (dob 30 (pathT h k L) x).key = some k' → w.heap.size ≤ k') ∧ St w [dob 30 (pathT h k L) x] w' := by
  intro h
  induction h
  case zero =>
    intro w L k pa pc hA hl hk hh hcap hc
    refine calls_in (tb := tb) (fn := Try.f113) Try.func113 rfl rfl rfl [(0, .c (.slc pa (pw 0) pc)), (1, .c (.i64 (k : Int)))] rfl [] (St.refl _) ?_
    refine wc_seq ?_
    refine wc_region ?_
    refine wl_q rfl rfl rfl (qt_p tbok rfl) ?_
    refine wl_done ?_
    refine nk_code ?_
    refine wc_seq ?_
    refine wc_seq ?_
    refine wc_region ?_
    refine wl_q rfl rfl rfl (qt_p tbok rfl) ?_
    refine wl_q rfl rfl rfl (qt_len tbok rfl rfl) ?_
    first | refine wl_q rfl rfl rfl (qt_p tbok rfl) ?_ | refine wl_q rfl rfl rfl (qt_eqn tbok rfl rfl rfl) ?_
    refine wl_done ?_
    refine nk_code ?_
    refine wc_yes rfl ?_
    refine wc_seq ?_
    refine wc_region ?_
    refine wl_q rfl rfl rfl (qt_p tbok rfl) ?_
    refine wl_done ?_
    refine nk_code ?_
    refine wc_ret ?_
    try dsimp only
    exact fin1 rfl (rv_tmp rfl) (fun w' hw => ⟨(.nil, 0, []), rfl, ⟨rfl, rfl, rfl, rfl⟩, nil_new, st_none hw⟩)
  case succ h ih =>
    intro w L k pa pc hA hl hk hh hcap hc
    have hpw : pw (h + 1) = 2 * pw h := rfl
    have hpos := pw_pos h
    have hp60 := pw_60 (a := h) (by omega)
    have hfl := flat_len hA
    have ht : (L.take (pw h)).length = pw h := by simp; omega
    have hd : (L.drop (pw h)).length = pw h := by simp; omega
    have htb : (bc (rootT h (L.take (pw h)))).length = 32 := by rw [bc_len, rootT_len h (hA.take (pw h)) ht]
    have hdb : (bc (rootT h (L.drop (pw h)))).length = 32 := by rw [bc_len, rootT_len h (hA.drop (pw h)) hd]
    refine calls_in (tb := tb) (fn := Try.f113) Try.func113 rfl rfl rfl [(0, .c (.slc pa (pw (h + 1)) pc)), (1, .c (.i64 (k : Int)))] rfl [] (St.refl _) ?_
    refine wc_seq ?_
    refine wc_region ?_
    refine wl_q rfl rfl rfl (qt_p tbok rfl) ?_
    refine wl_done ?_
    refine nk_code ?_
    refine wc_seq ?_
    refine wc_seq ?_
    refine wc_region ?_
    refine wl_q rfl rfl rfl (qt_p tbok rfl) ?_
    refine wl_q rfl rfl rfl (qt_len tbok rfl rfl) ?_
    first | refine wl_q rfl rfl rfl (qt_p tbok rfl) ?_ | refine wl_q rfl rfl rfl (qt_eqn tbok rfl rfl rfl) ?_
    refine wl_as (v' := .c (.bool false)) (congrArg (fun b => V.c (C.bool b)) (decide_eq_false (by omega))) ?_
    refine wl_done ?_
    refine nk_code ?_
    refine wc_no rfl ?_
    refine wc_skip ?_
    refine nk_code ?_
    refine wc_seq ?_
    refine wc_region ?_
    refine wl_q rfl rfl rfl (qt_p tbok rfl) ?_
    refine wl_q rfl rfl rfl (qt_len tbok rfl rfl) ?_
    refine wl_ef rfl (ef_pure (v := .c (.i64 (pw h : Int))) (by kernel_rfl) rfl rfl (fun w1 _ => split_c (by omega) (by omega) (by omega)) ?_)
    refine wl_q rfl rfl rfl (qt_p tbok rfl) ?_
    refine wl_done ?_
    refine nk_code ?_
    refine wc_seq ?_
    refine wc_seq ?_
    refine wc_region ?_
    refine wl_q rfl rfl rfl (qt_p tbok rfl) ?_
    refine wl_q rfl rfl rfl (qt_p tbok rfl) ?_
    refine wl_q rfl rfl rfl (qt_p tbok rfl) ?_
    refine wl_done ?_
    refine nk_code ?_
    refine wc_cond rfl (fun h14 => ?_) (fun h14 => ?_)
    · have hkh : k < pw h := (by have h0 := of_decide_eq_true h14; omega)
      have hP : pathT (h + 1) k L = pathT h k (L.take (pw h)) ++ [rootT h (L.drop (pw h))] := (by show (if k < pw h then _ else _) = _; rw [if_pos hkh])
      rw [hP]
      refine wc_seq ?_
      refine wc_draw (s0 := []) 12 follows ?_
      refine wh_q 0 rfl (by kernel_rfl) rfl rfl rfl (qt_p tbok rfl) (fun w hw => hw) ?_
      refine wh_q 1 rfl (by kernel_rfl) rfl rfl rfl (qt_p tbok rfl) (fun w hw => hw) ?_
      first | refine wh_q 2 rfl (by kernel_rfl) rfl rfl rfl (qt_sl tbok rfl rfl rfl rfl) (fun w hw => hw) ?_ | refine wh_q 2 rfl (by kernel_rfl) rfl rfl rfl (qt_sa tbok rfl rfl rfl rfl) (fun w hw => hw) ?_
      refine wh_as (v' := .c (.slc (pa.adv 0 pc 32) (pw h) pc)) (congrArg (fun z => V.c (C.slc (pa.adv 0 pc 32) z pc)) (by omega)) ?_
      refine wh_q 3 rfl (by kernel_rfl) rfl rfl rfl (qt_p tbok rfl) (fun w hw => hw) ?_
      refine wh_q 5 rfl (by kernel_rfl) rfl rfl rfl (qt_p tbok rfl) (fun w hw => hw) ?_
      refine wh_q 6 rfl (by kernel_rfl) rfl rfl rfl (qt_p tbok rfl) (fun w hw => hw) ?_
      first | refine wh_q 7 rfl (by kernel_rfl) rfl rfl rfl (qt_sl tbok rfl rfl rfl rfl) (fun w hw => hw) ?_ | refine wh_q 7 rfl (by kernel_rfl) rfl rfl rfl (qt_sa tbok rfl rfl rfl rfl) (fun w hw => hw) ?_
      refine wh_as (v' := .c (.slc (pa.adv (pw h) pc 32) (pw h) (pc - pw h))) (by rw [Int.toNat_natCast, show (pw (h + 1) : Int).toNat - pw h = pw h by omega]) ?_
      refine wh_one 4 (by kernel_rfl) (wo_ef rfl rfl (ef_fresh (by kernel_rfl) rfl rfl (fun w1 h1 => ih (k := k) (hA.take _) ht (by omega) (by omega) (by omega) (cells_cut hA (cells_rd (rd_cells hc off_nil) h1) (by omega) hcap).1) (fun x hx hk => ⟨fun w hw => hw.all (new_cons hk new_nil), ?_⟩)))
      refine wh_one 8 (by kernel_rfl) (wo_ef rfl rfl (ef_pure (v := .agg (bc (rootT h (L.drop (pw h))))) (by kernel_rfl) rfl rfl (fun w1 h1 => root74_c h (hA.drop _) hd (by omega) (by omega) (cells_cut hA (cells_rd (rd_cells hc (off_new hk off_nil)) h1) (by omega) hcap).2) ⟨fun w hw => hw.all (new_cons hk new_nil), ?_⟩))
      refine wh_one 9 (by kernel_rfl) (wo_ef rfl rfl (ef_buildSlice (vs := [(0, .agg (bc (rootT h (L.drop (pw h)))))]) (l := bc (rootT h (L.drop (pw h)))) tbok rfl zero30 rfl rfl rfl (by decide) (fill_one rfl hdb) rfl (fun br hb2 => ⟨fun w hw => hw.all (new_cons (newKey hb2) (new_cons hk new_nil)), ?_⟩)))
      refine wh_one 10 (by kernel_rfl) (wo_ef rfl rfl (ef_append tbok rfl el30 zero30 rfl rfl rfl (.there .here) hx hk (m := 1) (news := bc (rootT h (L.drop (pw h)))) hdb (rs_lk .here at0) (by omega) (by simp only [maxLen]; omega) (fun a2 c2 t2 hown2 hk2 hnn _ => ⟨fun w hw => hw.all (new_cons hk2 (new_cons (newKey hb2) new_nil)), ?_⟩)))
      refine wh_q 11 rfl (by kernel_rfl) rfl rfl rfl (qt_p tbok rfl) (fun w hw => hw.all (new_cons hk2 (new_cons (newKey hb2) new_nil))) ?_
      refine wh_done (by kernel_rfl) ?_
      refine nk_code ?_
      refine wc_ret ?_
      try dsimp only
      exact fin1 rfl (rv_tmp rfl) (fun w' hw => ⟨(a2, c2, t2), rfl, by rw [← flat_snoc]; exact hown2, hk2, by have h2 := Rm.sub_St hw (.there .here) (newKey hb2); rw [flat_snoc] at h2; exact h2⟩)
    · have hkh : ¬ k < pw h := (by have h0 := of_decide_eq_false h14; omega)
      have hP : pathT (h + 1) k L = pathT h (k - pw h) (L.drop (pw h)) ++ [rootT h (L.take (pw h))] := (by show (if k < pw h then _ else _) = _; rw [if_neg hkh])
      rw [hP]
      refine wc_skip ?_
      refine nk_code ?_
      refine wc_seq ?_
      refine wc_draw (s0 := []) 14 follows ?_
      refine wh_q 0 rfl (by kernel_rfl) rfl rfl rfl (qt_p tbok rfl) (fun w hw => hw) ?_
      refine wh_q 1 rfl (by kernel_rfl) rfl rfl rfl (qt_p tbok rfl) (fun w hw => hw) ?_
      first | refine wh_q 2 rfl (by kernel_rfl) rfl rfl rfl (qt_sl tbok rfl rfl rfl rfl) (fun w hw => hw) ?_ | refine wh_q 2 rfl (by kernel_rfl) rfl rfl rfl (qt_sa tbok rfl rfl rfl rfl) (fun w hw => hw) ?_
      refine wh_as (v' := .c (.slc (pa.adv (pw h) pc 32) (pw h) (pc - pw h))) (by rw [Int.toNat_natCast, show (pw (h + 1) : Int).toNat - pw h = pw h by omega]) ?_
      refine wh_q 3 rfl (by kernel_rfl) rfl rfl rfl (qt_p tbok rfl) (fun w hw => hw) ?_
      refine wh_q 4 rfl (by kernel_rfl) rfl rfl rfl (qt_p tbok rfl) (fun w hw => hw) ?_
      refine wh_q 5 rfl (by kernel_rfl) rfl rfl rfl (qt_p tbok rfl) (fun w hw => hw) ?_
      refine wh_as (v' := .c (.i64 ((k - pw h : Nat) : Int))) (congrArg (fun z => V.c (C.i64 z)) (by omega)) ?_
      refine wh_q 7 rfl (by kernel_rfl) rfl rfl rfl (qt_p tbok rfl) (fun w hw => hw) ?_
      refine wh_q 8 rfl (by kernel_rfl) rfl rfl rfl (qt_p tbok rfl) (fun w hw => hw) ?_
      first | refine wh_q 9 rfl (by kernel_rfl) rfl rfl rfl (qt_sl tbok rfl rfl rfl rfl) (fun w hw => hw) ?_ | refine wh_q 9 rfl (by kernel_rfl) rfl rfl rfl (qt_sa tbok rfl rfl rfl rfl) (fun w hw => hw) ?_
      refine wh_as (v' := .c (.slc (pa.adv 0 pc 32) (pw h) pc)) (congrArg (fun z => V.c (C.slc (pa.adv 0 pc 32) z pc)) (by omega)) ?_
      refine wh_one 6 (by kernel_rfl) (wo_ef rfl rfl (ef_fresh (by kernel_rfl) rfl rfl (fun w1 h1 => ih (k := k - pw h) (hA.drop _) hd (by omega) (by omega) (by omega) (cells_cut hA (cells_rd (rd_cells hc off_nil) h1) (by omega) hcap).2) (fun x hx hk => ⟨fun w hw => hw.all (new_cons hk new_nil), ?_⟩)))
      refine wh_one 10 (by kernel_rfl) (wo_ef rfl rfl (ef_pure (v := .agg (bc (rootT h (L.take (pw h))))) (by kernel_rfl) rfl rfl (fun w1 h1 => root74_c h (hA.take _) ht (by omega) (by omega) (cells_cut hA (cells_rd (rd_cells hc (off_new hk off_nil)) h1) (by omega) hcap).1) ⟨fun w hw => hw.all (new_cons hk new_nil), ?_⟩))
      refine wh_one 11 (by kernel_rfl) (wo_ef rfl rfl (ef_buildSlice (vs := [(0, .agg (bc (rootT h (L.take (pw h)))))]) (l := bc (rootT h (L.take (pw h)))) tbok rfl zero30 rfl rfl rfl (by decide) (fill_one rfl htb) rfl (fun br hb2 => ⟨fun w hw => hw.all (new_cons (newKey hb2) (new_cons hk new_nil)), ?_⟩)))
      refine wh_one 12 (by kernel_rfl) (wo_ef rfl rfl (ef_append tbok rfl el30 zero30 rfl rfl rfl (.there .here) hx hk (m := 1) (news := bc (rootT h (L.take (pw h)))) htb (rs_lk .here at0) (by omega) (by simp only [maxLen]; omega) (fun a2 c2 t2 hown2 hk2 hnn _ => ⟨fun w hw => hw.all (new_cons hk2 (new_cons (newKey hb2) new_nil)), ?_⟩)))
      refine wh_q 13 rfl (by kernel_rfl) rfl rfl rfl (qt_p tbok rfl) (fun w hw => hw.all (new_cons hk2 (new_cons (newKey hb2) new_nil))) ?_
      refine wh_done (by kernel_rfl) ?_
      refine nk_code ?_
      refine wc_ret ?_
      try dsimp only
      exact fin1 rfl (rv_tmp rfl) (fun w' hw => ⟨(a2, c2, t2), rfl, by rw [← flat_snoc]; exact hown2, hk2, by have h2 := Rm.sub_St hw (.there .here) (newKey hb2); rw [flat_snoc] at h2; exact h2⟩)

theorem path79_c : ∀ (h : Nat) {w : World} {L : List (List UInt8)} {k : Nat} {pa : Ad} {pc : Nat}, A32 L → L.length = pw h → k < pw h → h ≤ 60 → L.length ≤ pc → Cells w pa (bc L.flatten) →
    CallsV Try.prog 79 [.c (.slc pa (pw h) pc), .c (.i64 (k : Int))] w fun en w' => ∃ x : Os, en = .returned (V.c (.slc x.1 h x.2.1)).den ∧ OwnS x.1 h x.2.1 32 (bc (pathT h k L).flatten) x.2.2 ∧ (∀ k', (dob 22 (pathT h k L) x).key = some k' → w.heap.size ≤ k') ∧ St w [dob 22 (pathT h k L) x] w' := by
  intro h
  induction h
  case zero =>
    intro w L k pa pc hA hl hk hh hcap hc
    refine calls_in (tb := tb) (fn := Try.f79) Try.func79 rfl rfl rfl [(0, .c (.slc pa (pw 0) pc)), (1, .c (.i64 (k : Int)))] rfl [] (St.refl _) ?_
    refine wc_seq ?_
    refine wc_region ?_
    refine wl_q rfl rfl rfl (qt_p tbok rfl) ?_
    refine wl_done ?_
    refine nk_code ?_
    refine wc_seq ?_
    refine wc_seq ?_
    refine wc_region ?_
    refine wl_q rfl rfl rfl (qt_p tbok rfl) ?_
    refine wl_q rfl rfl rfl (qt_len tbok rfl rfl) ?_
    refine wl_q rfl rfl rfl (qt_p tbok rfl) ?_
    refine wl_done ?_
    refine nk_code ?_
    refine wc_yes rfl ?_
    refine wc_seq ?_
    refine wc_region ?_
    refine wl_q rfl rfl rfl (qt_p tbok rfl) ?_
    refine wl_done ?_
    refine nk_code ?_
    refine wc_ret ?_
    try dsimp only
    exact fin1 rfl (rv_tmp rfl) (fun w' hw => ⟨(.nil, 0, []), rfl, ⟨rfl, rfl, rfl, rfl⟩, nil_new, st_none hw⟩)
  case succ h ih =>
    intro w L k pa pc hA hl hk hh hcap hc
    have hpw : pw (h + 1) = 2 * pw h := rfl
    have hpos := pw_pos h
    have hp60 := pw_60 (a := h) (by omega)
    have hfl := flat_len hA
    have ht : (L.take (pw h)).length = pw h := by simp; omega
    have hd : (L.drop (pw h)).length = pw h := by simp; omega
    have htb : (bc (rootT h (L.take (pw h)))).length = 32 := by rw [bc_len, rootT_len h (hA.take (pw h)) ht]
    have hdb : (bc (rootT h (L.drop (pw h)))).length = 32 := by rw [bc_len, rootT_len h (hA.drop (pw h)) hd]
    refine calls_in (tb := tb) (fn := Try.f79) Try.func79 rfl rfl rfl [(0, .c (.slc pa (pw (h + 1)) pc)), (1, .c (.i64 (k : Int)))] rfl [] (St.refl _) ?_
    refine wc_seq ?_
    refine wc_region ?_
    refine wl_q rfl rfl rfl (qt_p tbok rfl) ?_
    refine wl_done ?_
    refine nk_code ?_
    refine wc_seq ?_
    refine wc_seq ?_
    refine wc_region ?_
    refine wl_q rfl rfl rfl (qt_p tbok rfl) ?_
    refine wl_q rfl rfl rfl (qt_len tbok rfl rfl) ?_
    refine wl_q rfl rfl rfl (qt_p tbok rfl) ?_
    refine wl_as (v' := .c (.bool false)) (congrArg (fun b => V.c (C.bool b)) (decide_eq_false (by omega))) ?_
    refine wl_done ?_
    refine nk_code ?_
    refine wc_no rfl ?_
    refine wc_skip ?_
    refine nk_code ?_
    refine wc_seq ?_
    refine wc_region ?_
    refine wl_q rfl rfl rfl (qt_p tbok rfl) ?_
    refine wl_q rfl rfl rfl (qt_len tbok rfl rfl) ?_
    refine wl_ef rfl (ef_pure (v := .c (.i64 (pw h : Int))) (by kernel_rfl) rfl rfl (fun w1 _ => half_c (by omega) (by omega) (by omega)) ?_)
    refine wl_q rfl rfl rfl (qt_p tbok rfl) ?_
    refine wl_done ?_
    refine nk_code ?_
    refine wc_seq ?_
    refine wc_seq ?_
    refine wc_region ?_
    refine wl_q rfl rfl rfl (qt_p tbok rfl) ?_
    refine wl_q rfl rfl rfl (qt_p tbok rfl) ?_
    refine wl_q rfl rfl rfl (qt_p tbok rfl) ?_
    refine wl_done ?_
    refine nk_code ?_
    refine wc_cond rfl (fun h14 => ?_) (fun h14 => ?_)
    · have hkh : k < pw h := (by have h0 := of_decide_eq_true h14; omega)
      have hP : pathT (h + 1) k L = pathT h k (L.take (pw h)) ++ [rootT h (L.drop (pw h))] := (by show (if k < pw h then _ else _) = _; rw [if_pos hkh])
      rw [hP]
      refine wc_seq ?_
      refine wc_draw (s0 := []) 12 follows ?_
      refine wh_q 0 rfl (by kernel_rfl) rfl rfl rfl (qt_p tbok rfl) (fun w hw => hw) ?_
      refine wh_q 1 rfl (by kernel_rfl) rfl rfl rfl (qt_p tbok rfl) (fun w hw => hw) ?_
      first | refine wh_q 2 rfl (by kernel_rfl) rfl rfl rfl (qt_sl tbok rfl rfl rfl rfl) (fun w hw => hw) ?_ | refine wh_q 2 rfl (by kernel_rfl) rfl rfl rfl (qt_sa tbok rfl rfl rfl rfl) (fun w hw => hw) ?_
      refine wh_as (v' := .c (.slc (pa.adv 0 pc 32) (pw h) pc)) (congrArg (fun z => V.c (C.slc (pa.adv 0 pc 32) z pc)) (by omega)) ?_
      refine wh_q 3 rfl (by kernel_rfl) rfl rfl rfl (qt_p tbok rfl) (fun w hw => hw) ?_
      refine wh_q 5 rfl (by kernel_rfl) rfl rfl rfl (qt_p tbok rfl) (fun w hw => hw) ?_
      refine wh_q 6 rfl (by kernel_rfl) rfl rfl rfl (qt_p tbok rfl) (fun w hw => hw) ?_
      first | refine wh_q 7 rfl (by kernel_rfl) rfl rfl rfl (qt_sl tbok rfl rfl rfl rfl) (fun w hw => hw) ?_ | refine wh_q 7 rfl (by kernel_rfl) rfl rfl rfl (qt_sa tbok rfl rfl rfl rfl) (fun w hw => hw) ?_
      refine wh_as (v' := .c (.slc (pa.adv (pw h) pc 32) (pw h) (pc - pw h))) (by rw [Int.toNat_natCast, show (pw (h + 1) : Int).toNat - pw h = pw h by omega]) ?_
      refine wh_one 4 (by kernel_rfl) (wo_ef rfl rfl (ef_fresh (by kernel_rfl) rfl rfl (fun w1 h1 => ih (k := k) (hA.take _) ht (by omega) (by omega) (by omega) (cells_cut hA (cells_rd (rd_cells hc off_nil) h1) (by omega) hcap).1) (fun x hx hk => ⟨fun w hw => hw.all (new_cons hk new_nil), ?_⟩)))
      refine wh_one 8 (by kernel_rfl) (wo_ef rfl rfl (ef_pure (v := .agg (bc (rootT h (L.drop (pw h))))) (by kernel_rfl) rfl rfl (fun w1 h1 => root118_c h (hA.drop _) hd (by omega) (by omega) (cells_cut hA (cells_rd (rd_cells hc (off_new hk off_nil)) h1) (by omega) hcap).2) ⟨fun w hw => hw.all (new_cons hk new_nil), ?_⟩))
      refine wh_one 9 (by kernel_rfl) (wo_ef rfl rfl (ef_buildSlice (vs := [(0, .agg (bc (rootT h (L.drop (pw h)))))]) (l := bc (rootT h (L.drop (pw h)))) tbok rfl zero22 rfl rfl rfl (by decide) (fill_one rfl hdb) rfl (fun br hb2 => ⟨fun w hw => hw.all (new_cons (newKey hb2) (new_cons hk new_nil)), ?_⟩)))
      refine wh_one 10 (by kernel_rfl) (wo_ef rfl rfl (ef_append tbok rfl el22 zero22 rfl rfl rfl (.there .here) hx hk (m := 1) (news := bc (rootT h (L.drop (pw h)))) hdb (rs_lk .here at0) (by omega) (by simp only [maxLen]; omega) (fun a2 c2 t2 hown2 hk2 hnn _ => ⟨fun w hw => hw.all (new_cons hk2 (new_cons (newKey hb2) new_nil)), ?_⟩)))
      refine wh_q 11 rfl (by kernel_rfl) rfl rfl rfl (qt_p tbok rfl) (fun w hw => hw.all (new_cons hk2 (new_cons (newKey hb2) new_nil))) ?_
      refine wh_done (by kernel_rfl) ?_
      refine nk_code ?_
      refine wc_ret ?_
      try dsimp only
      exact fin1 rfl (rv_tmp rfl) (fun w' hw => ⟨(a2, c2, t2), rfl, by rw [← flat_snoc]; exact hown2, hk2, by have h2 := Rm.sub_St hw (.there .here) (newKey hb2); rw [flat_snoc] at h2; exact h2⟩)
    · have hkh : ¬ k < pw h := (by have h0 := of_decide_eq_false h14; omega)
      have hP : pathT (h + 1) k L = pathT h (k - pw h) (L.drop (pw h)) ++ [rootT h (L.take (pw h))] := (by show (if k < pw h then _ else _) = _; rw [if_neg hkh])
      rw [hP]
      refine wc_skip ?_
      refine nk_code ?_
      refine wc_seq ?_
      refine wc_draw (s0 := []) 14 follows ?_
      refine wh_q 0 rfl (by kernel_rfl) rfl rfl rfl (qt_p tbok rfl) (fun w hw => hw) ?_
      refine wh_q 1 rfl (by kernel_rfl) rfl rfl rfl (qt_p tbok rfl) (fun w hw => hw) ?_
      first | refine wh_q 2 rfl (by kernel_rfl) rfl rfl rfl (qt_sl tbok rfl rfl rfl rfl) (fun w hw => hw) ?_ | refine wh_q 2 rfl (by kernel_rfl) rfl rfl rfl (qt_sa tbok rfl rfl rfl rfl) (fun w hw => hw) ?_
      refine wh_as (v' := .c (.slc (pa.adv (pw h) pc 32) (pw h) (pc - pw h))) (by rw [Int.toNat_natCast, show (pw (h + 1) : Int).toNat - pw h = pw h by omega]) ?_
      refine wh_q 3 rfl (by kernel_rfl) rfl rfl rfl (qt_p tbok rfl) (fun w hw => hw) ?_
      refine wh_q 4 rfl (by kernel_rfl) rfl rfl rfl (qt_p tbok rfl) (fun w hw => hw) ?_
      refine wh_q 5 rfl (by kernel_rfl) rfl rfl rfl (qt_p tbok rfl) (fun w hw => hw) ?_
      refine wh_as (v' := .c (.i64 ((k - pw h : Nat) : Int))) (congrArg (fun z => V.c (C.i64 z)) (by omega)) ?_
      refine wh_q 7 rfl (by kernel_rfl) rfl rfl rfl (qt_p tbok rfl) (fun w hw => hw) ?_
      refine wh_q 8 rfl (by kernel_rfl) rfl rfl rfl (qt_p tbok rfl) (fun w hw => hw) ?_
      first | refine wh_q 9 rfl (by kernel_rfl) rfl rfl rfl (qt_sl tbok rfl rfl rfl rfl) (fun w hw => hw) ?_ | refine wh_q 9 rfl (by kernel_rfl) rfl rfl rfl (qt_sa tbok rfl rfl rfl rfl) (fun w hw => hw) ?_
      refine wh_as (v' := .c (.slc (pa.adv 0 pc 32) (pw h) pc)) (congrArg (fun z => V.c (C.slc (pa.adv 0 pc 32) z pc)) (by omega)) ?_
      refine wh_one 6 (by kernel_rfl) (wo_ef rfl rfl (ef_fresh (by kernel_rfl) rfl rfl (fun w1 h1 => ih (k := k - pw h) (hA.drop _) hd (by omega) (by omega) (by omega) (cells_cut hA (cells_rd (rd_cells hc off_nil) h1) (by omega) hcap).2) (fun x hx hk => ⟨fun w hw => hw.all (new_cons hk new_nil), ?_⟩)))
      refine wh_one 10 (by kernel_rfl) (wo_ef rfl rfl (ef_pure (v := .agg (bc (rootT h (L.take (pw h))))) (by kernel_rfl) rfl rfl (fun w1 h1 => root118_c h (hA.take _) ht (by omega) (by omega) (cells_cut hA (cells_rd (rd_cells hc (off_new hk off_nil)) h1) (by omega) hcap).1) ⟨fun w hw => hw.all (new_cons hk new_nil), ?_⟩))
      refine wh_one 11 (by kernel_rfl) (wo_ef rfl rfl (ef_buildSlice (vs := [(0, .agg (bc (rootT h (L.take (pw h)))))]) (l := bc (rootT h (L.take (pw h)))) tbok rfl zero22 rfl rfl rfl (by decide) (fill_one rfl htb) rfl (fun br hb2 => ⟨fun w hw => hw.all (new_cons (newKey hb2) (new_cons hk new_nil)), ?_⟩)))
      refine wh_one 12 (by kernel_rfl) (wo_ef rfl rfl (ef_append tbok rfl el22 zero22 rfl rfl rfl (.there .here) hx hk (m := 1) (news := bc (rootT h (L.take (pw h)))) htb (rs_lk .here at0) (by omega) (by simp only [maxLen]; omega) (fun a2 c2 t2 hown2 hk2 hnn _ => ⟨fun w hw => hw.all (new_cons hk2 (new_cons (newKey hb2) new_nil)), ?_⟩)))
      refine wh_q 13 rfl (by kernel_rfl) rfl rfl rfl (qt_p tbok rfl) (fun w hw => hw.all (new_cons hk2 (new_cons (newKey hb2) new_nil))) ?_
      refine wh_done (by kernel_rfl) ?_
      refine nk_code ?_
      refine wc_ret ?_
      try dsimp only
      exact fin1 rfl (rv_tmp rfl) (fun w' hw => ⟨(a2, c2, t2), rfl, by rw [← flat_snoc]; exact hown2, hk2, by have h2 := Rm.sub_St hw (.there .here) (newKey hb2); rw [flat_snoc] at h2; exact h2⟩)

theorem path76_c {h : Nat} {w : World} {L : List (List UInt8)} {k : Nat} {pa : Ad} {pc : Nat} (hA : A32 L) (hl : L.length = pw h) (hk : k < pw h) (hh : h ≤ 8) (hcap : L.length ≤ pc) (hc : Cells w pa (bc L.flatten)) :
    CallsV Try.prog 76 [.c (.slc pa (pw h) pc), .c (.i64 (k : Int))] w fun en w' => ∃ x : Os, en = .returned (V.t2 (.c (.slc x.1 h x.2.1)) (.c (.i64 0))).den ∧ OwnS x.1 h x.2.1 32 (bc (pathT h k L).flatten) x.2.2 ∧ (∀ k', (dob 30 (pathT h k L) x).key = some k' → w.heap.size ≤ k') ∧ St w [dob 30 (pathT h k L) x] w' := by
  have hp60 := pw_60 (a := h) (by omega)
  refine calls_in (tb := tb) (fn := Try.f76) Try.func76 rfl rfl rfl [(0, .c (.slc pa (pw h) pc)), (1, .c (.i64 (k : Int)))] rfl [] (St.refl _) ?_
  refine wc_seq ?_
  refine wc_region ?_
  refine wl_q rfl rfl rfl (qt_p tbok rfl) ?_
  refine wl_q rfl rfl rfl (qt_p tbok rfl) ?_
  refine wl_done ?_
  refine nk_code ?_
  refine wc_seq ?_
  refine wc_seq ?_
  refine wc_region ?_
  refine wl_q rfl rfl rfl (qt_p tbok rfl) ?_
  refine wl_q rfl rfl rfl (qt_p tbok rfl) ?_
  refine wl_as (v' := .c (.bool false)) (congrArg (fun b => V.c (C.bool b)) (decide_eq_false (by omega))) ?_
  refine wl_q rfl rfl rfl (qt_p tbok rfl) ?_
  first | refine wl_g rfl rfl rfl rfl (qt_p tbok rfl) ?_ | refine wl_skip rfl rfl rfl rfl rfl ?_
  first | refine wl_g rfl rfl rfl rfl (qt_p tbok rfl) ?_ | refine wl_skip rfl rfl rfl rfl rfl ?_
  first | refine wl_g rfl rfl rfl rfl (qt_len tbok rfl rfl) ?_ | refine wl_skip rfl rfl rfl rfl rfl ?_
  first | refine wl_g rfl rfl rfl rfl (qt_p tbok rfl) ?_ | refine wl_skip rfl rfl rfl rfl rfl ?_
  refine wl_as (v' := .c (.bool false)) (congrArg (fun b => V.c (C.bool b)) (decide_eq_false (by omega))) ?_
  refine wl_q rfl rfl rfl (qt_p tbok rfl) ?_
  refine wl_done ?_
  refine nk_code ?_
  refine wc_no rfl ?_
  refine wc_skip ?_
  refine nk_code ?_
  refine wc_seq ?_
  refine wc_region ?_
  refine wl_q rfl rfl rfl (qt_p tbok rfl) ?_
  refine wl_q rfl rfl rfl (qt_p tbok rfl) ?_
  refine wl_ef rfl (ef_fresh (by kernel_rfl) rfl rfl (fun w1 h1 => path113_c h hA hl hk hh hcap (hc.ext h1)) (fun x hx hkx => ?_))
  refine wl_q rfl rfl rfl (qt_p tbok rfl) ?_
  refine wl_q rfl rfl rfl (qt_p tbok rfl) ?_
  refine wl_done ?_
  refine nk_code ?_
  refine wc_ret ?_
  try dsimp only
  exact fin2 rfl (rv_tmp rfl) (rv_tmp rfl) (fun w' hw => ⟨x, rfl, hx, hkx, hw⟩)
end Go.Proofs.Ytjhmcmadleabjaa
