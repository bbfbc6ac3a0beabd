/- hallmarkref02.Sum is the same SHA-256; leaves, nodes, Ids and words of both sides are sums of the same bytes. -/
import Derived.Test.YtjhmcmadleabjaaSum
set_option linter.unusedVariables false
set_option maxRecDepth 100000
namespace Go.Proofs.Ytjhmcmadleabjaa
open Go Go.Hw Go.Proofs

theorem turn_c (x : UInt32) (n : Nat) (h1 : 1 ≤ n) (h2 : n ≤ 31) (w : World) : CallsV Try.prog 131 [.c (.u32 x), .c (.u64 (UInt64.ofNat n))] w fun en w' => en = .returned (V.c (.u32 (rotr x n))).den ∧ St w [] w' := by
  have n0 : (UInt64.ofNat n).toNat = n := by simp; omega
  have n2 : (UInt64.ofNat (Int.toNat 32) - UInt64.ofNat n).toNat = 32 - n := by
    rw [UInt64.toNat_sub, n0]
    have : (UInt64.ofNat (Int.toNat 32)).toNat = 32 := rfl
    rw [this]; omega
  refine calls_in (tb := tb) (fn := Try.f131) Try.func131 rfl rfl rfl [(0, .c (.u32 x)), (1, .c (.u64 (UInt64.ofNat n)))] rfl [] (St.refl _) ?_
  refine wc_seq ?_
  refine wc_region ?_
  refine wl_q rfl rfl rfl (qt_p tbok rfl) ?_
  refine wl_done ?_
  refine nk_code ?_
  refine wc_seq ?_
  refine wc_region ?_
  refine wl_q rfl rfl rfl (qt_p tbok rfl) ?_
  refine wl_q rfl rfl rfl (qt_p tbok rfl) ?_
  refine wl_q rfl rfl rfl (qt_pure tbok rfl ⟨by omega, by rw [n0]; omega⟩) ?_
  refine wl_as (v' := .c (.u32 (x >>> UInt32.ofNat n))) (by rw [n0, Int.toNat_natCast]) ?_
  refine wl_q rfl rfl rfl (qt_p tbok rfl) ?_
  refine wl_q rfl rfl rfl (qt_p tbok rfl) ?_
  refine wl_q rfl rfl rfl (qt_p tbok rfl) ?_
  refine wl_q rfl rfl rfl (qt_pure tbok rfl ⟨by omega, by rw [n2]; omega⟩) ?_
  refine wl_as (v' := .c (.u32 (x <<< UInt32.ofNat (32 - n)))) (by rw [n2, Int.toNat_natCast]) ?_
  refine wl_q rfl rfl rfl (qt_p tbok rfl) ?_
  refine wl_as (v' := .c (.u32 (rotr x n))) (by rw [rotr, UInt32.or_comm]) ?_
  refine wl_q rfl rfl rfl (qt_p tbok rfl) ?_
  refine wl_done ?_
  refine nk_code ?_
  refine wc_ret ?_
  try dsimp only
  exact fin1 rfl (rv_tmp rfl) (fun w' hw => ⟨rfl, hw⟩)

theorem k2_c (w : World) : CallsV Try.prog 130 [] w fun en w' => en = .returned (V.agg (K.map C.u32)).den ∧ St w [] w' := by
  refine calls_in (tb := tb) (fn := Try.f130) Try.func130 rfl rfl rfl [] rfl [] (St.refl _) ?_
  refine wc_seq ?_
  refine wc_region ?_
  refine wl_ef rfl (ef_alloc zero206 rfl rfl (fun r hr => ?_))
  refine wl_done ?_
  refine nk_code ?_
  refine wc_seq ?_
  refine wc_region ?_
  refine wl_q rfl rfl rfl (qt_build_arr (vs := kvs) (l := K.map C.u32) tbok rfl zero206 (by kernel_rfl) kfill) ?_
  refine wl_ef rfl (ef_store (cs' := K.map C.u32) tbok rfl rfl rfl rfl .here kLen z64len kspl ?_)
  refine wl_done ?_
  refine nk_code ?_
  refine wc_ret ?_
  try dsimp only
  exact fin1 rfl (rv_ag (l := K.map C.u32) tbok rfl rfl rfl kLen' (rs_lk .here fun i c h => by rw [Nat.zero_add]; exact h)) (fun w' hw => ⟨rfl, hw.tail (newKey hr)⟩)

theorem begin_c (w : World) : CallsV Try.prog 125 [] w fun en w' => en = .returned (V.agg H0.cs).den ∧ St w [] w' := by
  refine calls_in (tb := tb) (fn := Try.f125) Try.func125 rfl rfl rfl [] rfl [] (St.refl _) ?_
  refine wc_seq ?_
  refine wc_region ?_
  refine wl_ef rfl (ef_alloc zero184 rfl rfl (fun r hr => ?_))
  refine wl_done ?_
  refine nk_code ?_
  refine wc_seq ?_
  refine wc_region ?_
  refine wl_q rfl rfl rfl (qt_build_arr (l := H0.cs) tbok rfl zero184 rfl h0fill) ?_
  refine wl_ef rfl (ef_store (cs' := H0.cs) tbok rfl rfl rfl rfl .here rfl (Nat.le_of_ble_eq_true rfl) rfl ?_)
  refine wl_done ?_
  refine nk_code ?_
  refine wc_ret ?_
  try dsimp only
  exact fin1 rfl (rv_ag (l := H0.cs) tbok rfl rfl rfl rfl (rs_lk .here at0)) (fun w' hw => ⟨rfl, hw.tail (newKey hr)⟩)

theorem nor4 (a b c d : Nat) (hb : b < 256) (hc : c < 256) (hd : d < 256) : ((a <<< 24 ||| b <<< 16) ||| c <<< 8) ||| d = a * 16777216 + b * 65536 + c * 256 + d := by
  have e1 : a <<< 24 ||| b <<< 16 = (a * 256 + b) <<< 16 := by
    rw [← Nat.shiftLeft_add_eq_or_of_lt (by rw [Nat.shiftLeft_eq]; omega)]
    simp only [Nat.shiftLeft_eq]; omega
  have e2 : (a * 256 + b) <<< 16 ||| c <<< 8 = ((a * 256 + b) * 256 + c) <<< 8 := by
    rw [← Nat.shiftLeft_add_eq_or_of_lt (by rw [Nat.shiftLeft_eq]; omega)]
    simp only [Nat.shiftLeft_eq]; omega
  rw [e1, e2, ← Nat.shiftLeft_add_eq_or_of_lt (by omega)]
  simp only [Nat.shiftLeft_eq]; omega
theorem add4 (a b c d : UInt8) : ((a.toUInt32 <<< 24 + b.toUInt32 <<< 16) + c.toUInt32 <<< 8) + d.toUInt32 = ((a.toUInt32 <<< 24 ||| b.toUInt32 <<< 16) ||| c.toUInt32 <<< 8) ||| d.toUInt32 := by
  have ha := a.toNat_lt; have hb := b.toNat_lt; have hc := c.toNat_lt; have hd := d.toNat_lt
  apply UInt32.toNat_inj.1
  have h := nor4 a.toNat b.toNat c.toNat d.toNat (by omega) (by omega) (by omega)
  have s1 : (a.toUInt32 <<< 24).toNat = a.toNat <<< 24 := by
    simp [Nat.shiftLeft_eq]; omega
  have s2 : (b.toUInt32 <<< 16).toNat = b.toNat <<< 16 := by
    simp [Nat.shiftLeft_eq]; omega
  have s3 : (c.toUInt32 <<< 8).toNat = c.toNat <<< 8 := by
    simp [Nat.shiftLeft_eq]; omega
  rw [UInt32.toNat_or, UInt32.toNat_or, UInt32.toNat_or, UInt32.toNat_add, UInt32.toNat_add, UInt32.toNat_add, s1, s2, s3]
  have s4 : d.toUInt32.toNat = d.toNat := by simp
  rw [s4, h]
  simp only [Nat.shiftLeft_eq]
  omega
theorem wv_lo' {p : List UInt8} {i : Nat} (h : i < 16) : wv p i = (((p.getD (4 * i) 0).toUInt32 <<< 24 + (p.getD (4 * i + 1) 0).toUInt32 <<< 16) + (p.getD (4 * i + 2) 0).toUInt32 <<< 8) + (p.getD (4 * i + 3) 0).toUInt32 := by
  rw [wv_lo h, add4]
theorem not32 (x : UInt32) : 4294967295 - x = ~~~x := by
  apply UInt32.toNat_inj.1
  have := x.toNat_lt
  rw [UInt32.toNat_sub, UInt32.toNat_not]
  simp
  omega
def cvs (s : S8) : List (Nat × V) := [(0, .c (.u32 s.a)), (1, .c (.u32 s.b)), (2, .c (.u32 s.c)), (3, .c (.u32 s.d)), (4, .c (.u32 s.e)), (5, .c (.u32 s.f)), (6, .c (.u32 s.g)), (7, .c (.u32 s.h))]
theorem cfill (s : S8) : fillS (placeA 1) (List.replicate 8 (.u32 0)) (cvs s) = some s.cs := by
  obtain ⟨a, b, c, d, e, f, g, h⟩ := s
  kernel_rfl
theorem comp_eq (h : S8) (p : List UInt8) : comp h p = h.add (rnds p 64 h) := by unfold comp; rfl

theorem block2_c {w : World} {pr po plen pcap : Nat} {h : S8} {p : List UInt8} (hp : Cells w (.at pr po) (bc p)) (hpl : p.length = 64) (hple : 64 ≤ plen) :
    CallsV Try.prog 124 [.agg h.cs, .c (.slc (.at pr po) plen pcap)] w fun en w' => en = .returned (V.agg (comp h p).cs).den ∧ St w [] w' := by
  refine calls_in (tb := tb) (fn := Try.f124) Try.func124 rfl rfl rfl [(0, .agg h.cs), (1, .c (.slc (.at pr po) plen pcap))] rfl [] (St.refl _) ?_
  refine wc_seq ?_
  refine wc_region ?_
  refine wl_ef rfl (ef_box rfl rfl rfl (fun hr hhr => ?_))
  refine wl_ef rfl (ef_alloc zero184 rfl rfl (fun o ho => ?_))
  refine wl_done ?_
  refine nk_code ?_
  refine wc_seq ?_
  refine wc_region ?_
  refine wl_ef rfl (ef_pure (v := .agg (K.map C.u32)) (by kernel_rfl) rfl rfl (fun w _ => k2_c w) ?_)
  refine wl_ef rfl (ef_alloc zero206 rfl rfl (fun kr hkr => ?_))
  refine wl_ef rfl (ef_store (cs' := K.map C.u32) tbok rfl rfl rfl rfl .here kLen z64len kspl ?_)
  refine wl_done ?_
  refine nk_code ?_
  refine wc_seq ?_
  refine wc_region ?_
  refine wl_ef rfl (ef_alloc zero206 rfl rfl (fun r hrr => ?_))
  refine wl_done ?_
  refine nk_code ?_
  refine wc_seq ?_
  refine wc_seq ?_
  refine wc_region ?_
  refine wl_q rfl rfl rfl (qt_p tbok rfl) ?_
  refine wl_done ?_
  refine nk_code ?_
  refine wc_block ?_
  refine wc_loop (ι := Nat) (fun i => i ≤ 64) (fun i => [(7, .c (.i64 (i : Int))), (6, .c (.ptr (.at r 0))), (5, .c (.ptr (.at kr 0))), (4, .c (.ptr (.at o 0))), (2, .c (.ptr (.at hr 0))), (1, .c (.slc (.at pr po) plen pcap))]) (fun i => [⟨.at r 0, wl p i, 206, (0, 0), []⟩, ⟨.at kr 0, K.map C.u32, 206, (0, 0), []⟩, ⟨.at o 0, List.replicate 8 (.u32 0), 184, (0, 0), []⟩, ⟨.at hr 0, h.cs, 184, (0, 0), []⟩]) (fun i => 64 - i) 0 (by omega) (nk_start ⟨rfl, rfl, rfl, rfl, rfl, rfl, trivial⟩ (fun w hw => wl_zero p ▸ hw)) (fun i hi => ?_)
  refine wc_seq ?_
  refine wc_seq ?_
  refine wc_region ?_
  refine wl_q rfl rfl rfl (qt_p tbok rfl) ?_
  refine wl_q rfl rfl rfl (qt_p tbok rfl) ?_
  refine wl_done ?_
  refine nk_code ?_
  refine wc_cond rfl (fun h23 => ?_) (fun h23 => ?_)
  · have hi' : i < 64 := (by have h0 := of_decide_eq_true h23; omega)
    refine wc_skip ?_
    refine nk_code ?_
    refine wc_seq ?_
    refine wc_block ?_
    refine wc_seq ?_
    refine wc_region ?_
    refine wl_q rfl rfl rfl (qt_p tbok rfl) ?_
    refine wl_q rfl rfl rfl (qt_p tbok rfl) ?_
    refine wl_done ?_
    refine nk_code ?_
    refine wc_cond rfl (fun h27 => ?_) (fun h27 => ?_)
    · have hi2 : i < 16 := (by have h0 := of_decide_eq_true h27; omega)
      refine wc_tail 35 follows (by kernel_rfl) ?_
      refine wq_q rfl rfl rfl (qt_p tbok rfl) ?_
      refine wq_q rfl rfl rfl (qt_p tbok rfl) ?_
      refine wq_q rfl rfl rfl (qt_p tbok rfl) ?_
      refine wq_q rfl rfl rfl (qt_p tbok rfl) ?_
      refine wq_q rfl rfl rfl (qt_p tbok rfl) ?_
      refine wq_q rfl rfl rfl (qt_load tbok rfl rfl rfl (RS.rc (rs_cells hp (off_new (newKey hrr) (off_new (newKey hkr) (off_new (newKey ho) (off_new (newKey hhr) off_nil))))) (bc_getD (i := 4 * i) (by omega)) (by omega))) ?_
      refine wq_q rfl rfl rfl (qt_p tbok rfl) ?_
      refine wq_q rfl rfl rfl (qt_p tbok rfl) ?_
      refine wq_q rfl rfl rfl (qt_p tbok rfl) ?_
      refine wq_q rfl rfl rfl (qt_p tbok rfl) ?_
      refine wq_q rfl rfl rfl (qt_p tbok rfl) ?_
      refine wq_q rfl rfl rfl (qt_p tbok rfl) ?_
      refine wq_q rfl rfl rfl (qt_p tbok rfl) ?_
      refine wq_q rfl rfl rfl (qt_load tbok rfl rfl rfl (RS.rc (rs_cells hp (off_new (newKey hrr) (off_new (newKey hkr) (off_new (newKey ho) (off_new (newKey hhr) off_nil))))) (bc_getD (i := 4 * i + 1) (by omega)) (by omega))) ?_
      refine wq_q rfl rfl rfl (qt_p tbok rfl) ?_
      refine wq_q rfl rfl rfl (qt_p tbok rfl) ?_
      refine wq_q rfl rfl rfl (qt_p tbok rfl) ?_
      refine wq_q rfl rfl rfl (qt_p tbok rfl) ?_
      refine wq_q rfl rfl rfl (qt_p tbok rfl) ?_
      refine wq_q rfl rfl rfl (qt_p tbok rfl) ?_
      refine wq_q rfl rfl rfl (qt_p tbok rfl) ?_
      refine wq_q rfl rfl rfl (qt_p tbok rfl) ?_
      refine wq_q rfl rfl rfl (qt_load tbok rfl rfl rfl (RS.rc (rs_cells hp (off_new (newKey hrr) (off_new (newKey hkr) (off_new (newKey ho) (off_new (newKey hhr) off_nil))))) (bc_getD (i := 4 * i + 2) (by omega)) (by omega))) ?_
      refine wq_q rfl rfl rfl (qt_p tbok rfl) ?_
      refine wq_q rfl rfl rfl (qt_p tbok rfl) ?_
      refine wq_q rfl rfl rfl (qt_p tbok rfl) ?_
      refine wq_q rfl rfl rfl (qt_p tbok rfl) ?_
      refine wq_q rfl rfl rfl (qt_p tbok rfl) ?_
      refine wq_q rfl rfl rfl (qt_p tbok rfl) ?_
      refine wq_q rfl rfl rfl (qt_p tbok rfl) ?_
      refine wq_q rfl rfl rfl (qt_p tbok rfl) ?_
      refine wq_q rfl rfl rfl (qt_load tbok rfl rfl rfl (RS.rc (rs_cells hp (off_new (newKey hrr) (off_new (newKey hkr) (off_new (newKey ho) (off_new (newKey hhr) off_nil))))) (bc_getD (i := 4 * i + 3) (by omega)) (by omega))) ?_
      refine wq_q rfl rfl rfl (qt_p tbok rfl) ?_
      refine wq_q rfl rfl rfl (qt_p tbok rfl) ?_
      refine wq_q rfl rfl rfl (qt_p tbok rfl) ?_
      refine wq_done ?_
      refine wl_ef rfl (ef_store (cs' := wl p (i + 1)) tbok rfl rfl rfl rfl .here rfl (by rw [wl_len]; omega) (by rw [show 0 + (i : Int).toNat * 1 = i by omega]; exact wl_set (by omega) (wv_lo' hi2).symm) ?_)
      refine wl_done ?_
      refine nk_code ?_
      refine wc_region ?_
      refine wl_q rfl rfl rfl (qt_p tbok rfl) ?_
      refine wl_q rfl rfl rfl (qt_p tbok rfl) ?_
      refine wl_q rfl rfl rfl (qt_p tbok rfl) ?_
      refine wl_done ?_
      exact nk_round (i + 1) (by omega) (by omega) ⟨rfl, rfl, rfl, rfl, rfl, rfl, trivial⟩ (fun _ h => h)
    · have hi2 : 16 ≤ i := (by have h0 := of_decide_eq_false h27; omega)
      refine wc_seq ?_
      refine wc_quiet follows (by kernel_rfl) ?_
      refine wq_q rfl rfl rfl (qt_p tbok rfl) ?_
      refine wq_q rfl rfl rfl (qt_p tbok rfl) ?_
      refine wq_q rfl rfl rfl (qt_p tbok rfl) ?_
      refine wq_q rfl rfl rfl (qt_load tbok rfl rfl rfl (rc_w (i - 15) .here (by omega) (by omega) (by omega))) ?_
      refine wq_call (.c (.u32 (rotr (wv p (i - 15)) 7))) (by kernel_rfl) rfl rfl (fun w _ => turn_c _ 7 (by omega) (by omega) w) ?_
      refine wq_q rfl rfl rfl (qt_p tbok rfl) ?_
      refine wq_q rfl rfl rfl (qt_p tbok rfl) ?_
      refine wq_q rfl rfl rfl (qt_p tbok rfl) ?_
      refine wq_q rfl rfl rfl (qt_load tbok rfl rfl rfl (rc_w (i - 15) .here (by omega) (by omega) (by omega))) ?_
      refine wq_call (.c (.u32 (rotr (wv p (i - 15)) 18))) (by kernel_rfl) rfl rfl (fun w _ => turn_c _ 18 (by omega) (by omega) w) ?_
      refine wq_q rfl rfl rfl (qt_p tbok rfl) ?_
      refine wq_q rfl rfl rfl (qt_p tbok rfl) ?_
      refine wq_q rfl rfl rfl (qt_p tbok rfl) ?_
      refine wq_q rfl rfl rfl (qt_p tbok rfl) ?_
      refine wq_q rfl rfl rfl (qt_load tbok rfl rfl rfl (rc_w (i - 15) .here (by omega) (by omega) (by omega))) ?_
      refine wq_q rfl rfl rfl (qt_p tbok rfl) ?_
      refine wq_q rfl rfl rfl (qt_p tbok rfl) ?_
      refine wq_q rfl rfl rfl (qt_p tbok rfl) ?_
      refine wq_done ?_
      refine wl_done ?_
      refine nk_code ?_
      refine wc_seq ?_
      refine wc_quiet follows (by kernel_rfl) ?_
      refine wq_q rfl rfl rfl (qt_p tbok rfl) ?_
      refine wq_q rfl rfl rfl (qt_p tbok rfl) ?_
      refine wq_q rfl rfl rfl (qt_p tbok rfl) ?_
      refine wq_q rfl rfl rfl (qt_load tbok rfl rfl rfl (rc_w (i - 2) .here (by omega) (by omega) (by omega))) ?_
      refine wq_call (.c (.u32 (rotr (wv p (i - 2)) 17))) (by kernel_rfl) rfl rfl (fun w _ => turn_c _ 17 (by omega) (by omega) w) ?_
      refine wq_q rfl rfl rfl (qt_p tbok rfl) ?_
      refine wq_q rfl rfl rfl (qt_p tbok rfl) ?_
      refine wq_q rfl rfl rfl (qt_p tbok rfl) ?_
      refine wq_q rfl rfl rfl (qt_load tbok rfl rfl rfl (rc_w (i - 2) .here (by omega) (by omega) (by omega))) ?_
      refine wq_call (.c (.u32 (rotr (wv p (i - 2)) 19))) (by kernel_rfl) rfl rfl (fun w _ => turn_c _ 19 (by omega) (by omega) w) ?_
      refine wq_q rfl rfl rfl (qt_p tbok rfl) ?_
      refine wq_q rfl rfl rfl (qt_p tbok rfl) ?_
      refine wq_q rfl rfl rfl (qt_p tbok rfl) ?_
      refine wq_q rfl rfl rfl (qt_p tbok rfl) ?_
      refine wq_q rfl rfl rfl (qt_load tbok rfl rfl rfl (rc_w (i - 2) .here (by omega) (by omega) (by omega))) ?_
      refine wq_q rfl rfl rfl (qt_p tbok rfl) ?_
      refine wq_q rfl rfl rfl (qt_p tbok rfl) ?_
      refine wq_q rfl rfl rfl (qt_p tbok rfl) ?_
      refine wq_done ?_
      refine wl_done ?_
      refine nk_code ?_
      refine wc_tail 15 follows (by kernel_rfl) ?_
      refine wq_q rfl rfl rfl (qt_p tbok rfl) ?_
      refine wq_q rfl rfl rfl (qt_p tbok rfl) ?_
      refine wq_q rfl rfl rfl (qt_p tbok rfl) ?_
      refine wq_q rfl rfl rfl (qt_p tbok rfl) ?_
      refine wq_q rfl rfl rfl (qt_load tbok rfl rfl rfl (rc_w (i - 16) .here (by omega) (by omega) (by omega))) ?_
      refine wq_q rfl rfl rfl (qt_p tbok rfl) ?_
      refine wq_q rfl rfl rfl (qt_p tbok rfl) ?_
      refine wq_q rfl rfl rfl (qt_p tbok rfl) ?_
      refine wq_q rfl rfl rfl (qt_p tbok rfl) ?_
      refine wq_q rfl rfl rfl (qt_p tbok rfl) ?_
      refine wq_q rfl rfl rfl (qt_load tbok rfl rfl rfl (rc_w (i - 7) .here (by omega) (by omega) (by omega))) ?_
      refine wq_q rfl rfl rfl (qt_p tbok rfl) ?_
      refine wq_q rfl rfl rfl (qt_p tbok rfl) ?_
      refine wq_q rfl rfl rfl (qt_p tbok rfl) ?_
      refine wq_q rfl rfl rfl (qt_p tbok rfl) ?_
      refine wq_done ?_
      refine wl_ef rfl (ef_store (cs' := wl p (i + 1)) tbok rfl rfl rfl rfl .here rfl (by rw [wl_len]; omega) (by rw [show 0 + (i : Int).toNat * 1 = i by omega]; exact wl_set (by omega) (wv_hi hi2).symm) ?_)
      refine wl_done ?_
      refine nk_code ?_
      refine wc_region ?_
      refine wl_q rfl rfl rfl (qt_p tbok rfl) ?_
      refine wl_q rfl rfl rfl (qt_p tbok rfl) ?_
      refine wl_q rfl rfl rfl (qt_p tbok rfl) ?_
      refine wl_done ?_
      exact nk_round (i + 1) (by omega) (by omega) ⟨rfl, rfl, rfl, rfl, rfl, rfl, trivial⟩ (fun _ h => h)
  · have he : i = 64 := (by have h0 := of_decide_eq_false h23; omega)
    subst he
    refine wc_exit rfl ?_
    refine nk_code ?_
    refine wc_seq ?_
    refine wc_quiet follows (by kernel_rfl) ?_
    refine wq_q rfl rfl rfl (qt_p tbok rfl) ?_
    refine wq_q rfl rfl rfl (qt_load tbok rfl rfl rfl (rc_lk (.there (.there (.there .here))) rfl)) ?_
    refine wq_q rfl rfl rfl (qt_p tbok rfl) ?_
    refine wq_q rfl rfl rfl (qt_load tbok rfl rfl rfl (rc_lk (.there (.there (.there .here))) rfl)) ?_
    refine wq_q rfl rfl rfl (qt_p tbok rfl) ?_
    refine wq_q rfl rfl rfl (qt_load tbok rfl rfl rfl (rc_lk (.there (.there (.there .here))) rfl)) ?_
    refine wq_q rfl rfl rfl (qt_p tbok rfl) ?_
    refine wq_q rfl rfl rfl (qt_load tbok rfl rfl rfl (rc_lk (.there (.there (.there .here))) rfl)) ?_
    refine wq_q rfl rfl rfl (qt_p tbok rfl) ?_
    refine wq_q rfl rfl rfl (qt_p tbok rfl) ?_
    refine wq_q rfl rfl rfl (qt_p tbok rfl) ?_
    refine wq_q rfl rfl rfl (qt_p tbok rfl) ?_
    refine wq_done ?_
    refine wl_done ?_
    refine nk_code ?_
    refine wc_seq ?_
    refine wc_quiet follows (by kernel_rfl) ?_
    refine wq_q rfl rfl rfl (qt_p tbok rfl) ?_
    refine wq_q rfl rfl rfl (qt_load tbok rfl rfl rfl (rc_lk (.there (.there (.there .here))) rfl)) ?_
    refine wq_q rfl rfl rfl (qt_p tbok rfl) ?_
    refine wq_q rfl rfl rfl (qt_load tbok rfl rfl rfl (rc_lk (.there (.there (.there .here))) rfl)) ?_
    refine wq_q rfl rfl rfl (qt_p tbok rfl) ?_
    refine wq_q rfl rfl rfl (qt_load tbok rfl rfl rfl (rc_lk (.there (.there (.there .here))) rfl)) ?_
    refine wq_q rfl rfl rfl (qt_p tbok rfl) ?_
    refine wq_q rfl rfl rfl (qt_load tbok rfl rfl rfl (rc_lk (.there (.there (.there .here))) rfl)) ?_
    refine wq_q rfl rfl rfl (qt_p tbok rfl) ?_
    refine wq_q rfl rfl rfl (qt_p tbok rfl) ?_
    refine wq_q rfl rfl rfl (qt_p tbok rfl) ?_
    refine wq_q rfl rfl rfl (qt_p tbok rfl) ?_
    refine wq_done ?_
    refine wl_done ?_
    refine nk_code ?_
    refine wc_seq ?_
    refine wc_seq ?_
    refine wc_region ?_
    refine wl_q rfl rfl rfl (qt_p tbok rfl) ?_
    refine wl_done ?_
    refine nk_code ?_
    refine wc_block ?_
    refine wc_loop (ι := Nat) (fun i => i ≤ 64) (fun i => [(18, .c (.i64 (i : Int))), (10, .c (.u32 (rnds p i h).a)), (11, .c (.u32 (rnds p i h).b)), (12, .c (.u32 (rnds p i h).c)), (13, .c (.u32 (rnds p i h).d)), (14, .c (.u32 (rnds p i h).e)), (15, .c (.u32 (rnds p i h).f)), (16, .c (.u32 (rnds p i h).g)), (17, .c (.u32 (rnds p i h).h)), (6, .c (.ptr (.at r 0))), (5, .c (.ptr (.at kr 0))), (4, .c (.ptr (.at o 0))), (2, .c (.ptr (.at hr 0)))]) (fun i => [⟨.at r 0, wl p 64, 206, (0, 0), []⟩, ⟨.at kr 0, K.map C.u32, 206, (0, 0), []⟩, ⟨.at o 0, List.replicate 8 (.u32 0), 184, (0, 0), []⟩, ⟨.at hr 0, h.cs, 184, (0, 0), []⟩]) (fun i => 64 - i) 0 (by omega) (nk_start ⟨rfl, rfl, rfl, rfl, rfl, rfl, rfl, rfl, rfl, rfl, rfl, rfl, rfl, trivial⟩ (fun w hw => hw)) (fun i hi => ?_)
    refine wc_seq ?_
    refine wc_seq ?_
    refine wc_region ?_
    refine wl_q rfl rfl rfl (qt_p tbok rfl) ?_
    refine wl_q rfl rfl rfl (qt_p tbok rfl) ?_
    refine wl_done ?_
    refine nk_code ?_
    refine wc_cond rfl (fun h129 => ?_) (fun h129 => ?_)
    · have hi' : i < 64 := (by have h0 := of_decide_eq_true h129; omega)
      refine wc_skip ?_
      refine nk_code ?_
      refine wc_seq ?_
      refine wc_block ?_
      refine wc_seq ?_
      refine wc_quiet follows (by kernel_rfl) ?_
      refine wq_q rfl rfl rfl (qt_p tbok rfl) ?_
      refine wq_q rfl rfl rfl (qt_p tbok rfl) ?_
      refine wq_call (.c (.u32 (rotr (rnds p i h).e 6))) (by kernel_rfl) rfl rfl (fun w _ => turn_c _ 6 (by omega) (by omega) w) ?_
      refine wq_q rfl rfl rfl (qt_p tbok rfl) ?_
      refine wq_call (.c (.u32 (rotr (rnds p i h).e 11))) (by kernel_rfl) rfl rfl (fun w _ => turn_c _ 11 (by omega) (by omega) w) ?_
      refine wq_q rfl rfl rfl (qt_p tbok rfl) ?_
      refine wq_q rfl rfl rfl (qt_p tbok rfl) ?_
      refine wq_call (.c (.u32 (rotr (rnds p i h).e 25))) (by kernel_rfl) rfl rfl (fun w _ => turn_c _ 25 (by omega) (by omega) w) ?_
      refine wq_q rfl rfl rfl (qt_p tbok rfl) ?_
      refine wq_q rfl rfl rfl (qt_p tbok rfl) ?_
      refine wq_q rfl rfl rfl (qt_p tbok rfl) ?_
      refine wq_q rfl rfl rfl (qt_p tbok rfl) ?_
      refine wq_q rfl rfl rfl (qt_p tbok rfl) ?_
      refine wq_q rfl rfl rfl (qt_p tbok rfl) ?_
      refine wq_q rfl rfl rfl (qt_p tbok rfl) ?_
      refine wq_as (v' := .c (.u32 (~~~(rnds p i h).e))) (congrArg (fun x => V.c (C.u32 x)) (not32 _)) ?_
      refine wq_q rfl rfl rfl (qt_p tbok rfl) ?_
      refine wq_q rfl rfl rfl (qt_p tbok rfl) ?_
      refine wq_as (v' := .c (.u32 ((rnds p i h).g &&& ~~~(rnds p i h).e))) (congrArg (fun x => V.c (C.u32 x)) (UInt32.and_comm _ _)) ?_
      refine wq_q rfl rfl rfl (qt_p tbok rfl) ?_
      refine wq_q rfl rfl rfl (qt_p tbok rfl) ?_
      refine wq_q rfl rfl rfl (qt_p tbok rfl) ?_
      refine wq_q rfl rfl rfl (qt_p tbok rfl) ?_
      refine wq_q rfl rfl rfl (qt_load tbok rfl rfl rfl (rc_lk (.there .here) (by rw [show 0 + (i : Int).toNat * 1 = i by omega]; exact k_get hi'))) ?_
      refine wq_q rfl rfl rfl (qt_p tbok rfl) ?_
      refine wq_q rfl rfl rfl (qt_p tbok rfl) ?_
      refine wq_q rfl rfl rfl (qt_p tbok rfl) ?_
      refine wq_q rfl rfl rfl (qt_load tbok rfl rfl rfl (rc_w i .here (by omega) (by omega) (by omega))) ?_
      refine wq_q rfl rfl rfl (qt_p tbok rfl) ?_
      refine wq_q rfl rfl rfl (qt_p tbok rfl) ?_
      refine wq_done ?_
      refine wl_done ?_
      refine nk_code ?_
      refine wc_seq ?_
      refine wc_region ?_
      refine wl_q rfl rfl rfl (qt_p tbok rfl) ?_
      refine wl_ef rfl (ef_pure (v := .c (.u32 (rotr (rnds p i h).a 2))) (by kernel_rfl) rfl rfl (fun w _ => turn_c _ 2 (by omega) (by omega) w) ?_)
      refine wl_q rfl rfl rfl (qt_p tbok rfl) ?_
      refine wl_ef rfl (ef_pure (v := .c (.u32 (rotr (rnds p i h).a 13))) (by kernel_rfl) rfl rfl (fun w _ => turn_c _ 13 (by omega) (by omega) w) ?_)
      refine wl_q rfl rfl rfl (qt_p tbok rfl) ?_
      refine wl_q rfl rfl rfl (qt_p tbok rfl) ?_
      refine wl_ef rfl (ef_pure (v := .c (.u32 (rotr (rnds p i h).a 22))) (by kernel_rfl) rfl rfl (fun w _ => turn_c _ 22 (by omega) (by omega) w) ?_)
      refine wl_q rfl rfl rfl (qt_p tbok rfl) ?_
      refine wl_q rfl rfl rfl (qt_p tbok rfl) ?_
      refine wl_q rfl rfl rfl (qt_p tbok rfl) ?_
      refine wl_q rfl rfl rfl (qt_p tbok rfl) ?_
      refine wl_q rfl rfl rfl (qt_p tbok rfl) ?_
      refine wl_q rfl rfl rfl (qt_p tbok rfl) ?_
      refine wl_q rfl rfl rfl (qt_p tbok rfl) ?_
      refine wl_q rfl rfl rfl (qt_p tbok rfl) ?_
      refine wl_q rfl rfl rfl (qt_p tbok rfl) ?_
      refine wl_q rfl rfl rfl (qt_p tbok rfl) ?_
      refine wl_q rfl rfl rfl (qt_p tbok rfl) ?_
      refine wl_q rfl rfl rfl (qt_p tbok rfl) ?_
      refine wl_q rfl rfl rfl (qt_p tbok rfl) ?_
      refine wl_q rfl rfl rfl (qt_p tbok rfl) ?_
      refine wl_done ?_
      refine nk_code ?_
      refine wc_seq ?_
      refine wc_region ?_
      refine wl_q rfl rfl rfl (qt_p tbok rfl) ?_
      refine wl_q rfl rfl rfl (qt_p tbok rfl) ?_
      refine wl_done ?_
      refine nk_code ?_
      refine wc_seq ?_
      refine wc_region ?_
      refine wl_q rfl rfl rfl (qt_p tbok rfl) ?_
      refine wl_q rfl rfl rfl (qt_p tbok rfl) ?_
      refine wl_done ?_
      refine nk_code ?_
      refine wc_seq ?_
      refine wc_region ?_
      refine wl_q rfl rfl rfl (qt_p tbok rfl) ?_
      refine wl_q rfl rfl rfl (qt_p tbok rfl) ?_
      refine wl_done ?_
      refine nk_code ?_
      refine wc_seq ?_
      refine wc_region ?_
      refine wl_q rfl rfl rfl (qt_p tbok rfl) ?_
      refine wl_q rfl rfl rfl (qt_p tbok rfl) ?_
      refine wl_q rfl rfl rfl (qt_p tbok rfl) ?_
      refine wl_q rfl rfl rfl (qt_p tbok rfl) ?_
      refine wl_done ?_
      refine nk_code ?_
      refine wc_seq ?_
      refine wc_region ?_
      refine wl_q rfl rfl rfl (qt_p tbok rfl) ?_
      refine wl_q rfl rfl rfl (qt_p tbok rfl) ?_
      refine wl_done ?_
      refine nk_code ?_
      refine wc_seq ?_
      refine wc_region ?_
      refine wl_q rfl rfl rfl (qt_p tbok rfl) ?_
      refine wl_q rfl rfl rfl (qt_p tbok rfl) ?_
      refine wl_done ?_
      refine nk_code ?_
      refine wc_seq ?_
      refine wc_region ?_
      refine wl_q rfl rfl rfl (qt_p tbok rfl) ?_
      refine wl_q rfl rfl rfl (qt_p tbok rfl) ?_
      refine wl_done ?_
      refine nk_code ?_
      refine wc_region ?_
      refine wl_q rfl rfl rfl (qt_p tbok rfl) ?_
      refine wl_q rfl rfl rfl (qt_p tbok rfl) ?_
      refine wl_q rfl rfl rfl (qt_p tbok rfl) ?_
      refine wl_q rfl rfl rfl (qt_p tbok rfl) ?_
      refine wl_done ?_
      refine nk_code ?_
      refine wc_region ?_
      refine wl_q rfl rfl rfl (qt_p tbok rfl) ?_
      refine wl_q rfl rfl rfl (qt_p tbok rfl) ?_
      refine wl_q rfl rfl rfl (qt_p tbok rfl) ?_
      refine wl_done ?_
      exact nk_round (i + 1) (by omega) (by omega) ⟨rfl, rfl, rfl, rfl, rfl, rfl, rfl, rfl, rfl, rfl, rfl, rfl, rfl, trivial⟩ (fun _ h => h)
    · have he : i = 64 := (by have h0 := of_decide_eq_false h129; omega)
      have hcomp : comp h p = h.add (rnds p i h) := (by rw [comp_eq, he])
      generalize rnds p i h = T at hcomp
      rw [hcomp]
      refine wc_exit rfl ?_
      refine nk_code ?_
      refine wc_seq ?_
      refine wc_region ?_
      refine wl_q rfl rfl rfl (qt_p tbok rfl) ?_
      refine wl_q rfl rfl rfl (qt_load tbok rfl rfl rfl (rc_lk (.there (.there (.there .here))) rfl)) ?_
      refine wl_q rfl rfl rfl (qt_p tbok rfl) ?_
      refine wl_q rfl rfl rfl (qt_p tbok rfl) ?_
      refine wl_q rfl rfl rfl (qt_p tbok rfl) ?_
      refine wl_q rfl rfl rfl (qt_load tbok rfl rfl rfl (rc_lk (.there (.there (.there .here))) rfl)) ?_
      refine wl_q rfl rfl rfl (qt_p tbok rfl) ?_
      refine wl_q rfl rfl rfl (qt_p tbok rfl) ?_
      refine wl_q rfl rfl rfl (qt_p tbok rfl) ?_
      refine wl_q rfl rfl rfl (qt_load tbok rfl rfl rfl (rc_lk (.there (.there (.there .here))) rfl)) ?_
      refine wl_q rfl rfl rfl (qt_p tbok rfl) ?_
      refine wl_q rfl rfl rfl (qt_p tbok rfl) ?_
      refine wl_q rfl rfl rfl (qt_p tbok rfl) ?_
      refine wl_q rfl rfl rfl (qt_load tbok rfl rfl rfl (rc_lk (.there (.there (.there .here))) rfl)) ?_
      refine wl_q rfl rfl rfl (qt_p tbok rfl) ?_
      refine wl_q rfl rfl rfl (qt_p tbok rfl) ?_
      refine wl_q rfl rfl rfl (qt_p tbok rfl) ?_
      refine wl_q rfl rfl rfl (qt_load tbok rfl rfl rfl (rc_lk (.there (.there (.there .here))) rfl)) ?_
      refine wl_q rfl rfl rfl (qt_p tbok rfl) ?_
      refine wl_q rfl rfl rfl (qt_p tbok rfl) ?_
      refine wl_q rfl rfl rfl (qt_p tbok rfl) ?_
      refine wl_q rfl rfl rfl (qt_load tbok rfl rfl rfl (rc_lk (.there (.there (.there .here))) rfl)) ?_
      refine wl_q rfl rfl rfl (qt_p tbok rfl) ?_
      refine wl_q rfl rfl rfl (qt_p tbok rfl) ?_
      refine wl_q rfl rfl rfl (qt_p tbok rfl) ?_
      refine wl_q rfl rfl rfl (qt_load tbok rfl rfl rfl (rc_lk (.there (.there (.there .here))) rfl)) ?_
      refine wl_q rfl rfl rfl (qt_p tbok rfl) ?_
      refine wl_q rfl rfl rfl (qt_p tbok rfl) ?_
      refine wl_q rfl rfl rfl (qt_p tbok rfl) ?_
      refine wl_q rfl rfl rfl (qt_load tbok rfl rfl rfl (rc_lk (.there (.there (.there .here))) rfl)) ?_
      refine wl_q rfl rfl rfl (qt_p tbok rfl) ?_
      refine wl_q rfl rfl rfl (qt_p tbok rfl) ?_
      refine wl_q rfl rfl rfl (qt_build_arr (vs := cvs (h.add T)) (l := (h.add T).cs) tbok rfl zero184 rfl (cfill _)) ?_
      refine wl_ef rfl (ef_store (cs' := (h.add T).cs) tbok rfl rfl rfl rfl (.there (.there .here)) rfl (Nat.le_of_ble_eq_true rfl) (spl_all rfl) ?_)
      refine wl_done ?_
      refine nk_code ?_
      refine wc_ret ?_
      try dsimp only
      exact fin1 rfl (rv_ag (l := (h.add T).cs) tbok rfl rfl rfl rfl (rs_lk (.there (.there .here)) at0)) (fun w' hw => ⟨rfl, hw.all (new_cons (newKey hrr) (new_cons (newKey hkr) (new_cons (newKey ho) (new_cons (newKey hhr) new_nil))))⟩)
end Go.Proofs.Ytjhmcmadleabjaa

set_option maxRecDepth 100000
namespace Go.Proofs.Ytjhmcmadleabjaa
open Go Go.Hw Go.Proofs

/-- A byte slice of its own: where, how large, what stands behind its end. -/
abbrev Os := Ad × Nat × List Value
abbrev ob (l : List UInt8) (x : Os) : Blk := ⟨x.1, bc l, 5, (0, 0), x.2.2⟩
abbrev ov (l : List UInt8) (x : Os) : V := .c (.slc x.1 l.length x.2.1)
abbrev Oi (l : List UInt8) (x : Os) : Prop := OwnS x.1 l.length x.2.1 1 (bc l) x.2.2
theorem oi_nil : Oi [] (.nil, 0, []) := ⟨rfl, rfl, rfl, rfl⟩
theorem nil_new {w : World} : ∀ k, (Ad.nil).key = some k → w.heap.size ≤ k := fun k h => by cases h
theorem st_none {w0 w : World} {s : Hp} {T : Nat} (h : St w0 s w) : St w0 (⟨.nil, [], T, (0, 0), []⟩ :: s) w :=
  ⟨h.os, h.tape, h.output, h.size, fun k hk hp => h.old k hk fun p hps => hp p (List.mem_cons_of_mem _ hps), fun p hp => by
    rcases List.mem_cons.1 hp with rfl | hp
    · exact ⟨rfl, rfl⟩
    · exact h.own p hp, List.pairwise_cons.2 ⟨fun p _ => .inl rfl, h.nodup⟩⟩
theorem take_snoc {p : List UInt8} {i : Nat} (h : i < p.length) : p.take (i + 1) = p.take i ++ [p.getD i 0] := by
  rw [List.take_add_one]; simp [h]
theorem oi_app {l : List UInt8} {x : UInt8} {n : Nat} {ad : Ad} {cap : Nat} {tl : List Value} (h : OwnS ad n cap 1 (bc l ++ [C.u8 x]) tl) (hn : n = l.length + 1) : Oi (l ++ [x]) (ad, cap, tl) := by
  subst hn
  have e : bc l ++ [C.u8 x] = bc (l ++ [x]) := by simp [bc]
  rw [e] at h
  show OwnS ad (l ++ [x]).length cap 1 (bc (l ++ [x])) tl
  rw [List.length_append]; exact h
theorem bc_snoc (l : List UInt8) (x : UInt8) : bc l ++ [C.u8 x] = bc (l ++ [x]) := by simp [bc]

theorem twin_c {w : World} {ad : Ad} {len cap : Nat} {p : List UInt8} (hp : Cells w ad (bc p)) (hlen : p.length = len) (hmax : p.length ≤ 1073741824) :
    CallsV Try.prog 30 [.c (.slc ad len cap)] w fun en w' => ∃ x, en = .returned (ov p x).den ∧ Oi p x ∧ (∀ k, (ob p x).key = some k → w.heap.size ≤ k) ∧ St w [ob p x] w' := by
  subst hlen
  refine calls_in (tb := tb) (fn := Try.f30) Try.func30 rfl rfl rfl [(0, .c (.slc ad p.length cap))] rfl [] (St.refl _) ?_
  refine wc_seq ?_
  refine wc_region ?_
  refine wl_q rfl rfl rfl (qt_p tbok rfl) ?_
  refine wl_done ?_
  refine nk_code ?_
  refine wc_seq ?_
  refine wc_region ?_
  refine wl_q rfl rfl rfl (qt_p tbok rfl) ?_
  refine wl_done ?_
  refine nk_code ?_
  refine wc_seq ?_
  refine wc_seq ?_
  refine wc_region ?_
  refine wl_q rfl rfl rfl (qt_p tbok rfl) ?_
  refine wl_done ?_
  refine nk_code ?_
  refine wc_block ?_
  refine wc_loop (ι := Nat × Os) (fun i => i.1 ≤ p.length ∧ Oi (p.take i.1) i.2 ∧ (∀ k, i.2.1.key = some k → w.heap.size ≤ k)) (fun i => [(4, .c (.i64 (i.1 : Int))), (3, .c (.slc i.2.1 i.1 i.2.2.1)), (0, .c (.slc ad p.length cap))]) (fun i => [ob (p.take i.1) i.2]) (fun i => p.length - i.1) (0, .nil, 0, []) ⟨Nat.zero_le _, oi_nil, nil_new⟩ (nk_start ⟨rfl, rfl, rfl, trivial⟩ (fun w hw => st_none hw)) (fun ⟨i, x⟩ ⟨hi, hx, hk⟩ => ?_)
  replace hi : i ≤ p.length := hi
  replace hx : Oi (p.take i) x := hx
  replace hk : ∀ k, x.1.key = some k → w.heap.size ≤ k := hk
  have hl : (p.take i).length = i := List.length_take_of_le hi
  have hx2 : OwnS x.1 i x.2.1 1 (bc (p.take i)) x.2.2 := (by have h2 := hx; unfold Oi at h2; rw [hl] at h2; exact h2)
  refine wc_seq ?_
  refine wc_seq ?_
  refine wc_region ?_
  refine wl_q rfl rfl rfl (qt_p tbok rfl) ?_
  refine wl_q rfl rfl rfl (qt_p tbok rfl) ?_
  refine wl_q rfl rfl rfl (qt_len tbok rfl rfl) ?_
  refine wl_q rfl rfl rfl (qt_p tbok rfl) ?_
  refine wl_done ?_
  refine nk_code ?_
  refine wc_cond rfl (fun h8 => ?_) (fun h8 => ?_)
  · have hi' : i < p.length := (by have h0 := of_decide_eq_true h8; exact Int.ofNat_lt.1 h0)
    obtain ⟨pr, po, rfl⟩ := cells_nn hp (by rw [bc_len]; omega)
    refine wc_skip ?_
    refine nk_code ?_
    refine wc_seq ?_
    refine wc_block ?_
    refine wc_region ?_
    refine wl_q rfl rfl rfl (qt_p tbok rfl) ?_
    refine wl_q rfl rfl rfl (qt_p tbok rfl) ?_
    refine wl_q rfl rfl rfl (qt_p tbok rfl) ?_
    refine wl_q rfl rfl rfl (qt_p tbok rfl) ?_
    refine wl_q rfl rfl rfl (qt_load tbok rfl rfl rfl ((rs_cells hp (off_new hk off_nil)).rc (bc_getD hi') (by omega))) ?_
    refine wl_ef rfl (ef_buildSlice (vs := [(0, .c (.u8 (p.getD i 0)))]) (l := [.u8 (p.getD i 0)]) tbok rfl zero5 rfl rfl rfl (by decide) rfl rfl (fun br hb => ?_))
    refine wl_ef rfl (ef_append tbok rfl el5 zero5 rfl rfl rfl (.there .here) hx2 hk (m := 1) (news := [.u8 (p.getD i 0)]) rfl (rs_lk .here at0) (by omega) (by simp only [maxLen]; omega) (fun a2 c2 t2 hown2 hk2 hnn _ => ?_))
    refine wl_q rfl rfl rfl (qt_p tbok rfl) ?_
    refine wl_done ?_
    refine nk_code ?_
    refine wc_region ?_
    refine wl_q rfl rfl rfl (qt_p tbok rfl) ?_
    refine wl_q rfl rfl rfl (qt_p tbok rfl) ?_
    refine wl_q rfl rfl rfl (qt_p tbok rfl) ?_
    refine wl_done ?_
    exact nk_round (i + 1, a2, c2, t2) ⟨hi', by show Oi (p.take (i + 1)) (a2, c2, t2); rw [take_snoc hi']; exact oi_app hown2 (by rw [hl]), hk2⟩ (by show p.length - (i + 1) < p.length - i; omega) ⟨rfl, rfl, rfl, trivial⟩ (fun w hw => by have h2 := Rm.sub_St hw (.there .here) (newKey hb); rw [bc_snoc, ← take_snoc hi'] at h2; exact h2)
  · have he : i = p.length := (by have h0 := of_decide_eq_false h8; have h1 : ¬ i < p.length := fun h => h0 (Int.ofNat_lt.2 h); omega)
    refine wc_exit rfl ?_
    refine nk_code ?_
    refine wc_seq ?_
    refine wc_region ?_
    refine wl_q rfl rfl rfl (qt_p tbok rfl) ?_
    refine wl_q rfl rfl rfl (qt_p tbok rfl) ?_
    refine wl_done ?_
    refine nk_code ?_
    refine wc_ret ?_
    try dsimp only
    subst he
    rw [List.take_length] at hx
    exact fin1 rfl (rv_tmp rfl) (fun w' hw => ⟨x, rfl, hx, hk, by rw [List.take_length] at hw; exact hw⟩)
theorem same_c {w : World} {a1 a2 : Ad} {c1 c2 : Nat} {p q : List UInt8} (hp : Cells w a1 (bc p)) (hq : Cells w a2 (bc q)) (hmax : p.length ≤ 1073741824) :
    CallsV Try.prog 31 [.c (.slc a1 p.length c1), .c (.slc a2 q.length c2)] w fun en w' => en = .returned (V.c (.bool (decide (p = q)))).den ∧ St w [] w' := by
  refine calls_in (tb := tb) (fn := Try.f31) Try.func31 rfl rfl rfl [(0, .c (.slc a1 p.length c1)), (1, .c (.slc a2 q.length c2))] rfl [] (St.refl _) ?_
  refine wc_seq ?_
  refine wc_region ?_
  refine wl_q rfl rfl rfl (qt_p tbok rfl) ?_
  refine wl_done ?_
  refine nk_code ?_
  refine wc_seq ?_
  refine wc_seq ?_
  refine wc_region ?_
  refine wl_q rfl rfl rfl (qt_p tbok rfl) ?_
  refine wl_q rfl rfl rfl (qt_len tbok rfl rfl) ?_
  refine wl_q rfl rfl rfl (qt_p tbok rfl) ?_
  refine wl_q rfl rfl rfl (qt_len tbok rfl rfl) ?_
  first | refine wl_q rfl rfl rfl (qt_p tbok rfl) ?_ | refine wl_q rfl rfl rfl (qt_neqn tbok rfl rfl rfl) ?_
  refine wl_done ?_
  refine nk_code ?_
  refine wc_cond rfl (fun h10 => ?_) (fun h10 => ?_)
  · refine wc_seq ?_
    refine wc_region ?_
    refine wl_q rfl rfl rfl (qt_p tbok rfl) ?_
    refine wl_done ?_
    refine nk_code ?_
    refine wc_ret ?_
    try dsimp only
    have hne : ¬ p = q := (fun e => by subst e; simp at h10)
    rw [decide_eq_false hne]
    exact fin1 rfl (rv_tmp rfl) (fun w' hw => ⟨rfl, hw⟩)
  · have hlen : p.length = q.length := (by simp at h10; omega)
    refine wc_skip ?_
    refine nk_code ?_
    refine wc_seq ?_
    refine wc_seq ?_
    refine wc_region ?_
    refine wl_q rfl rfl rfl (qt_p tbok rfl) ?_
    refine wl_done ?_
    refine nk_code ?_
    refine wc_block ?_
    refine wc_loop (ι := Nat) (fun i => i ≤ p.length ∧ p.take i = q.take i) (fun i => [(5, .c (.i64 (i : Int))), (0, .c (.slc a1 p.length c1)), (1, .c (.slc a2 q.length c2))]) (fun i => []) (fun i => p.length - i) 0 ⟨Nat.zero_le _, by rw [List.take_zero, List.take_zero]⟩ (nk_start ⟨rfl, rfl, rfl, trivial⟩ (fun w hw => hw)) (fun i ⟨hi, ht⟩ => ?_)
    refine wc_seq ?_
    refine wc_seq ?_
    refine wc_region ?_
    refine wl_q rfl rfl rfl (qt_p tbok rfl) ?_
    refine wl_q rfl rfl rfl (qt_p tbok rfl) ?_
    refine wl_q rfl rfl rfl (qt_len tbok rfl rfl) ?_
    refine wl_q rfl rfl rfl (qt_p tbok rfl) ?_
    refine wl_done ?_
    refine nk_code ?_
    refine wc_cond rfl (fun h14 => ?_) (fun h14 => ?_)
    · have hi' : i < p.length := (by have h0 := of_decide_eq_true h14; exact Int.ofNat_lt.1 h0)
      obtain ⟨pr, po, rfl⟩ := cells_nn hp (by rw [bc_len]; omega)
      obtain ⟨qr, qo, rfl⟩ := cells_nn hq (by rw [bc_len]; omega)
      refine wc_skip ?_
      refine nk_code ?_
      refine wc_seq ?_
      refine wc_block ?_
      refine wc_seq ?_
      refine wc_quiet follows (by kernel_rfl) ?_
      refine wq_q rfl rfl rfl (qt_p tbok rfl) ?_
      refine wq_q rfl rfl rfl (qt_p tbok rfl) ?_
      refine wq_q rfl rfl rfl (qt_p tbok rfl) ?_
      refine wq_q rfl rfl rfl (qt_load tbok rfl rfl rfl ((rs_cells hp off_nil).rc (bc_getD hi') (by omega))) ?_
      refine wq_q rfl rfl rfl (qt_p tbok rfl) ?_
      refine wq_q rfl rfl rfl (qt_p tbok rfl) ?_
      refine wq_q rfl rfl rfl (qt_p tbok rfl) ?_
      refine wq_q rfl rfl rfl (qt_load tbok rfl rfl rfl ((rs_cells hq off_nil).rc (bc_getD (i := i) (by omega)) (by omega))) ?_
      first | refine wq_q rfl rfl rfl (qt_p tbok rfl) ?_ | refine wq_q rfl rfl rfl (qt_neqn tbok rfl rfl rfl) ?_
      refine wq_done ?_
      refine wl_done ?_
      refine nk_code ?_
      refine wc_cond rfl (fun h25 => ?_) (fun h25 => ?_)
      · refine wc_seq ?_
        refine wc_region ?_
        refine wl_q rfl rfl rfl (qt_p tbok rfl) ?_
        refine wl_done ?_
        refine nk_code ?_
        refine wc_ret ?_
        try dsimp only
        have hne : ¬ p = q := (fun e => by subst e; simp at h25)
        rw [decide_eq_false hne]
        exact fin1 rfl (rv_tmp rfl) (fun w' hw => ⟨rfl, hw⟩)
      · have hx : p.getD i 0 = q.getD i 0 := (by simpa using h25)
        refine wc_skip ?_
        refine nk_code ?_
        refine wc_region ?_
        refine wl_q rfl rfl rfl (qt_p tbok rfl) ?_
        refine wl_q rfl rfl rfl (qt_p tbok rfl) ?_
        refine wl_q rfl rfl rfl (qt_p tbok rfl) ?_
        refine wl_done ?_
        exact nk_round (i + 1) ⟨hi', by rw [take_snoc hi', take_snoc (by omega : i < q.length), ht, hx]⟩ (by omega) ⟨rfl, rfl, rfl, trivial⟩ (fun _ h => h)
    · have he : i = p.length := (by have h0 := of_decide_eq_false h14; have h1 : ¬ i < p.length := fun h => h0 (Int.ofNat_lt.2 h); omega)
      refine wc_exit rfl ?_
      refine nk_code ?_
      refine wc_seq ?_
      refine wc_region ?_
      refine wl_q rfl rfl rfl (qt_p tbok rfl) ?_
      refine wl_done ?_
      refine nk_code ?_
      refine wc_ret ?_
      try dsimp only
      have heq : p = q := (by subst he; rw [List.take_length, hlen, List.take_length] at ht; exact ht)
      rw [decide_eq_true heq]
      exact fin1 rfl (rv_tmp rfl) (fun w' hw => ⟨rfl, hw⟩)

theorem shift_cnt {n j : Nat} (h : j < n) (h8 : n ≤ 8) : (UInt64.ofInt ((8 : Int) * ((n : Int) - 1 - (j : Int)))).toNat = 8 * (n - 1 - j) := by
  rw [show (8 : Int) * ((n : Int) - 1 - (j : Int)) = ((8 * (n - 1 - j) : Nat) : Int) by omega, u64_ofInt]
  simp; omega
theorem be_getD (x : UInt64) {n j : Nat} (h : j < n) : (be x n).getD j 0 = (x >>> UInt64.ofNat (8 * (n - 1 - j))).toUInt8 := by
  simp [be, h]

theorem put83_c (x : UInt64) (n : Nat) (h1 : 1 ≤ n) (h8 : n ≤ 8) (w : World) : CallsV Try.prog 83 [.c (.u64 x), .c (.i64 (n : Int))] w fun en w' => ∃ y, en = .returned (ov (be x n) y).den ∧ Oi (be x n) y ∧ (∀ k, (ob (be x n) y).key = some k → w.heap.size ≤ k) ∧ St w [ob (be x n) y] w' := by
  have hbl := be_len x n
  refine calls_in (tb := tb) (fn := Try.f83) Try.func83 rfl rfl rfl [(0, .c (.u64 x)), (1, .c (.i64 (n : Int)))] rfl [] (St.refl _) ?_
  refine wc_seq ?_
  refine wc_region ?_
  refine wl_q rfl rfl rfl (qt_p tbok rfl) ?_
  refine wl_done ?_
  refine nk_code ?_
  refine wc_seq ?_
  refine wc_region ?_
  refine wl_q rfl rfl rfl (qt_p tbok rfl) ?_
  refine wl_done ?_
  refine nk_code ?_
  refine wc_seq ?_
  refine wc_seq ?_
  refine wc_region ?_
  refine wl_q rfl rfl rfl (qt_p tbok rfl) ?_
  refine wl_q rfl rfl rfl (qt_p tbok rfl) ?_
  refine wl_as (v' := .c (.bool false)) (congrArg (fun b => V.c (C.bool b)) (decide_eq_false (by omega))) ?_
  refine wl_q rfl rfl rfl (qt_p tbok rfl) ?_
  first | refine wl_g rfl rfl rfl rfl (qt_p tbok rfl) ?_ | refine wl_skip rfl rfl rfl rfl rfl ?_
  first | refine wl_g rfl rfl rfl rfl (qt_p tbok rfl) ?_ | refine wl_skip rfl rfl rfl rfl rfl ?_
  refine wl_as (v' := .c (.bool false)) (congrArg (fun b => V.c (C.bool b)) (decide_eq_false (by omega))) ?_
  refine wl_q rfl rfl rfl (qt_p tbok rfl) ?_
  refine wl_done ?_
  refine nk_code ?_
  refine wc_no rfl ?_
  refine wc_skip ?_
  refine nk_code ?_
  refine wc_seq ?_
  refine wc_seq ?_
  refine wc_region ?_
  refine wl_q rfl rfl rfl (qt_p tbok rfl) ?_
  refine wl_q rfl rfl rfl (qt_p tbok rfl) ?_
  refine wl_q rfl rfl rfl (qt_p tbok rfl) ?_
  refine wl_done ?_
  refine nk_code ?_
  refine wc_block ?_
  refine wc_loop (ι := Nat × Os) (fun i => i.1 ≤ n ∧ Oi ((be x n).take i.1) i.2 ∧ (∀ k, i.2.1.key = some k → w.heap.size ≤ k)) (fun i => [(6, .c (.i64 ((n : Int) - 1 - (i.1 : Int)))), (5, .c (.slc i.2.1 i.1 i.2.2.1)), (0, .c (.u64 x))]) (fun i => [ob ((be x n).take i.1) i.2]) (fun i => n - i.1) (0, .nil, 0, []) ⟨Nat.zero_le _, oi_nil, nil_new⟩ (nk_start ⟨(by show some (V.c (.i64 ((n : Int) - 1))) = some (V.c (.i64 ((n : Int) - 1 - ((0 : Nat) : Int)))); rw [Int.natCast_zero, Int.sub_zero]), rfl, rfl, trivial⟩ (fun w hw => st_none hw)) (fun ⟨i, y⟩ ⟨hi, hx, hk⟩ => ?_)
  replace hi : i ≤ n := hi
  replace hx : Oi ((be x n).take i) y := hx
  replace hk : ∀ k, y.1.key = some k → w.heap.size ≤ k := hk
  have hl : ((be x n).take i).length = i := List.length_take_of_le (by omega)
  have hx2 : OwnS y.1 i y.2.1 1 (bc ((be x n).take i)) y.2.2 := (by have h2 := hx; unfold Oi at h2; rw [hl] at h2; exact h2)
  refine wc_seq ?_
  refine wc_seq ?_
  refine wc_region ?_
  refine wl_q rfl rfl rfl (qt_p tbok rfl) ?_
  refine wl_q rfl rfl rfl (qt_p tbok rfl) ?_
  refine wl_done ?_
  refine nk_code ?_
  refine wc_cond rfl (fun h17 => ?_) (fun h17 => ?_)
  · have hi' : i < n := (by have h0 := of_decide_eq_true h17; omega)
    have hc := shift_cnt hi' h8
    refine wc_skip ?_
    refine nk_code ?_
    refine wc_seq ?_
    refine wc_block ?_
    refine wc_region ?_
    refine wl_q rfl rfl rfl (qt_p tbok rfl) ?_
    refine wl_q rfl rfl rfl (qt_p tbok rfl) ?_
    refine wl_q rfl rfl rfl (qt_p tbok rfl) ?_
    refine wl_q rfl rfl rfl (qt_p tbok rfl) ?_
    refine wl_q rfl rfl rfl (qt_p tbok rfl) ?_
    refine wl_q rfl rfl rfl (qt_pure tbok rfl ⟨by omega, by show ((UInt64.ofInt ((8 : Int) * ((n : Int) - 1 - (i : Int)))).toNat : Int) < 64; rw [hc]; omega⟩) ?_
    refine wl_q rfl rfl rfl (qt_p tbok rfl) ?_
    refine wl_as (v' := .c (.u8 ((be x n).getD i 0))) (by rw [be_getD x hi']; show V.c (.u8 (x >>> UInt64.ofNat (Int.toNat ((UInt64.ofInt ((8 : Int) * ((n : Int) - 1 - (i : Int)))).toNat : Int))).toUInt8) = _; rw [hc, Int.toNat_natCast]) ?_
    refine wl_ef rfl (ef_buildSlice (vs := [(0, .c (.u8 ((be x n).getD i 0)))]) (l := [.u8 ((be x n).getD i 0)]) tbok rfl zero5 rfl rfl rfl (by decide) rfl rfl (fun br hb => ?_))
    refine wl_ef rfl (ef_append tbok rfl el5 zero5 rfl rfl rfl (.there .here) hx2 hk (m := 1) (news := [.u8 ((be x n).getD i 0)]) rfl (rs_lk .here at0) (by omega) (by simp only [maxLen]; omega) (fun a2 c2 t2 hown2 hk2 hnn _ => ?_))
    refine wl_q rfl rfl rfl (qt_p tbok rfl) ?_
    refine wl_done ?_
    refine nk_code ?_
    refine wc_region ?_
    refine wl_q rfl rfl rfl (qt_p tbok rfl) ?_
    refine wl_q rfl rfl rfl (qt_p tbok rfl) ?_
    refine wl_q rfl rfl rfl (qt_p tbok rfl) ?_
    refine wl_done ?_
    exact nk_round (i + 1, a2, c2, t2) ⟨hi', by show Oi ((be x n).take (i + 1)) (a2, c2, t2); rw [take_snoc (by omega : i < (be x n).length)]; exact oi_app hown2 (by rw [hl]), hk2⟩ (by show n - (i + 1) < n - i; omega) ⟨(by show some (V.c (.i64 ((n : Int) - 1 - (i : Int) - 1))) = some (V.c (.i64 ((n : Int) - 1 - ((i + 1 : Nat) : Int)))); rw [show (n : Int) - 1 - ((i + 1 : Nat) : Int) = (n : Int) - 1 - (i : Int) - 1 by omega]), rfl, rfl, trivial⟩ (fun w hw => by have h2 := Rm.sub_St hw (.there .here) (newKey hb); rw [bc_snoc, ← take_snoc (by omega : i < (be x n).length)] at h2; exact h2)
  · have he : i = n := (by have h0 := of_decide_eq_false h17; omega)
    refine wc_exit rfl ?_
    refine nk_code ?_
    refine wc_seq ?_
    refine wc_region ?_
    refine wl_q rfl rfl rfl (qt_p tbok rfl) ?_
    refine wl_q rfl rfl rfl (qt_p tbok rfl) ?_
    refine wl_done ?_
    refine nk_code ?_
    refine wc_ret ?_
    try dsimp only
    have h9 : (be x n).take i = be x n := List.take_of_length_le (by omega)
    rw [h9] at hx hl
    exact fin1 rfl (rv_tmp rfl) (fun w' hw => ⟨y, by show _ = Ending.returned (V.c (C.slc y.1 (be x n).length y.2.1)).den; rw [hl], hx, hk, by rw [h9] at hw; exact hw⟩)
end Go.Proofs.Ytjhmcmadleabjaa

set_option maxRecDepth 100000
namespace Go.Proofs.Ytjhmcmadleabjaa
open Go Go.Hw Go.Proofs

/-- What waits for its block to be full. -/
def rst (m : List UInt8) : List UInt8 := m.drop (64 * (m.length / 64))
theorem rst_len (m : List UInt8) : (rst m).length = m.length % 64 := by unfold rst; simp; omega
theorem rst_full {m q : List UInt8} (hq : (rst m).length + q.length = 64) : blks H0 (m ++ q) = comp (blks H0 m) (rst m ++ q) ∧ rst (m ++ q) = [] := by
  have hr := rst_len m
  have hd : Dst m (rst m ++ List.replicate (64 - (rst m).length) 0) := ⟨by simp; omega, by rw [← hr]; simp [rst]⟩
  refine ⟨?_, ?_⟩
  · rw [blks_full hd (by omega), ← hr]; simp
  · apply List.length_eq_zero_iff.1; rw [rst_len, List.length_append]; omega
theorem rst_part {m q : List UInt8} (hq : (rst m).length + q.length < 64) : blks H0 (m ++ q) = blks H0 m ∧ rst (m ++ q) = rst m ++ q := by
  have hr := rst_len m
  have h2 : (m ++ q).length = m.length + q.length := List.length_append
  refine ⟨blks_part (by omega), ?_⟩
  unfold rst
  rw [List.drop_append_of_le_length (by omega), show (m ++ q).length / 64 = m.length / 64 by omega]

def gcs (m : List UInt8) (x : Os) : List C := (blks H0 m).cs ++ [.u64 (UInt64.ofNat m.length), .slc x.1 (rst m).length x.2.1]
def z186 : List C := List.replicate 8 (.u32 0) ++ [.u64 0, .slc .nil 0 0]
theorem zero186 : zeroIs Try.prog 186 (.agg z186) := by unfold zeroIs; kernel_rfl
theorem ad_at {a : Ad} {n c z : Nat} {l : List C} {t : List Value} (ho : OwnS a n c z l t) (h : a.key ≠ none) : ∃ r o, a = .at r o := by
  cases a with
  | nil => exact absurd rfl h
  | raw _ => exact absurd rfl h
  | mp _ _ => exact ho.elim
  | «at» r o => exact ⟨r, o, rfl⟩

theorem new2_c (w : World) : CallsV Try.prog 108 [] w fun en w' => en = .returned (V.agg (gcs [] (.nil, 0, []))).den ∧ St w [] w' := by
  have e : gcs [] (.nil, 0, []) = H0.cs ++ [.u64 0, .slc .nil 0 0] := by unfold gcs; rw [blks_short (by simp)]; rfl
  rw [e]
  refine calls_in (tb := tb) (fn := Try.f108) Try.func108 rfl rfl rfl [] rfl [] (St.refl _) ?_
  refine wc_seq ?_
  refine wc_region ?_
  refine wl_ef rfl (ef_alloc zero186 rfl rfl (fun r hr => ?_))
  refine wl_done ?_
  refine nk_code ?_
  refine wc_seq ?_
  refine wc_region ?_
  refine wl_ef rfl (ef_pure (v := .agg H0.cs) (by kernel_rfl) rfl rfl (fun w _ => begin_c w) ?_)
  refine wl_q rfl rfl rfl (qt_build (vs := [(0, .agg H0.cs)]) (l := H0.cs ++ [.u64 0, .slc .nil 0 0]) tbok rfl zero186 rfl rfl) ?_
  refine wl_ef rfl (ef_store (cs' := H0.cs ++ [.u64 0, .slc .nil 0 0]) tbok rfl rfl rfl rfl .here rfl (Nat.le_of_ble_eq_true rfl) rfl ?_)
  refine wl_done ?_
  refine nk_code ?_
  refine wc_ret ?_
  try dsimp only
  exact fin1 rfl (rv_ag (l := H0.cs ++ [.u64 0, .slc .nil 0 0]) tbok rfl rfl rfl rfl (rs_lk .here at0)) (fun w' hw => ⟨rfl, hw.tail (newKey hr)⟩)

theorem write_c {w : World} {m p : List UInt8} {x0 : Os} {da : Ad} {dc : Nat} (hb : Cells w x0.1 (bc (rst m))) (hp : Cells w da (bc p)) (hmax : p.length ≤ 1073741824) :
    CallsV Try.prog 107 [.agg (gcs m x0), .c (.slc da p.length dc)] w fun en w' => ∃ x, en = .returned (V.agg (gcs (m ++ p) x)).den ∧ Oi (rst (m ++ p)) x ∧ (∀ k, (ob (rst (m ++ p)) x).key = some k → w.heap.size ≤ k) ∧ St w [ob (rst (m ++ p)) x] w' := by
  have hrm := rst_len m
  refine calls_in (tb := tb) (fn := Try.f107) Try.func107 rfl rfl rfl [(0, .agg (gcs m x0)), (1, .c (.slc da p.length dc))] rfl [] (St.refl _) ?_
  refine wc_seq ?_
  refine wc_region ?_
  refine wl_ef rfl (ef_box rfl rfl rfl (fun sr hsr => ?_))
  refine wl_ef rfl (ef_alloc zero186 rfl rfl (fun o ho => ?_))
  refine wl_done ?_
  refine nk_code ?_
  refine wc_seq ?_
  refine wc_region ?_
  refine wl_q rfl rfl rfl (qt_p tbok rfl) ?_
  refine wl_q rfl rfl rfl (qt_load (c := .slc x0.1 (rst m).length x0.2.1) tbok rfl rfl rfl (rc_lk (.there .here) rfl)) ?_
  refine wl_ef rfl (ef_fresh (by kernel_rfl) rfl rfl (fun w1 h1 => twin_c (cells_rd (rd_cells hb (off_new (newKey ho) (off_new (newKey hsr) off_nil))) h1) rfl (by omega)) (fun x1 hx1 hk1 => ?_))
  refine wl_q rfl rfl rfl (qt_p tbok rfl) ?_
  refine wl_done ?_
  refine nk_code ?_
  refine wc_seq ?_
  refine wc_seq ?_
  refine wc_region ?_
  refine wl_q rfl rfl rfl (qt_p tbok rfl) ?_
  refine wl_done ?_
  refine nk_code ?_
  refine wc_block ?_
  refine wc_loop (ι := Nat × List UInt8 × Os) (fun i => i.1 ≤ p.length ∧ i.2.1 = m ++ p.take i.1 ∧ Oi (rst i.2.1) i.2.2 ∧ (∀ k, i.2.2.1.key = some k → w.heap.size ≤ k)) (fun i => [(6, .c (.i64 (i.1 : Int))), (5, .c (.slc i.2.2.1 (rst i.2.1).length i.2.2.2.1)), (1, .c (.slc da p.length dc)), (2, .c (.ptr (.at sr 0))), (4, .c (.ptr (.at o 0)))]) (fun i => [ob (rst i.2.1) i.2.2, ⟨.at o 0, z186, 186, (0, 0), []⟩, ⟨.at sr 0, (blks H0 i.2.1).cs ++ [C.u64 (UInt64.ofNat m.length), C.slc x0.1 (rst m).length x0.2.1], 186, (0, 0), []⟩]) (fun i => p.length - i.1) (0, m, x1) ⟨Nat.zero_le _, by rw [List.take_zero, List.append_nil], hx1, hk1⟩ (nk_start ⟨rfl, rfl, rfl, rfl, rfl, trivial⟩ (fun w hw => hw)) (fun ⟨i, M, x⟩ ⟨hi, hM, hx, hk⟩ => ?_)
  replace hi : i ≤ p.length := hi
  replace hM : M = m ++ p.take i := hM
  replace hx : Oi (rst M) x := hx
  replace hk : ∀ k, x.1.key = some k → w.heap.size ≤ k := hk
  have hl := rst_len M
  dsimp only
  refine wc_seq ?_
  refine wc_seq ?_
  refine wc_region ?_
  refine wl_q rfl rfl rfl (qt_p tbok rfl) ?_
  refine wl_q rfl rfl rfl (qt_p tbok rfl) ?_
  refine wl_q rfl rfl rfl (qt_len tbok rfl rfl) ?_
  refine wl_q rfl rfl rfl (qt_p tbok rfl) ?_
  refine wl_done ?_
  refine nk_code ?_
  refine wc_cond rfl (fun h13 => ?_) (fun h13 => ?_)
  · have hi' : i < p.length := (by have h0 := of_decide_eq_true h13; exact Int.ofNat_lt.1 h0)
    obtain ⟨pr, po, rfl⟩ := cells_nn hp (by rw [bc_len]; omega)
    have hM2 : M ++ [p.getD i 0] = m ++ p.take (i + 1) := (by rw [take_snoc hi', hM, List.append_assoc])
    refine wc_skip ?_
    refine nk_code ?_
    refine wc_seq ?_
    refine wc_block ?_
    refine wc_seq ?_
    refine wc_region ?_
    refine wl_q rfl rfl rfl (qt_p tbok rfl) ?_
    refine wl_q rfl rfl rfl (qt_p tbok rfl) ?_
    refine wl_q rfl rfl rfl (qt_p tbok rfl) ?_
    refine wl_q rfl rfl rfl (qt_p tbok rfl) ?_
    refine wl_q rfl rfl rfl (qt_load tbok rfl rfl rfl ((rs_cells hp (off_new hk (off_new (newKey ho) (off_new (newKey hsr) off_nil)))).rc (bc_getD hi') (by omega))) ?_
    refine wl_ef rfl (ef_buildSlice (vs := [(0, .c (.u8 (p.getD i 0)))]) (l := [.u8 (p.getD i 0)]) tbok rfl zero5 rfl rfl rfl (by decide) rfl rfl (fun br hb => ?_))
    refine wl_ef rfl (ef_append tbok rfl el5 zero5 rfl rfl rfl (.there .here) hx hk (m := 1) (news := [.u8 (p.getD i 0)]) rfl (rs_lk .here at0) (by omega) (by simp only [maxLen]; omega) (fun a2 c2 t2 hown2 hk2 hnn _ => ?_))
    refine wl_q rfl rfl rfl (qt_p tbok rfl) ?_
    refine wl_done ?_
    refine nk_code ?_
    refine wc_seq ?_
    refine wc_region ?_
    refine wl_q rfl rfl rfl (qt_p tbok rfl) ?_
    refine wl_q rfl rfl rfl (qt_len tbok rfl rfl) ?_
    first | refine wl_q rfl rfl rfl (qt_p tbok rfl) ?_ | refine wl_q rfl rfl rfl (qt_eqn tbok rfl rfl rfl) ?_
    refine wl_done ?_
    refine nk_code ?_
    refine wc_cond rfl (fun h25 => ?_) (fun h25 => ?_)
    · have h64 : (rst M).length + [p.getD i 0].length = 64 := (by have h0 := of_decide_eq_true h25; simp only [List.length_singleton]; omega)
      obtain ⟨f1, f2⟩ := rst_full h64
      obtain ⟨ar, ao, rfl⟩ := ad_at hown2 (hnn (by omega))
      refine wc_seq ?_
      refine wc_region ?_
      refine wl_q rfl rfl rfl (qt_p tbok rfl) ?_
      refine wl_q rfl rfl rfl (qt_load_ag (l := (blks H0 M).cs) tbok rfl rfl rfl rfl (rs_lk (.there (.there (.there .here))) (fun j c hc => by rw [Nat.zero_add, List.getElem?_append_left (by have := (List.getElem?_eq_some_iff.1 hc).1; simpa using this)]; exact hc))) ?_
      refine wl_q rfl rfl rfl (qt_p tbok rfl) ?_
      refine wl_ef rfl (ef_pure (v := .agg (comp (blks H0 M) (rst M ++ [p.getD i 0])).cs) (by kernel_rfl) rfl rfl (fun w1 h1 => block2_c (by have h2 := cells_own h1 .here; rw [bc_snoc] at h2; have ho2 : ao = 0 := hown2.1; subst ho2; exact h2) (by rw [List.length_append]; exact h64) (by have h3 : (rst M).length + 1 = 64 := h64; omega)) ?_)
      refine wl_q rfl rfl rfl (qt_p tbok rfl) ?_
      refine wl_ef rfl (ef_store (cs' := (blks H0 (M ++ [p.getD i 0])).cs ++ [C.u64 (UInt64.ofNat m.length), C.slc x0.1 (rst m).length x0.2.1]) tbok rfl rfl rfl rfl (.there (.there (.there .here))) rfl (Nat.le_of_ble_eq_true rfl) (by rw [f1]; rfl) ?_)
      refine wl_done ?_
      refine nk_code ?_
      refine wc_region ?_
      refine wl_q rfl rfl rfl (qt_p tbok rfl) ?_
      refine wl_done ?_
      refine nk_code ?_
      refine wc_region ?_
      refine wl_q rfl rfl rfl (qt_p tbok rfl) ?_
      refine wl_q rfl rfl rfl (qt_p tbok rfl) ?_
      refine wl_q rfl rfl rfl (qt_p tbok rfl) ?_
      refine wl_done ?_
      exact nk_round (i := (i, M, x)) (i + 1, M ++ [p.getD i 0], .nil, 0, []) ⟨hi', hM2, by show Oi (rst (M ++ [p.getD i 0])) (.nil, 0, []); rw [f2]; exact oi_nil, nil_new⟩ (by show p.length - (i + 1) < p.length - i; omega) ⟨rfl, by show _ = some (V.c (.slc .nil (rst (M ++ [p.getD i 0])).length 0)); rw [f2]; rfl, rfl, rfl, rfl, trivial⟩ (fun w hw => by have h2 := st_none (T := 5) ((hw.tail hk2).tail (newKey hb)); show St _ [⟨.nil, bc (rst (M ++ [p.getD i 0])), 5, (0, 0), []⟩, _, _] w; rw [f2]; exact h2)
    · have h64 : (rst M).length + [p.getD i 0].length < 64 := (by have h0 := of_decide_eq_false h25; simp only [List.length_singleton]; omega)
      obtain ⟨f1, f2⟩ := rst_part h64
      refine wc_skip ?_
      refine nk_code ?_
      refine wc_region ?_
      refine wl_q rfl rfl rfl (qt_p tbok rfl) ?_
      refine wl_q rfl rfl rfl (qt_p tbok rfl) ?_
      refine wl_q rfl rfl rfl (qt_p tbok rfl) ?_
      refine wl_done ?_
      exact nk_round (i := (i, M, x)) (i + 1, M ++ [p.getD i 0], a2, c2, t2) ⟨hi', hM2, by show Oi (rst (M ++ [p.getD i 0])) (a2, c2, t2); rw [f2]; exact oi_app hown2 rfl, hk2⟩ (by show p.length - (i + 1) < p.length - i; omega) ⟨rfl, by show _ = some (V.c (.slc a2 (rst (M ++ [p.getD i 0])).length c2)); rw [f2, List.length_append]; rfl, rfl, rfl, rfl, trivial⟩ (fun w hw => by have h2 := Rm.sub_St hw (.there .here) (newKey hb); rw [bc_snoc, ← f2, ← f1] at h2; exact h2)
  · have he : i = p.length := (by have h0 := of_decide_eq_false h13; have h1 : ¬ i < p.length := fun h => h0 (Int.ofNat_lt.2 h); omega)
    have hM2 : M = m ++ p := (by rw [hM, he, List.take_length])
    subst hM2
    refine wc_exit rfl ?_
    refine nk_code ?_
    refine wc_seq ?_
    refine wc_region ?_
    refine wl_q rfl rfl rfl (qt_p tbok rfl) ?_
    first | refine wl_q rfl rfl rfl (qt_l tbok rfl rfl rfl) ?_ | refine wl_q rfl rfl rfl (qt_la tbok rfl rfl rfl) ?_
    refine wl_q rfl rfl rfl (qt_p tbok rfl) ?_
    refine wl_q rfl rfl rfl (qt_len tbok rfl rfl) ?_
    refine wl_q rfl rfl rfl (qt_p tbok rfl) ?_
    refine wl_q rfl rfl rfl (qt_p tbok rfl) ?_
    refine wl_as (v' := .c (.u64 (UInt64.ofNat (m ++ p).length))) (by rw [List.length_append]; exact congrArg (fun x => V.c (C.u64 x)) (u64_add m.length p.length)) ?_
    refine wl_q rfl rfl rfl (qt_p tbok rfl) ?_
    refine wl_ef rfl (ef_store (cs' := (blks H0 (m ++ p)).cs ++ [C.u64 (UInt64.ofNat (m ++ p).length), C.slc x0.1 (rst m).length x0.2.1]) tbok rfl rfl rfl rfl (.there (.there .here)) rfl (Nat.le_of_ble_eq_true rfl) rfl ?_)
    refine wl_done ?_
    refine nk_code ?_
    refine wc_seq ?_
    refine wc_region ?_
    refine wl_q rfl rfl rfl (qt_p tbok rfl) ?_
    refine wl_q rfl rfl rfl (qt_p tbok rfl) ?_
    refine wl_ef rfl (ef_store (cs' := gcs (m ++ p) x) tbok rfl rfl rfl rfl (.there (.there .here)) rfl (Nat.le_of_ble_eq_true rfl) rfl ?_)
    refine wl_done ?_
    refine nk_code ?_
    refine wc_seq ?_
    refine wc_region ?_
    refine wl_q rfl rfl rfl (qt_load_ag (l := gcs (m ++ p) x) tbok rfl rfl rfl rfl (rs_lk (.there (.there .here)) at0)) ?_
    refine wl_ef rfl (ef_store (cs' := gcs (m ++ p) x) tbok rfl rfl rfl rfl (.there .here) rfl (Nat.le_of_ble_eq_true rfl) rfl ?_)
    refine wl_done ?_
    refine nk_code ?_
    refine wc_ret ?_
    try dsimp only
    exact fin1 rfl (rv_ag (l := gcs (m ++ p) x) tbok rfl rfl rfl rfl (rs_lk (.there .here) at0)) (fun w' hw => ⟨x, rfl, hx, hk, Rm.sub_St (Rm.sub_St hw (.there .here) (newKey ho)) (.there .here) (newKey hsr)⟩)
end Go.Proofs.Ytjhmcmadleabjaa

set_option maxRecDepth 100000
namespace Go.Proofs.Ytjhmcmadleabjaa
open Go Go.Hw Go.Proofs

theorem zero22 : zeroIs Try.prog 22 (.agg (bc (List.replicate 32 0))) := by unfold zeroIs; kernel_rfl
theorem pd_snoc (i : Nat) : pd i ++ [0] = pd (i + 1) := by
  simp [pd, List.replicate_succ', -List.replicate_append_replicate]
theorem pd_len (i : Nat) : (pd i).length = 1 + i := by simp [pd]; omega
theorem mul8 (x : UInt64) : (x * (8 : UInt64) : UInt64) = x <<< (3 : UInt64) := by
  apply UInt64.toNat_inj.1
  simp [UInt64.toNat_mul, Nat.shiftLeft_eq]
theorem oi_at {l : List UInt8} {a : Ad} {c : Nat} {t : List Value} (h : Oi l (a, c, t)) (hl : 0 < l.length) : ∃ r, a = .at r 0 := by
  cases a with
  | nil => have h1 : l.length = 0 := h.1; omega
  | raw _ => exact h.elim
  | mp _ _ => exact h.elim
  | «at» r o => have h1 : o = 0 := h.1; exact ⟨r, by rw [h1]⟩
theorem gcs_get {m : List UInt8} {x : Os} {i : Nat} (h : i < 8) : (gcs m x)[i]? = some (.u32 ((blks H0 m).at i)) := by
  unfold gcs
  rw [List.getElem?_append_left (by show i < 8; omega)]
  exact S8.cs_get _ i h
/-- The output, its first i words and j bytes. -/
def outQ (h : S8) (i j : Nat) : List UInt8 := (outP h i).take (4 * i) ++ (be (h.at i).toUInt64 4).take j ++ (outP h i).drop (4 * i + j)
theorem outQ_zero (h : S8) {i : Nat} (hi : i < 8) : outQ h i 0 = outP h i := by
  unfold outQ
  simp
theorem outQ_four (h : S8) {i : Nat} (hi : i < 8) : outQ h i 4 = outP h (i + 1) := by
  match i, hi with
  | 0, _ | 1, _ | 2, _ | 3, _ | 4, _ | 5, _ | 6, _ | 7, _ => rfl
theorem outQ_set (h : S8) {i j : Nat} (hi : i < 8) (hj : j < 4) : spl (bc (outQ h i j)) (4 * i + j) [C.u8 ((be (h.at i).toUInt64 4).getD j 0)] = bc (outQ h i (j + 1)) := by
  match i, hi with
  | 0, _ | 1, _ | 2, _ | 3, _ | 4, _ | 5, _ | 6, _ | 7, _ =>
    match j, hj with
    | 0, _ | 1, _ | 2, _ | 3, _ => rfl
theorem outQ_len (h : S8) {i j : Nat} (hi : i < 8) (hj : j ≤ 4) : (bc (outQ h i j)).length = 32 := by
  match i, hi with
  | 0, _ | 1, _ | 2, _ | 3, _ | 4, _ | 5, _ | 6, _ | 7, _ =>
    match j, hj with
    | 0, _ | 1, _ | 2, _ | 3, _ | 4, _ => rfl

theorem close_c {w : World} {m : List UInt8} {x0 : Os} (hbuf : Cells w x0.1 (bc (rst m))) :
    CallsV Try.prog 106 [.agg (gcs m x0)] w fun en w' => en = .returned (V.agg (bc (sha m))).den ∧ St w [] w' := by
  have hz : zn m.length < 64 := Nat.mod_lt _ (by omega)
  refine calls_in (tb := tb) (fn := Try.f106) Try.func106 rfl rfl rfl [(0, .agg (gcs m x0))] rfl [] (St.refl _) ?_
  refine wc_seq ?_
  refine wc_region ?_
  refine wl_ef rfl (ef_box rfl rfl rfl (fun tr htr => ?_))
  refine wl_ef rfl (ef_alloc zero22 rfl rfl (fun o ho => ?_))
  refine wl_done ?_
  refine nk_code ?_
  refine wc_seq ?_
  refine wc_region ?_
  refine wl_q rfl rfl rfl (qt_p tbok rfl) ?_
  first | refine wl_q rfl rfl rfl (qt_l tbok rfl rfl rfl) ?_ | refine wl_q rfl rfl rfl (qt_la tbok rfl rfl rfl) ?_
  refine wl_q rfl rfl rfl (qt_p tbok rfl) ?_
  refine wl_as (v' := .c (.u64 (UInt64.ofNat m.length * 8))) (rfl) ?_
  refine wl_q rfl rfl rfl (qt_p tbok rfl) ?_
  refine wl_done ?_
  refine nk_code ?_
  refine wc_seq ?_
  refine wc_region ?_
  refine wl_q rfl rfl rfl (qt_load_ag (l := gcs m x0) tbok rfl rfl rfl rfl (rs_lk (.there .here) at0)) ?_
  refine wl_ef rfl (ef_buildSlice (vs := [(0, .c (.u8 128))]) (l := bc (pd 0)) tbok rfl zero5 rfl rfl rfl (by decide) rfl rfl (fun bb hbb => ?_))
  refine wl_ef rfl (ef_fresh (by kernel_rfl) rfl rfl (fun w1 h1 => write_c (m := m) (p := pd 0) (x0 := x0) (cells_rd (rd_cells hbuf (off_new (newKey hbb) (off_new (newKey ho) (off_new (newKey htr) off_nil)))) h1) (cells_lk h1 .here at0) (by decide)) (fun x1 hx1 hk1 => ?_))
  refine wl_ef rfl (ef_store (cs' := gcs (m ++ pd 0) x1) tbok rfl rfl rfl rfl (.there (.there (.there .here))) rfl (Nat.le_of_ble_eq_true rfl) rfl ?_)
  refine wl_done ?_
  refine nk_code ?_
  refine wc_seq ?_
  refine wc_block ?_
  refine wc_loop (ι := Nat × Os) (fun i => i.1 ≤ zn m.length ∧ Oi (rst (m ++ pd i.1)) i.2 ∧ (∀ k, i.2.1.key = some k → w.heap.size ≤ k)) (fun i => [(3, .c (.u64 (UInt64.ofNat m.length * 8))), (1, .c (.ptr (.at tr 0))), (2, .c (.ptr (.at o 0)))]) (fun i => [ob (rst (m ++ pd i.1)) i.2, ⟨.at o 0, bc (List.replicate 32 0), 22, (0, 0), []⟩, ⟨.at tr 0, gcs (m ++ pd i.1) i.2, 186, (0, 0), []⟩]) (fun i => 64 - i.1) (0, x1) ⟨Nat.zero_le _, hx1, hk1⟩ (nk_start ⟨rfl, rfl, rfl, trivial⟩ (fun w hw => Rm.sub_St hw (.there .here) (newKey hbb))) (fun ⟨i, x⟩ ⟨hi, hx, hk⟩ => ?_)
  replace hi : i ≤ zn m.length := hi
  replace hx : Oi (rst (m ++ pd i)) x := hx
  replace hk : ∀ k, x.1.key = some k → w.heap.size ≤ k := hk
  have hl := rst_len (m ++ pd i)
  rw [List.length_append, pd_len] at hl
  dsimp only
  refine wc_seq ?_
  refine wc_seq ?_
  refine wc_region ?_
  refine wl_q rfl rfl rfl (qt_p tbok rfl) ?_
  refine wl_q rfl rfl rfl (qt_load (c := .slc x.1 (rst (m ++ pd i)).length x.2.1) tbok rfl rfl rfl (rc_lk (.there (.there .here)) rfl)) ?_
  refine wl_q rfl rfl rfl (qt_len tbok rfl rfl) ?_
  first | refine wl_q rfl rfl rfl (qt_p tbok rfl) ?_ | refine wl_q rfl rfl rfl (qt_neqn tbok rfl rfl rfl) ?_
  refine wl_done ?_
  refine nk_code ?_
  refine wc_cond rfl (fun h17 => ?_) (fun h17 => ?_)
  · have hne : ¬ (m.length + (1 + i)) % 64 = 56 := (by intro h; rw [hl, h] at h17; simp at h17)
    have hlt : i < zn m.length := (by unfold zn at hi ⊢; omega)
    refine wc_skip ?_
    refine nk_code ?_
    refine wc_block ?_
    refine wc_region ?_
    refine wl_q rfl rfl rfl (qt_load_ag (l := gcs (m ++ pd i) x) tbok rfl rfl rfl rfl (rs_lk (.there (.there .here)) at0)) ?_
    refine wl_ef rfl (ef_buildSlice (vs := [(0, .c (.u8 0))]) (l := bc [0]) tbok rfl zero5 rfl rfl rfl (by decide) rfl rfl (fun b2 hb2 => ?_))
    refine wl_ef rfl (ef_fresh (by kernel_rfl) rfl rfl (fun w1 h1 => write_c (m := m ++ pd i) (p := [0]) (x0 := x) (cells_own h1 (.there .here)) (cells_lk h1 .here at0) (by decide)) (fun x2 hx2 hk2 => ?_))
    refine wl_ef rfl (ef_store (cs' := gcs (m ++ pd i ++ [0]) x2) tbok rfl rfl rfl rfl (.there (.there (.there (.there .here)))) rfl (Nat.le_of_ble_eq_true rfl) rfl ?_)
    refine wl_done ?_
    exact nk_round (i := (i, x)) (i + 1, x2) ⟨hlt, by show Oi (rst (m ++ pd (i + 1))) x2; rw [← pd_snoc, ← List.append_assoc]; exact hx2, hk2⟩ (by show 64 - (i + 1) < 64 - i; omega) ⟨rfl, rfl, rfl, trivial⟩ (fun w hw => by have h2 := Rm.sub_St (Rm.sub_St hw (.there .here) (newKey hb2)) (.there .here) hk; rw [List.append_assoc, pd_snoc] at h2; exact h2)
  · have heq : (m.length + (1 + i)) % 64 = 56 := (by have h0 : ((rst (m ++ pd i)).length : Int) = 56 := (by simpa using h17); omega)
    have hiz : i = zn m.length := (by unfold zn at hi ⊢; omega)
    have hpf : (m ++ pd i) ++ be (UInt64.ofNat m.length * 8) 8 = m ++ padf m := (by rw [List.append_assoc, padf, ← hiz, mul8])
    refine wc_exit rfl ?_
    refine nk_code ?_
    refine wc_seq ?_
    refine wc_draw (s0 := [ob (rst (m ++ pd i)) x, ⟨.at o 0, bc (List.replicate 32 0), 22, (0, 0), []⟩, ⟨.at tr 0, gcs (m ++ pd i) x, 186, (0, 0), []⟩]) 4 follows ?_
    refine wh_q 0 rfl (by kernel_rfl) rfl rfl rfl (qt_load_ag (l := gcs (m ++ pd i) x) tbok rfl rfl rfl rfl (rs_lk (.there (.there .here)) at0)) (fun w hw => hw) ?_
    refine wh_q 1 rfl (by kernel_rfl) rfl rfl rfl (qt_p tbok rfl) (fun w hw => hw) ?_
    refine wh_one 2 (by kernel_rfl) (wo_ef rfl rfl (ef_fresh (by kernel_rfl) rfl rfl (fun w1 h1 => put83_c _ 8 (by omega) (by omega) w1) (fun q hq hkq => ⟨fun w hw => hw.tail hkq, ?_⟩)))
    rw [← be_len (UInt64.ofNat m.length * 8) 8]
    refine wh_one 3 (by kernel_rfl) (wo_ef rfl rfl (ef_fresh (by kernel_rfl) rfl rfl (fun w1 h1 => write_c (m := m ++ pd i) (p := be (UInt64.ofNat m.length * 8) 8) (x0 := x) (cells_own h1 (.there .here)) (cells_own h1 .here) (by rw [be_len]; omega)) (fun x3 hx3 hk3 => ⟨fun w hw => (hw.tail hk3).tail hkq, ?_⟩)))
    refine wh_one 4 (by kernel_rfl) (wo_fin rfl rfl (ef_store (cs' := gcs (m ++ padf m) x3) tbok rfl rfl rfl rfl (.there (.there (.there (.there .here)))) rfl (Nat.le_of_ble_eq_true rfl) (by rw [hpf]; rfl) ?_))
    refine wh_done (by kernel_rfl) ?_
    refine nk_code ?_
    refine wc_seq ?_
    refine wc_region ?_
    refine wl_ef rfl (ef_alloc zero22 rfl rfl (fun rr hrr => ?_))
    refine wl_done ?_
    refine nk_code ?_
    refine wc_seq ?_
    refine wc_seq ?_
    refine wc_region ?_
    refine wl_q rfl rfl rfl (qt_p tbok rfl) ?_
    refine wl_done ?_
    refine nk_code ?_
    refine wc_block ?_
    refine wc_loop (ι := Nat) (fun i => i ≤ 8) (fun i => [(5, .c (.i64 (i : Int))), (4, .c (.ptr (.at rr 0))), (1, .c (.ptr (.at tr 0))), (2, .c (.ptr (.at o 0)))]) (fun i => [⟨.at rr 0, bc (outP (blks H0 (m ++ padf m)) i), 22, (0, 0), []⟩, ⟨.at o 0, bc (List.replicate 32 0), 22, (0, 0), []⟩, ⟨.at tr 0, gcs (m ++ padf m) x3, 186, (0, 0), []⟩]) (fun i => 8 - i) 0 (by omega) (nk_start ⟨rfl, rfl, rfl, rfl, trivial⟩ (fun w hw => Rm.sub_St (Rm.sub_St (Rm.sub_St hw (.there .here) hk3) (.there .here) hkq) (.there .here) hk)) (fun i hi => ?_)
    refine wc_seq ?_
    refine wc_seq ?_
    refine wc_region ?_
    refine wl_q rfl rfl rfl (qt_p tbok rfl) ?_
    refine wl_q rfl rfl rfl (qt_p tbok rfl) ?_
    refine wl_done ?_
    refine nk_code ?_
    refine wc_cond rfl (fun h26 => ?_) (fun h26 => ?_)
    · have hi' : i < 8 := (by have h0 := of_decide_eq_true h26; omega)
      refine wc_skip ?_
      refine nk_code ?_
      refine wc_seq ?_
      refine wc_block ?_
      refine wc_seq ?_
      refine wc_region ?_
      refine wl_q rfl rfl rfl (qt_p tbok rfl) ?_
      refine wl_q rfl rfl rfl (qt_p tbok rfl) ?_
      refine wl_q rfl rfl rfl (qt_p tbok rfl) ?_
      refine wl_q rfl rfl rfl (qt_load tbok rfl rfl rfl (rc_lk (.there (.there .here)) (by rw [show 0 + 0 + (i : Int).toNat * 1 = i by omega]; exact gcs_get hi'))) ?_
      refine wl_q rfl rfl rfl (qt_p tbok rfl) ?_
      refine wl_ef rfl (ef_fresh (by kernel_rfl) rfl rfl (fun w1 h1 => put83_c _ 4 (by omega) (by omega) w1) (fun ⟨ya, yc, yt⟩ hy hky => ?_))
      obtain ⟨yr, rfl⟩ := oi_at hy (by rw [be_len]; omega)
      refine wl_q rfl rfl rfl (qt_p tbok rfl) ?_
      refine wl_done ?_
      refine nk_code ?_
      refine wc_seq ?_
      refine wc_region ?_
      refine wl_q rfl rfl rfl (qt_p tbok rfl) ?_
      refine wl_done ?_
      refine nk_code ?_
      refine wc_block ?_
      refine wc_loop (ι := Nat) (fun j => j ≤ 4) (fun j => [(7, .c (.i64 (j : Int))), (6, .c (.slc (.at yr 0) (be ((blks H0 (m ++ padf m)).at i).toUInt64 4).length yc)), (5, .c (.i64 (i : Int))), (4, .c (.ptr (.at rr 0))), (1, .c (.ptr (.at tr 0))), (2, .c (.ptr (.at o 0)))]) (fun j => [ob (be ((blks H0 (m ++ padf m)).at i).toUInt64 4) (.at yr 0, yc, yt), ⟨.at rr 0, bc (outQ (blks H0 (m ++ padf m)) i j), 22, (0, 0), []⟩, ⟨.at o 0, bc (List.replicate 32 0), 22, (0, 0), []⟩, ⟨.at tr 0, gcs (m ++ padf m) x3, 186, (0, 0), []⟩]) (fun j => 4 - j) 0 (by omega) (nk_start ⟨rfl, rfl, rfl, rfl, rfl, rfl, trivial⟩ (fun w hw => by rw [outQ_zero _ hi']; exact hw)) (fun j hj => ?_)
      refine wc_seq ?_
      refine wc_seq ?_
      refine wc_region ?_
      refine wl_q rfl rfl rfl (qt_p tbok rfl) ?_
      refine wl_q rfl rfl rfl (qt_p tbok rfl) ?_
      refine wl_done ?_
      refine nk_code ?_
      refine wc_cond rfl (fun h36 => ?_) (fun h36 => ?_)
      · have hj' : j < 4 := (by have h0 := of_decide_eq_true h36; omega)
        have hbl := be_len ((blks H0 (m ++ padf m)).at i).toUInt64 4
        refine wc_skip ?_
        refine nk_code ?_
        refine wc_seq ?_
        refine wc_block ?_
        refine wc_region ?_
        refine wl_q rfl rfl rfl (qt_p tbok rfl) ?_
        refine wl_q rfl rfl rfl (qt_p tbok rfl) ?_
        refine wl_q rfl rfl rfl (qt_p tbok rfl) ?_
        refine wl_q rfl rfl rfl (qt_p tbok rfl) ?_
        refine wl_q rfl rfl rfl (qt_p tbok rfl) ?_
        refine wl_q rfl rfl rfl (qt_p tbok rfl) ?_
        refine wl_q rfl rfl rfl (qt_p tbok rfl) ?_
        refine wl_q rfl rfl rfl (qt_load (c := .u8 ((be ((blks H0 (m ++ padf m)).at i).toUInt64 4).getD j 0)) tbok rfl rfl rfl (rc_lk .here (by rw [show 0 + (j : Int).toNat * 1 = j by omega]; exact bc_getD (by omega)))) ?_
        refine wl_q rfl rfl rfl (qt_p tbok rfl) ?_
        refine wl_ef rfl (ef_store (cs' := bc (outQ (blks H0 (m ++ padf m)) i (j + 1))) tbok rfl rfl rfl rfl (.there .here) rfl (by rw [outQ_len _ hi' hj]; omega) (by rw [show 0 + ((4 : Int) * (i : Int) + (j : Int)).toNat * 1 = 4 * i + j by omega]; exact outQ_set _ hi' hj') ?_)
        refine wl_done ?_
        refine nk_code ?_
        refine wc_region ?_
        refine wl_q rfl rfl rfl (qt_p tbok rfl) ?_
        refine wl_q rfl rfl rfl (qt_p tbok rfl) ?_
        refine wl_q rfl rfl rfl (qt_p tbok rfl) ?_
        refine wl_done ?_
        exact nk_round (j + 1) (by omega) (by omega) ⟨rfl, rfl, rfl, rfl, rfl, rfl, trivial⟩ (fun _ h => h)
      · have he : j = 4 := (by have h0 := of_decide_eq_false h36; omega)
        subst he
        refine wc_exit rfl ?_
        refine nk_code ?_
        refine wc_region ?_
        refine wl_q rfl rfl rfl (qt_p tbok rfl) ?_
        refine wl_q rfl rfl rfl (qt_p tbok rfl) ?_
        refine wl_q rfl rfl rfl (qt_p tbok rfl) ?_
        refine wl_done ?_
        exact nk_round (i + 1) (by omega) (by omega) ⟨rfl, rfl, rfl, rfl, trivial⟩ (fun w hw => by have h2 := hw.tail hky; rw [outQ_four _ hi'] at h2; exact h2)
    · have he : i = 8 := (by have h0 := of_decide_eq_false h26; omega)
      subst he
      refine wc_exit rfl ?_
      refine nk_code ?_
      refine wc_seq ?_
      refine wc_region ?_
      refine wl_q rfl rfl rfl (qt_load_ag (l := bc (sha m)) tbok rfl rfl rfl rfl (rs_lk .here (by rw [outP_full]; exact at0))) ?_
      refine wl_ef rfl (ef_store (cs' := bc (sha m)) tbok rfl rfl rfl rfl (.there .here) rfl (Nat.le_of_ble_eq_true rfl) (spl_all rfl) ?_)
      refine wl_done ?_
      refine nk_code ?_
      refine wc_ret ?_
      try dsimp only
      exact fin1 rfl (rv_ag (l := bc (sha m)) tbok rfl rfl rfl rfl (rs_lk (.there .here) at0)) (fun w' hw => ⟨rfl, hw.all (new_cons (newKey hrr) (new_cons (newKey ho) (new_cons (newKey htr) new_nil)))⟩)

theorem sum2_c {w : World} {ad : Ad} {cap : Nat} {p : List UInt8} (hp : Cells w ad (bc p)) (hmax : p.length ≤ 1073741824) :
    CallsV Try.prog 71 [.c (.slc ad p.length cap)] w fun en w' => en = .returned (V.agg (bc (sha p))).den ∧ St w [] w' := by
  refine calls_in (tb := tb) (fn := Try.f71) Try.func71 rfl rfl rfl [(0, .c (.slc ad p.length cap))] rfl [] (St.refl _) ?_
  refine wc_seq ?_
  refine wc_region ?_
  refine wl_ef rfl (ef_alloc zero22 rfl rfl (fun o ho => ?_))
  refine wl_done ?_
  refine nk_code ?_
  refine wc_seq ?_
  refine wc_region ?_
  refine wl_ef rfl (ef_pure (v := .agg (gcs [] (.nil, 0, []))) (by kernel_rfl) rfl rfl (fun w1 _ => new2_c w1) ?_)
  refine wl_q rfl rfl rfl (qt_p tbok rfl) ?_
  refine wl_ef rfl (ef_fresh (by kernel_rfl) rfl rfl (fun w1 h1 => write_c (m := []) (p := p) (x0 := (.nil, 0, [])) rfl (cells_rd (rd_cells hp (off_new (newKey ho) off_nil)) h1) hmax) (fun x hx hk => ?_))
  refine wl_ef rfl (ef_pure (v := .agg (bc (sha p))) (by kernel_rfl) rfl rfl (fun w1 h1 => close_c (m := p) (x0 := x) (cells_own h1 .here)) ?_)
  refine wl_ef rfl (ef_store (cs' := bc (sha p)) tbok rfl rfl rfl rfl (.there .here) rfl (Nat.le_of_ble_eq_true rfl) (spl_all rfl) ?_)
  refine wl_done ?_
  refine nk_code ?_
  refine wc_ret ?_
  try dsimp only
  exact fin1 rfl (rv_ag (l := bc (sha p)) tbok rfl rfl rfl rfl (rs_lk (.there .here) at0)) (fun w' hw => ⟨rfl, hw.all (new_cons hk (new_cons (newKey ho) new_nil))⟩)
end Go.Proofs.Ytjhmcmadleabjaa

set_option maxRecDepth 100000
namespace Go.Proofs.Ytjhmcmadleabjaa
open Go Go.Hw Go.Proofs

theorem own_of {b n : Nat} {cs : List C} (h : cs.length = n) (hn : n ≤ 1073741824) : OwnS (.at b 0) n n 1 cs [] :=
  ⟨rfl, Nat.le_refl _, by simp only [maxLen]; omega, by rw [h, Nat.mul_one], by rw [h]; simp⟩
theorem take_len1 {B p : List UInt8} {i : Nat} (h : i < p.length) : (B ++ p.take (i + 1)).length = (B ++ p.take i).length + 1 := by
  simp; omega
def leafH (p : List UInt8) : List UInt8 := sha (0 :: p)
def nodeH (a b : List UInt8) : List UInt8 := sha (1 :: a ++ b)
def idB (s : Int) (r : List UInt8) : List UInt8 := 6 :: UInt8.ofInt s :: r
def idH (s : Int) (r : List UInt8) : List UInt8 := sha (idB s r)
def wordB (s : Int) (r : List UInt8) (n : Int) (msg : List UInt8) : List UInt8 := 5 :: UInt8.ofInt s :: r ++ be (UInt64.ofInt n) 4 ++ msg
def wordH (s : Int) (r : List UInt8) (n : Int) (msg : List UInt8) : List UInt8 := sha (wordB s r n msg)
theorem leafH_len (p : List UInt8) : (leafH p).length = 32 := rfl
theorem nodeH_len (a b : List UInt8) : (nodeH a b).length = 32 := rfl

theorem leaf_c {w : World} {ad : Ad} {cap : Nat} {p : List UInt8} (hp : Cells w ad (bc p)) (hmax : p.length ≤ 1073741824) :
    CallsV Try.prog 98 [.c (.slc ad p.length cap)] w fun en w' => en = .returned (V.agg (bc (leafH p))).den ∧ St w [] w' := by
  refine calls_in (tb := tb) (fn := Try.f98) Try.func98 rfl rfl rfl [(0, .c (.slc ad p.length cap))] rfl [] (St.refl _) ?_
  refine wc_seq ?_
  refine wc_region ?_
  refine wl_ef rfl (ef_alloc zero30 rfl rfl (fun o ho => ?_))
  refine wl_done ?_
  refine nk_code ?_
  refine wc_seq ?_
  refine wc_region ?_
  refine wl_ef rfl (ef_buildSlice (vs := [(0, .c (.u8 0))]) (l := [.u8 0]) tbok rfl zero5 rfl rfl rfl (by decide) rfl rfl (fun br hb => ?_))
  refine wl_q rfl rfl rfl (qt_p tbok rfl) ?_
  refine wl_ef rfl (ef_append tbok rfl el5 zero5 rfl rfl rfl .here (own_of rfl (by omega)) (newKey hb) (m := p.length) (news := bc p) (by rw [bc_len, Nat.mul_one]) (rd_cells hp (off_new (newKey hb) (off_new (newKey ho) off_nil))) (by omega) (by simp only [maxLen]; omega) (fun a2 c2 t2 hown2 hk2 hnn _ => ?_))
  refine wl_ef rfl (ef_pure (v := .agg (bc (leafH p))) (by kernel_rfl) rfl rfl (fun w1 h1 => sum_c (p := 0 :: p) (cells_own h1 .here) (lives_own h1 .here) (by rw [List.length_cons]; omega) (OwnS.le hown2) (by rw [List.length_cons]; omega)) ?_)
  refine wl_ef rfl (ef_store (cs' := bc (leafH p)) tbok rfl rfl rfl rfl (.there .here) rfl (Nat.le_of_ble_eq_true rfl) (spl_all rfl) ?_)
  refine wl_done ?_
  refine nk_code ?_
  refine wc_ret ?_
  try dsimp only
  exact fin1 rfl (rv_ag (l := bc (leafH p)) tbok rfl rfl rfl rfl (rs_lk (.there .here) at0)) (fun w' hw => ⟨rfl, hw.all (new_cons hk2 (new_cons (newKey ho) new_nil))⟩)

theorem leaf2_c {w : World} {ad : Ad} {cap : Nat} {p : List UInt8} (hp : Cells w ad (bc p)) (hmax : p.length ≤ 1073741823) :
    CallsV Try.prog 102 [.c (.slc ad p.length cap)] w fun en w' => en = .returned (V.agg (bc (leafH p))).den ∧ St w [] w' := by
  refine calls_in (tb := tb) (fn := Try.f102) Try.func102 rfl rfl rfl [(0, .c (.slc ad p.length cap))] rfl [] (St.refl _) ?_
  refine wc_seq ?_
  refine wc_region ?_
  refine wl_ef rfl (ef_alloc zero22 rfl rfl (fun o ho => ?_))
  refine wl_done ?_
  refine nk_code ?_
  refine wc_seq ?_
  refine wc_region ?_
  refine wl_ef rfl (ef_buildSlice (vs := [(0, .c (.u8 0))]) (l := [.u8 0]) tbok rfl zero5 rfl rfl rfl (by decide) rfl rfl (fun b0 hb0 => ?_))
  refine wl_q rfl rfl rfl (qt_p tbok rfl) ?_
  refine wl_done ?_
  refine nk_code ?_
  refine wc_seq ?_
  refine wc_seq ?_
  refine wc_region ?_
  refine wl_q rfl rfl rfl (qt_p tbok rfl) ?_
  refine wl_done ?_
  refine nk_code ?_
  refine wc_block ?_
  refine wc_loop (ι := Nat × Os) (fun i => i.1 ≤ p.length ∧ Oi (0 :: p.take i.1) i.2 ∧ (∀ k, i.2.1.key = some k → w.heap.size ≤ k)) (fun i => [(4, .c (.i64 (i.1 : Int))), (3, .c (.slc i.2.1 (1 + i.1) i.2.2.1)), (0, .c (.slc ad p.length cap)), (2, .c (.ptr (.at o 0)))]) (fun i => [ob (0 :: p.take i.1) i.2, ⟨.at o 0, bc (List.replicate 32 0), 22, (0, 0), []⟩]) (fun i => p.length - i.1) (0, .at b0 0, 1, []) ⟨Nat.zero_le _, own_of (n := 1) (cs := [C.u8 0]) rfl (by decide), newKey hb0⟩ (nk_start ⟨rfl, rfl, rfl, rfl, trivial⟩ (fun w hw => hw)) (fun ⟨i, x⟩ ⟨hi, hx, hk⟩ => ?_)
  replace hi : i ≤ p.length := hi
  replace hx : Oi (0 :: p.take i) x := hx
  replace hk : ∀ k, x.1.key = some k → w.heap.size ≤ k := hk
  have hl : (0 :: p.take i).length = 1 + i := (by rw [List.length_cons, List.length_take_of_le hi, Nat.add_comm])
  have hx2 : OwnS x.1 (1 + i) x.2.1 1 (bc (0 :: p.take i)) x.2.2 := (by have h2 := hx; unfold Oi at h2; rw [hl] at h2; exact h2)
  dsimp only
  refine wc_seq ?_
  refine wc_seq ?_
  refine wc_region ?_
  refine wl_q rfl rfl rfl (qt_p tbok rfl) ?_
  refine wl_q rfl rfl rfl (qt_p tbok rfl) ?_
  refine wl_q rfl rfl rfl (qt_len tbok rfl rfl) ?_
  refine wl_q rfl rfl rfl (qt_p tbok rfl) ?_
  refine wl_done ?_
  refine nk_code ?_
  refine wc_cond rfl (fun h9 => ?_) (fun h9 => ?_)
  · have hi' : i < p.length := (by have h0 := of_decide_eq_true h9; exact Int.ofNat_lt.1 h0)
    obtain ⟨pr, po, rfl⟩ := cells_nn hp (by rw [bc_len]; omega)
    refine wc_skip ?_
    refine nk_code ?_
    refine wc_seq ?_
    refine wc_block ?_
    refine wc_region ?_
    refine wl_q rfl rfl rfl (qt_p tbok rfl) ?_
    refine wl_q rfl rfl rfl (qt_p tbok rfl) ?_
    refine wl_q rfl rfl rfl (qt_p tbok rfl) ?_
    refine wl_q rfl rfl rfl (qt_p tbok rfl) ?_
    refine wl_q rfl rfl rfl (qt_load tbok rfl rfl rfl ((rs_cells hp (off_new hk (off_new (newKey ho) off_nil))).rc (bc_getD hi') (by omega))) ?_
    refine wl_ef rfl (ef_buildSlice (vs := [(0, .c (.u8 (p.getD i 0)))]) (l := [.u8 (p.getD i 0)]) tbok rfl zero5 rfl rfl rfl (by decide) rfl rfl (fun br hb => ?_))
    refine wl_ef rfl (ef_append tbok rfl el5 zero5 rfl rfl rfl (.there .here) hx2 hk (m := 1) (news := [.u8 (p.getD i 0)]) rfl (rs_lk .here at0) (by omega) (by simp only [maxLen]; omega) (fun a2 c2 t2 hown2 hk2 hnn _ => ?_))
    refine wl_q rfl rfl rfl (qt_p tbok rfl) ?_
    refine wl_done ?_
    refine nk_code ?_
    refine wc_region ?_
    refine wl_q rfl rfl rfl (qt_p tbok rfl) ?_
    refine wl_q rfl rfl rfl (qt_p tbok rfl) ?_
    refine wl_q rfl rfl rfl (qt_p tbok rfl) ?_
    refine wl_done ?_
    exact nk_round (i := (i, x)) (i + 1, a2, c2, t2) ⟨hi', by show Oi (0 :: p.take (i + 1)) (a2, c2, t2); rw [take_snoc hi', ← List.cons_append]; exact oi_app hown2 (by rw [hl]), hk2⟩ (by show p.length - (i + 1) < p.length - i; omega) ⟨rfl, rfl, rfl, rfl, trivial⟩ (fun w hw => by have h2 := Rm.sub_St hw (.there .here) (newKey hb); rw [bc_snoc, List.cons_append, ← take_snoc hi'] at h2; exact h2)
  · have he : i = p.length := (by have h0 := of_decide_eq_false h9; have h1 : ¬ i < p.length := fun h => h0 (Int.ofNat_lt.2 h); omega)
    have htk : p.take i = p := (by rw [he, List.take_length])
    rw [htk] at hx hx2 hl
    rw [htk]
    refine wc_exit rfl ?_
    refine nk_code ?_
    refine wc_seq ?_
    refine wc_region ?_
    refine wl_q rfl rfl rfl (qt_p tbok rfl) ?_
    rw [← hl]
    refine wl_ef rfl (ef_pure (v := .agg (bc (leafH p))) (by kernel_rfl) rfl rfl (fun w1 h1 => sum2_c (p := 0 :: p) (cells_own h1 .here) (by rw [List.length_cons]; omega)) ?_)
    refine wl_ef rfl (ef_store (cs' := bc (leafH p)) tbok rfl rfl rfl rfl (.there .here) rfl (Nat.le_of_ble_eq_true rfl) (spl_all rfl) ?_)
    refine wl_done ?_
    refine nk_code ?_
    refine wc_ret ?_
    try dsimp only
    exact fin1 rfl (rv_ag (l := bc (leafH p)) tbok rfl rfl rfl rfl (rs_lk (.there .here) at0)) (fun w' hw => ⟨rfl, hw.all (new_cons hk (new_cons (newKey ho) new_nil))⟩)

theorem node_c {w : World} {a b : List UInt8} (ha : a.length = 32) (hb : b.length = 32) :
    CallsV Try.prog 112 [.agg (bc a), .agg (bc b)] w fun en w' => en = .returned (V.agg (bc (nodeH a b))).den ∧ St w [] w' := by
  have hal : (bc a).length = 32 := by rw [bc_len, ha]
  have hbl : (bc b).length = 32 := by rw [bc_len, hb]
  refine calls_in (tb := tb) (fn := Try.f112) Try.func112 rfl rfl rfl [(0, .agg (bc a)), (1, .agg (bc b))] rfl [] (St.refl _) ?_
  refine wc_seq ?_
  refine wc_region ?_
  refine wl_ef rfl (ef_box rfl rfl rfl (fun ra hra => ?_))
  refine wl_ef rfl (ef_box rfl rfl rfl (fun rb hrb => ?_))
  refine wl_ef rfl (ef_alloc zero30 rfl rfl (fun o ho => ?_))
  refine wl_done ?_
  refine nk_code ?_
  refine wc_seq ?_
  refine wc_region ?_
  refine wl_ef rfl (ef_make tbok rfl el5 zero5 (l := 0) (c := 65) rfl rfl rfl (by omega) (by omega) (by simp only [maxLen]; omega) (fun pr hp => ?_))
  refine wl_ef rfl (ef_buildSlice (vs := [(0, .c (.u8 1))]) (l := [.u8 1]) tbok rfl zero5 rfl rfl rfl (by decide) rfl rfl (fun br hbr => ?_))
  refine wl_ef rfl (ef_append tbok rfl el5 zero5 rfl rfl rfl (.there .here) ⟨rfl, by omega, by simp only [maxLen]; omega, rfl, rfl⟩ (newKey hp) (m := 1) (news := [.u8 1]) rfl (rs_lk .here at0) (by omega) (by simp only [maxLen]; omega) (fun a1 c1 t1 hown1 hk1 hnn1 _ => ?_))
  refine wl_q rfl rfl rfl (qt_p tbok rfl) ?_
  refine wl_done ?_
  refine nk_code ?_
  refine wc_seq ?_
  refine wc_draw (s0 := [⟨.at o 0, bc (List.replicate 32 0), 30, (0, 0), []⟩, ⟨.at rb 0, bc b, 30, (0, 0), []⟩, ⟨.at ra 0, bc a, 30, (0, 0), []⟩]) 6 follows ?_
  refine wh_q 0 rfl (by kernel_rfl) rfl rfl rfl (qt_p tbok rfl) (fun w hw => (hw.tail hk1).tail (newKey hbr)) ?_
  first | refine wh_q 1 rfl (by kernel_rfl) rfl rfl rfl (qt_sl tbok rfl rfl rfl rfl) (fun w hw => (hw.tail hk1).tail (newKey hbr)) ?_ | refine wh_q 1 rfl (by kernel_rfl) rfl rfl rfl (qt_sa tbok rfl rfl rfl rfl) (fun w hw => (hw.tail hk1).tail (newKey hbr)) ?_
  first | refine wh_q 3 rfl (by kernel_rfl) rfl rfl rfl (qt_sl tbok rfl rfl rfl rfl) (fun w hw => (hw.tail hk1).tail (newKey hbr)) ?_ | refine wh_q 3 rfl (by kernel_rfl) rfl rfl rfl (qt_sa tbok rfl rfl rfl rfl) (fun w hw => (hw.tail hk1).tail (newKey hbr)) ?_
  refine wh_one 2 (by kernel_rfl) (wo_ef rfl rfl (ef_append tbok rfl el5 zero5 rfl rfl rfl .here hown1 hk1 (m := 32) (news := bc a) (by rw [hal]) (rs_lk (.there (.there (.there (.there .here)))) at0) (by omega) (by simp only [maxLen]; omega) (fun a2 c2 t2 hown2 hk2 hnn2 _ => ⟨fun w hw => (hw.tail hk2).tail (newKey hbr), ?_⟩)))
  refine wh_one 4 (by kernel_rfl) (wo_ef rfl rfl (ef_append tbok rfl el5 zero5 rfl rfl rfl .here hown2 hk2 (m := 32) (news := bc b) (by rw [hbl]) (rs_lk (.there (.there (.there .here))) at0) (by omega) (by simp only [maxLen]; omega) (fun a3 c3 t3 hown3 hk3 hnn3 _ => ⟨fun w hw => (hw.tail hk3).tail (newKey hbr), ?_⟩)))
  refine wh_one 5 (by kernel_rfl) (wo_ef rfl rfl (ef_pure (v := .agg (bc (nodeH a b))) (by kernel_rfl) rfl rfl (fun w1 h1 => sum_c (p := 1 :: a ++ b) (by have h2 := cells_own h1 .here; rw [bc_app]; exact h2) (lives_own h1 .here) (by simp [ha, hb]) (OwnS.le hown3) (by simp [ha, hb])) ⟨fun w hw => (hw.tail hk3).tail (newKey hbr), ?_⟩))
  refine wh_one 6 (by kernel_rfl) (wo_fin rfl rfl (ef_store (cs' := bc (nodeH a b)) tbok rfl rfl rfl rfl (.there (.there .here)) rfl (Nat.le_of_ble_eq_true rfl) (spl_all rfl) ?_))
  refine wh_done (by kernel_rfl) ?_
  refine nk_code ?_
  refine wc_ret ?_
  try dsimp only
  exact fin1 rfl (rv_ag (l := bc (nodeH a b)) tbok rfl rfl rfl rfl (rs_lk (.there (.there .here)) at0)) (fun w' hw => ⟨rfl, hw.all (new_cons hk3 (new_cons (newKey hbr) (new_cons (newKey ho) (new_cons (newKey hrb) (new_cons (newKey hra) new_nil)))))⟩)

theorem pair_c {w : World} {a b : List UInt8} (ha : a.length = 32) (hb : b.length = 32) :
    CallsV Try.prog 128 [.agg (bc a), .agg (bc b)] w fun en w' => ∃ x, en = .returned (ov (1 :: a ++ b) x).den ∧ Oi (1 :: a ++ b) x ∧ (∀ k, (ob (1 :: a ++ b) x).key = some k → w.heap.size ≤ k) ∧ St w [ob (1 :: a ++ b) x] w' := by
  refine calls_in (tb := tb) (fn := Try.f128) Try.func128 rfl rfl rfl [(0, .agg (bc a)), (1, .agg (bc b))] rfl [] (St.refl _) ?_
  refine wc_seq ?_
  refine wc_region ?_
  refine wl_ef rfl (ef_box rfl rfl rfl (fun ra hra => ?_))
  refine wl_ef rfl (ef_box rfl rfl rfl (fun rb hrb => ?_))
  refine wl_q rfl rfl rfl (qt_p tbok rfl) ?_
  refine wl_done ?_
  refine nk_code ?_
  refine wc_seq ?_
  refine wc_region ?_
  refine wl_ef rfl (ef_buildSlice (vs := [(0, .c (.u8 1))]) (l := [.u8 1]) tbok rfl zero5 rfl rfl rfl (by decide) rfl rfl (fun b0 hb0 => ?_))
  refine wl_q rfl rfl rfl (qt_p tbok rfl) ?_
  refine wl_done ?_
  refine nk_code ?_
  refine wc_seq ?_
  refine wc_seq ?_
  refine wc_region ?_
  refine wl_q rfl rfl rfl (qt_p tbok rfl) ?_
  refine wl_done ?_
  refine nk_code ?_
  refine wc_block ?_
  refine wc_loop (ι := Nat × Os) (fun i => i.1 ≤ 32 ∧ Oi ([1] ++ a.take i.1) i.2 ∧ (∀ k, i.2.1.key = some k → w.heap.size ≤ k)) (fun i => [(6, .c (.i64 (i.1 : Int))), (5, .c (.slc i.2.1 ([1] ++ a.take i.1).length i.2.2.1)), (2, .c (.ptr (.at ra 0))), (3, .c (.ptr (.at rb 0)))]) (fun i => [ob ([1] ++ a.take i.1) i.2, ⟨.at rb 0, bc b, 22, (0, 0), []⟩, ⟨.at ra 0, bc a, 22, (0, 0), []⟩]) (fun i => 32 - i.1) (0, .at b0 0, 1, []) ⟨Nat.zero_le _, own_of (n := 1) (cs := [C.u8 1]) rfl (by decide), newKey hb0⟩ (nk_start ⟨rfl, rfl, rfl, rfl, trivial⟩ (fun w hw => by show St _ [⟨.at b0 0, bc ([1] ++ a.take 0), 5, (0, 0), []⟩, _, _] w; rw [show bc ([1] ++ a.take 0) = [C.u8 1] from rfl]; exact hw)) (fun ⟨i, x⟩ ⟨hi, hx, hk⟩ => ?_)
  replace hi : i ≤ 32 := hi
  replace hx : Oi ([1] ++ a.take i) x := hx
  replace hk : ∀ k, x.1.key = some k → w.heap.size ≤ k := hk
  have hl : ([1] ++ a.take i).length ≤ 100 := (by simp [ha]; try omega)
  dsimp only
  refine wc_seq ?_
  refine wc_seq ?_
  refine wc_region ?_
  refine wl_q rfl rfl rfl (qt_p tbok rfl) ?_
  refine wl_q rfl rfl rfl (qt_p tbok rfl) ?_
  refine wl_done ?_
  refine nk_code ?_
  refine wc_cond rfl (fun h10 => ?_) (fun h10 => ?_)
  · have hi' : i < a.length := (by have h0 := of_decide_eq_true h10; omega)
    refine wc_skip ?_
    refine nk_code ?_
    refine wc_seq ?_
    refine wc_block ?_
    refine wc_region ?_
    refine wl_q rfl rfl rfl (qt_p tbok rfl) ?_
    refine wl_q rfl rfl rfl (qt_p tbok rfl) ?_
    refine wl_q rfl rfl rfl (qt_p tbok rfl) ?_
    refine wl_q rfl rfl rfl (qt_load (c := .u8 (a.getD i 0)) tbok rfl rfl rfl (rc_lk (.there (.there .here)) (by rw [show 0 + (i : Int).toNat * 1 = i by omega]; exact bc_getD hi'))) ?_
    refine wl_ef rfl (ef_buildSlice (vs := [(0, .c (.u8 (a.getD i 0)))]) (l := [.u8 (a.getD i 0)]) tbok rfl zero5 rfl rfl rfl (by decide) rfl rfl (fun br hb2 => ?_))
    refine wl_ef rfl (ef_append tbok rfl el5 zero5 rfl rfl rfl (.there .here) hx hk (m := 1) (news := [.u8 (a.getD i 0)]) rfl (rs_lk .here at0) (by omega) (by simp only [maxLen]; omega) (fun a2 c2 t2 hown2 hk2 hnn _ => ?_))
    refine wl_q rfl rfl rfl (qt_p tbok rfl) ?_
    refine wl_done ?_
    refine nk_code ?_
    refine wc_region ?_
    refine wl_q rfl rfl rfl (qt_p tbok rfl) ?_
    refine wl_q rfl rfl rfl (qt_p tbok rfl) ?_
    refine wl_q rfl rfl rfl (qt_p tbok rfl) ?_
    refine wl_done ?_
    exact nk_round (i := (i, x)) (i + 1, a2, c2, t2) ⟨by show i + 1 ≤ 32; omega, by show Oi ([1] ++ a.take (i + 1)) (a2, c2, t2); rw [take_snoc hi', ← List.append_assoc]; exact oi_app hown2 rfl, hk2⟩ (by show 32 - (i + 1) < 32 - i; omega) ⟨rfl, by show some (V.c (C.slc a2 (([1] ++ a.take i).length + 1) c2)) = some (V.c (C.slc a2 ([1] ++ a.take (i + 1)).length c2)); rw [take_len1 hi'], rfl, rfl, trivial⟩ (fun w hw => by have h2 := Rm.sub_St hw (.there .here) (newKey hb2); rw [bc_snoc, List.append_assoc, ← take_snoc hi'] at h2; exact h2)
  · have he : i = 32 := (by have h0 := of_decide_eq_false h10; omega)
    have htk : a.take i = a := List.take_of_length_le (by omega)
    rw [htk] at hx
    rw [htk]
    refine wc_exit rfl ?_
    refine nk_code ?_
    refine wc_seq ?_
    refine wc_seq ?_
    refine wc_region ?_
    refine wl_q rfl rfl rfl (qt_p tbok rfl) ?_
    refine wl_done ?_
    refine nk_code ?_
    refine wc_block ?_
    refine wc_loop (ι := Nat × Os) (fun i => i.1 ≤ 32 ∧ Oi ((1 :: a) ++ b.take i.1) i.2 ∧ (∀ k, i.2.1.key = some k → w.heap.size ≤ k)) (fun i => [(7, .c (.i64 (i.1 : Int))), (5, .c (.slc i.2.1 ((1 :: a) ++ b.take i.1).length i.2.2.1)), (2, .c (.ptr (.at ra 0))), (3, .c (.ptr (.at rb 0)))]) (fun i => [ob ((1 :: a) ++ b.take i.1) i.2, ⟨.at rb 0, bc b, 22, (0, 0), []⟩, ⟨.at ra 0, bc a, 22, (0, 0), []⟩]) (fun i => 32 - i.1) (0, x) ⟨Nat.zero_le _, by show Oi ((1 :: a) ++ b.take 0) x; rw [List.take_zero, List.append_nil]; exact hx, hk⟩ (nk_start ⟨rfl, by show _ = some (V.c (.slc x.1 ((1 :: a) ++ b.take 0).length x.2.1)); rw [List.take_zero, List.append_nil]; rfl, rfl, rfl, trivial⟩ (fun w hw => by rw [List.take_zero, List.append_nil]; exact hw)) (fun ⟨i, x⟩ ⟨hi, hx, hk⟩ => ?_)
    replace hi : i ≤ 32 := hi
    replace hx : Oi ((1 :: a) ++ b.take i) x := hx
    replace hk : ∀ k, x.1.key = some k → w.heap.size ≤ k := hk
    have hl : ((1 :: a) ++ b.take i).length ≤ 100 := (by simp [ha, hb]; try omega)
    dsimp only
    refine wc_seq ?_
    refine wc_seq ?_
    refine wc_region ?_
    refine wl_q rfl rfl rfl (qt_p tbok rfl) ?_
    refine wl_q rfl rfl rfl (qt_p tbok rfl) ?_
    refine wl_done ?_
    refine nk_code ?_
    refine wc_cond rfl (fun h20 => ?_) (fun h20 => ?_)
    · have hi' : i < b.length := (by have h0 := of_decide_eq_true h20; omega)
      refine wc_skip ?_
      refine nk_code ?_
      refine wc_seq ?_
      refine wc_block ?_
      refine wc_region ?_
      refine wl_q rfl rfl rfl (qt_p tbok rfl) ?_
      refine wl_q rfl rfl rfl (qt_p tbok rfl) ?_
      refine wl_q rfl rfl rfl (qt_p tbok rfl) ?_
      refine wl_q rfl rfl rfl (qt_load (c := .u8 (b.getD i 0)) tbok rfl rfl rfl (rc_lk (.there .here) (by rw [show 0 + (i : Int).toNat * 1 = i by omega]; exact bc_getD hi'))) ?_
      refine wl_ef rfl (ef_buildSlice (vs := [(0, .c (.u8 (b.getD i 0)))]) (l := [.u8 (b.getD i 0)]) tbok rfl zero5 rfl rfl rfl (by decide) rfl rfl (fun br hb2 => ?_))
      refine wl_ef rfl (ef_append tbok rfl el5 zero5 rfl rfl rfl (.there .here) hx hk (m := 1) (news := [.u8 (b.getD i 0)]) rfl (rs_lk .here at0) (by omega) (by simp only [maxLen]; omega) (fun a2 c2 t2 hown2 hk2 hnn _ => ?_))
      refine wl_q rfl rfl rfl (qt_p tbok rfl) ?_
      refine wl_done ?_
      refine nk_code ?_
      refine wc_region ?_
      refine wl_q rfl rfl rfl (qt_p tbok rfl) ?_
      refine wl_q rfl rfl rfl (qt_p tbok rfl) ?_
      refine wl_q rfl rfl rfl (qt_p tbok rfl) ?_
      refine wl_done ?_
      exact nk_round (i := (i, x)) (i + 1, a2, c2, t2) ⟨by show i + 1 ≤ 32; omega, by show Oi ((1 :: a) ++ b.take (i + 1)) (a2, c2, t2); rw [take_snoc hi', ← List.append_assoc]; exact oi_app hown2 rfl, hk2⟩ (by show 32 - (i + 1) < 32 - i; omega) ⟨rfl, by show some (V.c (C.slc a2 (((1 :: a) ++ b.take i).length + 1) c2)) = some (V.c (C.slc a2 ((1 :: a) ++ b.take (i + 1)).length c2)); rw [take_len1 hi'], rfl, rfl, trivial⟩ (fun w hw => by have h2 := Rm.sub_St hw (.there .here) (newKey hb2); rw [bc_snoc, List.append_assoc, ← take_snoc hi'] at h2; exact h2)
    · have he : i = 32 := (by have h0 := of_decide_eq_false h20; omega)
      have htk : b.take i = b := List.take_of_length_le (by omega)
      rw [htk] at hx
      rw [htk]
      refine wc_exit rfl ?_
      refine nk_code ?_
      refine wc_seq ?_
      refine wc_region ?_
      refine wl_q rfl rfl rfl (qt_p tbok rfl) ?_
      refine wl_q rfl rfl rfl (qt_p tbok rfl) ?_
      refine wl_done ?_
      refine nk_code ?_
      refine wc_ret ?_
      try dsimp only
      exact fin1 rfl (rv_tmp rfl) (fun w' hw => ⟨x, rfl, hx, hk, Rm.sub_St (Rm.sub_St hw (.there .here) (newKey hrb)) (.there .here) (newKey hra)⟩)

theorem node2_c {w : World} {a b : List UInt8} (ha : a.length = 32) (hb : b.length = 32) :
    CallsV Try.prog 121 [.agg (bc a), .agg (bc b)] w fun en w' => en = .returned (V.agg (bc (nodeH a b))).den ∧ St w [] w' := by
  have hal : (bc a).length = 32 := by rw [bc_len, ha]
  have hbl : (bc b).length = 32 := by rw [bc_len, hb]
  refine calls_in (tb := tb) (fn := Try.f121) Try.func121 rfl rfl rfl [(0, .agg (bc a)), (1, .agg (bc b))] rfl [] (St.refl _) ?_
  refine wc_seq ?_
  refine wc_region ?_
  refine wl_ef rfl (ef_box rfl rfl rfl (fun ra hra => ?_))
  refine wl_ef rfl (ef_box rfl rfl rfl (fun rb hrb => ?_))
  refine wl_ef rfl (ef_alloc zero22 rfl rfl (fun o ho => ?_))
  refine wl_done ?_
  refine nk_code ?_
  refine wc_seq ?_
  refine wc_region ?_
  refine wl_q rfl rfl rfl (qt_load_ag (l := bc a) tbok rfl rfl rfl hal (rs_lk (.there (.there .here)) at0)) ?_
  refine wl_q rfl rfl rfl (qt_load_ag (l := bc b) tbok rfl rfl rfl hbl (rs_lk (.there .here) at0)) ?_
  refine wl_ef rfl (ef_fresh (by kernel_rfl) rfl rfl (fun w1 h1 => pair_c ha hb) (fun x hx hk => ?_))
  refine wl_ef rfl (ef_pure (v := .agg (bc (nodeH a b))) (by kernel_rfl) rfl rfl (fun w1 h1 => sum2_c (p := 1 :: a ++ b) (cells_own h1 .here) (by simp [ha, hb])) ?_)
  refine wl_ef rfl (ef_store (cs' := bc (nodeH a b)) tbok rfl rfl rfl rfl (.there .here) rfl (Nat.le_of_ble_eq_true rfl) (spl_all rfl) ?_)
  refine wl_done ?_
  refine nk_code ?_
  refine wc_ret ?_
  try dsimp only
  exact fin1 rfl (rv_ag (l := bc (nodeH a b)) tbok rfl rfl rfl rfl (rs_lk (.there .here) at0)) (fun w' hw => ⟨rfl, hw.all (new_cons hk (new_cons (newKey ho) (new_cons (newKey hrb) (new_cons (newKey hra) new_nil))))⟩)
end Go.Proofs.Ytjhmcmadleabjaa

set_option maxRecDepth 100000
namespace Go.Proofs.Ytjhmcmadleabjaa
open Go Go.Hw Go.Proofs

theorem at1 {l : List C} {x : C} : ∀ (j : Nat) (c : C), l[j]? = some c → (x :: l)[1 + j]? = some c := fun j c h => by rw [Nat.add_comm, List.getElem?_cons_succ]; exact h
theorem idH_len (s : Int) (r : List UInt8) : (idH s r).length = 32 := rfl
theorem wordH_len (s : Int) (r : List UInt8) (n : Int) (msg : List UInt8) : (wordH s r n msg).length = 32 := rfl
theorem wordB_len {s : Int} {r : List UInt8} {n : Int} {msg : List UInt8} (hr : r.length = 32) : (wordB s r n msg).length = 38 + msg.length := by
  unfold wordB; simp [be_len, hr]; omega
theorem wordB_bc (s : Int) (r : List UInt8) (n : Int) (msg : List UInt8) : (([C.u8 5, C.u8 (UInt8.ofInt s)] ++ bc r) ++ bc (be (UInt64.ofInt n) 4)) ++ bc msg = bc (wordB s r n msg) := by
  simp [wordB, bc]

theorem rd_oi {w0 : World} {s : Hp} {l : List UInt8} {x : Os} {T : Nat} {fr : Nat × Nat} (h : Oi l x) (hl : Lk s ⟨x.1, bc l, T, fr, x.2.2⟩) : RdS w0 s x.1 (bc l) := by
  obtain ⟨a, c, t⟩ := x
  cases a with
  | nil => exact h.2.2.1
  | raw _ => exact h.elim
  | mp _ _ => exact h.elim
  | «at» r o =>
    have h1 : o = 0 := h.1
    subst h1
    exact rs_lk hl at0

theorem id_c {w : World} {s : Int} {r : List UInt8} (hr : r.length = 32) :
    CallsV Try.prog 19 [.agg (.i64 s :: bc r)] w fun en w' => en = .returned (V.agg (bc (idH s r))).den ∧ St w [] w' := by
  have hrl : (bc r).length = 32 := by rw [bc_len, hr]
  refine calls_in (tb := tb) (fn := Try.f19) Try.func19 rfl rfl rfl [(0, .agg (.i64 s :: bc r))] rfl [] (St.refl _) ?_
  refine wc_seq ?_
  refine wc_region ?_
  refine wl_ef rfl (ef_box rfl rfl rfl (fun b hb => ?_))
  refine wl_ef rfl (ef_alloc zero30 rfl rfl (fun o ho => ?_))
  refine wl_done ?_
  refine nk_code ?_
  refine wc_seq ?_
  refine wc_draw (s0 := [⟨.at o 0, bc (List.replicate 32 0), 30, (0, 0), []⟩, ⟨.at b 0, .i64 s :: bc r, 32, (0, 0), []⟩]) 8 follows ?_
  refine wh_q 0 rfl (by kernel_rfl) rfl rfl rfl (qt_p tbok rfl) (fun w hw => hw) ?_
  first | refine wh_q 1 rfl (by kernel_rfl) rfl rfl rfl (qt_l tbok rfl rfl rfl) (fun w hw => hw) ?_ | refine wh_q 1 rfl (by kernel_rfl) rfl rfl rfl (qt_la tbok rfl rfl rfl) (fun w hw => hw) ?_
  refine wh_q 2 rfl (by kernel_rfl) rfl rfl rfl (qt_p tbok rfl) (fun w hw => hw) ?_
  refine wh_q 4 rfl (by kernel_rfl) rfl rfl rfl (qt_p tbok rfl) (fun w hw => hw) ?_
  first | refine wh_q 5 rfl (by kernel_rfl) rfl rfl rfl (qt_sl tbok rfl rfl rfl rfl) (fun w hw => hw) ?_ | refine wh_q 5 rfl (by kernel_rfl) rfl rfl rfl (qt_sa tbok rfl rfl rfl rfl) (fun w hw => hw) ?_
  refine wh_one 3 (by kernel_rfl) (wo_ef rfl rfl (ef_buildSlice (vs := [(0, .c (.u8 6)), (1, .c (.u8 (UInt8.ofInt s)))]) (l := [.u8 6, .u8 (UInt8.ofInt s)]) tbok rfl zero5 rfl rfl rfl (by decide) rfl rfl (fun br hbr => ⟨fun w hw => hw.tail (newKey hbr), ?_⟩)))
  refine wh_one 6 (by kernel_rfl) (wo_ef rfl rfl (ef_append tbok rfl el5 zero5 rfl rfl rfl .here (own_of rfl (by omega)) (newKey hbr) (m := 32) (news := bc r) (by rw [hrl]) (rs_lk (.there (.there .here)) at1) (by omega) (by simp only [maxLen]; omega) (fun a2 c2 t2 hown2 hk2 hnn2 _ => ⟨fun w hw => hw.tail hk2, ?_⟩)))
  refine wh_one 7 (by kernel_rfl) (wo_ef rfl rfl (ef_pure (v := .agg (bc (idH s r))) (by kernel_rfl) rfl rfl (fun w1 h1 => sum_c (p := idB s r) (cells_own h1 .here) (lives_own h1 .here) (by simp [idB, hr]) (OwnS.le hown2) (by simp [idB, hr])) ⟨fun w hw => hw.tail hk2, ?_⟩))
  refine wh_one 8 (by kernel_rfl) (wo_fin rfl rfl (ef_store (cs' := bc (idH s r)) tbok rfl rfl rfl rfl (.there .here) rfl (Nat.le_of_ble_eq_true rfl) (spl_all rfl) ?_))
  refine wh_done (by kernel_rfl) ?_
  refine nk_code ?_
  refine wc_ret ?_
  try dsimp only
  exact fin1 rfl (rv_ag (l := bc (idH s r)) tbok rfl rfl rfl rfl (rs_lk (.there .here) at0)) (fun w' hw => ⟨rfl, hw.all (new_cons hk2 (new_cons (newKey ho) (new_cons (newKey hb) new_nil)))⟩)

theorem id2_c {w : World} {s : Int} {r : List UInt8} (hr : r.length = 32) :
    CallsV Try.prog 20 [.agg (.i64 s :: bc r)] w fun en w' => en = .returned (V.agg (bc (idH s r))).den ∧ St w [] w' := by
  refine calls_in (tb := tb) (fn := Try.f20) Try.func20 rfl rfl rfl [(0, .agg (.i64 s :: bc r))] rfl [] (St.refl _) ?_
  refine wc_seq ?_
  refine wc_region ?_
  refine wl_ef rfl (ef_box rfl rfl rfl (fun b hb => ?_))
  refine wl_ef rfl (ef_alloc zero22 rfl rfl (fun o ho => ?_))
  refine wl_done ?_
  refine nk_code ?_
  refine wc_seq ?_
  refine wc_region ?_
  refine wl_q rfl rfl rfl (qt_p tbok rfl) ?_
  first | refine wl_q rfl rfl rfl (qt_l tbok rfl rfl rfl) ?_ | refine wl_q rfl rfl rfl (qt_la tbok rfl rfl rfl) ?_
  refine wl_q rfl rfl rfl (qt_p tbok rfl) ?_
  refine wl_ef rfl (ef_buildSlice (vs := [(0, .c (.u8 6)), (1, .c (.u8 (UInt8.ofInt s)))]) (l := [.u8 6, .u8 (UInt8.ofInt s)]) tbok rfl zero5 rfl rfl rfl (by decide) rfl rfl (fun b0 hb0 => ?_))
  refine wl_q rfl rfl rfl (qt_p tbok rfl) ?_
  refine wl_done ?_
  refine nk_code ?_
  refine wc_seq ?_
  refine wc_seq ?_
  refine wc_region ?_
  refine wl_q rfl rfl rfl (qt_p tbok rfl) ?_
  refine wl_done ?_
  refine nk_code ?_
  refine wc_block ?_
  refine wc_loop (ι := Nat × Os) (fun i => i.1 ≤ 32 ∧ Oi ([6, UInt8.ofInt s] ++ r.take i.1) i.2 ∧ (∀ k, i.2.1.key = some k → w.heap.size ≤ k)) (fun i => [(4, .c (.i64 (i.1 : Int))), (3, .c (.slc i.2.1 ([6, UInt8.ofInt s] ++ r.take i.1).length i.2.2.1)), (1, .c (.ptr (.at b 0))), (2, .c (.ptr (.at o 0)))]) (fun i => [ob ([6, UInt8.ofInt s] ++ r.take i.1) i.2, ⟨.at o 0, bc (List.replicate 32 0), 22, (0, 0), []⟩, ⟨.at b 0, .i64 s :: bc r, 24, (0, 0), []⟩]) (fun i => 32 - i.1) (0, .at b0 0, 2, []) ⟨Nat.zero_le _, own_of (n := 2) (cs := [C.u8 6, C.u8 (UInt8.ofInt s)]) rfl (by decide), newKey hb0⟩ (nk_start ⟨rfl, rfl, rfl, rfl, trivial⟩ (fun w hw => by show St _ [⟨.at b0 0, bc ([6, UInt8.ofInt s] ++ r.take 0), 5, (0, 0), []⟩, _, _] w; rw [show bc ([6, UInt8.ofInt s] ++ r.take 0) = [C.u8 6, C.u8 (UInt8.ofInt s)] from rfl]; exact hw)) (fun ⟨i, x⟩ ⟨hi, hx, hk⟩ => ?_)
  replace hi : i ≤ 32 := hi
  replace hx : Oi ([6, UInt8.ofInt s] ++ r.take i) x := hx
  replace hk : ∀ k, x.1.key = some k → w.heap.size ≤ k := hk
  have hl : ([6, UInt8.ofInt s] ++ r.take i).length ≤ 100 := (by simp [hr]; try omega)
  dsimp only
  refine wc_seq ?_
  refine wc_seq ?_
  refine wc_region ?_
  refine wl_q rfl rfl rfl (qt_p tbok rfl) ?_
  refine wl_q rfl rfl rfl (qt_p tbok rfl) ?_
  refine wl_done ?_
  refine nk_code ?_
  refine wc_cond rfl (fun h10 => ?_) (fun h10 => ?_)
  · have hi' : i < r.length := (by have h0 := of_decide_eq_true h10; omega)
    refine wc_skip ?_
    refine nk_code ?_
    refine wc_seq ?_
    refine wc_block ?_
    refine wc_region ?_
    refine wl_q rfl rfl rfl (qt_p tbok rfl) ?_
    refine wl_q rfl rfl rfl (qt_p tbok rfl) ?_
    refine wl_q rfl rfl rfl (qt_p tbok rfl) ?_
    refine wl_q rfl rfl rfl (qt_p tbok rfl) ?_
    refine wl_q rfl rfl rfl (qt_load (c := .u8 (r.getD i 0)) tbok rfl rfl rfl (rc_lk (.there (.there .here)) (by rw [show 0 + 1 + (i : Int).toNat * 1 = i + 1 by omega]; exact bc_getD hi'))) ?_
    refine wl_ef rfl (ef_buildSlice (vs := [(0, .c (.u8 (r.getD i 0)))]) (l := [.u8 (r.getD i 0)]) tbok rfl zero5 rfl rfl rfl (by decide) rfl rfl (fun br hb2 => ?_))
    refine wl_ef rfl (ef_append tbok rfl el5 zero5 rfl rfl rfl (.there .here) hx hk (m := 1) (news := [.u8 (r.getD i 0)]) rfl (rs_lk .here at0) (by omega) (by simp only [maxLen]; omega) (fun a2 c2 t2 hown2 hk2 hnn _ => ?_))
    refine wl_q rfl rfl rfl (qt_p tbok rfl) ?_
    refine wl_done ?_
    refine nk_code ?_
    refine wc_region ?_
    refine wl_q rfl rfl rfl (qt_p tbok rfl) ?_
    refine wl_q rfl rfl rfl (qt_p tbok rfl) ?_
    refine wl_q rfl rfl rfl (qt_p tbok rfl) ?_
    refine wl_done ?_
    exact nk_round (i := (i, x)) (i + 1, a2, c2, t2) ⟨by show i + 1 ≤ 32; omega, by show Oi ([6, UInt8.ofInt s] ++ r.take (i + 1)) (a2, c2, t2); rw [take_snoc hi', ← List.append_assoc]; exact oi_app hown2 rfl, hk2⟩ (by show 32 - (i + 1) < 32 - i; omega) ⟨rfl, by show some (V.c (C.slc a2 (([6, UInt8.ofInt s] ++ r.take i).length + 1) c2)) = some (V.c (C.slc a2 ([6, UInt8.ofInt s] ++ r.take (i + 1)).length c2)); rw [take_len1 hi'], rfl, rfl, trivial⟩ (fun w hw => by have h2 := Rm.sub_St hw (.there .here) (newKey hb2); rw [bc_snoc, List.append_assoc, ← take_snoc hi'] at h2; exact h2)
  · have he : i = 32 := (by have h0 := of_decide_eq_false h10; omega)
    have htk : r.take i = r := List.take_of_length_le (by omega)
    rw [htk] at hx
    rw [htk]
    refine wc_exit rfl ?_
    refine nk_code ?_
    refine wc_seq ?_
    refine wc_region ?_
    refine wl_q rfl rfl rfl (qt_p tbok rfl) ?_
    refine wl_ef rfl (ef_pure (v := .agg (bc (idH s r))) (by kernel_rfl) rfl rfl (fun w1 h1 => sum2_c (p := idB s r) (cells_own h1 .here) (by simp [idB, hr])) ?_)
    refine wl_ef rfl (ef_store (cs' := bc (idH s r)) tbok rfl rfl rfl rfl (.there .here) rfl (Nat.le_of_ble_eq_true rfl) (spl_all rfl) ?_)
    refine wl_done ?_
    refine nk_code ?_
    refine wc_ret ?_
    try dsimp only
    exact fin1 rfl (rv_ag (l := bc (idH s r)) tbok rfl rfl rfl rfl (rs_lk (.there .here) at0)) (fun w' hw => ⟨rfl, hw.all (new_cons hk (new_cons (newKey ho) (new_cons (newKey hb) new_nil)))⟩)

theorem kleaf_c {w : World} {r : List UInt8} (hr : r.length = 32) :
    CallsV Try.prog 65 [.agg (bc r)] w fun en w' => en = .returned (V.agg (bc (leafH r))).den ∧ St w [] w' := by
  refine calls_in (tb := tb) (fn := Try.f65) Try.func65 rfl rfl rfl [(0, .agg (bc r))] rfl [] (St.refl _) ?_
  refine wc_seq ?_
  refine wc_region ?_
  refine wl_ef rfl (ef_box rfl rfl rfl (fun b hb => ?_))
  refine wl_ef rfl (ef_alloc zero30 rfl rfl (fun o ho => ?_))
  refine wl_done ?_
  refine nk_code ?_
  refine wc_seq ?_
  refine wc_region ?_
  first | refine wl_q rfl rfl rfl (qt_sl tbok rfl rfl rfl rfl) ?_ | refine wl_q rfl rfl rfl (qt_sa tbok rfl rfl rfl rfl) ?_
  refine wl_as (v' := .c (.slc (.at b 0) r.length 32)) (by rw [hr]; rfl) ?_
  refine wl_ef rfl (ef_pure (v := .agg (bc (leafH r))) (by kernel_rfl) rfl rfl (fun w1 h1 => leaf_c (cells_own h1 (.there .here)) (by omega)) ?_)
  refine wl_ef rfl (ef_store (cs' := bc (leafH r)) tbok rfl rfl rfl rfl .here rfl (Nat.le_of_ble_eq_true rfl) (spl_all rfl) ?_)
  refine wl_done ?_
  refine nk_code ?_
  refine wc_ret ?_
  try dsimp only
  exact fin1 rfl (rv_ag (l := bc (leafH r)) tbok rfl rfl rfl rfl (rs_lk .here at0)) (fun w' hw => ⟨rfl, hw.all (new_cons (newKey ho) (new_cons (newKey hb) new_nil))⟩)
theorem kleaf2_c {w : World} {r : List UInt8} (hr : r.length = 32) :
    CallsV Try.prog 69 [.agg (bc r)] w fun en w' => en = .returned (V.agg (bc (leafH r))).den ∧ St w [] w' := by
  refine calls_in (tb := tb) (fn := Try.f69) Try.func69 rfl rfl rfl [(0, .agg (bc r))] rfl [] (St.refl _) ?_
  refine wc_seq ?_
  refine wc_region ?_
  refine wl_ef rfl (ef_box rfl rfl rfl (fun b hb => ?_))
  refine wl_ef rfl (ef_alloc zero22 rfl rfl (fun o ho => ?_))
  refine wl_done ?_
  refine nk_code ?_
  refine wc_seq ?_
  refine wc_region ?_
  first | refine wl_q rfl rfl rfl (qt_sl tbok rfl rfl rfl rfl) ?_ | refine wl_q rfl rfl rfl (qt_sa tbok rfl rfl rfl rfl) ?_
  refine wl_as (v' := .c (.slc (.at b 0) r.length 32)) (by rw [hr]; rfl) ?_
  refine wl_ef rfl (ef_pure (v := .agg (bc (leafH r))) (by kernel_rfl) rfl rfl (fun w1 h1 => leaf2_c (cells_own h1 (.there .here)) (by omega)) ?_)
  refine wl_ef rfl (ef_store (cs' := bc (leafH r)) tbok rfl rfl rfl rfl .here rfl (Nat.le_of_ble_eq_true rfl) (spl_all rfl) ?_)
  refine wl_done ?_
  refine nk_code ?_
  refine wc_ret ?_
  try dsimp only
  exact fin1 rfl (rv_ag (l := bc (leafH r)) tbok rfl rfl rfl rfl (rs_lk .here at0)) (fun w' hw => ⟨rfl, hw.all (new_cons (newKey ho) (new_cons (newKey hb) new_nil))⟩)

theorem word_c {w : World} {s n : Int} {r msg : List UInt8} {ma : Ad} {mc : Nat} (hr : r.length = 32) (hm : Cells w ma (bc msg)) (hmax : msg.length ≤ 1073741824) :
    CallsV Try.prog 63 [.agg (.i64 s :: bc r), .c (.i64 n), .c (.slc ma msg.length mc)] w fun en w' => en = .returned (V.agg (bc (wordH s r n msg))).den ∧ St w [] w' := by
  have hrl : (bc r).length = 32 := by rw [bc_len, hr]
  refine calls_in (tb := tb) (fn := Try.f63) Try.func63 rfl rfl rfl [(0, .agg (.i64 s :: bc r)), (1, .c (.i64 n)), (2, .c (.slc ma msg.length mc))] rfl [] (St.refl _) ?_
  refine wc_seq ?_
  refine wc_region ?_
  refine wl_ef rfl (ef_box rfl rfl rfl (fun b hb => ?_))
  refine wl_ef rfl (ef_alloc zero30 rfl rfl (fun o ho => ?_))
  refine wl_done ?_
  refine nk_code ?_
  refine wc_seq ?_
  refine wc_draw (s0 := [⟨.at o 0, bc (List.replicate 32 0), 30, (0, 0), []⟩, ⟨.at b 0, .i64 s :: bc r, 32, (0, 0), []⟩]) 8 follows ?_
  refine wh_q 0 rfl (by kernel_rfl) rfl rfl rfl (qt_p tbok rfl) (fun w hw => hw) ?_
  first | refine wh_q 1 rfl (by kernel_rfl) rfl rfl rfl (qt_l tbok rfl rfl rfl) (fun w hw => hw) ?_ | refine wh_q 1 rfl (by kernel_rfl) rfl rfl rfl (qt_la tbok rfl rfl rfl) (fun w hw => hw) ?_
  refine wh_q 2 rfl (by kernel_rfl) rfl rfl rfl (qt_p tbok rfl) (fun w hw => hw) ?_
  refine wh_q 4 rfl (by kernel_rfl) rfl rfl rfl (qt_p tbok rfl) (fun w hw => hw) ?_
  first | refine wh_q 5 rfl (by kernel_rfl) rfl rfl rfl (qt_sl tbok rfl rfl rfl rfl) (fun w hw => hw) ?_ | refine wh_q 5 rfl (by kernel_rfl) rfl rfl rfl (qt_sa tbok rfl rfl rfl rfl) (fun w hw => hw) ?_
  refine wh_one 3 (by kernel_rfl) (wo_ef rfl rfl (ef_buildSlice (vs := [(0, .c (.u8 5)), (1, .c (.u8 (UInt8.ofInt s)))]) (l := [.u8 5, .u8 (UInt8.ofInt s)]) tbok rfl zero5 rfl rfl rfl (by decide) rfl rfl (fun br hbr => ⟨fun w hw => hw.tail (newKey hbr), ?_⟩)))
  refine wh_one 6 (by kernel_rfl) (wo_ef rfl rfl (ef_append tbok rfl el5 zero5 rfl rfl rfl .here (own_of rfl (by omega)) (newKey hbr) (m := 32) (news := bc r) (by rw [hrl]) (rs_lk (.there (.there .here)) at1) (by omega) (by simp only [maxLen]; omega) (fun a2 c2 t2 hown2 hk2 hnn2 _ => ⟨fun w hw => hw.tail hk2, ?_⟩)))
  refine wh_q 7 rfl (by kernel_rfl) rfl rfl rfl (qt_p tbok rfl) (fun w hw => hw.tail hk2) ?_
  refine wh_done (by kernel_rfl) ?_
  refine nk_code ?_
  refine wc_seq ?_
  refine wc_region ?_
  refine wl_q rfl rfl rfl (qt_p tbok rfl) ?_
  refine wl_q rfl rfl rfl (qt_p tbok rfl) ?_
  refine wl_q rfl rfl rfl (qt_p tbok rfl) ?_
  refine wl_ef rfl (ef_fresh (by kernel_rfl) rfl rfl (fun w1 h1 => put81_c _ 4 (by omega) (by omega) w1) (fun q _ hq => ?_))
  refine wl_ef rfl (ef_append tbok rfl el5 zero5 rfl rfl rfl (.there .here) hown2 hk2 (m := 4) (news := bc (be (UInt64.ofInt n) 4)) rfl (rs_lk .here at0) (by omega) (by simp only [maxLen]; omega) (fun a3 c3 t3 hown3 hk3 hnn3 _ => ?_))
  refine wl_q rfl rfl rfl (qt_p tbok rfl) ?_
  refine wl_done ?_
  refine nk_code ?_
  refine wc_seq ?_
  refine wc_region ?_
  refine wl_q rfl rfl rfl (qt_p tbok rfl) ?_
  refine wl_q rfl rfl rfl (qt_p tbok rfl) ?_
  refine wl_ef rfl (ef_append tbok rfl el5 zero5 rfl rfl rfl .here hown3 hk3 (m := msg.length) (news := bc msg) (by rw [bc_len, Nat.mul_one]) (rd_cells hm (off_new hk3 (off_new hq (off_new (newKey ho) (off_new (newKey hb) off_nil))))) (by omega) (by simp only [maxLen]; omega) (fun a4 c4 t4 hown4 hk4 hnn4 _ => ?_))
  refine wl_ef rfl (ef_pure (v := .agg (bc (wordH s r n msg))) (by kernel_rfl) rfl rfl (fun w1 h1 => sum_c (p := wordB s r n msg) (by rw [← wordB_bc]; exact cells_own h1 .here) (lives_own h1 .here) (by rw [wordB_len hr]) (OwnS.le hown4) (by rw [wordB_len hr]; omega)) ?_)
  refine wl_ef rfl (ef_store (cs' := bc (wordH s r n msg)) tbok rfl rfl rfl rfl (.there (.there .here)) rfl (Nat.le_of_ble_eq_true rfl) (spl_all rfl) ?_)
  refine wl_done ?_
  refine nk_code ?_
  refine wc_ret ?_
  try dsimp only
  exact fin1 rfl (rv_ag (l := bc (wordH s r n msg)) tbok rfl rfl rfl rfl (rs_lk (.there (.there .here)) at0)) (fun w' hw => ⟨rfl, hw.all (new_cons hk4 (new_cons hq (new_cons (newKey ho) (new_cons (newKey hb) new_nil))))⟩)

theorem word2_c {w : World} {s n : Int} {r msg : List UInt8} {ma : Ad} {mc : Nat} (hr : r.length = 32) (hm : Cells w ma (bc msg)) (hmax : msg.length ≤ 1073741000) :
    CallsV Try.prog 67 [.agg (.i64 s :: bc r), .c (.i64 n), .c (.slc ma msg.length mc)] w fun en w' => en = .returned (V.agg (bc (wordH s r n msg))).den ∧ St w [] w' := by
  refine calls_in (tb := tb) (fn := Try.f67) Try.func67 rfl rfl rfl [(0, .agg (.i64 s :: bc r)), (1, .c (.i64 n)), (2, .c (.slc ma msg.length mc))] rfl [] (St.refl _) ?_
  refine wc_seq ?_
  refine wc_region ?_
  refine wl_ef rfl (ef_box rfl rfl rfl (fun b hb => ?_))
  refine wl_ef rfl (ef_alloc zero22 rfl rfl (fun o ho => ?_))
  refine wl_done ?_
  refine nk_code ?_
  refine wc_seq ?_
  refine wc_region ?_
  refine wl_q rfl rfl rfl (qt_p tbok rfl) ?_
  first | refine wl_q rfl rfl rfl (qt_l tbok rfl rfl rfl) ?_ | refine wl_q rfl rfl rfl (qt_la tbok rfl rfl rfl) ?_
  refine wl_q rfl rfl rfl (qt_p tbok rfl) ?_
  refine wl_ef rfl (ef_buildSlice (vs := [(0, .c (.u8 5)), (1, .c (.u8 (UInt8.ofInt s)))]) (l := [.u8 5, .u8 (UInt8.ofInt s)]) tbok rfl zero5 rfl rfl rfl (by decide) rfl rfl (fun b0 hb0 => ?_))
  refine wl_q rfl rfl rfl (qt_p tbok rfl) ?_
  refine wl_done ?_
  refine nk_code ?_
  refine wc_seq ?_
  refine wc_seq ?_
  refine wc_region ?_
  refine wl_q rfl rfl rfl (qt_p tbok rfl) ?_
  refine wl_done ?_
  refine nk_code ?_
  refine wc_block ?_
  refine wc_loop (ι := Nat × Os) (fun i => i.1 ≤ 32 ∧ Oi ([5, UInt8.ofInt s] ++ r.take i.1) i.2 ∧ (∀ k, i.2.1.key = some k → w.heap.size ≤ k)) (fun i => [(8, .c (.i64 (i.1 : Int))), (7, .c (.slc i.2.1 ([5, UInt8.ofInt s] ++ r.take i.1).length i.2.2.1)), (3, .c (.ptr (.at b 0))), (6, .c (.ptr (.at o 0))), (1, .c (.i64 n)), (2, .c (.slc ma msg.length mc))]) (fun i => [ob ([5, UInt8.ofInt s] ++ r.take i.1) i.2, ⟨.at o 0, bc (List.replicate 32 0), 22, (0, 0), []⟩, ⟨.at b 0, .i64 s :: bc r, 24, (0, 0), []⟩]) (fun i => 32 - i.1) (0, .at b0 0, 2, []) ⟨Nat.zero_le _, own_of (n := 2) (cs := [C.u8 5, C.u8 (UInt8.ofInt s)]) rfl (by decide), newKey hb0⟩ (nk_start ⟨rfl, rfl, rfl, rfl, rfl, rfl, trivial⟩ (fun w hw => by show St _ [⟨.at b0 0, bc ([5, UInt8.ofInt s] ++ r.take 0), 5, (0, 0), []⟩, _, _] w; rw [show bc ([5, UInt8.ofInt s] ++ r.take 0) = [C.u8 5, C.u8 (UInt8.ofInt s)] from rfl]; exact hw)) (fun ⟨i, x⟩ ⟨hi, hx, hk⟩ => ?_)
  replace hi : i ≤ 32 := hi
  replace hx : Oi ([5, UInt8.ofInt s] ++ r.take i) x := hx
  replace hk : ∀ k, x.1.key = some k → w.heap.size ≤ k := hk
  have hl : ([5, UInt8.ofInt s] ++ r.take i).length ≤ 100 := (by simp [hr]; try omega)
  dsimp only
  refine wc_seq ?_
  refine wc_seq ?_
  refine wc_region ?_
  refine wl_q rfl rfl rfl (qt_p tbok rfl) ?_
  refine wl_q rfl rfl rfl (qt_p tbok rfl) ?_
  refine wl_done ?_
  refine nk_code ?_
  refine wc_cond rfl (fun h14 => ?_) (fun h14 => ?_)
  · have hi' : i < r.length := (by have h0 := of_decide_eq_true h14; omega)
    refine wc_skip ?_
    refine nk_code ?_
    refine wc_seq ?_
    refine wc_block ?_
    refine wc_region ?_
    refine wl_q rfl rfl rfl (qt_p tbok rfl) ?_
    refine wl_q rfl rfl rfl (qt_p tbok rfl) ?_
    refine wl_q rfl rfl rfl (qt_p tbok rfl) ?_
    refine wl_q rfl rfl rfl (qt_p tbok rfl) ?_
    refine wl_q rfl rfl rfl (qt_load (c := .u8 (r.getD i 0)) tbok rfl rfl rfl (rc_lk (.there (.there .here)) (by rw [show 0 + 1 + (i : Int).toNat * 1 = i + 1 by omega]; exact bc_getD hi'))) ?_
    refine wl_ef rfl (ef_buildSlice (vs := [(0, .c (.u8 (r.getD i 0)))]) (l := [.u8 (r.getD i 0)]) tbok rfl zero5 rfl rfl rfl (by decide) rfl rfl (fun br hb2 => ?_))
    refine wl_ef rfl (ef_append tbok rfl el5 zero5 rfl rfl rfl (.there .here) hx hk (m := 1) (news := [.u8 (r.getD i 0)]) rfl (rs_lk .here at0) (by omega) (by simp only [maxLen]; omega) (fun a2 c2 t2 hown2 hk2 hnn _ => ?_))
    refine wl_q rfl rfl rfl (qt_p tbok rfl) ?_
    refine wl_done ?_
    refine nk_code ?_
    refine wc_region ?_
    refine wl_q rfl rfl rfl (qt_p tbok rfl) ?_
    refine wl_q rfl rfl rfl (qt_p tbok rfl) ?_
    refine wl_q rfl rfl rfl (qt_p tbok rfl) ?_
    refine wl_done ?_
    exact nk_round (i := (i, x)) (i + 1, a2, c2, t2) ⟨by show i + 1 ≤ 32; omega, by show Oi ([5, UInt8.ofInt s] ++ r.take (i + 1)) (a2, c2, t2); rw [take_snoc hi', ← List.append_assoc]; exact oi_app hown2 rfl, hk2⟩ (by show 32 - (i + 1) < 32 - i; omega) ⟨rfl, by show some (V.c (C.slc a2 (([5, UInt8.ofInt s] ++ r.take i).length + 1) c2)) = some (V.c (C.slc a2 ([5, UInt8.ofInt s] ++ r.take (i + 1)).length c2)); rw [take_len1 hi'], rfl, rfl, rfl, rfl, trivial⟩ (fun w hw => by have h2 := Rm.sub_St hw (.there .here) (newKey hb2); rw [bc_snoc, List.append_assoc, ← take_snoc hi'] at h2; exact h2)
  · have he : i = 32 := (by have h0 := of_decide_eq_false h14; omega)
    have htk : r.take i = r := List.take_of_length_le (by omega)
    rw [htk] at hx
    rw [htk]
    refine wc_exit rfl ?_
    refine nk_code ?_
    refine wc_seq ?_
    refine wc_region ?_
    refine wl_q rfl rfl rfl (qt_p tbok rfl) ?_
    refine wl_q rfl rfl rfl (qt_p tbok rfl) ?_
    refine wl_q rfl rfl rfl (qt_p tbok rfl) ?_
    refine wl_ef rfl (ef_fresh (by kernel_rfl) rfl rfl (fun w1 h1 => put83_c _ 4 (by omega) (by omega) w1) (fun q hq1 hq => ?_))
    refine wl_ef rfl (ef_append tbok rfl el5 zero5 rfl rfl rfl (.there .here) hx hk (m := 4) (news := bc (be (UInt64.ofInt n) 4)) rfl (rd_oi hq1 .here) (by simp [hr]) (by simp [hr, maxLen]) (fun a3 c3 t3 hown3 hk3 hnn3 _ => ?_))
    refine wl_q rfl rfl rfl (qt_p tbok rfl) ?_
    refine wl_done ?_
    refine nk_code ?_
    refine wc_seq ?_
    refine wc_region ?_
    refine wl_q rfl rfl rfl (qt_p tbok rfl) ?_
    refine wl_q rfl rfl rfl (qt_p tbok rfl) ?_
    refine wl_ef rfl (ef_append tbok rfl el5 zero5 rfl rfl rfl .here hown3 hk3 (m := msg.length) (news := bc msg) (by rw [bc_len, Nat.mul_one]) (rd_cells hm (off_new hk3 (off_new hq (off_new (newKey ho) (off_new (newKey hb) off_nil))))) (by simp [hr]; omega) (by simp [hr, maxLen]; omega) (fun a4 c4 t4 hown4 hk4 hnn4 _ => ?_))
    have hlen : ([5, UInt8.ofInt s] ++ r).length + 4 + msg.length = (wordB s r n msg).length := (by rw [wordB_len hr]; simp [hr])
    rw [hlen]
    refine wl_ef rfl (ef_pure (v := .agg (bc (wordH s r n msg))) (by kernel_rfl) rfl rfl (fun w1 h1 => sum2_c (p := wordB s r n msg) (by rw [← wordB_bc]; exact cells_own h1 .here) (by rw [wordB_len hr]; omega)) ?_)
    refine wl_ef rfl (ef_store (cs' := bc (wordH s r n msg)) tbok rfl rfl rfl rfl (.there (.there .here)) rfl (Nat.le_of_ble_eq_true rfl) (spl_all rfl) ?_)
    refine wl_done ?_
    refine nk_code ?_
    refine wc_ret ?_
    try dsimp only
    exact fin1 rfl (rv_ag (l := bc (wordH s r n msg)) tbok rfl rfl rfl rfl (rs_lk (.there (.there .here)) at0)) (fun w' hw => ⟨rfl, hw.all (new_cons hk4 (new_cons hq (new_cons (newKey ho) (new_cons (newKey hb) new_nil))))⟩)
end Go.Proofs.Ytjhmcmadleabjaa
