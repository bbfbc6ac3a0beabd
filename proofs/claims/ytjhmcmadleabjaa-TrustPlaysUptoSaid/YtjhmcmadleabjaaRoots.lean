/- Roots: whether they may be, their copies, their bytes, compared: both sides are the same functions. -/
import Derived.Test.YtjhmcmadleabjaaRoleMarks
set_option linter.unusedVariables false
set_option maxRecDepth 100000
namespace Go.Hw
theorem RdS.tail {w0 : World} {s : Hp} {b : Blk} {ad : Ad} {l : List C} (h : RdS w0 s ad l) (hb : ∀ k, b.key = Option.some k → w0.heap.size ≤ k) : RdS w0 (b :: s) ad l := by
  cases ad with
  | nil => exact h
  | raw _ => exact h
  | mp _ _ => exact h
  | «at» r o => exact RS.tail h hb
theorem rd_nn {w0 : World} {s : Hp} {ad : Ad} {l : List C} (h : RdS w0 s ad l) (hl : 0 < l.length) : ∃ r o, ad = .at r o := by
  cases ad with
  | nil => rw [show l = [] from h] at hl; simp at hl
  | raw _ => rw [show l = [] from h] at hl; simp at hl
  | mp _ _ => rw [show l = [] from h] at hl; simp at hl
  | «at» r o => exact ⟨r, o, rfl⟩
end Go.Hw
namespace Go.Proofs.Ytjhmcmadleabjaa
open Go Go.Hw Go.Proofs

/-! ### A role as bytes -/
structure Ro where
  n : Int
  K : List (Int × List UInt8)
instance ro_inh : Inhabited Ro := ⟨⟨0, []⟩⟩
def kb1 (k : Int × List UInt8) : List UInt8 := UInt8.ofInt k.1 :: k.2
def layB (r : Ro) : List UInt8 := UInt8.ofInt r.n :: UInt8.ofInt (r.K.length : Int) :: r.K.flatMap kb1
theorem kb1_len {K : List (Int × List UInt8)} (h : K32 K) : (K.flatMap kb1).length = K.length * 33 := by
  induction K with
  | nil => rfl
  | cons k K ih => rw [List.flatMap_cons, List.length_append, ih (fun x hx => h x (.tail _ hx)), List.length_cons]; simp [kb1, h k (.head _)]; omega
theorem K32.take {K : List (Int × List UInt8)} (h : K32 K) (i : Nat) : K32 (K.take i) := fun k hk => h k (List.mem_of_mem_take hk)
theorem layB_len {r : Ro} (h : K32 r.K) : (layB r).length = 2 + r.K.length * 33 := by
  unfold layB; rw [List.length_cons, List.length_cons, kb1_len h]; omega
/-- Bytes, a role's head, some of its keys. -/
def layP (B : List UInt8) (r : Ro) (i : Nat) : List UInt8 := B ++ (UInt8.ofInt r.n :: UInt8.ofInt (r.K.length : Int) :: (r.K.take i).flatMap kb1)
theorem layP_zero (B : List UInt8) (r : Ro) : bc B ++ [C.u8 (UInt8.ofInt r.n), .u8 (UInt8.ofInt (r.K.length : Int))] = bc (layP B r 0) := by simp [layP, bc]
theorem layP_len (B : List UInt8) {r : Ro} (h : K32 r.K) {i : Nat} (hi : i ≤ r.K.length) : (layP B r i).length = B.length + 2 + i * 33 := by
  unfold layP; rw [List.length_append, List.length_cons, List.length_cons, kb1_len (h.take i), List.length_take, Nat.min_eq_left hi]; omega
theorem layP_next (B : List UInt8) {r : Ro} {i : Nat} (hi : i < r.K.length) : layP B r i ++ kb1 (el r.K i) = layP B r (i + 1) := by
  unfold layP; rw [el_take hi, List.flatMap_append]; simp
theorem layP_all (B : List UInt8) (r : Ro) : layP B r r.K.length = B ++ layB r := by unfold layP layB; rw [List.take_length]

theorem lay82_c {w0 w : World} {s : Hp} {B : List UInt8} {x : Os} {r : Ro} {pa : Ad} {pc : Nat} (hx : Oi B x) (hxk : ∀ k, x.1.key = some k → w0.heap.size ≤ k) (hB : B.length ≤ 1073741824) (hK : K32 r.K) (hKl : r.K.length ≤ 1073741824) (hr : RdS w0 s pa (r.K.flatMap kr)) (hs : St w0 (ob B x :: s) w) :
    CallsV Try.prog 82 [.c (.slc x.1 B.length x.2.1), .agg [.i64 r.n, .slc pa r.K.length pc]] w fun en w' => ∃ y : Os, en = .returned (V.c (.slc y.1 (B ++ layB r).length y.2.1)).den ∧ (Oi (B ++ layB r) y ∧ ∀ k, y.1.key = some k → w0.heap.size ≤ k) ∧ St w0 (ob (B ++ layB r) y :: s) w' := by
  refine calls_at (tb := tb) (fn := Try.f82) Try.func82 rfl rfl rfl [(0, .c (.slc x.1 B.length x.2.1)), (1, .agg [.i64 r.n, .slc pa r.K.length pc])] rfl (ob B x :: s) hs ?_
  refine wc_seq ?_
  refine wc_region ?_
  refine wl_ef rfl (ef_box rfl rfl rfl (fun b hb => ?_))
  refine wl_q rfl rfl rfl (qt_p tbok rfl) ?_
  refine wl_done ?_
  refine nk_code ?_
  refine wc_seq ?_
  refine wc_region ?_
  refine wl_q rfl rfl rfl (qt_p tbok rfl) ?_
  refine wl_q rfl rfl rfl (qt_p tbok rfl) ?_
  first | refine wl_q rfl rfl rfl (qt_l tbok rfl rfl rfl) ?_ | refine wl_q rfl rfl rfl (qt_la tbok rfl rfl rfl) ?_
  refine wl_q rfl rfl rfl (qt_p tbok rfl) ?_
  refine wl_q rfl rfl rfl (qt_p tbok rfl) ?_
  first | refine wl_q rfl rfl rfl (qt_l tbok rfl rfl rfl) ?_ | refine wl_q rfl rfl rfl (qt_la tbok rfl rfl rfl) ?_
  refine wl_q rfl rfl rfl (qt_len tbok rfl rfl) ?_
  refine wl_q rfl rfl rfl (qt_p tbok rfl) ?_
  refine wl_ef rfl (ef_buildSlice (vs := [(0, .c (.u8 (UInt8.ofInt r.n))), (1, .c (.u8 (UInt8.ofInt (r.K.length : Int))))]) (l := [.u8 (UInt8.ofInt r.n), .u8 (UInt8.ofInt (r.K.length : Int))]) tbok rfl zero5 rfl rfl rfl (by decide) rfl rfl (fun br hbr => ?_))
  refine wl_ef rfl (ef_append tbok rfl el5 zero5 rfl rfl rfl (.there (.there .here)) hx hxk (m := 2) (news := [.u8 (UInt8.ofInt r.n), .u8 (UInt8.ofInt (r.K.length : Int))]) rfl (rs_lk .here at0) (by omega) (by simp only [maxLen]; omega) (fun a1 c1 t1 ho1 hk1 _ _ => ?_))
  rw [layP_zero] at ho1 ⊢
  have hl0 := layP_len B hK (Nat.zero_le _)
  rw [show B.length + 2 = (layP B r 0).length by omega] at ho1 ⊢
  refine wl_q rfl rfl rfl (qt_p tbok rfl) ?_
  refine wl_done ?_
  refine nk_code ?_
  refine wc_seq ?_
  refine wc_seq ?_
  refine wc_region ?_
  refine wl_q rfl rfl rfl (qt_p tbok rfl) ?_
  first | refine wl_q rfl rfl rfl (qt_l tbok rfl rfl rfl) ?_ | refine wl_q rfl rfl rfl (qt_la tbok rfl rfl rfl) ?_
  refine wl_q rfl rfl rfl (qt_len tbok rfl rfl) ?_
  refine wl_q rfl rfl rfl (qt_p tbok rfl) ?_
  refine wl_done ?_
  refine nk_code ?_
  refine wc_block ?_
  refine wc_loop (ι := Nat × Os) (fun j => j.1 ≤ r.K.length ∧ Oi (layP B r j.1) j.2 ∧ (∀ k, j.2.1.key = some k → w0.heap.size ≤ k)) (fun j => [(20, .c (.i64 (j.1 : Int))), (19, .c (.i64 (r.K.length : Int))), (18, .c (.slc pa r.K.length pc)), (0, .c (.slc j.2.1 (layP B r j.1).length j.2.2.1)), (3, .c (.ptr (.at b 0)))]) (fun j => ob (layP B r j.1) j.2 :: ⟨.at b 0, [.i64 r.n, .slc pa r.K.length pc], 72, (0, 0), []⟩ :: s) (fun j => r.K.length - j.1) (0, a1, c1, t1) ⟨Nat.zero_le _, ho1, hk1⟩ (nk_start ⟨rfl, rfl, rfl, rfl, rfl, trivial⟩ (fun w hw => Rm.sub_St hw (.there .here) (newKey hbr))) (fun ⟨i, y⟩ ⟨hi, hy, hyk⟩ => ?_)
  replace hi : i ≤ r.K.length := hi
  replace hy : Oi (layP B r i) y := hy
  replace hyk : ∀ k, y.1.key = some k → w0.heap.size ≤ k := hyk
  have hli := layP_len B hK hi
  dsimp only
  refine wc_seq ?_
  refine wc_region ?_
  refine wl_q rfl rfl rfl (qt_p tbok rfl) ?_
  refine wl_done ?_
  refine nk_code ?_
  refine wc_seq ?_
  refine wc_cond rfl (fun h21 => ?_) (fun h21 => ?_)
  · have hi' : i < r.K.length := (by have h0 := of_decide_eq_true h21; omega)
    have hgl := hK.row _ (el_mem hi')
    have hgk := hK _ (el_mem hi')
    obtain ⟨pr, po, hpa⟩ := rd_nn hr (by rw [rows_len hK.row]; omega)
    subst hpa
    refine wc_skip ?_
    refine nk_code ?_
    refine wc_seq ?_
    refine wc_block ?_
    refine wc_seq ?_
    refine wc_region ?_
    refine wl_q rfl rfl rfl (qt_p tbok rfl) ?_
    refine wl_q rfl rfl rfl (qt_load_ag (l := kr (el r.K i)) tbok rfl rfl rfl hgl ((RS.tail (RS.tail hr (newKey hb)) hyk).part (k := i * 33) (rows_at hK.row hi') (by omega))) ?_
    refine wl_ef rfl (ef_alloc zero32 rfl rfl (fun x6 h6 => ?_))
    refine wl_ef rfl (ef_store (cs' := kr (el r.K i)) tbok rfl rfl rfl rfl .here hgl (Nat.le_of_ble_eq_true rfl) (spl_all hgl) ?_)
    refine wl_done ?_
    refine nk_code ?_
    refine wc_draw (s0 := ⟨.at x6 0, kr (el r.K i), 32, (0, 0), []⟩ :: ⟨.at b 0, [.i64 r.n, .slc (.at pr po) r.K.length pc], 72, (0, 0), []⟩ :: s) 10 follows ?_
    refine wh_q 0 rfl (by kernel_rfl) rfl rfl rfl (qt_p tbok rfl) (fun w hw => Rm.sub_St hw (.there .here) hyk) ?_
    refine wh_q 1 rfl (by kernel_rfl) rfl rfl rfl (qt_p tbok rfl) (fun w hw => Rm.sub_St hw (.there .here) hyk) ?_
    refine wh_q 2 rfl (by kernel_rfl) rfl rfl rfl (qt_load (c := .i64 (el r.K i).1) tbok rfl rfl rfl (rc_lk .here rfl)) (fun w hw => Rm.sub_St hw (.there .here) hyk) ?_
    refine wh_q 3 rfl (by kernel_rfl) rfl rfl rfl (qt_p tbok rfl) (fun w hw => Rm.sub_St hw (.there .here) hyk) ?_
    refine wh_q 6 rfl (by kernel_rfl) rfl rfl rfl (qt_p tbok rfl) (fun w hw => Rm.sub_St hw (.there .here) hyk) ?_
    first | refine wh_q 7 rfl (by kernel_rfl) rfl rfl rfl (qt_sl tbok rfl rfl rfl rfl) (fun w hw => Rm.sub_St hw (.there .here) hyk) ?_ | refine wh_q 7 rfl (by kernel_rfl) rfl rfl rfl (qt_sa tbok rfl rfl rfl rfl) (fun w hw => Rm.sub_St hw (.there .here) hyk) ?_
    refine wh_one 4 (by kernel_rfl) (wo_ef rfl rfl (ef_buildSlice (vs := [(0, .c (.u8 (UInt8.ofInt (el r.K i).1)))]) (l := [.u8 (UInt8.ofInt (el r.K i).1)]) tbok rfl zero5 rfl rfl rfl (by decide) rfl rfl (fun b2 hb2 => ⟨fun w hw => Rm.sub_St (hw.tail (newKey hb2)) (.there .here) hyk, ?_⟩)))
    refine wh_one 5 (by kernel_rfl) (wo_ef rfl rfl (ef_append tbok rfl el5 zero5 rfl rfl rfl (.there (.there .here)) hy hyk (m := 1) (news := [.u8 (UInt8.ofInt (el r.K i).1)]) rfl (rs_lk .here at0) (by omega) (by simp only [maxLen]; omega) (fun a2 c2 t2 ho2 hk2 _ _ => ⟨fun w hw => (hw.tail hk2).tail (newKey hb2), ?_⟩)))
    refine wh_one 8 (by kernel_rfl) (wo_ef rfl rfl (ef_append tbok rfl el5 zero5 rfl rfl rfl .here ho2 hk2 (m := 32) (news := bc (el r.K i).2) (by rw [bc_len, hgk]) (rs_lk (.there (.there .here)) at1) (by omega) (by simp only [maxLen]; omega) (fun a3 c3 t3 ho3 hk3 _ _ => ⟨fun w hw => (hw.tail hk3).tail (newKey hb2), ?_⟩)))
    refine wh_q 9 rfl (by kernel_rfl) rfl rfl rfl (qt_p tbok rfl) (fun w hw => (hw.tail hk3).tail (newKey hb2)) ?_
    refine wh_done (by kernel_rfl) ?_
    refine nk_code ?_
    refine wc_region ?_
    refine wl_q rfl rfl rfl (qt_p tbok rfl) ?_
    refine wl_q rfl rfl rfl (qt_p tbok rfl) ?_
    refine wl_done ?_
    have eb : (bc (layP B r i) ++ [C.u8 (UInt8.ofInt (el r.K i).1)]) ++ bc (el r.K i).2 = bc (layP B r (i + 1)) := (by rw [← layP_next B hi']; simp [bc, kb1])
    have hl2 := layP_len B hK (i := i + 1) hi'
    have e2 : (layP B r i).length + 1 + 32 = (layP B r (i + 1)).length := (by omega)
    rw [eb] at ho3 ⊢
    rw [e2] at ho3 ⊢
    exact nk_round (i := (i, y)) (i + 1, a3, c3, t3) ⟨hi', ho3, hk3⟩ (by show r.K.length - (i + 1) < r.K.length - i; omega) ⟨rfl, rfl, rfl, rfl, rfl, trivial⟩ (fun w hw => Rm.sub_St (Rm.sub_St hw (.there .here) (newKey hb2)) (.there .here) (newKey h6))
  · have he : i = r.K.length := (by have h0 := of_decide_eq_false h21; omega)
    subst he
    rw [layP_all] at hy ⊢
    refine wc_exit rfl ?_
    refine nk_code ?_
    refine wc_seq ?_
    refine wc_region ?_
    refine wl_q rfl rfl rfl (qt_p tbok rfl) ?_
    refine wl_q rfl rfl rfl (qt_p tbok rfl) ?_
    refine wl_done ?_
    refine nk_code ?_
    refine wc_ret ?_
    try dsimp only
    exact fin1 rfl (rv_tmp rfl) (fun w' hw => ⟨y, rfl, ⟨hy, hyk⟩, Rm.sub_St hw (.there .here) (newKey hb)⟩)

theorem lay84_c {w0 w : World} {s : Hp} {B : List UInt8} {x : Os} {r : Ro} {pa : Ad} {pc : Nat} (hx : Oi B x) (hxk : ∀ k, x.1.key = some k → w0.heap.size ≤ k) (hB : B.length ≤ 1073741824) (hK : K32 r.K) (hKl : r.K.length ≤ 1073741824) (hr : RdS w0 s pa (r.K.flatMap kr)) (hs : St w0 (ob B x :: s) w) :
    CallsV Try.prog 84 [.c (.slc x.1 B.length x.2.1), .agg [.i64 r.n, .slc pa r.K.length pc]] w fun en w' => ∃ y : Os, en = .returned (V.c (.slc y.1 (B ++ layB r).length y.2.1)).den ∧ (Oi (B ++ layB r) y ∧ ∀ k, y.1.key = some k → w0.heap.size ≤ k) ∧ St w0 (ob (B ++ layB r) y :: s) w' := by
  refine calls_at (tb := tb) (fn := Try.f84) Try.func84 rfl rfl rfl [(0, .c (.slc x.1 B.length x.2.1)), (1, .agg [.i64 r.n, .slc pa r.K.length pc])] rfl (ob B x :: s) hs ?_
  refine wc_seq ?_
  refine wc_region ?_
  refine wl_ef rfl (ef_box rfl rfl rfl (fun b hb => ?_))
  refine wl_q rfl rfl rfl (qt_p tbok rfl) ?_
  refine wl_done ?_
  refine nk_code ?_
  refine wc_seq ?_
  refine wc_region ?_
  refine wl_q rfl rfl rfl (qt_p tbok rfl) ?_
  refine wl_q rfl rfl rfl (qt_p tbok rfl) ?_
  first | refine wl_q rfl rfl rfl (qt_l tbok rfl rfl rfl) ?_ | refine wl_q rfl rfl rfl (qt_la tbok rfl rfl rfl) ?_
  refine wl_q rfl rfl rfl (qt_p tbok rfl) ?_
  refine wl_ef rfl (ef_buildSlice (vs := [(0, .c (.u8 (UInt8.ofInt r.n)))]) (l := [.u8 (UInt8.ofInt r.n)]) tbok rfl zero5 rfl rfl rfl (by decide) rfl rfl (fun br hbr => ?_))
  refine wl_ef rfl (ef_append tbok rfl el5 zero5 rfl rfl rfl (.there (.there .here)) hx hxk (m := 1) (news := [.u8 (UInt8.ofInt r.n)]) rfl (rs_lk .here at0) (by omega) (by simp only [maxLen]; omega) (fun a0 c0 t0 ho0 hk0 _ _ => ?_))
  refine wl_q rfl rfl rfl (qt_p tbok rfl) ?_
  refine wl_done ?_
  refine nk_code ?_
  refine wc_seq ?_
  refine wc_region ?_
  refine wl_q rfl rfl rfl (qt_p tbok rfl) ?_
  refine wl_q rfl rfl rfl (qt_p tbok rfl) ?_
  refine wl_q rfl rfl rfl (qt_load tbok rfl rfl rfl (rc_lk (.there (.there .here)) rfl)) ?_
  refine wl_q rfl rfl rfl (qt_len tbok rfl rfl) ?_
  refine wl_q rfl rfl rfl (qt_p tbok rfl) ?_
  refine wl_ef rfl (ef_buildSlice (vs := [(0, .c (.u8 (UInt8.ofInt (r.K.length : Int))))]) (l := [.u8 (UInt8.ofInt (r.K.length : Int))]) tbok rfl zero5 rfl rfl rfl (by decide) rfl rfl (fun br2 hbr2 => ?_))
  refine wl_ef rfl (ef_append tbok rfl el5 zero5 rfl rfl rfl (.there .here) ho0 hk0 (m := 1) (news := [.u8 (UInt8.ofInt (r.K.length : Int))]) rfl (rs_lk .here at0) (by omega) (by simp only [maxLen]; omega) (fun a1 c1 t1 ho1 hk1 _ _ => ?_))
  rw [List.append_assoc, List.singleton_append, layP_zero] at ho1 ⊢
  have hl0 := layP_len B hK (Nat.zero_le _)
  rw [show B.length + 1 + 1 = (layP B r 0).length by omega] at ho1 ⊢
  refine wl_q rfl rfl rfl (qt_p tbok rfl) ?_
  refine wl_done ?_
  refine nk_code ?_
  refine wc_seq ?_
  refine wc_seq ?_
  refine wc_region ?_
  refine wl_q rfl rfl rfl (qt_p tbok rfl) ?_
  refine wl_done ?_
  refine nk_code ?_
  refine wc_block ?_
  refine wc_loop (ι := Nat × Os) (fun j => j.1 ≤ r.K.length ∧ Oi (layP B r j.1) j.2 ∧ (∀ k, j.2.1.key = some k → w0.heap.size ≤ k)) (fun j => [(5, .c (.i64 (j.1 : Int))), (0, .c (.slc j.2.1 (layP B r j.1).length j.2.2.1)), (3, .c (.ptr (.at b 0)))]) (fun j => ob (layP B r j.1) j.2 :: ⟨.at b 0, [.i64 r.n, .slc pa r.K.length pc], 68, (0, 0), []⟩ :: s) (fun j => r.K.length - j.1) (0, a1, c1, t1) ⟨Nat.zero_le _, ho1, hk1⟩ (nk_start ⟨rfl, rfl, rfl, trivial⟩ (fun w hw => Rm.sub_St (Rm.sub_St hw (.there .here) (newKey hbr2)) (.there .here) (newKey hbr))) (fun ⟨i, y⟩ ⟨hi, hy, hyk⟩ => ?_)
  replace hi : i ≤ r.K.length := hi
  replace hy : Oi (layP B r i) y := hy
  replace hyk : ∀ k, y.1.key = some k → w0.heap.size ≤ k := hyk
  have hli := layP_len B hK hi
  dsimp only
  refine wc_seq ?_
  refine wc_seq ?_
  refine wc_region ?_
  refine wl_q rfl rfl rfl (qt_p tbok rfl) ?_
  refine wl_q rfl rfl rfl (qt_p tbok rfl) ?_
  first | refine wl_q rfl rfl rfl (qt_l tbok rfl rfl rfl) ?_ | refine wl_q rfl rfl rfl (qt_la tbok rfl rfl rfl) ?_
  refine wl_q rfl rfl rfl (qt_len tbok rfl rfl) ?_
  refine wl_q rfl rfl rfl (qt_p tbok rfl) ?_
  refine wl_done ?_
  refine nk_code ?_
  refine wc_cond rfl (fun h24 => ?_) (fun h24 => ?_)
  · have hi' : i < r.K.length := (by have h0 := of_decide_eq_true h24; omega)
    have hgl := hK.row _ (el_mem hi')
    have hgk := hK _ (el_mem hi')
    obtain ⟨pr, po, hpa⟩ := rd_nn hr (by rw [rows_len hK.row]; omega)
    subst hpa
    refine wc_skip ?_
    refine nk_code ?_
    refine wc_seq ?_
    refine wc_block ?_
    refine wc_seq ?_
    refine wc_region ?_
    refine wl_q rfl rfl rfl (qt_p tbok rfl) ?_
    refine wl_q rfl rfl rfl (qt_p tbok rfl) ?_
    refine wl_q rfl rfl rfl (qt_load tbok rfl rfl rfl (rc_lk (.there .here) rfl)) ?_
    refine wl_q rfl rfl rfl (qt_p tbok rfl) ?_
    refine wl_q rfl rfl rfl (qt_p tbok rfl) ?_
    refine wl_q rfl rfl rfl (qt_p tbok rfl) ?_
    refine wl_q rfl rfl rfl (qt_load (c := .i64 (el r.K i).1) tbok rfl rfl rfl ((RS.tail (RS.tail hr (newKey hb)) hyk).rc (rows_at hK.row hi' 0 _ rfl) (by omega))) ?_
    refine wl_q rfl rfl rfl (qt_p tbok rfl) ?_
    refine wl_ef rfl (ef_buildSlice (vs := [(0, .c (.u8 (UInt8.ofInt (el r.K i).1)))]) (l := [.u8 (UInt8.ofInt (el r.K i).1)]) tbok rfl zero5 rfl rfl rfl (by decide) rfl rfl (fun b2 hb2 => ?_))
    refine wl_ef rfl (ef_append tbok rfl el5 zero5 rfl rfl rfl (.there .here) hy hyk (m := 1) (news := [.u8 (UInt8.ofInt (el r.K i).1)]) rfl (rs_lk .here at0) (by omega) (by simp only [maxLen]; omega) (fun a2 c2 t2 ho2 hk2 _ _ => ?_))
    obtain ⟨D, hD⟩ : ∃ D : List UInt8, D = layP B r i ++ [UInt8.ofInt (el r.K i).1] := ⟨_, rfl⟩
    have hDl : D.length = (layP B r i).length + 1 := (by rw [hD]; simp)
    rw [bc_snoc, ← hD, ← hDl] at ho2 ⊢
    refine wl_q rfl rfl rfl (qt_p tbok rfl) ?_
    refine wl_done ?_
    refine nk_code ?_
    refine wc_seq ?_
    refine wc_region ?_
    refine wl_q rfl rfl rfl (qt_p tbok rfl) ?_
    refine wl_done ?_
    refine nk_code ?_
    refine wc_block ?_
    refine wc_loop (ι := Nat × Os) (fun j => j.1 ≤ 32 ∧ Oi (D ++ (el r.K i).2.take j.1) j.2 ∧ (∀ k, j.2.1.key = some k → w0.heap.size ≤ k)) (fun j => [(6, .c (.i64 (j.1 : Int))), (5, .c (.i64 (i : Int))), (0, .c (.slc j.2.1 (D ++ (el r.K i).2.take j.1).length j.2.2.1)), (3, .c (.ptr (.at b 0)))]) (fun j => ob (D ++ (el r.K i).2.take j.1) j.2 :: ⟨.at b 0, [.i64 r.n, .slc (.at pr po) r.K.length pc], 68, (0, 0), []⟩ :: s) (fun j => 32 - j.1) (0, a2, c2, t2) ⟨Nat.zero_le _, by show Oi (D ++ (el r.K i).2.take 0) (a2, c2, t2); rw [List.take_zero, List.append_nil]; exact ho2, hk2⟩ (nk_start ⟨rfl, rfl, by show _ = some (V.c (C.slc a2 (D ++ (el r.K i).2.take 0).length c2)); rw [List.take_zero, List.append_nil]; rfl, rfl, trivial⟩ (fun w hw => by show St _ (ob (D ++ (el r.K i).2.take 0) (a2, c2, t2) :: _) _; rw [List.take_zero, List.append_nil]; exact Rm.sub_St hw (.there .here) (newKey hb2))) (fun ⟨j, z⟩ ⟨hj, hz, hzk⟩ => ?_)
    replace hj : j ≤ 32 := hj
    replace hz : Oi (D ++ (el r.K i).2.take j) z := hz
    replace hzk : ∀ k, z.1.key = some k → w0.heap.size ≤ k := hzk
    have hzl : (D ++ (el r.K i).2.take j).length = D.length + j := (by rw [List.length_append, List.length_take, hgk]; omega)
    dsimp only
    refine wc_seq ?_
    refine wc_seq ?_
    refine wc_region ?_
    refine wl_q rfl rfl rfl (qt_p tbok rfl) ?_
    refine wl_q rfl rfl rfl (qt_p tbok rfl) ?_
    refine wl_done ?_
    refine nk_code ?_
    refine wc_cond rfl (fun h38 => ?_) (fun h38 => ?_)
    · have hj' : j < 32 := (by have h0 := of_decide_eq_true h38; omega)
      have hjl : j < (el r.K i).2.length := (by omega)
      refine wc_skip ?_
      refine nk_code ?_
      refine wc_seq ?_
      refine wc_block ?_
      refine wc_region ?_
      refine wl_q rfl rfl rfl (qt_p tbok rfl) ?_
      refine wl_q rfl rfl rfl (qt_p tbok rfl) ?_
      refine wl_q rfl rfl rfl (qt_load tbok rfl rfl rfl (rc_lk (.there .here) rfl)) ?_
      refine wl_q rfl rfl rfl (qt_p tbok rfl) ?_
      refine wl_q rfl rfl rfl (qt_p tbok rfl) ?_
      refine wl_q rfl rfl rfl (qt_p tbok rfl) ?_
      refine wl_q rfl rfl rfl (qt_p tbok rfl) ?_
      refine wl_q rfl rfl rfl (qt_p tbok rfl) ?_
      refine wl_q rfl rfl rfl (qt_load (c := .u8 ((el r.K i).2.getD j 0)) tbok rfl rfl rfl ((RS.tail (RS.tail hr (newKey hb)) hzk).rc (rows_at hK.row hi' (j + 1) (.u8 ((el r.K i).2.getD j 0)) (by unfold kr; rw [List.getElem?_cons_succ]; exact bc_getD hjl)) (by omega))) ?_
      refine wl_ef rfl (ef_buildSlice (vs := [(0, .c (.u8 ((el r.K i).2.getD j 0)))]) (l := [.u8 ((el r.K i).2.getD j 0)]) tbok rfl zero5 rfl rfl rfl (by decide) rfl rfl (fun b3 hb3 => ?_))
      refine wl_ef rfl (ef_append tbok rfl el5 zero5 rfl rfl rfl (.there .here) hz hzk (m := 1) (news := [.u8 ((el r.K i).2.getD j 0)]) rfl (rs_lk .here at0) (by omega) (by simp only [maxLen]; omega) (fun a3 c3 t3 ho3 hk3 _ _ => ?_))
      refine wl_q rfl rfl rfl (qt_p tbok rfl) ?_
      refine wl_done ?_
      refine nk_code ?_
      refine wc_region ?_
      refine wl_q rfl rfl rfl (qt_p tbok rfl) ?_
      refine wl_q rfl rfl rfl (qt_p tbok rfl) ?_
      refine wl_q rfl rfl rfl (qt_p tbok rfl) ?_
      refine wl_done ?_
      have e3 : (D ++ (el r.K i).2.take j) ++ [(el r.K i).2.getD j 0] = D ++ (el r.K i).2.take (j + 1) := (by rw [take_snoc hjl, List.append_assoc])
      have e4 : (D ++ (el r.K i).2.take j).length + 1 = (D ++ (el r.K i).2.take (j + 1)).length := (by rw [← e3, List.length_append (bs := [_])]; rfl)
      rw [bc_snoc, e3] at ho3 ⊢
      rw [e4] at ho3 ⊢
      exact nk_round (i := (j, z)) (j + 1, a3, c3, t3) ⟨hj', ho3, hk3⟩ (by show 32 - (j + 1) < 32 - j; omega) ⟨rfl, rfl, rfl, rfl, trivial⟩ (fun w hw => Rm.sub_St hw (.there .here) (newKey hb3))
    · have he2 : j = 32 := (by have h0 := of_decide_eq_false h38; omega)
      subst he2
      have hfin : D ++ (el r.K i).2.take 32 = layP B r (i + 1) := (by rw [List.take_of_length_le (by omega), ← layP_next B hi', hD, List.append_assoc]; rfl)
      rw [hfin] at hz ⊢
      refine wc_exit rfl ?_
      refine nk_code ?_
      refine wc_region ?_
      refine wl_q rfl rfl rfl (qt_p tbok rfl) ?_
      refine wl_q rfl rfl rfl (qt_p tbok rfl) ?_
      refine wl_q rfl rfl rfl (qt_p tbok rfl) ?_
      refine wl_done ?_
      exact nk_round (i := (i, y)) (i + 1, z) ⟨hi', hz, hzk⟩ (by show r.K.length - (i + 1) < r.K.length - i; omega) ⟨rfl, rfl, rfl, trivial⟩ (fun w hw => hw)
  · have he : i = r.K.length := (by have h0 := of_decide_eq_false h24; omega)
    subst he
    rw [layP_all] at hy ⊢
    refine wc_exit rfl ?_
    refine nk_code ?_
    refine wc_seq ?_
    refine wc_region ?_
    refine wl_q rfl rfl rfl (qt_p tbok rfl) ?_
    refine wl_q rfl rfl rfl (qt_p tbok rfl) ?_
    refine wl_done ?_
    refine nk_code ?_
    refine wc_ret ?_
    try dsimp only
    exact fin1 rfl (rv_tmp rfl) (fun w' hw => ⟨y, rfl, ⟨hy, hyk⟩, Rm.sub_St hw (.there .here) (newKey hb)⟩)
end Go.Proofs.Ytjhmcmadleabjaa

set_option maxRecDepth 100000
namespace Go.Proofs.Ytjhmcmadleabjaa
open Go Go.Hw Go.Proofs

/-! ### Roots -/
structure Rx where
  v : Int
  u : Int
  r : Ro
  t : Ro
  l : Ro
/-- A root as it lies: each role with its list's place. -/
structure RL where
  v : Int
  u : Int
  r : Ro × Os
  t : Ro × Os
  l : Ro × Os
abbrev rrow (p : Ro × Os) : List C := [.i64 p.1.n, .slc p.2.1 p.1.K.length p.2.2.1]
abbrev RL.cs (y : RL) : List C := [.i64 y.v, .i64 y.u, .i64 y.r.1.n, .slc y.r.2.1 y.r.1.K.length y.r.2.2.1, .i64 y.t.1.n, .slc y.t.2.1 y.t.1.K.length y.t.2.2.1, .i64 y.l.1.n, .slc y.l.2.1 y.l.1.K.length y.l.2.2.1]
def Ro.ok (r : Ro) : Prop := K32 r.K ∧ r.K.length ≤ 1073741824
def RL.ok (y : RL) : Prop := y.r.1.ok ∧ y.t.1.ok ∧ y.l.1.ok
abbrev roL (w : World) (p : Ro × Os) : Prop := Cells w p.2.1 (p.1.K.flatMap kr)
def RL.lies (w : World) (y : RL) : Prop := roL w y.r ∧ roL w y.t ∧ roL w y.l
def RL.x (y : RL) : Rx := ⟨y.v, y.u, y.r.1, y.t.1, y.l.1⟩
abbrev roO (p : Ro × Os) : Prop := OwnS p.2.1 p.1.K.length p.2.2.1 33 (p.1.K.flatMap kr) p.2.2.2
def RL.own (y : RL) : Prop := roO y.r ∧ roO y.t ∧ roO y.l
abbrev rob (T : Nat) (p : Ro × Os) : Blk := ⟨p.2.1, p.1.K.flatMap kr, T, (0, 0), p.2.2.2⟩
abbrev rbs (T : Nat) (y : RL) : Hp := [rob T y.l, rob T y.t, rob T y.r]
theorem rl_r (y : RL) : ∀ (j : Nat) c, (rrow y.r)[j]? = some c → y.cs[2 + j]? = some c := get_at (A := [.i64 y.v, .i64 y.u]) (B := rrow y.r) (D := rrow y.t ++ rrow y.l) rfl
theorem rl_t (y : RL) : ∀ (j : Nat) c, (rrow y.t)[j]? = some c → y.cs[4 + j]? = some c := get_at (A := [.i64 y.v, .i64 y.u, .i64 y.r.1.n, .slc y.r.2.1 y.r.1.K.length y.r.2.2.1]) (B := rrow y.t) (D := rrow y.l) rfl
theorem rl_l (y : RL) : ∀ (j : Nat) c, (rrow y.l)[j]? = some c → y.cs[6 + j]? = some c := get_at (A := [.i64 y.v, .i64 y.u, .i64 y.r.1.n, .slc y.r.2.1 y.r.1.K.length y.r.2.2.1, .i64 y.t.1.n, .slc y.t.2.1 y.t.1.K.length y.t.2.2.1]) (B := rrow y.l) (D := []) rfl
theorem RL.lies.up {w0 w : World} {s : Hp} {y : RL} (h : y.lies w0) (ho : ∀ ad, Off w0 ad s) (hs : St w0 s w) : y.lies w := ⟨cells_rd (rd_cells h.1 (ho _)) hs, cells_rd (rd_cells h.2.1 (ho _)) hs, cells_rd (rd_cells h.2.2 (ho _)) hs⟩
theorem RL.lies_own {w0 w : World} {s : Hp} {T : Nat} {y : RL} (hs : St w0 s w) (h1 : Lk s (rob T y.r)) (h2 : Lk s (rob T y.t)) (h3 : Lk s (rob T y.l)) : y.lies w := ⟨cells_own hs h1, cells_own hs h2, cells_own hs h3⟩

def rootB (x : Rx) : Bool := decide (1 ≤ x.v) && (decide (x.v ≤ 1099511627776) && (decide (0 ≤ x.u) && (decide (x.u ≤ 1099511627776) && (rightB x.r.n x.r.K && (rightB x.t.n x.t.K && rightB x.l.n x.l.K)))))
section
variable {x : Rx}
theorem rb1 (h : decide (1 ≤ x.v) = false) : rootB x = false := by unfold rootB; rw [h]; rfl
theorem rb2 (h1 : decide (1 ≤ x.v) = true) (h : decide (x.v ≤ 1099511627776) = false) : rootB x = false := by unfold rootB; rw [h1, h]; rfl
theorem rb3 (h1 : decide (1 ≤ x.v) = true) (h2 : decide (x.v ≤ 1099511627776) = true) (h : decide (0 ≤ x.u) = false) : rootB x = false := by unfold rootB; rw [h1, h2, h]; rfl
theorem rb4 (h1 : decide (1 ≤ x.v) = true) (h2 : decide (x.v ≤ 1099511627776) = true) (h3 : decide (0 ≤ x.u) = true) (h : decide (x.u ≤ 1099511627776) = false) : rootB x = false := by unfold rootB; rw [h1, h2, h3, h]; rfl
theorem rb5 (h1 : decide (1 ≤ x.v) = true) (h2 : decide (x.v ≤ 1099511627776) = true) (h3 : decide (0 ≤ x.u) = true) (h4 : decide (x.u ≤ 1099511627776) = true) (h : rightB x.r.n x.r.K = false) : rootB x = false := by unfold rootB; rw [h1, h2, h3, h4, h]; rfl
theorem rb6 (h1 : decide (1 ≤ x.v) = true) (h2 : decide (x.v ≤ 1099511627776) = true) (h3 : decide (0 ≤ x.u) = true) (h4 : decide (x.u ≤ 1099511627776) = true) (h5 : rightB x.r.n x.r.K = true) (h : rightB x.t.n x.t.K = false) : rootB x = false := by unfold rootB; rw [h1, h2, h3, h4, h5, h]; rfl
theorem rb7 (h1 : decide (1 ≤ x.v) = true) (h2 : decide (x.v ≤ 1099511627776) = true) (h3 : decide (0 ≤ x.u) = true) (h4 : decide (x.u ≤ 1099511627776) = true) (h5 : rightB x.r.n x.r.K = true) (h6 : rightB x.t.n x.t.K = true) : rootB x = rightB x.l.n x.l.K := by unfold rootB; rw [h1, h2, h3, h4, h5, h6]; rfl
end
theorem rightRoot_c {w : World} {y : RL} (hk : y.ok) (hl : y.lies w) :
    CallsV Try.prog 47 [.agg y.cs] w fun en w' => en = .returned (V.c (.bool (rootB y.x))).den ∧ St w [] w' := by
  obtain ⟨⟨k1, _⟩, ⟨k2, _⟩, ⟨k3, _⟩⟩ := hk
  obtain ⟨l1, l2, l3⟩ := hl
  refine calls_in (tb := tb) (fn := Try.f47) Try.func47 rfl rfl rfl [(0, .agg y.cs)] rfl [] (St.refl _) ?_
  refine wc_seq ?_
  refine wc_region ?_
  refine wl_ef rfl (ef_box rfl rfl rfl (fun b hb => ?_))
  refine wl_q rfl rfl rfl (qt_p tbok rfl) ?_
  refine wl_done ?_
  refine nk_code ?_
  refine wc_seq ?_
  refine wc_region ?_
  refine wl_q rfl rfl rfl (qt_p tbok rfl) ?_
  first | refine wl_q rfl rfl rfl (qt_l tbok rfl rfl rfl) ?_ | refine wl_q rfl rfl rfl (qt_la tbok rfl rfl rfl) ?_
  refine wl_q rfl rfl rfl (qt_p tbok rfl) ?_
  refine wl_bool (fun h1 => ?_) (fun h1 => ?_)
  · refine wl_q rfl rfl rfl (qt_p tbok rfl) ?_
    first | refine wl_g rfl rfl rfl rfl (qt_p tbok rfl) ?_ | refine wl_skip rfl rfl rfl rfl rfl ?_
    first | refine wl_g rfl rfl rfl rfl (qt_l tbok rfl rfl rfl) ?_ | refine wl_g rfl rfl rfl rfl (qt_la tbok rfl rfl rfl) ?_ | refine wl_skip rfl rfl rfl rfl rfl ?_
    first | refine wl_g rfl rfl rfl rfl (qt_p tbok rfl) ?_ | refine wl_skip rfl rfl rfl rfl rfl ?_
    refine wl_bool (fun h2 => ?_) (fun h2 => ?_)
    · refine wl_q rfl rfl rfl (qt_p tbok rfl) ?_
      refine wl_q rfl rfl rfl (qt_p tbok rfl) ?_
      first | refine wl_g rfl rfl rfl rfl (qt_p tbok rfl) ?_ | refine wl_skip rfl rfl rfl rfl rfl ?_
      first | refine wl_g rfl rfl rfl rfl (qt_l tbok rfl rfl rfl) ?_ | refine wl_g rfl rfl rfl rfl (qt_la tbok rfl rfl rfl) ?_ | refine wl_skip rfl rfl rfl rfl rfl ?_
      first | refine wl_g rfl rfl rfl rfl (qt_p tbok rfl) ?_ | refine wl_skip rfl rfl rfl rfl rfl ?_
      refine wl_bool (fun h3 => ?_) (fun h3 => ?_)
      · refine wl_q rfl rfl rfl (qt_p tbok rfl) ?_
        refine wl_q rfl rfl rfl (qt_p tbok rfl) ?_
        first | refine wl_g rfl rfl rfl rfl (qt_p tbok rfl) ?_ | refine wl_skip rfl rfl rfl rfl rfl ?_
        first | refine wl_g rfl rfl rfl rfl (qt_l tbok rfl rfl rfl) ?_ | refine wl_g rfl rfl rfl rfl (qt_la tbok rfl rfl rfl) ?_ | refine wl_skip rfl rfl rfl rfl rfl ?_
        first | refine wl_g rfl rfl rfl rfl (qt_p tbok rfl) ?_ | refine wl_skip rfl rfl rfl rfl rfl ?_
        refine wl_bool (fun h4 => ?_) (fun h4 => ?_)
        · refine wl_q rfl rfl rfl (qt_p tbok rfl) ?_
          refine wl_q rfl rfl rfl (qt_p tbok rfl) ?_
          first | refine wl_g rfl rfl rfl rfl (qt_p tbok rfl) ?_ | refine wl_skip rfl rfl rfl rfl rfl ?_
          refine wl_g rfl rfl rfl rfl (qt_load_ag (l := rrow y.r) tbok rfl rfl rfl rfl (rs_lk .here (rl_r y))) ?_
          refine wl_gd rfl rfl (ef_pure (v := .c (.bool (rightB y.r.1.n y.r.1.K))) (by kernel_rfl) rfl rfl (fun w1 h1 => right_c k1 (cells_rd (rd_cells l1 (off_new (newKey hb) off_nil)) h1)) ?_)
          refine wl_bool (fun h5 => ?_) (fun h5 => ?_)
          · refine wl_q rfl rfl rfl (qt_p tbok rfl) ?_
            refine wl_q rfl rfl rfl (qt_p tbok rfl) ?_
            first | refine wl_g rfl rfl rfl rfl (qt_p tbok rfl) ?_ | refine wl_skip rfl rfl rfl rfl rfl ?_
            refine wl_g rfl rfl rfl rfl (qt_load_ag (l := rrow y.t) tbok rfl rfl rfl rfl (rs_lk .here (rl_t y))) ?_
            refine wl_gd rfl rfl (ef_pure (v := .c (.bool (rightB y.t.1.n y.t.1.K))) (by kernel_rfl) rfl rfl (fun w1 h1 => right_c k2 (cells_rd (rd_cells l2 (off_new (newKey hb) off_nil)) h1)) ?_)
            refine wl_bool (fun h6 => ?_) (fun h6 => ?_)
            · refine wl_q rfl rfl rfl (qt_p tbok rfl) ?_
              refine wl_q rfl rfl rfl (qt_p tbok rfl) ?_
              first | refine wl_g rfl rfl rfl rfl (qt_p tbok rfl) ?_ | refine wl_skip rfl rfl rfl rfl rfl ?_
              refine wl_g rfl rfl rfl rfl (qt_load_ag (l := rrow y.l) tbok rfl rfl rfl rfl (rs_lk .here (rl_l y))) ?_
              refine wl_gd rfl rfl (ef_pure (v := .c (.bool (rightB y.l.1.n y.l.1.K))) (by kernel_rfl) rfl rfl (fun w1 h1 => right_c k3 (cells_rd (rd_cells l3 (off_new (newKey hb) off_nil)) h1)) ?_)
              refine wl_q rfl rfl rfl (qt_p tbok rfl) ?_
              refine wl_q rfl rfl rfl (qt_p tbok rfl) ?_
              refine wl_done ?_
              refine nk_code ?_
              refine wc_ret ?_
              try dsimp only
              exact fin1 rfl (rv_tmp rfl) (fun w' hw => ⟨by rw [rb7 (x := y.x) h1 h2 h3 h4 h5 h6]; rfl, hw.all (new_cons (newKey hb) new_nil)⟩)
            · refine wl_q rfl rfl rfl (qt_p tbok rfl) ?_
              refine wl_q rfl rfl rfl (qt_p tbok rfl) ?_
              first | refine wl_g rfl rfl rfl rfl (qt_p tbok rfl) ?_ | refine wl_skip rfl rfl rfl rfl rfl ?_
              first | refine wl_g rfl rfl rfl rfl (qt_l tbok rfl rfl rfl) ?_ | refine wl_g rfl rfl rfl rfl (qt_la tbok rfl rfl rfl) ?_ | refine wl_skip rfl rfl rfl rfl rfl ?_
              first | refine wl_g rfl rfl rfl rfl (qt_len tbok rfl rfl) ?_ | refine wl_skip rfl rfl rfl rfl rfl ?_
              refine wl_q rfl rfl rfl (qt_p tbok rfl) ?_
              refine wl_q rfl rfl rfl (qt_p tbok rfl) ?_
              refine wl_done ?_
              refine nk_code ?_
              refine wc_ret ?_
              try dsimp only
              exact fin1 rfl (rv_tmp rfl) (fun w' hw => ⟨by rw [rb6 (x := y.x) h1 h2 h3 h4 h5 h6], hw.all (new_cons (newKey hb) new_nil)⟩)
          · refine wl_q rfl rfl rfl (qt_p tbok rfl) ?_
            refine wl_q rfl rfl rfl (qt_p tbok rfl) ?_
            first | refine wl_g rfl rfl rfl rfl (qt_p tbok rfl) ?_ | refine wl_skip rfl rfl rfl rfl rfl ?_
            first | refine wl_g rfl rfl rfl rfl (qt_l tbok rfl rfl rfl) ?_ | refine wl_g rfl rfl rfl rfl (qt_la tbok rfl rfl rfl) ?_ | refine wl_skip rfl rfl rfl rfl rfl ?_
            first | refine wl_g rfl rfl rfl rfl (qt_len tbok rfl rfl) ?_ | refine wl_skip rfl rfl rfl rfl rfl ?_
            refine wl_q rfl rfl rfl (qt_p tbok rfl) ?_
            refine wl_q rfl rfl rfl (qt_p tbok rfl) ?_
            first | refine wl_g rfl rfl rfl rfl (qt_p tbok rfl) ?_ | refine wl_skip rfl rfl rfl rfl rfl ?_
            first | refine wl_g rfl rfl rfl rfl (qt_l tbok rfl rfl rfl) ?_ | refine wl_g rfl rfl rfl rfl (qt_la tbok rfl rfl rfl) ?_ | refine wl_skip rfl rfl rfl rfl rfl ?_
            first | refine wl_g rfl rfl rfl rfl (qt_len tbok rfl rfl) ?_ | refine wl_skip rfl rfl rfl rfl rfl ?_
            refine wl_q rfl rfl rfl (qt_p tbok rfl) ?_
            refine wl_q rfl rfl rfl (qt_p tbok rfl) ?_
            refine wl_done ?_
            refine nk_code ?_
            refine wc_ret ?_
            try dsimp only
            exact fin1 rfl (rv_tmp rfl) (fun w' hw => ⟨by rw [rb5 (x := y.x) h1 h2 h3 h4 h5], hw.all (new_cons (newKey hb) new_nil)⟩)
        · refine wl_q rfl rfl rfl (qt_p tbok rfl) ?_
          refine wl_q rfl rfl rfl (qt_p tbok rfl) ?_
          first | refine wl_g rfl rfl rfl rfl (qt_p tbok rfl) ?_ | refine wl_skip rfl rfl rfl rfl rfl ?_
          first | refine wl_g rfl rfl rfl rfl (qt_l tbok rfl rfl rfl) ?_ | refine wl_g rfl rfl rfl rfl (qt_la tbok rfl rfl rfl) ?_ | refine wl_skip rfl rfl rfl rfl rfl ?_
          first | refine wl_g rfl rfl rfl rfl (qt_len tbok rfl rfl) ?_ | refine wl_skip rfl rfl rfl rfl rfl ?_
          refine wl_q rfl rfl rfl (qt_p tbok rfl) ?_
          refine wl_q rfl rfl rfl (qt_p tbok rfl) ?_
          first | refine wl_g rfl rfl rfl rfl (qt_p tbok rfl) ?_ | refine wl_skip rfl rfl rfl rfl rfl ?_
          first | refine wl_g rfl rfl rfl rfl (qt_l tbok rfl rfl rfl) ?_ | refine wl_g rfl rfl rfl rfl (qt_la tbok rfl rfl rfl) ?_ | refine wl_skip rfl rfl rfl rfl rfl ?_
          first | refine wl_g rfl rfl rfl rfl (qt_len tbok rfl rfl) ?_ | refine wl_skip rfl rfl rfl rfl rfl ?_
          refine wl_q rfl rfl rfl (qt_p tbok rfl) ?_
          refine wl_q rfl rfl rfl (qt_p tbok rfl) ?_
          first | refine wl_g rfl rfl rfl rfl (qt_p tbok rfl) ?_ | refine wl_skip rfl rfl rfl rfl rfl ?_
          first | refine wl_g rfl rfl rfl rfl (qt_l tbok rfl rfl rfl) ?_ | refine wl_g rfl rfl rfl rfl (qt_la tbok rfl rfl rfl) ?_ | refine wl_skip rfl rfl rfl rfl rfl ?_
          first | refine wl_g rfl rfl rfl rfl (qt_len tbok rfl rfl) ?_ | refine wl_skip rfl rfl rfl rfl rfl ?_
          refine wl_q rfl rfl rfl (qt_p tbok rfl) ?_
          refine wl_q rfl rfl rfl (qt_p tbok rfl) ?_
          refine wl_done ?_
          refine nk_code ?_
          refine wc_ret ?_
          try dsimp only
          exact fin1 rfl (rv_tmp rfl) (fun w' hw => ⟨by rw [rb4 (x := y.x) h1 h2 h3 h4], hw.all (new_cons (newKey hb) new_nil)⟩)
      · refine wl_q rfl rfl rfl (qt_p tbok rfl) ?_
        refine wl_q rfl rfl rfl (qt_p tbok rfl) ?_
        first | refine wl_g rfl rfl rfl rfl (qt_p tbok rfl) ?_ | refine wl_skip rfl rfl rfl rfl rfl ?_
        first | refine wl_g rfl rfl rfl rfl (qt_l tbok rfl rfl rfl) ?_ | refine wl_g rfl rfl rfl rfl (qt_la tbok rfl rfl rfl) ?_ | refine wl_skip rfl rfl rfl rfl rfl ?_
        first | refine wl_g rfl rfl rfl rfl (qt_p tbok rfl) ?_ | refine wl_skip rfl rfl rfl rfl rfl ?_
        refine wl_q rfl rfl rfl (qt_p tbok rfl) ?_
        refine wl_q rfl rfl rfl (qt_p tbok rfl) ?_
        first | refine wl_g rfl rfl rfl rfl (qt_p tbok rfl) ?_ | refine wl_skip rfl rfl rfl rfl rfl ?_
        first | refine wl_g rfl rfl rfl rfl (qt_l tbok rfl rfl rfl) ?_ | refine wl_g rfl rfl rfl rfl (qt_la tbok rfl rfl rfl) ?_ | refine wl_skip rfl rfl rfl rfl rfl ?_
        first | refine wl_g rfl rfl rfl rfl (qt_len tbok rfl rfl) ?_ | refine wl_skip rfl rfl rfl rfl rfl ?_
        refine wl_q rfl rfl rfl (qt_p tbok rfl) ?_
        refine wl_q rfl rfl rfl (qt_p tbok rfl) ?_
        first | refine wl_g rfl rfl rfl rfl (qt_p tbok rfl) ?_ | refine wl_skip rfl rfl rfl rfl rfl ?_
        first | refine wl_g rfl rfl rfl rfl (qt_l tbok rfl rfl rfl) ?_ | refine wl_g rfl rfl rfl rfl (qt_la tbok rfl rfl rfl) ?_ | refine wl_skip rfl rfl rfl rfl rfl ?_
        first | refine wl_g rfl rfl rfl rfl (qt_len tbok rfl rfl) ?_ | refine wl_skip rfl rfl rfl rfl rfl ?_
        refine wl_q rfl rfl rfl (qt_p tbok rfl) ?_
        refine wl_q rfl rfl rfl (qt_p tbok rfl) ?_
        first | refine wl_g rfl rfl rfl rfl (qt_p tbok rfl) ?_ | refine wl_skip rfl rfl rfl rfl rfl ?_
        first | refine wl_g rfl rfl rfl rfl (qt_l tbok rfl rfl rfl) ?_ | refine wl_g rfl rfl rfl rfl (qt_la tbok rfl rfl rfl) ?_ | refine wl_skip rfl rfl rfl rfl rfl ?_
        first | refine wl_g rfl rfl rfl rfl (qt_len tbok rfl rfl) ?_ | refine wl_skip rfl rfl rfl rfl rfl ?_
        refine wl_q rfl rfl rfl (qt_p tbok rfl) ?_
        refine wl_q rfl rfl rfl (qt_p tbok rfl) ?_
        refine wl_done ?_
        refine nk_code ?_
        refine wc_ret ?_
        try dsimp only
        exact fin1 rfl (rv_tmp rfl) (fun w' hw => ⟨by rw [rb3 (x := y.x) h1 h2 h3], hw.all (new_cons (newKey hb) new_nil)⟩)
    · refine wl_q rfl rfl rfl (qt_p tbok rfl) ?_
      refine wl_q rfl rfl rfl (qt_p tbok rfl) ?_
      first | refine wl_g rfl rfl rfl rfl (qt_p tbok rfl) ?_ | refine wl_skip rfl rfl rfl rfl rfl ?_
      first | refine wl_g rfl rfl rfl rfl (qt_l tbok rfl rfl rfl) ?_ | refine wl_g rfl rfl rfl rfl (qt_la tbok rfl rfl rfl) ?_ | refine wl_skip rfl rfl rfl rfl rfl ?_
      first | refine wl_g rfl rfl rfl rfl (qt_p tbok rfl) ?_ | refine wl_skip rfl rfl rfl rfl rfl ?_
      refine wl_q rfl rfl rfl (qt_p tbok rfl) ?_
      refine wl_q rfl rfl rfl (qt_p tbok rfl) ?_
      first | refine wl_g rfl rfl rfl rfl (qt_p tbok rfl) ?_ | refine wl_skip rfl rfl rfl rfl rfl ?_
      first | refine wl_g rfl rfl rfl rfl (qt_l tbok rfl rfl rfl) ?_ | refine wl_g rfl rfl rfl rfl (qt_la tbok rfl rfl rfl) ?_ | refine wl_skip rfl rfl rfl rfl rfl ?_
      first | refine wl_g rfl rfl rfl rfl (qt_p tbok rfl) ?_ | refine wl_skip rfl rfl rfl rfl rfl ?_
      refine wl_q rfl rfl rfl (qt_p tbok rfl) ?_
      refine wl_q rfl rfl rfl (qt_p tbok rfl) ?_
      first | refine wl_g rfl rfl rfl rfl (qt_p tbok rfl) ?_ | refine wl_skip rfl rfl rfl rfl rfl ?_
      first | refine wl_g rfl rfl rfl rfl (qt_l tbok rfl rfl rfl) ?_ | refine wl_g rfl rfl rfl rfl (qt_la tbok rfl rfl rfl) ?_ | refine wl_skip rfl rfl rfl rfl rfl ?_
      first | refine wl_g rfl rfl rfl rfl (qt_len tbok rfl rfl) ?_ | refine wl_skip rfl rfl rfl rfl rfl ?_
      refine wl_q rfl rfl rfl (qt_p tbok rfl) ?_
      refine wl_q rfl rfl rfl (qt_p tbok rfl) ?_
      first | refine wl_g rfl rfl rfl rfl (qt_p tbok rfl) ?_ | refine wl_skip rfl rfl rfl rfl rfl ?_
      first | refine wl_g rfl rfl rfl rfl (qt_l tbok rfl rfl rfl) ?_ | refine wl_g rfl rfl rfl rfl (qt_la tbok rfl rfl rfl) ?_ | refine wl_skip rfl rfl rfl rfl rfl ?_
      first | refine wl_g rfl rfl rfl rfl (qt_len tbok rfl rfl) ?_ | refine wl_skip rfl rfl rfl rfl rfl ?_
      refine wl_q rfl rfl rfl (qt_p tbok rfl) ?_
      refine wl_q rfl rfl rfl (qt_p tbok rfl) ?_
      first | refine wl_g rfl rfl rfl rfl (qt_p tbok rfl) ?_ | refine wl_skip rfl rfl rfl rfl rfl ?_
      first | refine wl_g rfl rfl rfl rfl (qt_l tbok rfl rfl rfl) ?_ | refine wl_g rfl rfl rfl rfl (qt_la tbok rfl rfl rfl) ?_ | refine wl_skip rfl rfl rfl rfl rfl ?_
      first | refine wl_g rfl rfl rfl rfl (qt_len tbok rfl rfl) ?_ | refine wl_skip rfl rfl rfl rfl rfl ?_
      refine wl_q rfl rfl rfl (qt_p tbok rfl) ?_
      refine wl_q rfl rfl rfl (qt_p tbok rfl) ?_
      refine wl_done ?_
      refine nk_code ?_
      refine wc_ret ?_
      try dsimp only
      exact fin1 rfl (rv_tmp rfl) (fun w' hw => ⟨by rw [rb2 (x := y.x) h1 h2], hw.all (new_cons (newKey hb) new_nil)⟩)
  · refine wl_q rfl rfl rfl (qt_p tbok rfl) ?_
    first | refine wl_g rfl rfl rfl rfl (qt_p tbok rfl) ?_ | refine wl_skip rfl rfl rfl rfl rfl ?_
    first | refine wl_g rfl rfl rfl rfl (qt_l tbok rfl rfl rfl) ?_ | refine wl_g rfl rfl rfl rfl (qt_la tbok rfl rfl rfl) ?_ | refine wl_skip rfl rfl rfl rfl rfl ?_
    first | refine wl_g rfl rfl rfl rfl (qt_p tbok rfl) ?_ | refine wl_skip rfl rfl rfl rfl rfl ?_
    refine wl_q rfl rfl rfl (qt_p tbok rfl) ?_
    refine wl_q rfl rfl rfl (qt_p tbok rfl) ?_
    first | refine wl_g rfl rfl rfl rfl (qt_p tbok rfl) ?_ | refine wl_skip rfl rfl rfl rfl rfl ?_
    first | refine wl_g rfl rfl rfl rfl (qt_l tbok rfl rfl rfl) ?_ | refine wl_g rfl rfl rfl rfl (qt_la tbok rfl rfl rfl) ?_ | refine wl_skip rfl rfl rfl rfl rfl ?_
    first | refine wl_g rfl rfl rfl rfl (qt_p tbok rfl) ?_ | refine wl_skip rfl rfl rfl rfl rfl ?_
    refine wl_q rfl rfl rfl (qt_p tbok rfl) ?_
    refine wl_q rfl rfl rfl (qt_p tbok rfl) ?_
    first | refine wl_g rfl rfl rfl rfl (qt_p tbok rfl) ?_ | refine wl_skip rfl rfl rfl rfl rfl ?_
    first | refine wl_g rfl rfl rfl rfl (qt_l tbok rfl rfl rfl) ?_ | refine wl_g rfl rfl rfl rfl (qt_la tbok rfl rfl rfl) ?_ | refine wl_skip rfl rfl rfl rfl rfl ?_
    first | refine wl_g rfl rfl rfl rfl (qt_p tbok rfl) ?_ | refine wl_skip rfl rfl rfl rfl rfl ?_
    refine wl_q rfl rfl rfl (qt_p tbok rfl) ?_
    refine wl_q rfl rfl rfl (qt_p tbok rfl) ?_
    first | refine wl_g rfl rfl rfl rfl (qt_p tbok rfl) ?_ | refine wl_skip rfl rfl rfl rfl rfl ?_
    first | refine wl_g rfl rfl rfl rfl (qt_l tbok rfl rfl rfl) ?_ | refine wl_g rfl rfl rfl rfl (qt_la tbok rfl rfl rfl) ?_ | refine wl_skip rfl rfl rfl rfl rfl ?_
    first | refine wl_g rfl rfl rfl rfl (qt_len tbok rfl rfl) ?_ | refine wl_skip rfl rfl rfl rfl rfl ?_
    refine wl_q rfl rfl rfl (qt_p tbok rfl) ?_
    refine wl_q rfl rfl rfl (qt_p tbok rfl) ?_
    first | refine wl_g rfl rfl rfl rfl (qt_p tbok rfl) ?_ | refine wl_skip rfl rfl rfl rfl rfl ?_
    first | refine wl_g rfl rfl rfl rfl (qt_l tbok rfl rfl rfl) ?_ | refine wl_g rfl rfl rfl rfl (qt_la tbok rfl rfl rfl) ?_ | refine wl_skip rfl rfl rfl rfl rfl ?_
    first | refine wl_g rfl rfl rfl rfl (qt_len tbok rfl rfl) ?_ | refine wl_skip rfl rfl rfl rfl rfl ?_
    refine wl_q rfl rfl rfl (qt_p tbok rfl) ?_
    refine wl_q rfl rfl rfl (qt_p tbok rfl) ?_
    first | refine wl_g rfl rfl rfl rfl (qt_p tbok rfl) ?_ | refine wl_skip rfl rfl rfl rfl rfl ?_
    first | refine wl_g rfl rfl rfl rfl (qt_l tbok rfl rfl rfl) ?_ | refine wl_g rfl rfl rfl rfl (qt_la tbok rfl rfl rfl) ?_ | refine wl_skip rfl rfl rfl rfl rfl ?_
    first | refine wl_g rfl rfl rfl rfl (qt_len tbok rfl rfl) ?_ | refine wl_skip rfl rfl rfl rfl rfl ?_
    refine wl_q rfl rfl rfl (qt_p tbok rfl) ?_
    refine wl_q rfl rfl rfl (qt_p tbok rfl) ?_
    refine wl_done ?_
    refine nk_code ?_
    refine wc_ret ?_
    try dsimp only
    exact fin1 rfl (rv_tmp rfl) (fun w' hw => ⟨by rw [rb1 (x := y.x) h1], hw.all (new_cons (newKey hb) new_nil)⟩)
theorem rightRoot2_c {w : World} {y : RL} (hk : y.ok) (hl : y.lies w) :
    CallsV Try.prog 48 [.agg y.cs] w fun en w' => en = .returned (V.c (.bool (rootB y.x))).den ∧ St w [] w' := by
  obtain ⟨⟨k1, _⟩, ⟨k2, _⟩, ⟨k3, _⟩⟩ := hk
  obtain ⟨l1, l2, l3⟩ := hl
  refine calls_in (tb := tb) (fn := Try.f48) Try.func48 rfl rfl rfl [(0, .agg y.cs)] rfl [] (St.refl _) ?_
  refine wc_seq ?_
  refine wc_region ?_
  refine wl_ef rfl (ef_box rfl rfl rfl (fun b hb => ?_))
  refine wl_q rfl rfl rfl (qt_p tbok rfl) ?_
  refine wl_done ?_
  refine nk_code ?_
  refine wc_seq ?_
  refine wc_region ?_
  refine wl_q rfl rfl rfl (qt_p tbok rfl) ?_
  first | refine wl_q rfl rfl rfl (qt_l tbok rfl rfl rfl) ?_ | refine wl_q rfl rfl rfl (qt_la tbok rfl rfl rfl) ?_
  refine wl_q rfl rfl rfl (qt_p tbok rfl) ?_
  refine wl_bool (fun h1 => ?_) (fun h1 => ?_)
  · refine wl_q rfl rfl rfl (qt_p tbok rfl) ?_
    first | refine wl_g rfl rfl rfl rfl (qt_p tbok rfl) ?_ | refine wl_skip rfl rfl rfl rfl rfl ?_
    first | refine wl_g rfl rfl rfl rfl (qt_l tbok rfl rfl rfl) ?_ | refine wl_g rfl rfl rfl rfl (qt_la tbok rfl rfl rfl) ?_ | refine wl_skip rfl rfl rfl rfl rfl ?_
    first | refine wl_g rfl rfl rfl rfl (qt_p tbok rfl) ?_ | refine wl_skip rfl rfl rfl rfl rfl ?_
    refine wl_bool (fun h2 => ?_) (fun h2 => ?_)
    · refine wl_q rfl rfl rfl (qt_p tbok rfl) ?_
      refine wl_q rfl rfl rfl (qt_p tbok rfl) ?_
      first | refine wl_g rfl rfl rfl rfl (qt_p tbok rfl) ?_ | refine wl_skip rfl rfl rfl rfl rfl ?_
      first | refine wl_g rfl rfl rfl rfl (qt_l tbok rfl rfl rfl) ?_ | refine wl_g rfl rfl rfl rfl (qt_la tbok rfl rfl rfl) ?_ | refine wl_skip rfl rfl rfl rfl rfl ?_
      first | refine wl_g rfl rfl rfl rfl (qt_p tbok rfl) ?_ | refine wl_skip rfl rfl rfl rfl rfl ?_
      refine wl_bool (fun h3 => ?_) (fun h3 => ?_)
      · refine wl_q rfl rfl rfl (qt_p tbok rfl) ?_
        refine wl_q rfl rfl rfl (qt_p tbok rfl) ?_
        first | refine wl_g rfl rfl rfl rfl (qt_p tbok rfl) ?_ | refine wl_skip rfl rfl rfl rfl rfl ?_
        first | refine wl_g rfl rfl rfl rfl (qt_l tbok rfl rfl rfl) ?_ | refine wl_g rfl rfl rfl rfl (qt_la tbok rfl rfl rfl) ?_ | refine wl_skip rfl rfl rfl rfl rfl ?_
        first | refine wl_g rfl rfl rfl rfl (qt_p tbok rfl) ?_ | refine wl_skip rfl rfl rfl rfl rfl ?_
        refine wl_bool (fun h4 => ?_) (fun h4 => ?_)
        · refine wl_q rfl rfl rfl (qt_p tbok rfl) ?_
          refine wl_q rfl rfl rfl (qt_p tbok rfl) ?_
          first | refine wl_g rfl rfl rfl rfl (qt_p tbok rfl) ?_ | refine wl_skip rfl rfl rfl rfl rfl ?_
          refine wl_g rfl rfl rfl rfl (qt_load_ag (l := rrow y.r) tbok rfl rfl rfl rfl (rs_lk .here (rl_r y))) ?_
          refine wl_gd rfl rfl (ef_pure (v := .c (.bool (rightB y.r.1.n y.r.1.K))) (by kernel_rfl) rfl rfl (fun w1 h1 => right2_c k1 (cells_rd (rd_cells l1 (off_new (newKey hb) off_nil)) h1)) ?_)
          refine wl_bool (fun h5 => ?_) (fun h5 => ?_)
          · refine wl_q rfl rfl rfl (qt_p tbok rfl) ?_
            refine wl_q rfl rfl rfl (qt_p tbok rfl) ?_
            first | refine wl_g rfl rfl rfl rfl (qt_p tbok rfl) ?_ | refine wl_skip rfl rfl rfl rfl rfl ?_
            refine wl_g rfl rfl rfl rfl (qt_load_ag (l := rrow y.t) tbok rfl rfl rfl rfl (rs_lk .here (rl_t y))) ?_
            refine wl_gd rfl rfl (ef_pure (v := .c (.bool (rightB y.t.1.n y.t.1.K))) (by kernel_rfl) rfl rfl (fun w1 h1 => right2_c k2 (cells_rd (rd_cells l2 (off_new (newKey hb) off_nil)) h1)) ?_)
            refine wl_bool (fun h6 => ?_) (fun h6 => ?_)
            · refine wl_q rfl rfl rfl (qt_p tbok rfl) ?_
              refine wl_q rfl rfl rfl (qt_p tbok rfl) ?_
              first | refine wl_g rfl rfl rfl rfl (qt_p tbok rfl) ?_ | refine wl_skip rfl rfl rfl rfl rfl ?_
              refine wl_g rfl rfl rfl rfl (qt_load_ag (l := rrow y.l) tbok rfl rfl rfl rfl (rs_lk .here (rl_l y))) ?_
              refine wl_gd rfl rfl (ef_pure (v := .c (.bool (rightB y.l.1.n y.l.1.K))) (by kernel_rfl) rfl rfl (fun w1 h1 => right2_c k3 (cells_rd (rd_cells l3 (off_new (newKey hb) off_nil)) h1)) ?_)
              refine wl_q rfl rfl rfl (qt_p tbok rfl) ?_
              refine wl_q rfl rfl rfl (qt_p tbok rfl) ?_
              refine wl_done ?_
              refine nk_code ?_
              refine wc_ret ?_
              try dsimp only
              exact fin1 rfl (rv_tmp rfl) (fun w' hw => ⟨by rw [rb7 (x := y.x) h1 h2 h3 h4 h5 h6]; rfl, hw.all (new_cons (newKey hb) new_nil)⟩)
            · refine wl_q rfl rfl rfl (qt_p tbok rfl) ?_
              refine wl_q rfl rfl rfl (qt_p tbok rfl) ?_
              first | refine wl_g rfl rfl rfl rfl (qt_p tbok rfl) ?_ | refine wl_skip rfl rfl rfl rfl rfl ?_
              first | refine wl_g rfl rfl rfl rfl (qt_l tbok rfl rfl rfl) ?_ | refine wl_g rfl rfl rfl rfl (qt_la tbok rfl rfl rfl) ?_ | refine wl_skip rfl rfl rfl rfl rfl ?_
              first | refine wl_g rfl rfl rfl rfl (qt_len tbok rfl rfl) ?_ | refine wl_skip rfl rfl rfl rfl rfl ?_
              refine wl_q rfl rfl rfl (qt_p tbok rfl) ?_
              refine wl_q rfl rfl rfl (qt_p tbok rfl) ?_
              refine wl_done ?_
              refine nk_code ?_
              refine wc_ret ?_
              try dsimp only
              exact fin1 rfl (rv_tmp rfl) (fun w' hw => ⟨by rw [rb6 (x := y.x) h1 h2 h3 h4 h5 h6], hw.all (new_cons (newKey hb) new_nil)⟩)
          · refine wl_q rfl rfl rfl (qt_p tbok rfl) ?_
            refine wl_q rfl rfl rfl (qt_p tbok rfl) ?_
            first | refine wl_g rfl rfl rfl rfl (qt_p tbok rfl) ?_ | refine wl_skip rfl rfl rfl rfl rfl ?_
            first | refine wl_g rfl rfl rfl rfl (qt_l tbok rfl rfl rfl) ?_ | refine wl_g rfl rfl rfl rfl (qt_la tbok rfl rfl rfl) ?_ | refine wl_skip rfl rfl rfl rfl rfl ?_
            first | refine wl_g rfl rfl rfl rfl (qt_len tbok rfl rfl) ?_ | refine wl_skip rfl rfl rfl rfl rfl ?_
            refine wl_q rfl rfl rfl (qt_p tbok rfl) ?_
            refine wl_q rfl rfl rfl (qt_p tbok rfl) ?_
            first | refine wl_g rfl rfl rfl rfl (qt_p tbok rfl) ?_ | refine wl_skip rfl rfl rfl rfl rfl ?_
            first | refine wl_g rfl rfl rfl rfl (qt_l tbok rfl rfl rfl) ?_ | refine wl_g rfl rfl rfl rfl (qt_la tbok rfl rfl rfl) ?_ | refine wl_skip rfl rfl rfl rfl rfl ?_
            first | refine wl_g rfl rfl rfl rfl (qt_len tbok rfl rfl) ?_ | refine wl_skip rfl rfl rfl rfl rfl ?_
            refine wl_q rfl rfl rfl (qt_p tbok rfl) ?_
            refine wl_q rfl rfl rfl (qt_p tbok rfl) ?_
            refine wl_done ?_
            refine nk_code ?_
            refine wc_ret ?_
            try dsimp only
            exact fin1 rfl (rv_tmp rfl) (fun w' hw => ⟨by rw [rb5 (x := y.x) h1 h2 h3 h4 h5], hw.all (new_cons (newKey hb) new_nil)⟩)
        · refine wl_q rfl rfl rfl (qt_p tbok rfl) ?_
          refine wl_q rfl rfl rfl (qt_p tbok rfl) ?_
          first | refine wl_g rfl rfl rfl rfl (qt_p tbok rfl) ?_ | refine wl_skip rfl rfl rfl rfl rfl ?_
          first | refine wl_g rfl rfl rfl rfl (qt_l tbok rfl rfl rfl) ?_ | refine wl_g rfl rfl rfl rfl (qt_la tbok rfl rfl rfl) ?_ | refine wl_skip rfl rfl rfl rfl rfl ?_
          first | refine wl_g rfl rfl rfl rfl (qt_len tbok rfl rfl) ?_ | refine wl_skip rfl rfl rfl rfl rfl ?_
          refine wl_q rfl rfl rfl (qt_p tbok rfl) ?_
          refine wl_q rfl rfl rfl (qt_p tbok rfl) ?_
          first | refine wl_g rfl rfl rfl rfl (qt_p tbok rfl) ?_ | refine wl_skip rfl rfl rfl rfl rfl ?_
          first | refine wl_g rfl rfl rfl rfl (qt_l tbok rfl rfl rfl) ?_ | refine wl_g rfl rfl rfl rfl (qt_la tbok rfl rfl rfl) ?_ | refine wl_skip rfl rfl rfl rfl rfl ?_
          first | refine wl_g rfl rfl rfl rfl (qt_len tbok rfl rfl) ?_ | refine wl_skip rfl rfl rfl rfl rfl ?_
          refine wl_q rfl rfl rfl (qt_p tbok rfl) ?_
          refine wl_q rfl rfl rfl (qt_p tbok rfl) ?_
          first | refine wl_g rfl rfl rfl rfl (qt_p tbok rfl) ?_ | refine wl_skip rfl rfl rfl rfl rfl ?_
          first | refine wl_g rfl rfl rfl rfl (qt_l tbok rfl rfl rfl) ?_ | refine wl_g rfl rfl rfl rfl (qt_la tbok rfl rfl rfl) ?_ | refine wl_skip rfl rfl rfl rfl rfl ?_
          first | refine wl_g rfl rfl rfl rfl (qt_len tbok rfl rfl) ?_ | refine wl_skip rfl rfl rfl rfl rfl ?_
          refine wl_q rfl rfl rfl (qt_p tbok rfl) ?_
          refine wl_q rfl rfl rfl (qt_p tbok rfl) ?_
          refine wl_done ?_
          refine nk_code ?_
          refine wc_ret ?_
          try dsimp only
          exact fin1 rfl (rv_tmp rfl) (fun w' hw => ⟨by rw [rb4 (x := y.x) h1 h2 h3 h4], hw.all (new_cons (newKey hb) new_nil)⟩)
      · refine wl_q rfl rfl rfl (qt_p tbok rfl) ?_
        refine wl_q rfl rfl rfl (qt_p tbok rfl) ?_
        first | refine wl_g rfl rfl rfl rfl (qt_p tbok rfl) ?_ | refine wl_skip rfl rfl rfl rfl rfl ?_
        first | refine wl_g rfl rfl rfl rfl (qt_l tbok rfl rfl rfl) ?_ | refine wl_g rfl rfl rfl rfl (qt_la tbok rfl rfl rfl) ?_ | refine wl_skip rfl rfl rfl rfl rfl ?_
        first | refine wl_g rfl rfl rfl rfl (qt_p tbok rfl) ?_ | refine wl_skip rfl rfl rfl rfl rfl ?_
        refine wl_q rfl rfl rfl (qt_p tbok rfl) ?_
        refine wl_q rfl rfl rfl (qt_p tbok rfl) ?_
        first | refine wl_g rfl rfl rfl rfl (qt_p tbok rfl) ?_ | refine wl_skip rfl rfl rfl rfl rfl ?_
        first | refine wl_g rfl rfl rfl rfl (qt_l tbok rfl rfl rfl) ?_ | refine wl_g rfl rfl rfl rfl (qt_la tbok rfl rfl rfl) ?_ | refine wl_skip rfl rfl rfl rfl rfl ?_
        first | refine wl_g rfl rfl rfl rfl (qt_len tbok rfl rfl) ?_ | refine wl_skip rfl rfl rfl rfl rfl ?_
        refine wl_q rfl rfl rfl (qt_p tbok rfl) ?_
        refine wl_q rfl rfl rfl (qt_p tbok rfl) ?_
        first | refine wl_g rfl rfl rfl rfl (qt_p tbok rfl) ?_ | refine wl_skip rfl rfl rfl rfl rfl ?_
        first | refine wl_g rfl rfl rfl rfl (qt_l tbok rfl rfl rfl) ?_ | refine wl_g rfl rfl rfl rfl (qt_la tbok rfl rfl rfl) ?_ | refine wl_skip rfl rfl rfl rfl rfl ?_
        first | refine wl_g rfl rfl rfl rfl (qt_len tbok rfl rfl) ?_ | refine wl_skip rfl rfl rfl rfl rfl ?_
        refine wl_q rfl rfl rfl (qt_p tbok rfl) ?_
        refine wl_q rfl rfl rfl (qt_p tbok rfl) ?_
        first | refine wl_g rfl rfl rfl rfl (qt_p tbok rfl) ?_ | refine wl_skip rfl rfl rfl rfl rfl ?_
        first | refine wl_g rfl rfl rfl rfl (qt_l tbok rfl rfl rfl) ?_ | refine wl_g rfl rfl rfl rfl (qt_la tbok rfl rfl rfl) ?_ | refine wl_skip rfl rfl rfl rfl rfl ?_
        first | refine wl_g rfl rfl rfl rfl (qt_len tbok rfl rfl) ?_ | refine wl_skip rfl rfl rfl rfl rfl ?_
        refine wl_q rfl rfl rfl (qt_p tbok rfl) ?_
        refine wl_q rfl rfl rfl (qt_p tbok rfl) ?_
        refine wl_done ?_
        refine nk_code ?_
        refine wc_ret ?_
        try dsimp only
        exact fin1 rfl (rv_tmp rfl) (fun w' hw => ⟨by rw [rb3 (x := y.x) h1 h2 h3], hw.all (new_cons (newKey hb) new_nil)⟩)
    · refine wl_q rfl rfl rfl (qt_p tbok rfl) ?_
      refine wl_q rfl rfl rfl (qt_p tbok rfl) ?_
      first | refine wl_g rfl rfl rfl rfl (qt_p tbok rfl) ?_ | refine wl_skip rfl rfl rfl rfl rfl ?_
      first | refine wl_g rfl rfl rfl rfl (qt_l tbok rfl rfl rfl) ?_ | refine wl_g rfl rfl rfl rfl (qt_la tbok rfl rfl rfl) ?_ | refine wl_skip rfl rfl rfl rfl rfl ?_
      first | refine wl_g rfl rfl rfl rfl (qt_p tbok rfl) ?_ | refine wl_skip rfl rfl rfl rfl rfl ?_
      refine wl_q rfl rfl rfl (qt_p tbok rfl) ?_
      refine wl_q rfl rfl rfl (qt_p tbok rfl) ?_
      first | refine wl_g rfl rfl rfl rfl (qt_p tbok rfl) ?_ | refine wl_skip rfl rfl rfl rfl rfl ?_
      first | refine wl_g rfl rfl rfl rfl (qt_l tbok rfl rfl rfl) ?_ | refine wl_g rfl rfl rfl rfl (qt_la tbok rfl rfl rfl) ?_ | refine wl_skip rfl rfl rfl rfl rfl ?_
      first | refine wl_g rfl rfl rfl rfl (qt_p tbok rfl) ?_ | refine wl_skip rfl rfl rfl rfl rfl ?_
      refine wl_q rfl rfl rfl (qt_p tbok rfl) ?_
      refine wl_q rfl rfl rfl (qt_p tbok rfl) ?_
      first | refine wl_g rfl rfl rfl rfl (qt_p tbok rfl) ?_ | refine wl_skip rfl rfl rfl rfl rfl ?_
      first | refine wl_g rfl rfl rfl rfl (qt_l tbok rfl rfl rfl) ?_ | refine wl_g rfl rfl rfl rfl (qt_la tbok rfl rfl rfl) ?_ | refine wl_skip rfl rfl rfl rfl rfl ?_
      first | refine wl_g rfl rfl rfl rfl (qt_len tbok rfl rfl) ?_ | refine wl_skip rfl rfl rfl rfl rfl ?_
      refine wl_q rfl rfl rfl (qt_p tbok rfl) ?_
      refine wl_q rfl rfl rfl (qt_p tbok rfl) ?_
      first | refine wl_g rfl rfl rfl rfl (qt_p tbok rfl) ?_ | refine wl_skip rfl rfl rfl rfl rfl ?_
      first | refine wl_g rfl rfl rfl rfl (qt_l tbok rfl rfl rfl) ?_ | refine wl_g rfl rfl rfl rfl (qt_la tbok rfl rfl rfl) ?_ | refine wl_skip rfl rfl rfl rfl rfl ?_
      first | refine wl_g rfl rfl rfl rfl (qt_len tbok rfl rfl) ?_ | refine wl_skip rfl rfl rfl rfl rfl ?_
      refine wl_q rfl rfl rfl (qt_p tbok rfl) ?_
      refine wl_q rfl rfl rfl (qt_p tbok rfl) ?_
      first | refine wl_g rfl rfl rfl rfl (qt_p tbok rfl) ?_ | refine wl_skip rfl rfl rfl rfl rfl ?_
      first | refine wl_g rfl rfl rfl rfl (qt_l tbok rfl rfl rfl) ?_ | refine wl_g rfl rfl rfl rfl (qt_la tbok rfl rfl rfl) ?_ | refine wl_skip rfl rfl rfl rfl rfl ?_
      first | refine wl_g rfl rfl rfl rfl (qt_len tbok rfl rfl) ?_ | refine wl_skip rfl rfl rfl rfl rfl ?_
      refine wl_q rfl rfl rfl (qt_p tbok rfl) ?_
      refine wl_q rfl rfl rfl (qt_p tbok rfl) ?_
      refine wl_done ?_
      refine nk_code ?_
      refine wc_ret ?_
      try dsimp only
      exact fin1 rfl (rv_tmp rfl) (fun w' hw => ⟨by rw [rb2 (x := y.x) h1 h2], hw.all (new_cons (newKey hb) new_nil)⟩)
  · refine wl_q rfl rfl rfl (qt_p tbok rfl) ?_
    first | refine wl_g rfl rfl rfl rfl (qt_p tbok rfl) ?_ | refine wl_skip rfl rfl rfl rfl rfl ?_
    first | refine wl_g rfl rfl rfl rfl (qt_l tbok rfl rfl rfl) ?_ | refine wl_g rfl rfl rfl rfl (qt_la tbok rfl rfl rfl) ?_ | refine wl_skip rfl rfl rfl rfl rfl ?_
    first | refine wl_g rfl rfl rfl rfl (qt_p tbok rfl) ?_ | refine wl_skip rfl rfl rfl rfl rfl ?_
    refine wl_q rfl rfl rfl (qt_p tbok rfl) ?_
    refine wl_q rfl rfl rfl (qt_p tbok rfl) ?_
    first | refine wl_g rfl rfl rfl rfl (qt_p tbok rfl) ?_ | refine wl_skip rfl rfl rfl rfl rfl ?_
    first | refine wl_g rfl rfl rfl rfl (qt_l tbok rfl rfl rfl) ?_ | refine wl_g rfl rfl rfl rfl (qt_la tbok rfl rfl rfl) ?_ | refine wl_skip rfl rfl rfl rfl rfl ?_
    first | refine wl_g rfl rfl rfl rfl (qt_p tbok rfl) ?_ | refine wl_skip rfl rfl rfl rfl rfl ?_
    refine wl_q rfl rfl rfl (qt_p tbok rfl) ?_
    refine wl_q rfl rfl rfl (qt_p tbok rfl) ?_
    first | refine wl_g rfl rfl rfl rfl (qt_p tbok rfl) ?_ | refine wl_skip rfl rfl rfl rfl rfl ?_
    first | refine wl_g rfl rfl rfl rfl (qt_l tbok rfl rfl rfl) ?_ | refine wl_g rfl rfl rfl rfl (qt_la tbok rfl rfl rfl) ?_ | refine wl_skip rfl rfl rfl rfl rfl ?_
    first | refine wl_g rfl rfl rfl rfl (qt_p tbok rfl) ?_ | refine wl_skip rfl rfl rfl rfl rfl ?_
    refine wl_q rfl rfl rfl (qt_p tbok rfl) ?_
    refine wl_q rfl rfl rfl (qt_p tbok rfl) ?_
    first | refine wl_g rfl rfl rfl rfl (qt_p tbok rfl) ?_ | refine wl_skip rfl rfl rfl rfl rfl ?_
    first | refine wl_g rfl rfl rfl rfl (qt_l tbok rfl rfl rfl) ?_ | refine wl_g rfl rfl rfl rfl (qt_la tbok rfl rfl rfl) ?_ | refine wl_skip rfl rfl rfl rfl rfl ?_
    first | refine wl_g rfl rfl rfl rfl (qt_len tbok rfl rfl) ?_ | refine wl_skip rfl rfl rfl rfl rfl ?_
    refine wl_q rfl rfl rfl (qt_p tbok rfl) ?_
    refine wl_q rfl rfl rfl (qt_p tbok rfl) ?_
    first | refine wl_g rfl rfl rfl rfl (qt_p tbok rfl) ?_ | refine wl_skip rfl rfl rfl rfl rfl ?_
    first | refine wl_g rfl rfl rfl rfl (qt_l tbok rfl rfl rfl) ?_ | refine wl_g rfl rfl rfl rfl (qt_la tbok rfl rfl rfl) ?_ | refine wl_skip rfl rfl rfl rfl rfl ?_
    first | refine wl_g rfl rfl rfl rfl (qt_len tbok rfl rfl) ?_ | refine wl_skip rfl rfl rfl rfl rfl ?_
    refine wl_q rfl rfl rfl (qt_p tbok rfl) ?_
    refine wl_q rfl rfl rfl (qt_p tbok rfl) ?_
    first | refine wl_g rfl rfl rfl rfl (qt_p tbok rfl) ?_ | refine wl_skip rfl rfl rfl rfl rfl ?_
    first | refine wl_g rfl rfl rfl rfl (qt_l tbok rfl rfl rfl) ?_ | refine wl_g rfl rfl rfl rfl (qt_la tbok rfl rfl rfl) ?_ | refine wl_skip rfl rfl rfl rfl rfl ?_
    first | refine wl_g rfl rfl rfl rfl (qt_len tbok rfl rfl) ?_ | refine wl_skip rfl rfl rfl rfl rfl ?_
    refine wl_q rfl rfl rfl (qt_p tbok rfl) ?_
    refine wl_q rfl rfl rfl (qt_p tbok rfl) ?_
    refine wl_done ?_
    refine nk_code ?_
    refine wc_ret ?_
    try dsimp only
    exact fin1 rfl (rv_tmp rfl) (fun w' hw => ⟨by rw [rb1 (x := y.x) h1], hw.all (new_cons (newKey hb) new_nil)⟩)

/-! ### Copies -/
theorem zero68 : zeroIs Try.prog 68 (.agg [.i64 0, .slc .nil 0 0]) := by unfold zeroIs; kernel_rfl
theorem el24 : elOk Try.prog 24 33 40 (.agg z33) = true := by kernel_rfl
def z8 : List C := [.i64 0, .i64 0, .i64 0, .slc .nil 0 0, .i64 0, .slc .nil 0 0, .i64 0, .slc .nil 0 0]
theorem zero88 : zeroIs Try.prog 88 (.agg z8) := by unfold zeroIs; kernel_rfl
theorem zero92 : zeroIs Try.prog 92 (.agg z8) := by unfold zeroIs; kernel_rfl
abbrev kob2 (K : List (Int × List UInt8)) (y : Os) : Blk := ⟨y.1, K.flatMap kr, 24, (0, 0), y.2.2⟩
theorem fromRole_c {w : World} {n : Int} {K : List (Int × List UInt8)} {pa : Ad} {pc : Nat} (hK : K32 K) (hl : K.length ≤ 1073741824) (hc : Cells w pa (K.flatMap kr)) :
    CallsV Try.prog 89 [.agg [.i64 n, .slc pa K.length pc]] w fun en w' => ∃ y : Os, en = .returned (V.agg [.i64 n, .slc y.1 K.length y.2.1]).den ∧ OwnS y.1 K.length y.2.1 33 (K.flatMap kr) y.2.2 ∧ (∀ k, (kob2 K y).key = some k → w.heap.size ≤ k) ∧ St w [kob2 K y] w' := by
  refine calls_in (tb := tb) (fn := Try.f89) Try.func89 rfl rfl rfl [(0, .agg [.i64 n, .slc pa K.length pc])] rfl [] (St.refl _) ?_
  refine wc_seq ?_
  refine wc_region ?_
  refine wl_ef rfl (ef_box rfl rfl rfl (fun b hb => ?_))
  refine wl_ef rfl (ef_alloc zero68 rfl rfl (fun o ho => ?_))
  refine wl_done ?_
  refine nk_code ?_
  refine wc_seq ?_
  refine wc_region ?_
  refine wl_q rfl rfl rfl (qt_p tbok rfl) ?_
  first | refine wl_q rfl rfl rfl (qt_l tbok rfl rfl rfl) ?_ | refine wl_q rfl rfl rfl (qt_la tbok rfl rfl rfl) ?_
  refine wl_q rfl rfl rfl (qt_build (vs := [(0, .c (.i64 n))]) (l := [.i64 n, .slc .nil 0 0]) tbok rfl zero68 rfl rfl) ?_
  refine wl_ef rfl (ef_alloc zero68 rfl rfl (fun r hr => ?_))
  refine wl_ef rfl (ef_store (cs' := [.i64 n, .slc .nil 0 0]) tbok rfl rfl rfl rfl .here rfl (Nat.le_of_ble_eq_true rfl) (spl_all rfl) ?_)
  refine wl_done ?_
  refine nk_code ?_
  refine wc_seq ?_
  refine wc_seq ?_
  refine wc_region ?_
  refine wl_q rfl rfl rfl (qt_p tbok rfl) ?_
  first | refine wl_q rfl rfl rfl (qt_l tbok rfl rfl rfl) ?_ | refine wl_q rfl rfl rfl (qt_la tbok rfl rfl rfl) ?_
  refine wl_q rfl rfl rfl (qt_len tbok rfl rfl) ?_
  refine wl_q rfl rfl rfl (qt_p tbok rfl) ?_
  refine wl_done ?_
  refine nk_code ?_
  refine wc_block ?_
  refine wc_loop (ι := Nat × Os) (fun j => j.1 ≤ K.length ∧ OwnS j.2.1 j.1 j.2.2.1 33 ((K.take j.1).flatMap kr) j.2.2.2 ∧ (∀ k, j.2.1.key = some k → w.heap.size ≤ k)) (fun j => [(12, .c (.i64 (j.1 : Int))), (11, .c (.i64 (K.length : Int))), (10, .c (.slc pa K.length pc)), (1, .c (.ptr (.at b 0))), (2, .c (.ptr (.at o 0))), (3, .c (.ptr (.at r 0)))]) (fun j => [kob2 (K.take j.1) j.2, ⟨.at r 0, [.i64 n, .slc j.2.1 j.1 j.2.2.1], 68, (0, 0), []⟩, ⟨.at o 0, [.i64 0, .slc .nil 0 0], 68, (0, 0), []⟩, ⟨.at b 0, [.i64 n, .slc pa K.length pc], 72, (0, 0), []⟩]) (fun j => K.length - j.1) (0, .nil, 0, []) ⟨Nat.zero_le _, ⟨rfl, rfl, rfl, rfl⟩, nil_new⟩ (nk_start ⟨rfl, rfl, rfl, rfl, rfl, rfl, trivial⟩ (fun w hw => st_none hw)) (fun ⟨k, y⟩ ⟨hk, hy, hky⟩ => ?_)
  replace hk : k ≤ K.length := hk
  replace hy : OwnS y.1 k y.2.1 33 ((K.take k).flatMap kr) y.2.2 := hy
  replace hky : ∀ k, y.1.key = some k → w.heap.size ≤ k := hky
  dsimp only
  refine wc_seq ?_
  refine wc_region ?_
  refine wl_q rfl rfl rfl (qt_p tbok rfl) ?_
  refine wl_done ?_
  refine nk_code ?_
  refine wc_seq ?_
  refine wc_cond rfl (fun h13 => ?_) (fun h13 => ?_)
  · have hk' : k < K.length := (by have h0 := of_decide_eq_true h13; omega)
    have hgl := hK.row _ (el_mem hk')
    have hgb : (bc (el K k).2).length = 32 := (by rw [bc_len]; exact hK _ (el_mem hk'))
    obtain ⟨pr, po, hpa⟩ := cells_nn hc (by rw [rows_len hK.row]; omega)
    subst hpa
    refine wc_skip ?_
    refine nk_code ?_
    refine wc_seq ?_
    refine wc_block ?_
    refine wc_seq ?_
    refine wc_region ?_
    refine wl_q rfl rfl rfl (qt_p tbok rfl) ?_
    refine wl_q rfl rfl rfl (qt_load_ag (l := kr (el K k)) tbok rfl rfl rfl hgl (rs_cells (hc.sub2 (m := k * 33) (rows_at hK.row hk')) (off_new hky (off_new (newKey hr) (off_new (newKey ho) (off_new (newKey hb) off_nil)))))) ?_
    refine wl_ef rfl (ef_alloc zero32 rfl rfl (fun x hx => ?_))
    refine wl_ef rfl (ef_store (cs' := kr (el K k)) tbok rfl rfl rfl rfl .here hgl (Nat.le_of_ble_eq_true rfl) (spl_all hgl) ?_)
    refine wl_done ?_
    refine nk_code ?_
    refine wc_region ?_
    refine wl_q rfl rfl rfl (qt_p tbok rfl) ?_
    refine wl_q rfl rfl rfl (qt_load tbok rfl rfl rfl (rc_lk (.there (.there .here)) rfl)) ?_
    refine wl_q rfl rfl rfl (qt_p tbok rfl) ?_
    refine wl_q rfl rfl rfl (qt_load tbok rfl rfl rfl (rc_lk .here rfl)) ?_
    refine wl_q rfl rfl rfl (qt_p tbok rfl) ?_
    refine wl_q rfl rfl rfl (qt_load_ag (l := bc (el K k).2) tbok rfl rfl rfl hgb (rs_lk .here (fun j c hj => by show (C.i64 (el K k).1 :: bc (el K k).2)[1 + j]? = some c; rw [Nat.add_comm]; exact hj))) ?_
    refine wl_q rfl rfl rfl (qt_build (vs := [(0, .c (.i64 (el K k).1)), (1, .agg (bc (el K k).2))]) (l := kr (el K k)) tbok rfl zero24 rfl (pfill hgb)) ?_
    refine wl_ef rfl (ef_buildSlice (vs := [(0, .agg (kr (el K k)))]) (l := kr (el K k)) tbok rfl zero24 rfl rfl rfl (by decide) (fill_oneN rfl hgl) rfl (fun br hb2 => ?_))
    refine wl_ef rfl (ef_append tbok rfl el24 zero24 rfl rfl rfl (.there (.there .here)) hy hky (m := 1) (news := kr (el K k)) (by rw [hgl]) (rs_lk .here at0) (by omega) (by simp only [maxLen]; omega) (fun a2 c2 t2 hown2 hk2 hnn _ => ?_))
    refine wl_q rfl rfl rfl (qt_p tbok rfl) ?_
    refine wl_ef rfl (ef_store (cs' := [.i64 n, .slc a2 (k + 1) c2]) tbok rfl rfl rfl rfl (.there (.there (.there .here))) rfl (Nat.le_of_ble_eq_true rfl) rfl ?_)
    refine wl_done ?_
    refine nk_code ?_
    refine wc_region ?_
    refine wl_q rfl rfl rfl (qt_p tbok rfl) ?_
    refine wl_q rfl rfl rfl (qt_p tbok rfl) ?_
    refine wl_done ?_
    exact nk_round (i := (k, y)) (k + 1, a2, c2, t2) ⟨hk', by show OwnS a2 (k + 1) c2 33 ((K.take (k + 1)).flatMap kr) t2; rw [← rows_snoc hk']; exact hown2, hk2⟩ (by show K.length - (k + 1) < K.length - k; omega) ⟨rfl, rfl, rfl, rfl, rfl, rfl, trivial⟩ (fun w hw => by have h2 := Rm.sub_St (Rm.sub_St hw (.there .here) (newKey hb2)) (.there .here) (newKey hx); rw [rows_snoc hk'] at h2; exact h2)
  · have he : k = K.length := (by have h0 := of_decide_eq_false h13; omega)
    subst he
    rw [List.take_length] at hy ⊢
    refine wc_exit rfl ?_
    refine nk_code ?_
    refine wc_seq ?_
    refine wc_region ?_
    refine wl_q rfl rfl rfl (qt_load_ag (l := [.i64 n, .slc y.1 K.length y.2.1]) tbok rfl rfl rfl rfl (rs_lk (.there .here) at0)) ?_
    refine wl_ef rfl (ef_store (cs' := [.i64 n, .slc y.1 K.length y.2.1]) tbok rfl rfl rfl rfl (.there (.there .here)) rfl (Nat.le_of_ble_eq_true rfl) rfl ?_)
    refine wl_done ?_
    refine nk_code ?_
    refine wc_ret ?_
    try dsimp only
    exact fin1 rfl (rv_ag (l := [.i64 n, .slc y.1 K.length y.2.1]) tbok rfl rfl rfl rfl (rs_lk (.there (.there .here)) at0)) (fun w' hw => ⟨y, rfl, hy, hky, Rm.sub_St (Rm.sub_St (Rm.sub_St hw (.there .here) (newKey hr)) (.there .here) (newKey ho)) (.there .here) (newKey hb)⟩)

theorem toRoot_c {w : World} {y : RL} (hk : y.ok) (hl : y.lies w) :
    CallsV Try.prog 43 [.agg y.cs] w fun en w' => ∃ z : RL, en = .returned (V.agg z.cs).den ∧ (z.x = y.x ∧ z.own) ∧ (∀ p ∈ rbs 32 z, ∀ k, p.key = some k → w.heap.size ≤ k) ∧ St w (rbs 32 z) w' := by
  obtain ⟨⟨k1, m1⟩, ⟨k2, m2⟩, ⟨k3, m3⟩⟩ := hk
  obtain ⟨l1, l2, l3⟩ := hl
  refine calls_in (tb := tb) (fn := Try.f43) Try.func43 rfl rfl rfl [(0, .agg y.cs)] rfl [] (St.refl _) ?_
  refine wc_seq ?_
  refine wc_region ?_
  refine wl_ef rfl (ef_box rfl rfl rfl (fun b hb => ?_))
  refine wl_ef rfl (ef_alloc zero92 rfl rfl (fun o ho => ?_))
  refine wl_done ?_
  refine nk_code ?_
  refine wc_seq ?_
  refine wc_draw (s0 := [⟨.at b 0, y.cs, 88, (0, 0), []⟩]) 14 follows ?_
  refine wh_q 0 rfl (by kernel_rfl) rfl rfl rfl (qt_p tbok rfl) (fun w hw => hw.tail (newKey ho)) ?_
  first | refine wh_q 1 rfl (by kernel_rfl) rfl rfl rfl (qt_l tbok rfl rfl rfl) (fun w hw => hw.tail (newKey ho)) ?_ | refine wh_q 1 rfl (by kernel_rfl) rfl rfl rfl (qt_la tbok rfl rfl rfl) (fun w hw => hw.tail (newKey ho)) ?_
  refine wh_q 2 rfl (by kernel_rfl) rfl rfl rfl (qt_p tbok rfl) (fun w hw => hw.tail (newKey ho)) ?_
  first | refine wh_q 3 rfl (by kernel_rfl) rfl rfl rfl (qt_l tbok rfl rfl rfl) (fun w hw => hw.tail (newKey ho)) ?_ | refine wh_q 3 rfl (by kernel_rfl) rfl rfl rfl (qt_la tbok rfl rfl rfl) (fun w hw => hw.tail (newKey ho)) ?_
  refine wh_q 4 rfl (by kernel_rfl) rfl rfl rfl (qt_p tbok rfl) (fun w hw => hw.tail (newKey ho)) ?_
  refine wh_q 5 rfl (by kernel_rfl) rfl rfl rfl (qt_load_ag (l := rrow y.r) tbok rfl rfl rfl rfl (rs_lk .here (rl_r y))) (fun w hw => hw.tail (newKey ho)) ?_
  refine wh_q 7 rfl (by kernel_rfl) rfl rfl rfl (qt_p tbok rfl) (fun w hw => hw.tail (newKey ho)) ?_
  refine wh_q 8 rfl (by kernel_rfl) rfl rfl rfl (qt_load_ag (l := rrow y.t) tbok rfl rfl rfl rfl (rs_lk .here (rl_t y))) (fun w hw => hw.tail (newKey ho)) ?_
  refine wh_q 10 rfl (by kernel_rfl) rfl rfl rfl (qt_p tbok rfl) (fun w hw => hw.tail (newKey ho)) ?_
  refine wh_q 11 rfl (by kernel_rfl) rfl rfl rfl (qt_load_ag (l := rrow y.l) tbok rfl rfl rfl rfl (rs_lk .here (rl_l y))) (fun w hw => hw.tail (newKey ho)) ?_
  refine wh_one 6 (by kernel_rfl) (wo_ef rfl rfl (ef_fresh (by kernel_rfl) rfl rfl (fun w1 h1 => toRole_c k1 m1 (cells_rd (rd_cells l1 (off_new (newKey hb) off_nil)) (h1.tail (newKey ho)))) (fun p hp hkp => ⟨fun w hw => (hw.tail hkp).tail (newKey ho), ?_⟩)))
  refine wh_one 9 (by kernel_rfl) (wo_ef rfl rfl (ef_fresh (by kernel_rfl) rfl rfl (fun w1 h1 => toRole_c k2 m2 (cells_rd (rd_cells l2 (off_new (newKey hb) off_nil)) ((h1.tail hkp).tail (newKey ho)))) (fun q hq hkq => ⟨fun w hw => ((hw.tail hkq).tail hkp).tail (newKey ho), ?_⟩)))
  refine wh_one 12 (by kernel_rfl) (wo_ef rfl rfl (ef_fresh (by kernel_rfl) rfl rfl (fun w1 h1 => toRole_c k3 m3 (cells_rd (rd_cells l3 (off_new (newKey hb) off_nil)) (((h1.tail hkq).tail hkp).tail (newKey ho)))) (fun s hs hks => ⟨fun w hw => (((hw.tail hks).tail hkq).tail hkp).tail (newKey ho), ?_⟩)))
  refine wh_q 13 rfl (by kernel_rfl) rfl rfl rfl (qt_build (vs := [(0, .c (.i64 y.v)), (1, .c (.i64 y.u)), (2, .agg (rrow (y.r.1, p))), (3, .agg (rrow (y.t.1, q))), (4, .agg (rrow (y.l.1, s)))]) (l := (⟨y.v, y.u, (y.r.1, p), (y.t.1, q), (y.l.1, s)⟩ : RL).cs) tbok rfl zero92 rfl rfl) (fun w hw => (((hw.tail hks).tail hkq).tail hkp).tail (newKey ho)) ?_
  refine wh_one 14 (by kernel_rfl) (wo_fin rfl rfl (ef_store (cs' := (⟨y.v, y.u, (y.r.1, p), (y.t.1, q), (y.l.1, s)⟩ : RL).cs) tbok rfl rfl rfl rfl (.there (.there (.there .here))) rfl (Nat.le_of_ble_eq_true rfl) rfl ?_))
  refine wh_done (by kernel_rfl) ?_
  refine nk_code ?_
  refine wc_ret ?_
  try dsimp only
  exact fin1 rfl (rv_ag (l := (⟨y.v, y.u, (y.r.1, p), (y.t.1, q), (y.l.1, s)⟩ : RL).cs) tbok rfl rfl rfl rfl (rs_lk (.there (.there (.there .here))) at0)) (fun w' hw => ⟨⟨y.v, y.u, (y.r.1, p), (y.t.1, q), (y.l.1, s)⟩, rfl, ⟨rfl, hp, hq, hs⟩, new_cons hks (new_cons hkq (new_cons hkp new_nil)), Rm.sub_St (Rm.sub_St hw (.there (.there (.there (.there .here)))) (newKey hb)) (.there (.there (.there .here))) (newKey ho)⟩)

theorem fromRoot_c {w : World} {y : RL} (hk : y.ok) (hl : y.lies w) :
    CallsV Try.prog 50 [.agg y.cs] w fun en w' => ∃ z : RL, en = .returned (V.agg z.cs).den ∧ (z.x = y.x ∧ z.own) ∧ (∀ p ∈ rbs 24 z, ∀ k, p.key = some k → w.heap.size ≤ k) ∧ St w (rbs 24 z) w' := by
  obtain ⟨⟨k1, m1⟩, ⟨k2, m2⟩, ⟨k3, m3⟩⟩ := hk
  obtain ⟨l1, l2, l3⟩ := hl
  refine calls_in (tb := tb) (fn := Try.f50) Try.func50 rfl rfl rfl [(0, .agg y.cs)] rfl [] (St.refl _) ?_
  refine wc_seq ?_
  refine wc_region ?_
  refine wl_ef rfl (ef_box rfl rfl rfl (fun b hb => ?_))
  refine wl_ef rfl (ef_alloc zero88 rfl rfl (fun o ho => ?_))
  refine wl_done ?_
  refine nk_code ?_
  refine wc_seq ?_
  refine wc_draw (s0 := [⟨.at b 0, y.cs, 92, (0, 0), []⟩]) 14 follows ?_
  refine wh_q 0 rfl (by kernel_rfl) rfl rfl rfl (qt_p tbok rfl) (fun w hw => hw.tail (newKey ho)) ?_
  first | refine wh_q 1 rfl (by kernel_rfl) rfl rfl rfl (qt_l tbok rfl rfl rfl) (fun w hw => hw.tail (newKey ho)) ?_ | refine wh_q 1 rfl (by kernel_rfl) rfl rfl rfl (qt_la tbok rfl rfl rfl) (fun w hw => hw.tail (newKey ho)) ?_
  refine wh_q 2 rfl (by kernel_rfl) rfl rfl rfl (qt_p tbok rfl) (fun w hw => hw.tail (newKey ho)) ?_
  first | refine wh_q 3 rfl (by kernel_rfl) rfl rfl rfl (qt_l tbok rfl rfl rfl) (fun w hw => hw.tail (newKey ho)) ?_ | refine wh_q 3 rfl (by kernel_rfl) rfl rfl rfl (qt_la tbok rfl rfl rfl) (fun w hw => hw.tail (newKey ho)) ?_
  refine wh_q 4 rfl (by kernel_rfl) rfl rfl rfl (qt_p tbok rfl) (fun w hw => hw.tail (newKey ho)) ?_
  refine wh_q 5 rfl (by kernel_rfl) rfl rfl rfl (qt_load_ag (l := rrow y.r) tbok rfl rfl rfl rfl (rs_lk .here (rl_r y))) (fun w hw => hw.tail (newKey ho)) ?_
  refine wh_q 7 rfl (by kernel_rfl) rfl rfl rfl (qt_p tbok rfl) (fun w hw => hw.tail (newKey ho)) ?_
  refine wh_q 8 rfl (by kernel_rfl) rfl rfl rfl (qt_load_ag (l := rrow y.t) tbok rfl rfl rfl rfl (rs_lk .here (rl_t y))) (fun w hw => hw.tail (newKey ho)) ?_
  refine wh_q 10 rfl (by kernel_rfl) rfl rfl rfl (qt_p tbok rfl) (fun w hw => hw.tail (newKey ho)) ?_
  refine wh_q 11 rfl (by kernel_rfl) rfl rfl rfl (qt_load_ag (l := rrow y.l) tbok rfl rfl rfl rfl (rs_lk .here (rl_l y))) (fun w hw => hw.tail (newKey ho)) ?_
  refine wh_one 6 (by kernel_rfl) (wo_ef rfl rfl (ef_fresh (by kernel_rfl) rfl rfl (fun w1 h1 => fromRole_c k1 m1 (cells_rd (rd_cells l1 (off_new (newKey hb) off_nil)) (h1.tail (newKey ho)))) (fun p hp hkp => ⟨fun w hw => (hw.tail hkp).tail (newKey ho), ?_⟩)))
  refine wh_one 9 (by kernel_rfl) (wo_ef rfl rfl (ef_fresh (by kernel_rfl) rfl rfl (fun w1 h1 => fromRole_c k2 m2 (cells_rd (rd_cells l2 (off_new (newKey hb) off_nil)) ((h1.tail hkp).tail (newKey ho)))) (fun q hq hkq => ⟨fun w hw => ((hw.tail hkq).tail hkp).tail (newKey ho), ?_⟩)))
  refine wh_one 12 (by kernel_rfl) (wo_ef rfl rfl (ef_fresh (by kernel_rfl) rfl rfl (fun w1 h1 => fromRole_c k3 m3 (cells_rd (rd_cells l3 (off_new (newKey hb) off_nil)) (((h1.tail hkq).tail hkp).tail (newKey ho)))) (fun s hs hks => ⟨fun w hw => (((hw.tail hks).tail hkq).tail hkp).tail (newKey ho), ?_⟩)))
  refine wh_q 13 rfl (by kernel_rfl) rfl rfl rfl (qt_build (vs := [(0, .c (.i64 y.v)), (1, .c (.i64 y.u)), (2, .agg (rrow (y.r.1, p))), (3, .agg (rrow (y.t.1, q))), (4, .agg (rrow (y.l.1, s)))]) (l := (⟨y.v, y.u, (y.r.1, p), (y.t.1, q), (y.l.1, s)⟩ : RL).cs) tbok rfl zero88 rfl rfl) (fun w hw => (((hw.tail hks).tail hkq).tail hkp).tail (newKey ho)) ?_
  refine wh_one 14 (by kernel_rfl) (wo_fin rfl rfl (ef_store (cs' := (⟨y.v, y.u, (y.r.1, p), (y.t.1, q), (y.l.1, s)⟩ : RL).cs) tbok rfl rfl rfl rfl (.there (.there (.there .here))) rfl (Nat.le_of_ble_eq_true rfl) rfl ?_))
  refine wh_done (by kernel_rfl) ?_
  refine nk_code ?_
  refine wc_ret ?_
  try dsimp only
  exact fin1 rfl (rv_ag (l := (⟨y.v, y.u, (y.r.1, p), (y.t.1, q), (y.l.1, s)⟩ : RL).cs) tbok rfl rfl rfl rfl (rs_lk (.there (.there (.there .here))) at0)) (fun w' hw => ⟨⟨y.v, y.u, (y.r.1, p), (y.t.1, q), (y.l.1, s)⟩, rfl, ⟨rfl, hp, hq, hs⟩, new_cons hks (new_cons hkq (new_cons hkp new_nil)), Rm.sub_St (Rm.sub_St hw (.there (.there (.there (.there .here)))) (newKey hb)) (.there (.there (.there .here))) (newKey ho)⟩)

/-! ### Comparisons -/
def sameRo (a b : Ro) : Bool := decide (a.n = b.n) && decide (a.K = b.K)
def sameRx (x y : Rx) : Bool := decide (x.v = y.v) && (decide (x.u = y.u) && (sameRo x.r y.r && (sameRo x.t y.t && sameRo x.l y.l)))
theorem sameRo_refl (a : Ro) : sameRo a a = true := by unfold sameRo; rw [decide_eq_true rfl, decide_eq_true rfl]; rfl
theorem sameRx_refl (x : Rx) : sameRx x x = true := by unfold sameRx; rw [decide_eq_true rfl, decide_eq_true rfl, sameRo_refl, sameRo_refl, sameRo_refl]; rfl
theorem pair24 : pairB Try.prog 24 22 = true := by kernel_rfl
theorem ng24 : noGuard Try.prog 24 = true := by kernel_rfl
theorem eq22k : BArr Try.prog 9999 22 32 := barr_u8 tbok rfl rfl 9997
theorem el_ext {A B : List (Int × List UInt8)} (hl : A.length = B.length) (h : ∀ j, j < A.length → el A j = el B j) : A = B := by
  refine List.ext_getElem? fun j => ?_
  by_cases hj : j < A.length
  · rw [el_get hj, el_get (by omega), h j hj]
  · rw [List.getElem?_eq_none (by omega), List.getElem?_eq_none (by omega)]

theorem sameRole_c {w : World} {a b : Ro × Os} (ha : a.1.ok) (hb0 : b.1.ok) (la : roL w a) (lb : roL w b) :
    CallsV Try.prog 88 [.agg (rrow a), .agg (rrow b)] w fun en w' => en = .returned (V.c (.bool (sameRo a.1 b.1))).den ∧ St w [] w' := by
  obtain ⟨ka, ma⟩ := ha
  obtain ⟨kb, mb⟩ := hb0
  refine calls_in (tb := tb) (fn := Try.f88) Try.func88 rfl rfl rfl [(0, .agg (rrow a)), (1, .agg (rrow b))] rfl [] (St.refl _) ?_
  refine wc_seq ?_
  refine wc_region ?_
  refine wl_ef rfl (ef_box rfl rfl rfl (fun b1 h1 => ?_))
  refine wl_ef rfl (ef_box rfl rfl rfl (fun b2 h2 => ?_))
  refine wl_q rfl rfl rfl (qt_p tbok rfl) ?_
  refine wl_done ?_
  refine nk_code ?_
  refine wc_seq ?_
  refine wc_seq ?_
  refine wc_region ?_
  refine wl_q rfl rfl rfl (qt_p tbok rfl) ?_
  first | refine wl_q rfl rfl rfl (qt_l tbok rfl rfl rfl) ?_ | refine wl_q rfl rfl rfl (qt_la tbok rfl rfl rfl) ?_
  refine wl_q rfl rfl rfl (qt_p tbok rfl) ?_
  first | refine wl_q rfl rfl rfl (qt_l tbok rfl rfl rfl) ?_ | refine wl_q rfl rfl rfl (qt_la tbok rfl rfl rfl) ?_
  first | refine wl_q rfl rfl rfl (qt_p tbok rfl) ?_ | refine wl_q rfl rfl rfl (qt_neqn tbok rfl rfl rfl) ?_
  refine wl_bool (fun hq => ?_) (fun hq => ?_)
  · refine wl_q rfl rfl rfl (qt_p tbok rfl) ?_
    first | refine wl_g rfl rfl rfl rfl (qt_p tbok rfl) ?_ | refine wl_skip rfl rfl rfl rfl rfl ?_
    first | refine wl_g rfl rfl rfl rfl (qt_l tbok rfl rfl rfl) ?_ | refine wl_g rfl rfl rfl rfl (qt_la tbok rfl rfl rfl) ?_ | refine wl_skip rfl rfl rfl rfl rfl ?_
    first | refine wl_g rfl rfl rfl rfl (qt_len tbok rfl rfl) ?_ | refine wl_skip rfl rfl rfl rfl rfl ?_
    first | refine wl_g rfl rfl rfl rfl (qt_p tbok rfl) ?_ | refine wl_skip rfl rfl rfl rfl rfl ?_
    first | refine wl_g rfl rfl rfl rfl (qt_l tbok rfl rfl rfl) ?_ | refine wl_g rfl rfl rfl rfl (qt_la tbok rfl rfl rfl) ?_ | refine wl_skip rfl rfl rfl rfl rfl ?_
    first | refine wl_g rfl rfl rfl rfl (qt_len tbok rfl rfl) ?_ | refine wl_skip rfl rfl rfl rfl rfl ?_
    first | refine wl_g rfl rfl rfl rfl (qt_p tbok rfl) ?_ | refine wl_g rfl rfl rfl rfl (qt_neqn tbok rfl rfl rfl) ?_ | refine wl_skip rfl rfl rfl rfl rfl ?_
    refine wl_q rfl rfl rfl (qt_p tbok rfl) ?_
    refine wl_done ?_
    refine nk_code ?_
    refine wc_yes rfl ?_
    refine wc_seq ?_
    refine wc_region ?_
    refine wl_q rfl rfl rfl (qt_p tbok rfl) ?_
    refine wl_done ?_
    refine nk_code ?_
    refine wc_ret ?_
    try dsimp only
    exact fin1 rfl (rv_tmp rfl) (fun w' hw => ⟨by rw [show sameRo a.1 b.1 = false by unfold sameRo; rw [Bool.not_eq_true'] at hq; rw [hq]; rfl], hw.all (new_cons (newKey h2) (new_cons (newKey h1) new_nil))⟩)
  · refine wl_q rfl rfl rfl (qt_p tbok rfl) ?_
    first | refine wl_g rfl rfl rfl rfl (qt_p tbok rfl) ?_ | refine wl_skip rfl rfl rfl rfl rfl ?_
    first | refine wl_g rfl rfl rfl rfl (qt_l tbok rfl rfl rfl) ?_ | refine wl_g rfl rfl rfl rfl (qt_la tbok rfl rfl rfl) ?_ | refine wl_skip rfl rfl rfl rfl rfl ?_
    first | refine wl_g rfl rfl rfl rfl (qt_len tbok rfl rfl) ?_ | refine wl_skip rfl rfl rfl rfl rfl ?_
    first | refine wl_g rfl rfl rfl rfl (qt_p tbok rfl) ?_ | refine wl_skip rfl rfl rfl rfl rfl ?_
    first | refine wl_g rfl rfl rfl rfl (qt_l tbok rfl rfl rfl) ?_ | refine wl_g rfl rfl rfl rfl (qt_la tbok rfl rfl rfl) ?_ | refine wl_skip rfl rfl rfl rfl rfl ?_
    first | refine wl_g rfl rfl rfl rfl (qt_len tbok rfl rfl) ?_ | refine wl_skip rfl rfl rfl rfl rfl ?_
    first | refine wl_g rfl rfl rfl rfl (qt_p tbok rfl) ?_ | refine wl_g rfl rfl rfl rfl (qt_neqn tbok rfl rfl rfl) ?_ | refine wl_skip rfl rfl rfl rfl rfl ?_
    refine wl_bool (fun hl => ?_) (fun hl => ?_)
    · refine wl_q rfl rfl rfl (qt_p tbok rfl) ?_
      refine wl_done ?_
      refine nk_code ?_
      refine wc_yes rfl ?_
      refine wc_seq ?_
      refine wc_region ?_
      refine wl_q rfl rfl rfl (qt_p tbok rfl) ?_
      refine wl_done ?_
      refine nk_code ?_
      refine wc_ret ?_
      try dsimp only
      exact fin1 rfl (rv_tmp rfl) (fun w' hw => ⟨by rw [show sameRo a.1 b.1 = false by unfold sameRo; rw [Bool.not_eq_true'] at hl; rw [decide_eq_false (fun e : a.1.K = b.1.K => of_decide_eq_false hl (by rw [e])), Bool.and_false]], hw.all (new_cons (newKey h2) (new_cons (newKey h1) new_nil))⟩)
    · refine wl_q rfl rfl rfl (qt_p tbok rfl) ?_
      refine wl_done ?_
      refine nk_code ?_
      refine wc_no rfl ?_
      refine wc_skip ?_
      refine nk_code ?_
      refine wc_seq ?_
      refine wc_seq ?_
      refine wc_region ?_
      refine wl_q rfl rfl rfl (qt_p tbok rfl) ?_
      refine wl_done ?_
      refine nk_code ?_
      refine wc_block ?_
      refine wc_loop (ι := Nat) (fun i => i ≤ a.1.K.length ∧ ∀ j, j < i → el a.1.K j = el b.1.K j) (fun i => [(5, .c (.i64 (i : Int))), (2, .c (.ptr (.at b1 0))), (3, .c (.ptr (.at b2 0)))]) (fun i => [⟨.at b2 0, rrow b, 68, (0, 0), []⟩, ⟨.at b1 0, rrow a, 68, (0, 0), []⟩]) (fun i => a.1.K.length - i) 0 ⟨Nat.zero_le _, fun j hj => absurd hj (Nat.not_lt_zero _)⟩ (nk_start ⟨rfl, rfl, rfl, trivial⟩ (fun w hw => hw)) (fun i ⟨hi, hN⟩ => ?_)
      have hll : a.1.K.length = b.1.K.length := (by have h0 : (!decide ((a.1.K.length : Int) = (b.1.K.length : Int))) = false := hl; rw [Bool.not_eq_false'] at h0; have := of_decide_eq_true h0; omega)
      have hnn : a.1.n = b.1.n := (by have h0 : (!decide (a.1.n = b.1.n)) = false := hq; rw [Bool.not_eq_false'] at h0; exact of_decide_eq_true h0)
      refine wc_seq ?_
      refine wc_seq ?_
      refine wc_region ?_
      refine wl_q rfl rfl rfl (qt_p tbok rfl) ?_
      refine wl_q rfl rfl rfl (qt_p tbok rfl) ?_
      refine wl_q rfl rfl rfl (qt_load tbok rfl rfl rfl (rc_lk (.there .here) rfl)) ?_
      refine wl_q rfl rfl rfl (qt_len tbok rfl rfl) ?_
      refine wl_q rfl rfl rfl (qt_p tbok rfl) ?_
      refine wl_done ?_
      refine nk_code ?_
      refine wc_cond rfl (fun h24 => ?_) (fun h24 => ?_)
      · have hi' : i < a.1.K.length := (by have h0 := of_decide_eq_true h24; omega)
        have hi2 : i < b.1.K.length := (by omega)
        obtain ⟨ar, ao, haa⟩ := cells_nn la (by rw [rows_len ka.row]; omega)
        obtain ⟨br, bo, hbb⟩ := cells_nn lb (by rw [rows_len kb.row]; omega)
        have ra : RS w [⟨.at b2 0, rrow b, 68, (0, 0), []⟩, ⟨.at b1 0, rrow a, 68, (0, 0), []⟩] ar ao (a.1.K.flatMap kr) := rs_of (rd_cells la (off_new (newKey h2) (off_new (newKey h1) off_nil))) haa
        have rb : RS w [⟨.at b2 0, rrow b, 68, (0, 0), []⟩, ⟨.at b1 0, rrow a, 68, (0, 0), []⟩] br bo (b.1.K.flatMap kr) := rs_of (rd_cells lb (off_new (newKey h2) (off_new (newKey h1) off_nil))) hbb
        refine wc_skip ?_
        refine nk_code ?_
        refine wc_seq ?_
        refine wc_block ?_
        refine wc_seq ?_
        refine wc_quiet follows (by kernel_rfl) ?_
        refine wq_q rfl rfl rfl (qt_p tbok rfl) ?_
        refine wq_q rfl rfl rfl (qt_load tbok rfl rfl rfl (rc_lk (.there .here) rfl)) ?_
        refine wq_q rfl rfl rfl (qt_p tbok rfl) ?_
        refine wq_q rfl rfl rfl (qt_idxA tbok rfl rfl rfl haa ⟨by omega, by omega⟩) ?_
        refine wq_q rfl rfl rfl (qt_load_ag (l := kr (el a.1.K i)) tbok rfl rfl rfl (ka.row _ (el_mem hi')) (ra.part (k := i * 33) (rows_at ka.row hi') (by omega))) ?_
        refine wq_q rfl rfl rfl (qt_p tbok rfl) ?_
        refine wq_q rfl rfl rfl (qt_load tbok rfl rfl rfl (rc_lk .here rfl)) ?_
        refine wq_q rfl rfl rfl (qt_p tbok rfl) ?_
        refine wq_q rfl rfl rfl (qt_idxA tbok rfl rfl rfl hbb ⟨by omega, by omega⟩) ?_
        refine wq_q rfl rfl rfl (qt_load_ag (l := kr (el b.1.K i)) tbok rfl rfl rfl (kb.row _ (el_mem hi2)) (rb.part (k := i * 33) (rows_at kb.row hi2) (by omega))) ?_
        refine wq_q rfl rfl rfl (qt_neq_pair tbok pair24 rfl rfl eq22k ng24 rfl rfl (ka _ (el_mem hi')) (kb _ (el_mem hi2))) ?_
        refine wq_done ?_
        refine wl_done ?_
        refine nk_code ?_
        refine wc_cond rfl (fun h37 => ?_) (fun h37 => ?_)
        · refine wc_seq ?_
          refine wc_region ?_
          refine wl_q rfl rfl rfl (qt_p tbok rfl) ?_
          refine wl_done ?_
          refine nk_code ?_
          refine wc_ret ?_
          try dsimp only
          exact fin1 rfl (rv_tmp rfl) (fun w' hw => ⟨by rw [show sameRo a.1 b.1 = false by unfold sameRo; rw [decide_eq_false (fun e : a.1.K = b.1.K => by rw [e, decide_eq_true rfl, decide_eq_true rfl] at h37; cases h37), Bool.and_false]], hw.all (new_cons (newKey h2) (new_cons (newKey h1) new_nil))⟩)
        · refine wc_skip ?_
          refine nk_code ?_
          refine wc_region ?_
          refine wl_q rfl rfl rfl (qt_p tbok rfl) ?_
          refine wl_q rfl rfl rfl (qt_p tbok rfl) ?_
          refine wl_q rfl rfl rfl (qt_p tbok rfl) ?_
          refine wl_done ?_
          exact nk_round (i := i) (i + 1) ⟨hi', fun j hj => (by by_cases e : j = i; (subst e; rw [Bool.not_eq_false', Bool.and_eq_true] at h37; exact Prod.ext (of_decide_eq_true h37.1) (of_decide_eq_true h37.2)); exact hN j (by omega))⟩ (by show a.1.K.length - (i + 1) < a.1.K.length - i; omega) ⟨rfl, rfl, rfl, trivial⟩ (fun w hw => hw)
      · have he : i = a.1.K.length := (by have h0 := of_decide_eq_false h24; omega)
        subst he
        refine wc_exit rfl ?_
        refine nk_code ?_
        refine wc_seq ?_
        refine wc_region ?_
        refine wl_q rfl rfl rfl (qt_p tbok rfl) ?_
        refine wl_done ?_
        refine nk_code ?_
        refine wc_ret ?_
        try dsimp only
        exact fin1 rfl (rv_tmp rfl) (fun w' hw => ⟨by rw [show sameRo a.1 b.1 = true by unfold sameRo; rw [decide_eq_true hnn, decide_eq_true (el_ext hll hN)]; rfl], hw.all (new_cons (newKey h2) (new_cons (newKey h1) new_nil))⟩)

theorem sameRoot_c {w : World} {x y : RL} (hx : x.ok) (hy : y.ok) (lx : x.lies w) (ly : y.lies w) :
    CallsV Try.prog 49 [.agg x.cs, .agg y.cs] w fun en w' => en = .returned (V.c (.bool (sameRx x.x y.x))).den ∧ St w [] w' := by
  refine calls_in (tb := tb) (fn := Try.f49) Try.func49 rfl rfl rfl [(0, .agg x.cs), (1, .agg y.cs)] rfl [] (St.refl _) ?_
  refine wc_seq ?_
  refine wc_region ?_
  refine wl_ef rfl (ef_box rfl rfl rfl (fun b1 h1 => ?_))
  refine wl_ef rfl (ef_box rfl rfl rfl (fun b2 h2 => ?_))
  refine wl_q rfl rfl rfl (qt_p tbok rfl) ?_
  refine wl_done ?_
  refine nk_code ?_
  refine wc_seq ?_
  refine wc_region ?_
  refine wl_q rfl rfl rfl (qt_p tbok rfl) ?_
  first | refine wl_q rfl rfl rfl (qt_l tbok rfl rfl rfl) ?_ | refine wl_q rfl rfl rfl (qt_la tbok rfl rfl rfl) ?_
  refine wl_q rfl rfl rfl (qt_p tbok rfl) ?_
  first | refine wl_q rfl rfl rfl (qt_l tbok rfl rfl rfl) ?_ | refine wl_q rfl rfl rfl (qt_la tbok rfl rfl rfl) ?_
  first | refine wl_q rfl rfl rfl (qt_p tbok rfl) ?_ | refine wl_q rfl rfl rfl (qt_eqn tbok rfl rfl rfl) ?_
  refine wl_bool (fun e1 => ?_) (fun e1 => ?_)
  · refine wl_q rfl rfl rfl (qt_p tbok rfl) ?_
    first | refine wl_g rfl rfl rfl rfl (qt_p tbok rfl) ?_ | refine wl_skip rfl rfl rfl rfl rfl ?_
    first | refine wl_g rfl rfl rfl rfl (qt_l tbok rfl rfl rfl) ?_ | refine wl_g rfl rfl rfl rfl (qt_la tbok rfl rfl rfl) ?_ | refine wl_skip rfl rfl rfl rfl rfl ?_
    first | refine wl_g rfl rfl rfl rfl (qt_p tbok rfl) ?_ | refine wl_skip rfl rfl rfl rfl rfl ?_
    first | refine wl_g rfl rfl rfl rfl (qt_l tbok rfl rfl rfl) ?_ | refine wl_g rfl rfl rfl rfl (qt_la tbok rfl rfl rfl) ?_ | refine wl_skip rfl rfl rfl rfl rfl ?_
    first | refine wl_g rfl rfl rfl rfl (qt_p tbok rfl) ?_ | refine wl_g rfl rfl rfl rfl (qt_eqn tbok rfl rfl rfl) ?_ | refine wl_skip rfl rfl rfl rfl rfl ?_
    refine wl_bool (fun e2 => ?_) (fun e2 => ?_)
    · refine wl_q rfl rfl rfl (qt_p tbok rfl) ?_
      refine wl_q rfl rfl rfl (qt_p tbok rfl) ?_
      first | refine wl_g rfl rfl rfl rfl (qt_p tbok rfl) ?_ | refine wl_skip rfl rfl rfl rfl rfl ?_
      refine wl_g rfl rfl rfl rfl (qt_load_ag (l := rrow x.r) tbok rfl rfl rfl rfl (rs_lk (.there .here) (rl_r x))) ?_
      first | refine wl_g rfl rfl rfl rfl (qt_p tbok rfl) ?_ | refine wl_skip rfl rfl rfl rfl rfl ?_
      refine wl_g rfl rfl rfl rfl (qt_load_ag (l := rrow y.r) tbok rfl rfl rfl rfl (rs_lk .here (rl_r y))) ?_
      refine wl_gd rfl rfl (ef_pure (v := .c (.bool (sameRo x.r.1 y.r.1))) (by kernel_rfl) rfl rfl (fun w1 g1 => sameRole_c hx.1 hy.1 (lx.up (fun ad => off_new (newKey h2) (off_new (newKey h1) off_nil)) g1).1 (ly.up (fun ad => off_new (newKey h2) (off_new (newKey h1) off_nil)) g1).1) ?_)
      refine wl_bool (fun e3 => ?_) (fun e3 => ?_)
      · refine wl_q rfl rfl rfl (qt_p tbok rfl) ?_
        refine wl_q rfl rfl rfl (qt_p tbok rfl) ?_
        first | refine wl_g rfl rfl rfl rfl (qt_p tbok rfl) ?_ | refine wl_skip rfl rfl rfl rfl rfl ?_
        refine wl_g rfl rfl rfl rfl (qt_load_ag (l := rrow x.t) tbok rfl rfl rfl rfl (rs_lk (.there .here) (rl_t x))) ?_
        first | refine wl_g rfl rfl rfl rfl (qt_p tbok rfl) ?_ | refine wl_skip rfl rfl rfl rfl rfl ?_
        refine wl_g rfl rfl rfl rfl (qt_load_ag (l := rrow y.t) tbok rfl rfl rfl rfl (rs_lk .here (rl_t y))) ?_
        refine wl_gd rfl rfl (ef_pure (v := .c (.bool (sameRo x.t.1 y.t.1))) (by kernel_rfl) rfl rfl (fun w1 g1 => sameRole_c hx.2.1 hy.2.1 (lx.up (fun ad => off_new (newKey h2) (off_new (newKey h1) off_nil)) g1).2.1 (ly.up (fun ad => off_new (newKey h2) (off_new (newKey h1) off_nil)) g1).2.1) ?_)
        refine wl_bool (fun e4 => ?_) (fun e4 => ?_)
        · refine wl_q rfl rfl rfl (qt_p tbok rfl) ?_
          refine wl_q rfl rfl rfl (qt_p tbok rfl) ?_
          first | refine wl_g rfl rfl rfl rfl (qt_p tbok rfl) ?_ | refine wl_skip rfl rfl rfl rfl rfl ?_
          refine wl_g rfl rfl rfl rfl (qt_load_ag (l := rrow x.l) tbok rfl rfl rfl rfl (rs_lk (.there .here) (rl_l x))) ?_
          first | refine wl_g rfl rfl rfl rfl (qt_p tbok rfl) ?_ | refine wl_skip rfl rfl rfl rfl rfl ?_
          refine wl_g rfl rfl rfl rfl (qt_load_ag (l := rrow y.l) tbok rfl rfl rfl rfl (rs_lk .here (rl_l y))) ?_
          refine wl_gd rfl rfl (ef_pure (v := .c (.bool (sameRo x.l.1 y.l.1))) (by kernel_rfl) rfl rfl (fun w1 g1 => sameRole_c hx.2.2 hy.2.2 (lx.up (fun ad => off_new (newKey h2) (off_new (newKey h1) off_nil)) g1).2.2 (ly.up (fun ad => off_new (newKey h2) (off_new (newKey h1) off_nil)) g1).2.2) ?_)
          refine wl_q rfl rfl rfl (qt_p tbok rfl) ?_
          refine wl_q rfl rfl rfl (qt_p tbok rfl) ?_
          refine wl_done ?_
          refine nk_code ?_
          refine wc_ret ?_
          try dsimp only
          exact fin1 rfl (rv_tmp rfl) (fun w' hw => ⟨by rw [show sameRx x.x y.x = (decide (x.v = y.v) && (decide (x.u = y.u) && (sameRo x.r.1 y.r.1 && (sameRo x.t.1 y.t.1 && sameRo x.l.1 y.l.1)))) from rfl, e1, e2, e3, e4]; rfl, hw.all (new_cons (newKey h2) (new_cons (newKey h1) new_nil))⟩)
        · refine wl_q rfl rfl rfl (qt_p tbok rfl) ?_
          refine wl_q rfl rfl rfl (qt_p tbok rfl) ?_
          first | refine wl_g rfl rfl rfl rfl (qt_p tbok rfl) ?_ | refine wl_skip rfl rfl rfl rfl rfl ?_
          first | refine wl_g rfl rfl rfl rfl (qt_l tbok rfl rfl rfl) ?_ | refine wl_g rfl rfl rfl rfl (qt_la tbok rfl rfl rfl) ?_ | refine wl_skip rfl rfl rfl rfl rfl ?_
          first | refine wl_g rfl rfl rfl rfl (qt_p tbok rfl) ?_ | refine wl_skip rfl rfl rfl rfl rfl ?_
          first | refine wl_g rfl rfl rfl rfl (qt_l tbok rfl rfl rfl) ?_ | refine wl_g rfl rfl rfl rfl (qt_la tbok rfl rfl rfl) ?_ | refine wl_skip rfl rfl rfl rfl rfl ?_
          first | refine wl_g rfl rfl rfl rfl (qt_len tbok rfl rfl) ?_ | refine wl_skip rfl rfl rfl rfl rfl ?_
          refine wl_q rfl rfl rfl (qt_p tbok rfl) ?_
          refine wl_q rfl rfl rfl (qt_p tbok rfl) ?_
          refine wl_done ?_
          refine nk_code ?_
          refine wc_ret ?_
          try dsimp only
          exact fin1 rfl (rv_tmp rfl) (fun w' hw => ⟨by rw [show sameRx x.x y.x = (decide (x.v = y.v) && (decide (x.u = y.u) && (sameRo x.r.1 y.r.1 && (sameRo x.t.1 y.t.1 && sameRo x.l.1 y.l.1)))) from rfl, e1, e2, e3, e4]; rfl, hw.all (new_cons (newKey h2) (new_cons (newKey h1) new_nil))⟩)
      · refine wl_q rfl rfl rfl (qt_p tbok rfl) ?_
        refine wl_q rfl rfl rfl (qt_p tbok rfl) ?_
        first | refine wl_g rfl rfl rfl rfl (qt_p tbok rfl) ?_ | refine wl_skip rfl rfl rfl rfl rfl ?_
        first | refine wl_g rfl rfl rfl rfl (qt_l tbok rfl rfl rfl) ?_ | refine wl_g rfl rfl rfl rfl (qt_la tbok rfl rfl rfl) ?_ | refine wl_skip rfl rfl rfl rfl rfl ?_
        first | refine wl_g rfl rfl rfl rfl (qt_p tbok rfl) ?_ | refine wl_skip rfl rfl rfl rfl rfl ?_
        first | refine wl_g rfl rfl rfl rfl (qt_l tbok rfl rfl rfl) ?_ | refine wl_g rfl rfl rfl rfl (qt_la tbok rfl rfl rfl) ?_ | refine wl_skip rfl rfl rfl rfl rfl ?_
        first | refine wl_g rfl rfl rfl rfl (qt_len tbok rfl rfl) ?_ | refine wl_skip rfl rfl rfl rfl rfl ?_
        refine wl_q rfl rfl rfl (qt_p tbok rfl) ?_
        refine wl_q rfl rfl rfl (qt_p tbok rfl) ?_
        first | refine wl_g rfl rfl rfl rfl (qt_p tbok rfl) ?_ | refine wl_skip rfl rfl rfl rfl rfl ?_
        first | refine wl_g rfl rfl rfl rfl (qt_l tbok rfl rfl rfl) ?_ | refine wl_g rfl rfl rfl rfl (qt_la tbok rfl rfl rfl) ?_ | refine wl_skip rfl rfl rfl rfl rfl ?_
        first | refine wl_g rfl rfl rfl rfl (qt_p tbok rfl) ?_ | refine wl_skip rfl rfl rfl rfl rfl ?_
        first | refine wl_g rfl rfl rfl rfl (qt_l tbok rfl rfl rfl) ?_ | refine wl_g rfl rfl rfl rfl (qt_la tbok rfl rfl rfl) ?_ | refine wl_skip rfl rfl rfl rfl rfl ?_
        first | refine wl_g rfl rfl rfl rfl (qt_len tbok rfl rfl) ?_ | refine wl_skip rfl rfl rfl rfl rfl ?_
        refine wl_q rfl rfl rfl (qt_p tbok rfl) ?_
        refine wl_q rfl rfl rfl (qt_p tbok rfl) ?_
        refine wl_done ?_
        refine nk_code ?_
        refine wc_ret ?_
        try dsimp only
        exact fin1 rfl (rv_tmp rfl) (fun w' hw => ⟨by rw [show sameRx x.x y.x = (decide (x.v = y.v) && (decide (x.u = y.u) && (sameRo x.r.1 y.r.1 && (sameRo x.t.1 y.t.1 && sameRo x.l.1 y.l.1)))) from rfl, e1, e2, e3]; rfl, hw.all (new_cons (newKey h2) (new_cons (newKey h1) new_nil))⟩)
    · refine wl_q rfl rfl rfl (qt_p tbok rfl) ?_
      refine wl_q rfl rfl rfl (qt_p tbok rfl) ?_
      first | refine wl_g rfl rfl rfl rfl (qt_p tbok rfl) ?_ | refine wl_skip rfl rfl rfl rfl rfl ?_
      first | refine wl_g rfl rfl rfl rfl (qt_l tbok rfl rfl rfl) ?_ | refine wl_g rfl rfl rfl rfl (qt_la tbok rfl rfl rfl) ?_ | refine wl_skip rfl rfl rfl rfl rfl ?_
      first | refine wl_g rfl rfl rfl rfl (qt_p tbok rfl) ?_ | refine wl_skip rfl rfl rfl rfl rfl ?_
      first | refine wl_g rfl rfl rfl rfl (qt_l tbok rfl rfl rfl) ?_ | refine wl_g rfl rfl rfl rfl (qt_la tbok rfl rfl rfl) ?_ | refine wl_skip rfl rfl rfl rfl rfl ?_
      first | refine wl_g rfl rfl rfl rfl (qt_len tbok rfl rfl) ?_ | refine wl_skip rfl rfl rfl rfl rfl ?_
      refine wl_q rfl rfl rfl (qt_p tbok rfl) ?_
      refine wl_q rfl rfl rfl (qt_p tbok rfl) ?_
      first | refine wl_g rfl rfl rfl rfl (qt_p tbok rfl) ?_ | refine wl_skip rfl rfl rfl rfl rfl ?_
      first | refine wl_g rfl rfl rfl rfl (qt_l tbok rfl rfl rfl) ?_ | refine wl_g rfl rfl rfl rfl (qt_la tbok rfl rfl rfl) ?_ | refine wl_skip rfl rfl rfl rfl rfl ?_
      first | refine wl_g rfl rfl rfl rfl (qt_p tbok rfl) ?_ | refine wl_skip rfl rfl rfl rfl rfl ?_
      first | refine wl_g rfl rfl rfl rfl (qt_l tbok rfl rfl rfl) ?_ | refine wl_g rfl rfl rfl rfl (qt_la tbok rfl rfl rfl) ?_ | refine wl_skip rfl rfl rfl rfl rfl ?_
      first | refine wl_g rfl rfl rfl rfl (qt_len tbok rfl rfl) ?_ | refine wl_skip rfl rfl rfl rfl rfl ?_
      refine wl_q rfl rfl rfl (qt_p tbok rfl) ?_
      refine wl_q rfl rfl rfl (qt_p tbok rfl) ?_
      first | refine wl_g rfl rfl rfl rfl (qt_p tbok rfl) ?_ | refine wl_skip rfl rfl rfl rfl rfl ?_
      first | refine wl_g rfl rfl rfl rfl (qt_l tbok rfl rfl rfl) ?_ | refine wl_g rfl rfl rfl rfl (qt_la tbok rfl rfl rfl) ?_ | refine wl_skip rfl rfl rfl rfl rfl ?_
      first | refine wl_g rfl rfl rfl rfl (qt_p tbok rfl) ?_ | refine wl_skip rfl rfl rfl rfl rfl ?_
      first | refine wl_g rfl rfl rfl rfl (qt_l tbok rfl rfl rfl) ?_ | refine wl_g rfl rfl rfl rfl (qt_la tbok rfl rfl rfl) ?_ | refine wl_skip rfl rfl rfl rfl rfl ?_
      first | refine wl_g rfl rfl rfl rfl (qt_len tbok rfl rfl) ?_ | refine wl_skip rfl rfl rfl rfl rfl ?_
      refine wl_q rfl rfl rfl (qt_p tbok rfl) ?_
      refine wl_q rfl rfl rfl (qt_p tbok rfl) ?_
      refine wl_done ?_
      refine nk_code ?_
      refine wc_ret ?_
      try dsimp only
      exact fin1 rfl (rv_tmp rfl) (fun w' hw => ⟨by rw [show sameRx x.x y.x = (decide (x.v = y.v) && (decide (x.u = y.u) && (sameRo x.r.1 y.r.1 && (sameRo x.t.1 y.t.1 && sameRo x.l.1 y.l.1)))) from rfl, e1, e2]; rfl, hw.all (new_cons (newKey h2) (new_cons (newKey h1) new_nil))⟩)
  · refine wl_q rfl rfl rfl (qt_p tbok rfl) ?_
    first | refine wl_g rfl rfl rfl rfl (qt_p tbok rfl) ?_ | refine wl_skip rfl rfl rfl rfl rfl ?_
    first | refine wl_g rfl rfl rfl rfl (qt_l tbok rfl rfl rfl) ?_ | refine wl_g rfl rfl rfl rfl (qt_la tbok rfl rfl rfl) ?_ | refine wl_skip rfl rfl rfl rfl rfl ?_
    first | refine wl_g rfl rfl rfl rfl (qt_p tbok rfl) ?_ | refine wl_skip rfl rfl rfl rfl rfl ?_
    first | refine wl_g rfl rfl rfl rfl (qt_l tbok rfl rfl rfl) ?_ | refine wl_g rfl rfl rfl rfl (qt_la tbok rfl rfl rfl) ?_ | refine wl_skip rfl rfl rfl rfl rfl ?_
    first | refine wl_g rfl rfl rfl rfl (qt_p tbok rfl) ?_ | refine wl_g rfl rfl rfl rfl (qt_eqn tbok rfl rfl rfl) ?_ | refine wl_skip rfl rfl rfl rfl rfl ?_
    refine wl_q rfl rfl rfl (qt_p tbok rfl) ?_
    refine wl_q rfl rfl rfl (qt_p tbok rfl) ?_
    first | refine wl_g rfl rfl rfl rfl (qt_p tbok rfl) ?_ | refine wl_skip rfl rfl rfl rfl rfl ?_
    first | refine wl_g rfl rfl rfl rfl (qt_l tbok rfl rfl rfl) ?_ | refine wl_g rfl rfl rfl rfl (qt_la tbok rfl rfl rfl) ?_ | refine wl_skip rfl rfl rfl rfl rfl ?_
    first | refine wl_g rfl rfl rfl rfl (qt_p tbok rfl) ?_ | refine wl_skip rfl rfl rfl rfl rfl ?_
    first | refine wl_g rfl rfl rfl rfl (qt_l tbok rfl rfl rfl) ?_ | refine wl_g rfl rfl rfl rfl (qt_la tbok rfl rfl rfl) ?_ | refine wl_skip rfl rfl rfl rfl rfl ?_
    first | refine wl_g rfl rfl rfl rfl (qt_len tbok rfl rfl) ?_ | refine wl_skip rfl rfl rfl rfl rfl ?_
    refine wl_q rfl rfl rfl (qt_p tbok rfl) ?_
    refine wl_q rfl rfl rfl (qt_p tbok rfl) ?_
    first | refine wl_g rfl rfl rfl rfl (qt_p tbok rfl) ?_ | refine wl_skip rfl rfl rfl rfl rfl ?_
    first | refine wl_g rfl rfl rfl rfl (qt_l tbok rfl rfl rfl) ?_ | refine wl_g rfl rfl rfl rfl (qt_la tbok rfl rfl rfl) ?_ | refine wl_skip rfl rfl rfl rfl rfl ?_
    first | refine wl_g rfl rfl rfl rfl (qt_p tbok rfl) ?_ | refine wl_skip rfl rfl rfl rfl rfl ?_
    first | refine wl_g rfl rfl rfl rfl (qt_l tbok rfl rfl rfl) ?_ | refine wl_g rfl rfl rfl rfl (qt_la tbok rfl rfl rfl) ?_ | refine wl_skip rfl rfl rfl rfl rfl ?_
    first | refine wl_g rfl rfl rfl rfl (qt_len tbok rfl rfl) ?_ | refine wl_skip rfl rfl rfl rfl rfl ?_
    refine wl_q rfl rfl rfl (qt_p tbok rfl) ?_
    refine wl_q rfl rfl rfl (qt_p tbok rfl) ?_
    first | refine wl_g rfl rfl rfl rfl (qt_p tbok rfl) ?_ | refine wl_skip rfl rfl rfl rfl rfl ?_
    first | refine wl_g rfl rfl rfl rfl (qt_l tbok rfl rfl rfl) ?_ | refine wl_g rfl rfl rfl rfl (qt_la tbok rfl rfl rfl) ?_ | refine wl_skip rfl rfl rfl rfl rfl ?_
    first | refine wl_g rfl rfl rfl rfl (qt_p tbok rfl) ?_ | refine wl_skip rfl rfl rfl rfl rfl ?_
    first | refine wl_g rfl rfl rfl rfl (qt_l tbok rfl rfl rfl) ?_ | refine wl_g rfl rfl rfl rfl (qt_la tbok rfl rfl rfl) ?_ | refine wl_skip rfl rfl rfl rfl rfl ?_
    first | refine wl_g rfl rfl rfl rfl (qt_len tbok rfl rfl) ?_ | refine wl_skip rfl rfl rfl rfl rfl ?_
    refine wl_q rfl rfl rfl (qt_p tbok rfl) ?_
    refine wl_q rfl rfl rfl (qt_p tbok rfl) ?_
    refine wl_done ?_
    refine nk_code ?_
    refine wc_ret ?_
    try dsimp only
    exact fin1 rfl (rv_tmp rfl) (fun w' hw => ⟨by rw [show sameRx x.x y.x = (decide (x.v = y.v) && (decide (x.u = y.u) && (sameRo x.r.1 y.r.1 && (sameRo x.t.1 y.t.1 && sameRo x.l.1 y.l.1)))) from rfl, e1]; rfl, hw.all (new_cons (newKey h2) (new_cons (newKey h1) new_nil))⟩)

/-- Roles so far, in a root. -/
abbrev rlZ (v u : Int) (Z : List (Ro × Os)) : RL := ⟨v, u, el Z 0, el Z 1, el Z 2⟩
theorem zero156 : zeroIs Try.prog 156 (.c (.ptr .nil)) := by unfold zeroIs; kernel_rfl
end Go.Proofs.Ytjhmcmadleabjaa

set_option maxRecDepth 100000
namespace Go.Hw
section
variable {X : Cx} {Q : Exit → Act → World → Prop} {d : Option Nat} {f : Nat} {args : List Operand} {ats : Array TypeId} {ty : Nat} {pos : String} {af : Array Edge} {gd : Option (Nat × Bool)} {e : Env} {s : Hp} {KK : Env → Hp → Prop} {vs : List V}
end
end Go.Hw
namespace Go.Proofs.Ytjhmcmadleabjaa
open Go Go.Hw Go.Proofs

def headB (x : Rx) : List UInt8 := ([8] ++ be (UInt64.ofInt x.v) 8) ++ be (UInt64.ofInt x.u) 8
def encB (x : Rx) : List UInt8 := ((headB x ++ layB x.r) ++ layB x.t) ++ layB x.l
def encR (x : Rx) : List UInt8 := if rootB x = true then encB x else []
def encE (x : Rx) : Int := if rootB x = true then 0 else 1
theorem headB_len (x : Rx) : (headB x).length = 17 := by simp [headB, be_len]
theorem rt_small {n : Int} {K : List (Int × List UInt8)} (h : rightB n K = true) : K.length ≤ 16 := (of_decide_eq_true h).2.2.1
theorem rootB_roles {x : Rx} (h : rootB x = true) : rightB x.r.n x.r.K = true ∧ rightB x.t.n x.t.K = true ∧ rightB x.l.n x.l.K = true := by
  unfold rootB at h
  simp only [Bool.and_eq_true] at h
  exact ⟨h.2.2.2.2.1, h.2.2.2.2.2.1, h.2.2.2.2.2.2⟩
theorem enc_len {y : RL} (hk : y.ok) (h : rootB y.x = true) : (encB y.x).length ≤ 1700 ∧ (headB y.x ++ layB y.x.r).length ≤ 600 ∧ ((headB y.x ++ layB y.x.r) ++ layB y.x.t).length ≤ 1200 := by
  obtain ⟨h1, h2, h3⟩ := rootB_roles h
  have a1 := rt_small h1; have a2 := rt_small h2; have a3 := rt_small h3
  have l1 := layB_len (r := y.x.r) hk.1.1; have l2 := layB_len (r := y.x.t) hk.2.1.1; have l3 := layB_len (r := y.x.l) hk.2.2.1
  have l0 := headB_len y.x
  unfold encB
  simp only [List.length_append] at *
  omega
theorem own_to {l2 : List UInt8} {n : Nat} {a : Ad} {c : Nat} {t : List Value} {D : List C} (h : OwnS a n c 1 D t) (hD : D = bc l2) (hn : n = l2.length) : Oi l2 (a, c, t) := by
  subst hD hn; exact h

def layN (B : List UInt8) (L : List (Ro × Os)) (i : Nat) : List UInt8 := B ++ (L.take i).flatMap fun p => layB p.1
theorem layN_zero (B : List UInt8) (L : List (Ro × Os)) : layN B L 0 = B := by simp [layN]
theorem layN_next (B : List UInt8) {L : List (Ro × Os)} {i : Nat} (h : i < L.length) : layN B L i ++ layB (el L i).1 = layN B L (i + 1) := by
  unfold layN; rw [el_take h, List.flatMap_append]; simp
theorem layN_all (B : List UInt8) (L : List (Ro × Os)) : layN B L L.length = B ++ L.flatMap fun p => layB p.1 := by unfold layN; rw [List.take_length]
theorem layN_le (B : List UInt8) (L : List (Ro × Os)) (i : Nat) : (layN B L i).length ≤ (layN B L L.length).length := by
  rw [layN_all]; unfold layN
  rw [List.length_append, List.length_append]
  have h : (L.flatMap fun p => layB p.1) = ((L.take i).flatMap fun p => layB p.1) ++ (L.drop i).flatMap fun p => layB p.1 := by
    rw [← List.flatMap_append, List.take_append_drop]
  rw [h, List.length_append]; omega

theorem encode_c {w : World} {y : RL} (hk : y.ok) (hl : y.lies w) :
    CallsV Try.prog 42 [.agg y.cs] w fun en w' => ∃ z : Os, en = .returned (V.t2 (.c (.slc z.1 (encR y.x).length z.2.1)) (.c (.i64 (encE y.x)))).den ∧ Oi (encR y.x) z ∧ (∀ k, (ob (encR y.x) z).key = some k → w.heap.size ≤ k) ∧ St w [ob (encR y.x) z] w' := by
  have el0 : headB y.x = ([8] ++ be (UInt64.ofInt y.v) 8) ++ be (UInt64.ofInt y.u) 8 := rfl
  have hhl := headB_len y.x
  obtain ⟨⟨k1, m1⟩, ⟨k2, m2⟩, ⟨k3, m3⟩⟩ := hk
  have hk : y.ok := ⟨⟨k1, m1⟩, ⟨k2, m2⟩, ⟨k3, m3⟩⟩
  refine calls_in (tb := tb) (fn := Try.f42) Try.func42 rfl rfl rfl [(0, .agg y.cs)] rfl [] (St.refl _) ?_
  refine wc_seq ?_
  refine wc_region ?_
  refine wl_ef rfl (ef_box rfl rfl rfl (fun b hb => ?_))
  refine wl_q rfl rfl rfl (qt_p tbok rfl) ?_
  refine wl_q rfl rfl rfl (qt_p tbok rfl) ?_
  refine wl_done ?_
  refine nk_code ?_
  refine wc_seq ?_
  refine wc_seq ?_
  refine wc_region ?_
  refine wl_q rfl rfl rfl (qt_load_ag (l := y.cs) tbok rfl rfl rfl rfl (rs_lk .here at0)) ?_
  refine wl_ef rfl (ef_pure (v := .c (.bool (rootB y.x))) (by kernel_rfl) rfl rfl (fun w1 h1 => rightRoot_c hk (hl.up (fun ad => off_new (newKey hb) off_nil) h1)) ?_)
  refine wl_q rfl rfl rfl (qt_p tbok rfl) ?_
  refine wl_done ?_
  refine nk_code ?_
  refine wc_cond rfl (fun h9 => ?_) (fun h9 => ?_)
  · have hf : rootB y.x = false := (by rwa [Bool.not_eq_true'] at h9)
    have er : encR y.x = [] := (by unfold encR; rw [hf]; rfl)
    have ee : encE y.x = 1 := (by unfold encE; rw [hf]; rfl)
    refine wc_seq ?_
    refine wc_region ?_
    refine wl_q rfl rfl rfl (qt_p tbok rfl) ?_
    refine wl_q rfl rfl rfl (qt_p tbok rfl) ?_
    refine wl_done ?_
    refine nk_code ?_
    refine wc_ret ?_
    try dsimp only
    rw [er, ee]
    exact fin2 rfl (rv_tmp rfl) (rv_tmp rfl) (fun w' hw => ⟨(.nil, 0, []), rfl, oi_nil, nil_new, st_none (hw.all (new_cons (newKey hb) new_nil))⟩)
  · have ht : rootB y.x = true := (by rwa [Bool.not_eq_false'] at h9)
    have er : encR y.x = encB y.x := (by unfold encR; rw [if_pos ht])
    have ee : encE y.x = 0 := (by unfold encE; rw [if_pos ht])
    obtain ⟨b1, b2, b3⟩ := enc_len hk ht
    refine wc_skip ?_
    refine nk_code ?_
    refine wc_seq ?_
    refine wc_region ?_
    refine wl_ef rfl (ef_buildSlice (vs := [(0, .c (.u8 8))]) (l := [.u8 8]) tbok rfl zero5 rfl rfl rfl (by decide) rfl rfl (fun br hbr => ?_))
    refine wl_q rfl rfl rfl (qt_p tbok rfl) ?_
    refine wl_q rfl rfl rfl (qt_load tbok rfl rfl rfl (rc_lk (.there .here) rfl)) ?_
    refine wl_q rfl rfl rfl (qt_p tbok rfl) ?_
    refine wl_ef rfl (ef_fresh (by kernel_rfl) rfl rfl (fun w1 h1 => put81_c (UInt64.ofInt y.v) 8 (by decide) (by decide) w1) (fun p1 hp1 hk1 => ?_))
    refine wl_ef rfl (ef_append tbok rfl el5 zero5 rfl rfl rfl (.there .here) (own_of rfl (by decide)) (newKey hbr) (m := 8) (news := bc (be (UInt64.ofInt y.v) 8)) (by rw [bc_len, be_len]) (rs_lk .here at0) (by decide) (by decide) (fun a1 c1 t1 ho1 hka1 _ _ => ?_))
    have ho1' : Oi ([8] ++ be (UInt64.ofInt y.v) 8) (a1, c1, t1) := own_to ho1 (by simp [bc]) (by simp [be_len])
    refine wl_q rfl rfl rfl (qt_p tbok rfl) ?_
    refine wl_done ?_
    refine nk_code ?_
    refine wc_seq ?_
    refine wc_region ?_
    refine wl_q rfl rfl rfl (qt_p tbok rfl) ?_
    refine wl_q rfl rfl rfl (qt_p tbok rfl) ?_
    refine wl_q rfl rfl rfl (qt_load tbok rfl rfl rfl (rc_lk (.there (.there .here)) rfl)) ?_
    refine wl_q rfl rfl rfl (qt_p tbok rfl) ?_
    refine wl_ef rfl (ef_fresh (by kernel_rfl) rfl rfl (fun w1 h1 => put81_c (UInt64.ofInt y.u) 8 (by decide) (by decide) w1) (fun p2 hp2 hk2 => ?_))
    refine wl_ef rfl (ef_append tbok rfl el5 zero5 rfl rfl rfl (.there .here) ho1 hka1 (m := 8) (news := bc (be (UInt64.ofInt y.u) 8)) (by rw [bc_len, be_len]) (rs_lk .here at0) (by decide) (by decide) (fun a2 c2 t2 ho2 hka2 _ _ => ?_))
    have ho2' : Oi (headB y.x) (a2, c2, t2) := own_to ho2 (by rw [el0]; simp [bc]) (by rw [hhl])
    have ed : ([C.u8 8] ++ bc (be (UInt64.ofInt y.v) 8)) ++ bc (be (UInt64.ofInt y.u) 8) = bc (headB y.x) := (by rw [el0]; simp [bc])
    have en : 1 + 8 + 8 = (headB y.x).length := (by rw [hhl])
    rw [ed, en]
    obtain ⟨HB, hHB⟩ : ∃ B : List UInt8, B = headB y.x := ⟨_, rfl⟩
    rw [← hHB] at ho2' hhl ⊢
    have hE : encB y.x = ((HB ++ layB y.x.r) ++ layB y.x.t) ++ layB y.x.l := (by rw [hHB]; rfl)
    rw [hE] at er b1
    rw [← hHB] at b2 b3
    refine wl_q rfl rfl rfl (qt_p tbok rfl) ?_
    refine wl_done ?_
    refine nk_code ?_
    refine wc_seq ?_
    refine wc_seq ?_
    refine wc_region ?_
    refine wl_q rfl rfl rfl (qt_p tbok rfl) ?_
    refine wl_q rfl rfl rfl (qt_load_ag (l := rrow y.r) tbok rfl rfl rfl rfl (rs_lk (.there (.there (.there .here))) (rl_r y))) ?_
    refine wl_q rfl rfl rfl (qt_p tbok rfl) ?_
    refine wl_q rfl rfl rfl (qt_load_ag (l := rrow y.t) tbok rfl rfl rfl rfl (rs_lk (.there (.there (.there .here))) (rl_t y))) ?_
    refine wl_q rfl rfl rfl (qt_p tbok rfl) ?_
    refine wl_q rfl rfl rfl (qt_load_ag (l := rrow y.l) tbok rfl rfl rfl rfl (rs_lk (.there (.there (.there .here))) (rl_l y))) ?_
    refine wl_ef rfl (ef_buildSlice (vs := [(0, .agg (rrow y.r)), (1, .agg (rrow y.t)), (2, .agg (rrow y.l))]) (l := [y.r, y.t, y.l].flatMap rrow) tbok rfl zero72 rfl rfl rfl (by decide) rfl rfl (fun q hq => ?_))
    obtain ⟨LL, hLL⟩ : ∃ L : List (Ro × Os), L = [y.r, y.t, y.l] := ⟨_, rfl⟩
    have hL3 : LL.length = 3 := (by rw [hLL]; rfl)
    have hLa : ∀ p ∈ LL, p.1.ok ∧ roL w p := (by rw [hLL]; intro p hp; rcases List.mem_cons.1 hp with rfl | hp; exact ⟨hk.1, hl.1⟩; rcases List.mem_cons.1 hp with rfl | hp; exact ⟨hk.2.1, hl.2.1⟩; rw [List.mem_singleton.1 hp]; exact ⟨hk.2.2, hl.2.2⟩)
    rw [← hLL]
    have hB : ∀ i, i ≤ 3 → (layN HB LL i).length ≤ 1700 := (fun i hi => by have := layN_le HB LL i; rw [layN_all, hLL, show (HB ++ [y.r, y.t, y.l].flatMap fun p => layB p.1) = ((HB ++ layB y.x.r) ++ layB y.x.t) ++ layB y.x.l by simp [List.append_assoc]; rfl, ← hLL] at this; omega)
    refine wl_q rfl rfl rfl (qt_len tbok rfl rfl) ?_
    refine wl_q rfl rfl rfl (qt_p tbok rfl) ?_
    refine wl_done ?_
    refine nk_code ?_
    refine wc_block ?_
    refine wc_loop (ι := Nat × Os) (fun j => j.1 ≤ 3 ∧ Oi (layN HB LL j.1) j.2 ∧ (∀ k, j.2.1.key = some k → w.heap.size ≤ k)) (fun j => [(30, .c (.i64 (j.1 : Int))), (29, .c (.i64 ((3 : Nat) : Int))), (28, .c (.slc (.at q 0) 3 3)), (4, .c (.slc j.2.1 (layN HB LL j.1).length j.2.2.1))]) (fun j => [⟨.at q 0, LL.flatMap rrow, 72, (0, 0), []⟩, ob (layN HB LL j.1) j.2, ⟨.at p2 0, bc (be (UInt64.ofInt y.u) 8), 5, (0, 0), []⟩, ⟨.at p1 0, bc (be (UInt64.ofInt y.v) 8), 5, (0, 0), []⟩, ⟨.at b 0, y.cs, 92, (0, 0), []⟩]) (fun j => 3 - j.1) (0, a2, c2, t2) ⟨Nat.zero_le _, by show Oi (layN HB LL 0) _; rw [layN_zero]; exact ho2', hka2⟩ (nk_start ⟨rfl, rfl, rfl, by show _ = some (V.c (C.slc a2 (layN HB LL 0).length c2)); rw [layN_zero]; rfl, trivial⟩ (fun w hw => by show St _ (_ :: ob (layN HB LL 0) (a2, c2, t2) :: _) _; rw [layN_zero]; exact hw)) (fun ⟨i, z⟩ ⟨hi, hz, hzk⟩ => ?_)
    replace hi : i ≤ 3 := hi
    replace hz : Oi (layN HB LL i) z := hz
    replace hzk : ∀ k, z.1.key = some k → w.heap.size ≤ k := hzk
    dsimp only
    refine wc_seq ?_
    refine wc_region ?_
    refine wl_q rfl rfl rfl (qt_p tbok rfl) ?_
    refine wl_done ?_
    refine nk_code ?_
    refine wc_seq ?_
    refine wc_cond rfl (fun h31 => ?_) (fun h31 => ?_)
    · have hi' : i < 3 := (by have h0 := of_decide_eq_true h31; omega)
      obtain ⟨⟨hKi, hKl⟩, hci⟩ := hLa _ (el_mem (show i < LL.length by omega))
      have hbi := hB i hi
      refine wc_skip ?_
      refine nk_code ?_
      refine wc_seq ?_
      refine wc_block ?_
      refine wc_seq ?_
      refine wc_region ?_
      refine wl_q rfl rfl rfl (qt_p tbok rfl) ?_
      refine wl_q rfl rfl rfl (qt_load_ag (l := rrow (el LL i)) tbok rfl rfl rfl rfl (rs_lk .here (fun a c h => by have h9 := rows_at (row := rrow) (z := 2) (A := LL) (fun _ _ => rfl) (show i < LL.length by omega) a c h; rw [show 0 + (i : Int).toNat * 2 + a = i * 2 + a by omega]; exact h9))) ?_
      refine wl_ef rfl (ef_alloc zero72 rfl rfl (fun x6 h6 => ?_))
      refine wl_ef rfl (ef_store (cs' := rrow (el LL i)) tbok rfl rfl rfl rfl .here rfl (Nat.le_of_ble_eq_true rfl) rfl ?_)
      refine wl_done ?_
      refine nk_code ?_
      refine wc_region ?_
      refine wl_q rfl rfl rfl (qt_p tbok rfl) ?_
      refine wl_q rfl rfl rfl (qt_load_ag (l := rrow (el LL i)) tbok rfl rfl rfl rfl (rs_lk .here at0)) ?_
      refine wl_ef rfl (ef_thru (b := ob (layN HB LL i) z) (b' := fun u : Os => ob (layN HB LL i ++ layB (el LL i).1) u) (I := fun u : Os => Oi (layN HB LL i ++ layB (el LL i).1) u ∧ ∀ k, u.1.key = some k → w.heap.size ≤ k) (v := fun u : Os => .c (.slc u.1 (layN HB LL i ++ layB (el LL i).1).length u.2.1)) (by kernel_rfl) rfl rfl (.there (.there .here)) (fun w1 h1 => lay82_c (B := layN HB LL i) (x := z) (r := (el LL i).1) (pa := (el LL i).2.1) (pc := (el LL i).2.2.1) hz hzk (by omega) hKi hKl (rd_cells hci (off_new (newKey h6) (off_new (newKey hq) (off_new hk2 (off_new hk1 (off_new (newKey hb) off_nil)))))) h1) (fun u hu => ?_))
      refine wl_q rfl rfl rfl (qt_p tbok rfl) ?_
      refine wl_done ?_
      refine nk_code ?_
      refine wc_region ?_
      refine wl_q rfl rfl rfl (qt_p tbok rfl) ?_
      refine wl_q rfl rfl rfl (qt_p tbok rfl) ?_
      refine wl_done ?_
      have en2 : layN HB LL i ++ layB (el LL i).1 = layN HB LL (i + 1) := layN_next HB (by omega)
      rw [en2] at hu ⊢
      exact nk_round (i := (i, z)) (i + 1, u) ⟨hi', hu.1, hu.2⟩ (by show 3 - (i + 1) < 3 - i; omega) ⟨rfl, rfl, rfl, rfl, trivial⟩ (fun w hw => (Rm.sub_St hw (.there .here) (newKey h6)).perm (List.Perm.swap _ _ _))
    · have he : i = 3 := (by have h0 := of_decide_eq_false h31; omega)
      subst he
      have hfin : layN HB LL 3 = ((HB ++ layB y.x.r) ++ layB y.x.t) ++ layB y.x.l := (by rw [show 3 = LL.length by rw [hL3], layN_all, hLL]; simp [List.append_assoc]; rfl)
      rw [hfin] at hz ⊢
      refine wc_exit rfl ?_
      refine nk_code ?_
      refine wc_seq ?_
      refine wc_region ?_
      refine wl_q rfl rfl rfl (qt_p tbok rfl) ?_
      refine wl_q rfl rfl rfl (qt_p tbok rfl) ?_
      refine wl_q rfl rfl rfl (qt_p tbok rfl) ?_
      refine wl_done ?_
      refine nk_code ?_
      refine wc_ret ?_
      try dsimp only
      rw [er, ee]
      exact fin2 rfl (rv_tmp rfl) (rv_tmp rfl) (fun w' hw => ⟨z, rfl, hz, hzk, Rm.sub_St (Rm.sub_St (Rm.sub_St (Rm.sub_St hw .here (newKey hq)) (.there .here) hk2) (.there .here) hk1) (.there .here) (newKey hb)⟩)

theorem encode2_c {w : World} {y : RL} (hk : y.ok) (hl : y.lies w) :
    CallsV Try.prog 44 [.agg y.cs] w fun en w' => ∃ z : Os, en = .returned (V.t2 (.c (.slc z.1 (encR y.x).length z.2.1)) (.c (.i64 (encE y.x)))).den ∧ Oi (encR y.x) z ∧ (∀ k, (ob (encR y.x) z).key = some k → w.heap.size ≤ k) ∧ St w [ob (encR y.x) z] w' := by
  have el0 : headB y.x = ([8] ++ be (UInt64.ofInt y.v) 8) ++ be (UInt64.ofInt y.u) 8 := rfl
  have hhl := headB_len y.x
  obtain ⟨⟨k1, m1⟩, ⟨k2, m2⟩, ⟨k3, m3⟩⟩ := hk
  have hk : y.ok := ⟨⟨k1, m1⟩, ⟨k2, m2⟩, ⟨k3, m3⟩⟩
  refine calls_in (tb := tb) (fn := Try.f44) Try.func44 rfl rfl rfl [(0, .agg y.cs)] rfl [] (St.refl _) ?_
  refine wc_seq ?_
  refine wc_region ?_
  refine wl_ef rfl (ef_box rfl rfl rfl (fun b hb => ?_))
  refine wl_q rfl rfl rfl (qt_p tbok rfl) ?_
  refine wl_q rfl rfl rfl (qt_p tbok rfl) ?_
  refine wl_done ?_
  refine nk_code ?_
  refine wc_seq ?_
  refine wc_seq ?_
  refine wc_region ?_
  refine wl_q rfl rfl rfl (qt_load_ag (l := y.cs) tbok rfl rfl rfl rfl (rs_lk .here at0)) ?_
  refine wl_ef rfl (ef_pure (v := .c (.bool (rootB y.x))) (by kernel_rfl) rfl rfl (fun w1 h1 => rightRoot2_c hk (hl.up (fun ad => off_new (newKey hb) off_nil) h1)) ?_)
  refine wl_q rfl rfl rfl (qt_p tbok rfl) ?_
  refine wl_done ?_
  refine nk_code ?_
  refine wc_cond rfl (fun h7 => ?_) (fun h7 => ?_)
  · have hf : rootB y.x = false := (by rwa [Bool.not_eq_true'] at h7)
    have er : encR y.x = [] := (by unfold encR; rw [hf]; rfl)
    have ee : encE y.x = 1 := (by unfold encE; rw [hf]; rfl)
    refine wc_seq ?_
    refine wc_region ?_
    refine wl_q rfl rfl rfl (qt_p tbok rfl) ?_
    refine wl_q rfl rfl rfl (qt_p tbok rfl) ?_
    refine wl_done ?_
    refine nk_code ?_
    refine wc_ret ?_
    try dsimp only
    rw [er, ee]
    exact fin2 rfl (rv_tmp rfl) (rv_tmp rfl) (fun w' hw => ⟨(.nil, 0, []), rfl, oi_nil, nil_new, st_none (hw.all (new_cons (newKey hb) new_nil))⟩)
  · have ht : rootB y.x = true := (by rwa [Bool.not_eq_false'] at h7)
    have er : encR y.x = encB y.x := (by unfold encR; rw [if_pos ht])
    have ee : encE y.x = 0 := (by unfold encE; rw [if_pos ht])
    obtain ⟨b1, b2, b3⟩ := enc_len hk ht
    refine wc_skip ?_
    refine nk_code ?_
    refine wc_seq ?_
    refine wc_region ?_
    refine wl_ef rfl (ef_buildSlice (vs := [(0, .c (.u8 8))]) (l := [.u8 8]) tbok rfl zero5 rfl rfl rfl (by decide) rfl rfl (fun br hbr => ?_))
    refine wl_q rfl rfl rfl (qt_p tbok rfl) ?_
    refine wl_q rfl rfl rfl (qt_load tbok rfl rfl rfl (rc_lk (.there .here) rfl)) ?_
    refine wl_q rfl rfl rfl (qt_p tbok rfl) ?_
    refine wl_ef rfl (ef_fresh (by kernel_rfl) rfl rfl (fun w1 h1 => put83_c (UInt64.ofInt y.v) 8 (by decide) (by decide) w1) (fun p1 hp1 hk1 => ?_))
    refine wl_ef rfl (ef_append tbok rfl el5 zero5 rfl rfl rfl (.there .here) (own_of rfl (by decide)) (newKey hbr) (m := 8) (news := bc (be (UInt64.ofInt y.v) 8)) (by rw [bc_len, be_len]) (rd_own hp1 .here) (by decide) (by decide) (fun a1 c1 t1 ho1 hka1 _ _ => ?_))
    have ho1' : Oi ([8] ++ be (UInt64.ofInt y.v) 8) (a1, c1, t1) := own_to ho1 (by simp [bc]) (by simp [be_len])
    refine wl_q rfl rfl rfl (qt_p tbok rfl) ?_
    refine wl_done ?_
    refine nk_code ?_
    refine wc_seq ?_
    refine wc_region ?_
    refine wl_q rfl rfl rfl (qt_p tbok rfl) ?_
    refine wl_q rfl rfl rfl (qt_p tbok rfl) ?_
    refine wl_q rfl rfl rfl (qt_load tbok rfl rfl rfl (rc_lk (.there (.there .here)) rfl)) ?_
    refine wl_q rfl rfl rfl (qt_p tbok rfl) ?_
    refine wl_ef rfl (ef_fresh (by kernel_rfl) rfl rfl (fun w1 h1 => put83_c (UInt64.ofInt y.u) 8 (by decide) (by decide) w1) (fun p2 hp2 hk2 => ?_))
    refine wl_ef rfl (ef_append tbok rfl el5 zero5 rfl rfl rfl (.there .here) ho1 hka1 (m := 8) (news := bc (be (UInt64.ofInt y.u) 8)) (by rw [bc_len, be_len]) (rd_own hp2 .here) (by decide) (by decide) (fun a2 c2 t2 ho2 hka2 _ _ => ?_))
    have ho2' : Oi (headB y.x) (a2, c2, t2) := own_to ho2 (by rw [el0]; simp [bc]) (by rw [hhl])
    have ed : ([C.u8 8] ++ bc (be (UInt64.ofInt y.v) 8)) ++ bc (be (UInt64.ofInt y.u) 8) = bc (headB y.x) := (by rw [el0]; simp [bc])
    have en : 1 + 8 + 8 = (headB y.x).length := (by rw [hhl])
    rw [ed, en]
    obtain ⟨HB, hHB⟩ : ∃ B : List UInt8, B = headB y.x := ⟨_, rfl⟩
    rw [← hHB] at ho2' hhl ⊢
    have hE : encB y.x = ((HB ++ layB y.x.r) ++ layB y.x.t) ++ layB y.x.l := (by rw [hHB]; rfl)
    rw [hE] at er b1
    rw [← hHB] at b2 b3
    refine wl_q rfl rfl rfl (qt_p tbok rfl) ?_
    refine wl_done ?_
    refine nk_code ?_
    refine wc_seq ?_
    refine wc_region ?_
    refine wl_q rfl rfl rfl (qt_p tbok rfl) ?_
    refine wl_q rfl rfl rfl (qt_p tbok rfl) ?_
    refine wl_q rfl rfl rfl (qt_load_ag (l := rrow y.r) tbok rfl rfl rfl rfl (rs_lk (.there (.there (.there .here))) (rl_r y))) ?_
    refine wl_ef rfl (ef_thru (b := ob (HB) (a2, c2, t2)) (b' := fun z : Os => ob (HB ++ layB y.x.r) z) (I := fun z : Os => Oi (HB ++ layB y.x.r) z ∧ ∀ k, z.1.key = some k → w.heap.size ≤ k) (v := fun z : Os => .c (.slc z.1 (HB ++ layB y.x.r).length z.2.1)) (by kernel_rfl) rfl rfl .here (fun w1 h1 => lay84_c (B := HB) (x := (a2, c2, t2)) (r := y.r.1) (pa := y.r.2.1) (pc := y.r.2.2.1) ho2' hka2 (by omega) k1 m1 (rd_cells hl.1 (off_new hk2 (off_new hk1 (off_new (newKey hb) off_nil)))) h1) (fun z5 hz5 => ?_))
    refine wl_q rfl rfl rfl (qt_p tbok rfl) ?_
    refine wl_done ?_
    refine nk_code ?_
    refine wc_seq ?_
    refine wc_region ?_
    refine wl_q rfl rfl rfl (qt_p tbok rfl) ?_
    refine wl_q rfl rfl rfl (qt_p tbok rfl) ?_
    refine wl_q rfl rfl rfl (qt_load_ag (l := rrow y.t) tbok rfl rfl rfl rfl (rs_lk (.there (.there (.there .here))) (rl_t y))) ?_
    refine wl_ef rfl (ef_thru (b := ob (HB ++ layB y.x.r) z5) (b' := fun z : Os => ob ((HB ++ layB y.x.r) ++ layB y.x.t) z) (I := fun z : Os => Oi ((HB ++ layB y.x.r) ++ layB y.x.t) z ∧ ∀ k, z.1.key = some k → w.heap.size ≤ k) (v := fun z : Os => .c (.slc z.1 ((HB ++ layB y.x.r) ++ layB y.x.t).length z.2.1)) (by kernel_rfl) rfl rfl .here (fun w1 h1 => lay84_c (B := HB ++ layB y.x.r) (x := z5) (r := y.t.1) (pa := y.t.2.1) (pc := y.t.2.2.1) hz5.1 hz5.2 (by omega) k2 m2 (rd_cells hl.2.1 (off_new hk2 (off_new hk1 (off_new (newKey hb) off_nil)))) h1) (fun z6 hz6 => ?_))
    refine wl_q rfl rfl rfl (qt_p tbok rfl) ?_
    refine wl_done ?_
    refine nk_code ?_
    refine wc_seq ?_
    refine wc_region ?_
    refine wl_q rfl rfl rfl (qt_p tbok rfl) ?_
    refine wl_q rfl rfl rfl (qt_p tbok rfl) ?_
    refine wl_q rfl rfl rfl (qt_load_ag (l := rrow y.l) tbok rfl rfl rfl rfl (rs_lk (.there (.there (.there .here))) (rl_l y))) ?_
    refine wl_ef rfl (ef_thru (b := ob ((HB ++ layB y.x.r) ++ layB y.x.t) z6) (b' := fun z : Os => ob (((HB ++ layB y.x.r) ++ layB y.x.t) ++ layB y.x.l) z) (I := fun z : Os => Oi (((HB ++ layB y.x.r) ++ layB y.x.t) ++ layB y.x.l) z ∧ ∀ k, z.1.key = some k → w.heap.size ≤ k) (v := fun z : Os => .c (.slc z.1 (((HB ++ layB y.x.r) ++ layB y.x.t) ++ layB y.x.l).length z.2.1)) (by kernel_rfl) rfl rfl .here (fun w1 h1 => lay84_c (B := (HB ++ layB y.x.r) ++ layB y.x.t) (x := z6) (r := y.l.1) (pa := y.l.2.1) (pc := y.l.2.2.1) hz6.1 hz6.2 (by omega) k3 m3 (rd_cells hl.2.2 (off_new hk2 (off_new hk1 (off_new (newKey hb) off_nil)))) h1) (fun z7 hz7 => ?_))
    refine wl_q rfl rfl rfl (qt_p tbok rfl) ?_
    refine wl_q rfl rfl rfl (qt_p tbok rfl) ?_
    refine wl_done ?_
    refine nk_code ?_
    refine wc_ret ?_
    try dsimp only
    rw [er, ee]
    exact fin2 rfl (rv_tmp rfl) (rv_tmp rfl) (fun w' hw => ⟨z7, rfl, hz7.1, hz7.2, Rm.sub_St (Rm.sub_St (Rm.sub_St hw (.there .here) hk2) (.there .here) hk1) (.there .here) (newKey hb)⟩)
end Go.Proofs.Ytjhmcmadleabjaa
