/- The walk of RoleOrders: it answers true and leaves what was there. -/
import Derived.Test.YtjhmcmadleabjaaRoleWalkB
set_option linter.unusedVariables false
set_option maxRecDepth 100000
namespace Go.Hw
section
variable {X : Cx} {Q : Exit → Act → World → Prop} {ops : Array Oper} {l : List Oper} {o : Oper} {e : Env} {s : Hp}
/-- The one that a guard asks was left out. -/
def gT0 (ops : Array Oper) (e : Env) (j : Nat) : Bool := match (ops[j]?).bind (·.dst) with
  | some d => match e.get d with
    | some .t0 => true
    | _ => false
  | none => false
theorem wl_skip0 {j : Nat} {b : Bool} {d : Nat} (hg : o.guard = some (j, b)) (hd : o.dst = some d) (hn : Nat.blt d X.n = true) (hv : gT0 ops e j = true) (h : WL X Q ops l ((d, .t0) :: e) s) : WL X Q ops (o :: l) e s := by
  refine ⟨fun a w hf hs => ?_⟩
  unfold wpList
  have hy : yielded ops a.tmps j = none := by
    unfold gT0 at hv
    unfold yielded
    split at hv
    · rename_i d' hd'
      split at hv
      · rename_i hb
        obtain ⟨h1, h2⟩ := hf.get _ _ hb
        have hsz := hf.size
        have h3 : d' < a.tmps.size := by rw [hsz]; exact h1
        have : a.tmps[d']? = some (.tuple #[]) := by
          rw [Array.getD_eq_getD_getElem?, Array.getElem?_eq_getElem h3] at h2
          rw [Array.getElem?_eq_getElem h3]
          exact congrArg some h2
        rw [hd']
        simp [this]
      · cases hv
    · cases hv
  rw [if_neg (by simp [Region.wanted, hg, hy]), hd]
  exact h.go _ _ (hf.put (by simpa [Nat.blt_eq] using hn) .t0) hs
variable {d : Option Nat} {ty : Nat} {pos : String} {af : Array Edge} {gd : Option (Nat × Bool)}
theorem qt_idx64 {t el z sz : Nat} {x i : Operand} {r off len cap : Nat} {u : UInt64} (ht : TbOk X.P X.tb) (htt : X.tb.get t = some (.slice el z, sz)) (hx : ev e x = some (.c (.slc (.at r off) len cap))) (hi : ev e i = some (.c (.u64 u))) (hl : u.toNat < len) :
    Qt X ⟨d, .indexAddr t x i, ty, pos, af, gd⟩ e s (.c (.ptr (.at r (off + u.toNat * z)))) := by
  refine ⟨fun a w hf hs => ?_⟩
  obtain ⟨hu, hz⟩ := und_slice ht htt
  simp only [execOp]; rw [hf.ev hx, hf.ev hi]
  simp [V.den, C.den, Ad.den, Instr.indexAt, run_underlying hu, asIntOf, run_sizeOf' hz, add_addr, Result.andThen, Sem.run_bind, hl]
end
end Go.Hw
namespace Go.Proofs.Ytjhmcmadleabjaa
open Go Go.Hw Go.Proofs

theorem own_at {ad : Ad} {n cap z : Nat} {cs : List C} {tl : List Value} (h : OwnS ad n cap z cs tl) (hn : 0 < n) : ∃ r, ad = .at r 0 := by
  cases ad with
  | nil => have h1 : n = 0 := h.1; omega
  | raw _ => exact h.elim
  | mp _ _ => exact h.elim
  | «at» r o => have h1 : o = 0 := h.1; exact ⟨r, by rw [h1]⟩
theorem rd_own {w0 : World} {s : Hp} {ad : Ad} {n cap z T : Nat} {fr : Nat × Nat} {cs : List C} {tl tl2 : List Value} (h : OwnS ad n cap z cs tl) (hl : Lk s ⟨ad, cs, T, fr, tl2⟩) : RdS w0 s ad cs := by
  cases ad with
  | nil => exact h.2.2.1
  | raw _ => exact h.elim
  | mp _ _ => exact h.elim
  | «at» r o =>
    have h1 : o = 0 := h.1
    subst h1
    exact rs_lk hl at0
theorem own_z {b z : Nat} {cs : List C} (h : cs.length = z) : OwnS (.at b 0) 1 1 z cs [] := ⟨rfl, Nat.le_refl _, by decide, by rw [h, Nat.one_mul], by rw [h, Nat.one_mul]; rfl⟩
theorem own_z0 {b z : Nat} : OwnS (.at b 0) 0 0 z [] [] := ⟨rfl, Nat.le_refl _, by decide, by simp, by simp⟩
theorem rows_set {α : Type} {row : α → List C} {z : Nat} : ∀ {A : List α} {i : Nat} {a : α}, (∀ x ∈ A, (row x).length = z) → (row a).length = z → i < A.length → spl (A.flatMap row) (i * z) (row a) = (A.set i a).flatMap row
  | x :: A, 0, a, h, ha, _ => by
    rw [List.flatMap_cons, Nat.zero_mul, List.set_cons_zero, List.flatMap_cons]
    exact spl_at (A := []) (B := row x) (D := A.flatMap row) rfl (by rw [ha, h x (.head _)])
  | x :: A, i + 1, a, h, ha, hi => by
    have hx := h x (.head _)
    have ih := rows_set (A := A) (i := i) (a := a) (fun y hy => h y (.tail _ hy)) ha (by simpa using hi)
    rw [List.flatMap_cons, List.set_cons_succ, List.flatMap_cons, ← ih]
    unfold spl
    rw [show (i + 1) * z = (row x).length + i * z by rw [hx, Nat.succ_mul, Nat.add_comm], List.take_length_add_append, Nat.add_assoc, List.drop_length_add_append]
    simp [List.append_assoc]

/-! ### Which marks count -/
theorem sgd_congr {k : Int × List UInt8} {msg : List UInt8} {A B : List Mk} (h : ∀ m, m ∈ A ↔ m ∈ B) : sgd k msg A = sgd k msg B := by
  unfold sgd
  rw [Bool.eq_iff_iff, List.any_eq_true, List.any_eq_true]
  exact ⟨fun ⟨m, h1, h2⟩ => ⟨m, (h m).1 h1, h2⟩, fun ⟨m, h1, h2⟩ => ⟨m, (h m).2 h1, h2⟩⟩
theorem len_le : ∀ {a b : List (List UInt8)}, a.Nodup → (∀ x ∈ a, x ∈ b) → a.length ≤ b.length
  | [], _, _, _ => Nat.zero_le _
  | x :: a, b, hn, h => by
    rw [List.nodup_cons] at hn
    have hx := h x (.head _)
    have ih := len_le (a := a) (b := b.erase x) hn.2 (fun y hy => (List.mem_erase_of_ne (fun (e : y = x) => hn.1 (by rw [← e]; exact hy))).2 (h y (.tail _ hy)))
    rw [List.length_erase_of_mem hx] at ih
    have := List.length_pos_of_mem hx
    rw [List.length_cons]; omega
theorem cnt_marks {n : Int} {K : List (Int × List UInt8)} (hr : rightB n K = true) (msg : List UInt8) (M : List Mk) : cntK K msg M ≤ M.length := by
  have hnd := (of_decide_eq_true hr).2.2.2.2
  have h1 : ((K.filter fun k => sgd k msg M).map kid).Nodup := hnd.sublist (List.Sublist.map kid List.filter_sublist)
  have h2 := len_le (b := M.map (·.id)) h1 (fun x hx => by
    obtain ⟨k, hk, rfl⟩ := List.mem_map.1 hx
    obtain ⟨m, hm, hs⟩ := List.any_eq_true.1 (List.mem_filter.1 hk).2
    unfold Mk.sg at hs
    simp only [Bool.and_eq_true, decide_eq_true_eq] at hs
    rw [← hs.1]; exact List.mem_map_of_mem (f := fun m : Mk => m.id) hm)
  rw [List.length_map, List.length_map] at h2
  exact h2
def strB (K : List (Int × List UInt8)) (id : List UInt8) : Bool := K.all fun k => !decide (kid k = id)
theorem str_yes {K : List (Int × List UInt8)} {id : List UInt8} (h : ∀ j, j < K.length → kid (el K j) ≠ id) : strB K id = true := by
  unfold strB
  rw [List.all_eq_true]
  intro k hk
  obtain ⟨j, hj⟩ := List.getElem?_of_mem hk
  have hjl := (List.getElem?_eq_some_iff.1 hj).1
  rw [el_get hjl] at hj
  have := h j hjl
  rw [Option.some.inj hj] at this
  simp [this]
theorem str_no {K : List (Int × List UInt8)} {id : List UInt8} {j : Nat} (hj : j < K.length) (h : kid (el K j) = id) : strB K id = false := by
  rw [Bool.eq_false_iff]
  intro h2
  have := List.all_eq_true.1 h2 _ (el_mem hj)
  simp [h] at this

/-- Marks in whatever order: each of the copied marks, or of no key of the role. -/
def OrdI (K : List (Int × List UInt8)) (msg : List UInt8) (M N E : List (Mk × Os)) : Prop := (∀ e ∈ E, e.1.ok ∧ ∃ p ∈ N, e.2 = p.2 ∧ e.1.pt = p.1.pt) ∧ ∀ k ∈ K, sgd k msg (E.map (·.1)) = sgd k msg (M.map (·.1))
section
variable {K : List (Int × List UInt8)} {msg : List UInt8} {M N E : List (Mk × Os)}
theorem ord_start (hN : N.map (·.1) = M.map (·.1)) (hM : ∀ p ∈ M, p.1.ok) : OrdI K msg M N N := ⟨fun e he => ⟨ok_map hN hM e he, e, he, rfl, rfl⟩, fun k _ => by rw [hN]⟩
theorem ord_snoc (h : OrdI K msg M N E) (hN : N.map (·.1) = M.map (·.1)) (hM : ∀ p ∈ M, p.1.ok) {e : Mk × Os} (he : e ∈ N) : OrdI K msg M N (E ++ [e]) := by
  refine ⟨fun x hx => ?_, fun k hk => ?_⟩
  · rcases List.mem_append.1 hx with hx | hx
    · exact h.1 x hx
    · rw [List.mem_singleton.1 hx]; exact ⟨ok_map hN hM e he, e, he, rfl, rfl⟩
  · have h1 := h.2 k hk
    have hm : e.1 ∈ M.map (·.1) := by rw [← hN]; exact List.mem_map_of_mem (f := fun p : Mk × Os => p.1) he
    rw [List.map_append]
    unfold sgd at h1 ⊢
    rw [List.any_append, h1]
    simp only [List.map_cons, List.map_nil, List.any_cons, List.any_nil, Bool.or_false]
    by_cases hs : e.1.sg k msg = true
    · rw [hs, Bool.or_true]; exact (List.any_eq_true.2 ⟨_, hm, hs⟩).symm
    · rw [Bool.eq_false_iff.2 hs, Bool.or_false]
theorem ord_cons (h : OrdI K msg M N E) {e : Mk × Os} (he : e ∈ N) {m : Mk} (hm : m.ok) (hp : m.pt = e.1.pt) (hs : strB K m.id = true) : OrdI K msg M N ((m, e.2) :: E) := by
  refine ⟨fun x hx => ?_, fun k hk => ?_⟩
  · rcases List.mem_cons.1 hx with rfl | hx
    · exact ⟨hm, e, he, rfl, hp⟩
    · exact h.1 x hx
  · have h1 := List.all_eq_true.1 hs k hk
    have h2 : m.sg k msg = false := sg_no' (decide_eq_false (by
      intro e
      rw [← e, decide_eq_true rfl] at h1
      cases h1))
    have h3 := h.2 k hk
    rw [List.map_cons]
    unfold sgd at h3 ⊢
    rw [List.any_cons, h2, Bool.false_or]; exact h3
/-- Two of a list change their places. -/
def swp {α : Type} [Inhabited α] (A : List α) (i j : Nat) : List α := (A.set i (el A j)).set j (el A i)
theorem swp_len {α : Type} [Inhabited α] (A : List α) (i j : Nat) : (swp A i j).length = A.length := by simp [swp]
theorem swp_mem {α : Type} [Inhabited α] {A : List α} {i j : Nat} (hi : i < A.length) (hj : j < A.length) (x : α) : x ∈ swp A i j ↔ x ∈ A := by
  have key : ∀ m, m < A.length → (swp A i j)[m]? = some (if j = m then el A i else if i = m then el A j else el A m) := fun m hm => by
    unfold swp
    rw [List.getElem?_set, List.getElem?_set, List.length_set, el_get hm]
    by_cases h1 : j = m
    · subst h1; simp [hm]
    · by_cases h2 : i = m
      · subst h2; simp [h1, hm]
      · simp [h1, h2]
  constructor
  · intro h
    obtain ⟨m, hm⟩ := List.getElem?_of_mem h
    have hml : m < A.length := by have := (List.getElem?_eq_some_iff.1 hm).1; rwa [swp_len] at this
    rw [key m hml] at hm
    have := Option.some.inj hm
    rw [← this]
    split
    · exact el_mem hi
    · split
      · exact el_mem hj
      · exact el_mem hml
  · intro h
    obtain ⟨m, hm⟩ := List.getElem?_of_mem h
    have hml := (List.getElem?_eq_some_iff.1 hm).1
    rw [el_get hml] at hm
    have e := Option.some.inj hm
    by_cases h1 : m = i
    · subst h1
      refine List.mem_of_getElem? (i := j) ?_
      rw [key j hj, if_pos rfl, e]
    · by_cases h2 : m = j
      · subst h2
        by_cases h3 : m = i
        · exact absurd h3 h1
        · refine List.mem_of_getElem? (i := i) ?_
          rw [key i hi, if_neg (by omega), if_pos rfl, e]
      · refine List.mem_of_getElem? (i := m) ?_
        rw [key m hml, if_neg (by omega), if_neg (by omega), e]
theorem ord_swap (h : OrdI K msg M N E) {i j : Nat} (hi : i < E.length) (hj : j < E.length) : OrdI K msg M N (swp E i j) := by
  refine ⟨fun e he => h.1 e ((swp_mem hi hj e).1 he), fun k hk => ?_⟩
  rw [← h.2 k hk]
  refine sgd_congr fun m => ?_
  simp only [List.mem_map]
  exact ⟨fun ⟨p, hp, e⟩ => ⟨p, (swp_mem hi hj p).1 hp, e⟩, fun ⟨p, hp, e⟩ => ⟨p, (swp_mem hi hj p).2 hp, e⟩⟩
theorem ord_cnt (h : OrdI K msg M N E) : cntK K msg (E.map (·.1)) = cntK K msg (M.map (·.1)) := by
  unfold cntK
  rw [List.filter_congr (fun k hk => by rw [h.2 k hk])]
theorem ord_lies (h : OrdI K msg M N E) {w : World} (hp : ∀ p ∈ N, Mk.lies w p) : ∀ e ∈ E, Mk.lies w e := fun e he => by
  obtain ⟨_, p, hpm, h1, h2⟩ := h.1 e he
  have := hp p hpm
  unfold Mk.lies at *
  rw [h1, h2]; exact this
end
theorem mrow_setid {m : Mk} {x : Os} {b : UInt8} (h : m.ok) : spl (mrow (m, x)) 0 [.u8 b] = mrow ({ m with id := m.id.set 0 b }, x) := by
  obtain ⟨id, ix, ch, pt⟩ := m
  cases id with
  | nil => have h1 : (0 : Nat) = 32 := h.1; cases h1
  | cons a t => rfl

theorem stranger_c {w : World} {n : Int} {K : List (Int × List UInt8)} {id : List UInt8} {pa : Ad} {pc : Nat} (hK : K32 K) (hKl : K.length ≤ 1073741824) (hc : Cells w pa (K.flatMap kr)) (hid : id.length = 32) :
    CallsV Try.prog 41 [.agg [.i64 n, .slc pa K.length pc], .agg (bc id)] w fun en w' => en = .returned (V.c (.bool (strB K id))).den ∧ St w [] w' := by
  have hib : (bc id).length = 32 := by rw [bc_len, hid]
  refine calls_in (tb := tb) (fn := Try.f41) Try.func41 rfl rfl rfl [(0, .agg [.i64 n, .slc pa K.length pc]), (1, .agg (bc id))] rfl [] (St.refl _) ?_
  refine wc_seq ?_
  refine wc_region ?_
  refine wl_ef rfl (ef_box rfl rfl rfl (fun b hb => ?_))
  refine wl_ef rfl (ef_box rfl rfl rfl (fun b2 hb2 => ?_))
  refine wl_q rfl rfl rfl (qt_p tbok rfl) ?_
  refine wl_done ?_
  refine nk_code ?_
  refine wc_seq ?_
  refine wc_seq ?_
  refine wc_region ?_
  refine wl_q rfl rfl rfl (qt_p tbok rfl) ?_
  refine wl_q rfl rfl rfl (qt_load tbok rfl rfl rfl (rc_lk (.there .here) rfl)) ?_
  refine wl_q rfl rfl rfl (qt_len tbok rfl rfl) ?_
  refine wl_q rfl rfl rfl (qt_p tbok rfl) ?_
  refine wl_done ?_
  refine nk_code ?_
  refine wc_block ?_
  refine wc_loop (ι := Nat) (fun i => i ≤ K.length ∧ ∀ j, j < i → kid (el K j) ≠ id) (fun i => [(10, .c (.i64 (i : Int))), (9, .c (.i64 (K.length : Int))), (8, .c (.slc pa K.length pc)), (2, .c (.ptr (.at b 0))), (3, .c (.ptr (.at b2 0)))]) (fun i => [⟨.at b2 0, bc id, 30, (0, 0), []⟩, ⟨.at b 0, [.i64 n, .slc pa K.length pc], 68, (0, 0), []⟩]) (fun i => K.length - i) 0 ⟨Nat.zero_le _, fun j hj => absurd hj (Nat.not_lt_zero _)⟩ (nk_start ⟨rfl, rfl, rfl, rfl, rfl, trivial⟩ (fun w hw => hw)) (fun i ⟨hi, hN⟩ => ?_)
  refine wc_seq ?_
  refine wc_region ?_
  refine wl_q rfl rfl rfl (qt_p tbok rfl) ?_
  refine wl_done ?_
  refine nk_code ?_
  refine wc_seq ?_
  refine wc_cond rfl (fun h11 => ?_) (fun h11 => ?_)
  · have hi' : i < K.length := (by have h0 := of_decide_eq_true h11; omega)
    have hgl := hK.row _ (el_mem hi')
    have hgk := hK _ (el_mem hi')
    obtain ⟨pr, po, hpa⟩ := cells_nn hc (by rw [rows_len hK.row]; omega)
    subst hpa
    refine wc_skip ?_
    refine nk_code ?_
    refine wc_seq ?_
    refine wc_block ?_
    refine wc_seq ?_
    refine wc_region ?_
    refine wl_q rfl rfl rfl (qt_p tbok rfl) ?_
    refine wl_q rfl rfl rfl (qt_load_ag (l := kr (el K i)) tbok rfl rfl rfl hgl (rs_cells (hc.sub2 (m := i * 33) (rows_at hK.row hi')) (off_new (newKey hb2) (off_new (newKey hb) off_nil)))) ?_
    refine wl_ef rfl (ef_alloc zero24 rfl rfl (fun x hx => ?_))
    refine wl_ef rfl (ef_store (cs' := kr (el K i)) tbok rfl rfl rfl rfl .here hgl (Nat.le_of_ble_eq_true rfl) (spl_all hgl) ?_)
    refine wl_done ?_
    refine nk_code ?_
    refine wc_seq ?_
    refine wc_quiet follows (by kernel_rfl) ?_
    refine wq_q rfl rfl rfl (qt_load_ag (l := kr (el K i)) tbok rfl rfl rfl hgl (rs_lk .here at0)) ?_
    refine wq_call (.agg (bc (kid (el K i)))) (by kernel_rfl) rfl rfl (fun w1 h1 => id2_c hgk) ?_
    refine wq_q rfl rfl rfl (qt_load_ag (l := bc id) tbok rfl rfl rfl hib (rs_lk (.there .here) at0)) ?_
    refine wq_q rfl rfl rfl (qt_eq_bytes eq22 ng22 rfl rfl (sha_len _) hid) ?_
    refine wq_done ?_
    refine wl_done ?_
    refine nk_code ?_
    refine wc_cond rfl (fun h17 => ?_) (fun h17 => ?_)
    · refine wc_seq ?_
      refine wc_region ?_
      refine wl_q rfl rfl rfl (qt_p tbok rfl) ?_
      refine wl_done ?_
      refine nk_code ?_
      refine wc_ret ?_
      try dsimp only
      exact fin1 rfl (rv_tmp rfl) (fun w' hw => ⟨by rw [str_no hi' (of_decide_eq_true h17)], hw.all (new_cons (newKey hx) (new_cons (newKey hb2) (new_cons (newKey hb) new_nil)))⟩)
    · refine wc_skip ?_
      refine nk_code ?_
      refine wc_region ?_
      refine wl_q rfl rfl rfl (qt_p tbok rfl) ?_
      refine wl_q rfl rfl rfl (qt_p tbok rfl) ?_
      refine wl_done ?_
      exact nk_round (i := i) (i + 1) ⟨hi', fun j hj => (by by_cases e : j = i; (subst e; exact of_decide_eq_false h17); exact hN j (by omega))⟩ (by show K.length - (i + 1) < K.length - i; omega) ⟨rfl, rfl, rfl, rfl, rfl, trivial⟩ (fun w hw => hw.tail (newKey hx))
  · have he : i = K.length := (by have h0 := of_decide_eq_false h11; omega)
    subst he
    refine wc_exit rfl ?_
    refine nk_code ?_
    refine wc_seq ?_
    refine wc_region ?_
    refine wl_q rfl rfl rfl (qt_p tbok rfl) ?_
    refine wl_done ?_
    refine nk_code ?_
    refine wc_ret ?_
    try dsimp only
    exact fin1 rfl (rv_tmp rfl) (fun w' hw => ⟨by rw [str_yes hN], hw.all (new_cons (newKey hb2) (new_cons (newKey hb) new_nil))⟩)
end Go.Proofs.Ytjhmcmadleabjaa

set_option maxRecDepth 100000
namespace Go.Hw
section
variable {X : Cx} {e : Env} {s : Hp} {d : Option Nat} {ty : Nat} {pos : String} {af : Array Edge} {gd : Option (Nat × Bool)}
theorem qt_idxA {t el z sz : Nat} {x i : Operand} {ad : Ad} {r off len cap : Nat} {k : Int} (ht : TbOk X.P X.tb) (htt : X.tb.get t = some (.slice el z, sz)) (hx : ev e x = some (.c (.slc ad len cap))) (hi : ev e i = some (.c (.i64 k))) (ha : ad = .at r off) (hl : 0 ≤ k ∧ k < (len : Int)) :
    Qt X ⟨d, .indexAddr t x i, ty, pos, af, gd⟩ e s (.c (.ptr (.at r (off + k.toNat * z)))) := by
  subst ha
  refine qt_pure ht (p := 0 ≤ k ∧ k < (len : Int)) ?_ hl
  simp only [pureS, htt, hx, hi]
theorem qt_idxB {t el z sz : Nat} {x i : Operand} {ad : Ad} {r off len cap : Nat} {u : UInt64} (ht : TbOk X.P X.tb) (htt : X.tb.get t = some (.slice el z, sz)) (hx : ev e x = some (.c (.slc ad len cap))) (hi : ev e i = some (.c (.u64 u))) (ha : ad = .at r off) (hl : u.toNat < len) :
    Qt X ⟨d, .indexAddr t x i, ty, pos, af, gd⟩ e s (.c (.ptr (.at r (off + u.toNat * z)))) := by
  subst ha
  exact qt_idx64 ht htt hx hi hl
end
end Go.Hw
namespace Go.Proofs.Ytjhmcmadleabjaa
open Go Go.Hw Go.Proofs

theorem rs_of {w0 : World} {s : Hp} {ad : Ad} {l : List C} {r o : Nat} (h : RdS w0 s ad l) (he : ad = .at r o) : RS w0 s r o l := by rw [he] at h; exact h
theorem rem64 {a : UInt64} {m : Nat} (h0 : 0 < m) (hm : m ≤ 1000) : UInt64.ofInt (m : Int) ≠ 0 ∧ (a % UInt64.ofInt (m : Int)).toNat < m := by
  have h1 := u64ofInt (m : Int)
  have h2 : (UInt64.ofInt (m : Int)).toNat = m := by omega
  refine ⟨fun e => ?_, ?_⟩
  · rw [e] at h2
    have : (0 : UInt64).toNat = 0 := rfl
    omega
  · rw [UInt64.toNat_mod, h2]; exact Nat.mod_lt _ h0
theorem rows_mid {A : List (Mk × Os)} (hA : ∀ p ∈ A, p.1.ok) {i o : Nat} (hi : i < A.length) (ho : o = i * 2178) : ∀ (j : Nat) c, (mrow (el A i))[j]? = some c → (A.flatMap mrow)[o + j]? = some c := fun j c h => by
  rw [ho]; exact rows_at (mrows_len hA) hi j c h
theorem rows_put {A : List (Mk × Os)} (hA : ∀ p ∈ A, p.1.ok) {i o : Nat} {x : Mk × Os} (hx : x.1.ok) (hi : i < A.length) (ho : o = i * 2178) : spl (A.flatMap mrow) o (mrow x) = (A.set i x).flatMap mrow := by
  rw [ho]; exact rows_set (mrows_len hA) (mrow_len hx) hi
theorem set_ok {A : List (Mk × Os)} (hA : ∀ p ∈ A, p.1.ok) {i : Nat} {x : Mk × Os} (hx : x.1.ok) : ∀ p ∈ A.set i x, p.1.ok := fun p hp => by
  rcases List.mem_or_eq_of_mem_set hp with h | h
  · exact hA p h
  · rw [h]; exact hx
theorem mrows_fit {A : List (Mk × Os)} (hA : ∀ p ∈ A, p.1.ok) {i o : Nat} (hi : i < A.length) (ho : o = i * 2178) : o + 2178 ≤ (A.flatMap mrow).length := by
  rw [rows_len (mrows_len hA)]; omega

set_option maxHeartbeats 4000000 in
theorem roleOrders_c {w : World} {n : Int} {K : List (Int × List UInt8)} {M : List (Mk × Os)} {msg : List UInt8} {O : List Int} {pa ma la oa : Ad} {pc mc lc oc : Nat} (hK : K32 K) (hc : Cells w pa (K.flatMap kr)) (hm : Cells w ma (bc msg)) (hmax : msg.length ≤ 1073741000)
    (hM : ∀ p ∈ M, p.1.ok) (hl : Cells w la (M.flatMap mrow)) (hp : ∀ p ∈ M, Mk.lies w p) (ho : Cells w oa (O.map C.i64)) :
    CallsV Try.prog 10 [.agg [.i64 n, .slc pa K.length pc], .c (.slc ma msg.length mc), .c (.slc la M.length lc), .c (.slc oa O.length oc)] w fun en w' => en = .returned (V.c (.bool true)).den ∧ St w [] w' := by
  refine calls_in (tb := tb) (fn := Try.f10) Try.func10 rfl rfl rfl [(0, .agg [.i64 n, .slc pa K.length pc]), (1, .c (.slc ma msg.length mc)), (2, .c (.slc la M.length lc)), (3, .c (.slc oa O.length oc))] rfl [] (St.refl _) ?_
  refine wc_seq ?_
  refine wc_region ?_
  refine wl_ef rfl (ef_box rfl rfl rfl (fun b hb => ?_))
  refine wl_q rfl rfl rfl (qt_p tbok rfl) ?_
  refine wl_done ?_
  refine nk_code ?_
  refine wc_seq ?_
  refine wc_seq ?_
  refine wc_region ?_
  refine wl_q rfl rfl rfl (qt_p tbok rfl) ?_
  first | refine wl_q rfl rfl rfl (qt_l tbok rfl rfl rfl) ?_ | refine wl_q rfl rfl rfl (qt_la tbok rfl rfl rfl) ?_
  refine wl_q rfl rfl rfl (qt_len tbok rfl rfl) ?_
  refine wl_q rfl rfl rfl (qt_p tbok rfl) ?_
  refine wl_bool (fun h1 => ?_) (fun h1 => ?_)
  · refine wl_q rfl rfl rfl (qt_p tbok rfl) ?_
    first | refine wl_g rfl rfl rfl rfl (qt_p tbok rfl) ?_ | refine wl_skip rfl rfl rfl rfl rfl ?_
    first | refine wl_g rfl rfl rfl rfl (qt_len tbok rfl rfl) ?_ | refine wl_skip rfl rfl rfl rfl rfl ?_
    first | refine wl_g rfl rfl rfl rfl (qt_p tbok rfl) ?_ | refine wl_skip rfl rfl rfl rfl rfl ?_
    refine wl_q rfl rfl rfl (qt_p tbok rfl) ?_
    refine wl_q rfl rfl rfl (qt_p tbok rfl) ?_
    first | refine wl_g rfl rfl rfl rfl (qt_p tbok rfl) ?_ | refine wl_skip rfl rfl rfl rfl rfl ?_
    first | refine wl_g rfl rfl rfl rfl (qt_len tbok rfl rfl) ?_ | refine wl_skip rfl rfl rfl rfl rfl ?_
    first | refine wl_g rfl rfl rfl rfl (qt_p tbok rfl) ?_ | refine wl_skip rfl rfl rfl rfl rfl ?_
    refine wl_q rfl rfl rfl (qt_p tbok rfl) ?_
    refine wl_done ?_
    refine nk_code ?_
    refine wc_yes rfl ?_
    refine wc_seq ?_
    refine wc_region ?_
    refine wl_ef rfl (ef_pure (v := .c (.bool true)) (by kernel_rfl) rfl rfl (fun w1 _ => awake16_c) ?_)
    refine wl_q rfl rfl rfl (qt_p tbok rfl) ?_
    refine wl_done ?_
    refine nk_code ?_
    refine wc_ret ?_
    try dsimp only
    exact fin1 rfl (rv_tmp rfl) (fun w' hw => ⟨rfl, hw.all (new_cons (newKey hb) new_nil)⟩)
  · refine wl_q rfl rfl rfl (qt_p tbok rfl) ?_
    first | refine wl_g rfl rfl rfl rfl (qt_p tbok rfl) ?_ | refine wl_skip rfl rfl rfl rfl rfl ?_
    first | refine wl_g rfl rfl rfl rfl (qt_len tbok rfl rfl) ?_ | refine wl_skip rfl rfl rfl rfl rfl ?_
    first | refine wl_g rfl rfl rfl rfl (qt_p tbok rfl) ?_ | refine wl_skip rfl rfl rfl rfl rfl ?_
    refine wl_bool (fun h2 => ?_) (fun h2 => ?_)
    · refine wl_q rfl rfl rfl (qt_p tbok rfl) ?_
      refine wl_q rfl rfl rfl (qt_p tbok rfl) ?_
      first | refine wl_g rfl rfl rfl rfl (qt_p tbok rfl) ?_ | refine wl_skip rfl rfl rfl rfl rfl ?_
      first | refine wl_g rfl rfl rfl rfl (qt_len tbok rfl rfl) ?_ | refine wl_skip rfl rfl rfl rfl rfl ?_
      first | refine wl_g rfl rfl rfl rfl (qt_p tbok rfl) ?_ | refine wl_skip rfl rfl rfl rfl rfl ?_
      refine wl_q rfl rfl rfl (qt_p tbok rfl) ?_
      refine wl_done ?_
      refine nk_code ?_
      refine wc_yes rfl ?_
      refine wc_seq ?_
      refine wc_region ?_
      refine wl_ef rfl (ef_pure (v := .c (.bool true)) (by kernel_rfl) rfl rfl (fun w1 _ => awake16_c) ?_)
      refine wl_q rfl rfl rfl (qt_p tbok rfl) ?_
      refine wl_done ?_
      refine nk_code ?_
      refine wc_ret ?_
      try dsimp only
      exact fin1 rfl (rv_tmp rfl) (fun w' hw => ⟨rfl, hw.all (new_cons (newKey hb) new_nil)⟩)
    · refine wl_q rfl rfl rfl (qt_p tbok rfl) ?_
      refine wl_q rfl rfl rfl (qt_p tbok rfl) ?_
      first | refine wl_g rfl rfl rfl rfl (qt_p tbok rfl) ?_ | refine wl_skip rfl rfl rfl rfl rfl ?_
      first | refine wl_g rfl rfl rfl rfl (qt_len tbok rfl rfl) ?_ | refine wl_skip rfl rfl rfl rfl rfl ?_
      first | refine wl_g rfl rfl rfl rfl (qt_p tbok rfl) ?_ | refine wl_skip rfl rfl rfl rfl rfl ?_
      refine wl_bool (fun h3 => ?_) (fun h3 => ?_)
      · refine wl_q rfl rfl rfl (qt_p tbok rfl) ?_
        refine wl_done ?_
        refine nk_code ?_
        refine wc_yes rfl ?_
        refine wc_seq ?_
        refine wc_region ?_
        refine wl_ef rfl (ef_pure (v := .c (.bool true)) (by kernel_rfl) rfl rfl (fun w1 _ => awake16_c) ?_)
        refine wl_q rfl rfl rfl (qt_p tbok rfl) ?_
        refine wl_done ?_
        refine nk_code ?_
        refine wc_ret ?_
        try dsimp only
        exact fin1 rfl (rv_tmp rfl) (fun w' hw => ⟨rfl, hw.all (new_cons (newKey hb) new_nil)⟩)
      · refine wl_q rfl rfl rfl (qt_p tbok rfl) ?_
        refine wl_done ?_
        refine nk_code ?_
        refine wc_no rfl ?_
        refine wc_skip ?_
        refine nk_code ?_
        refine wc_seq ?_
        refine wc_region ?_
        have hKl : K.length ≤ 4 := (by have := of_decide_eq_false h1; omega)
        have hMl : M.length ≤ 4 := (by have := of_decide_eq_false h2; omega)
        have hOl : O.length ≤ 6 := (by have := of_decide_eq_false h3; omega)
        refine wl_q rfl rfl rfl (qt_load_ag (l := [.i64 n, .slc pa K.length pc]) tbok rfl rfl rfl rfl (rs_lk .here at0)) ?_
        refine wl_ef rfl (ef_fresh (by kernel_rfl) rfl rfl (fun w1 h1 => toRole_c hK (by omega) (cells_rd (rd_cells hc (off_new (newKey hb) off_nil)) h1)) (fun y1 hy1 hk1 => ?_))
        refine wl_ef rfl (ef_alloc zero72 rfl rfl (fun t9 h9 => ?_))
        refine wl_ef rfl (ef_store (cs' := [.i64 n, .slc y1.1 K.length y1.2.1]) tbok rfl rfl rfl rfl .here rfl (Nat.le_of_ble_eq_true rfl) rfl ?_)
        refine wl_done ?_
        refine nk_code ?_
        refine wc_seq ?_
        refine wc_region ?_
        refine wl_q rfl rfl rfl (qt_p tbok rfl) ?_
        refine wl_ef rfl (ef_freshT (I := CpD M) (by kernel_rfl) rfl rfl (fun w1 h1 => toMarks_c hM (by omega) (cells_rd (rd_cells hl (off_new (newKey h9) (off_new hk1 (off_new (newKey hb) off_nil)))) h1) (fun p hpm => ⟨cells_rd (rd_cells (hp p hpm).1 (off_new (newKey h9) (off_new hk1 (off_new (newKey hb) off_nil)))) h1, (hp p hpm).2⟩)) (fun ⟨N, na, nc, nt⟩ hz hk2 hT => ?_))
        have hNl : N.length = M.length := hz.1
        have hNm : N.map (·.1) = M.map (·.1) := hz.2.1
        have hNo : OwnS na M.length nc 2178 (N.flatMap mrow) nt := hz.2.2.1
        have hNk := ok_map hNm hM
        dsimp only [List.cons_append, List.nil_append] at hk2 hT ⊢
        refine wl_q rfl rfl rfl (qt_p tbok rfl) ?_
        refine wl_done ?_
        refine nk_code ?_
        refine wc_seq ?_
        refine wc_region ?_
        refine wl_q rfl rfl rfl (qt_load_ag (l := [.i64 n, .slc y1.1 K.length y1.2.1]) tbok rfl rfl rfl rfl (rs_lk (.there .here) at0)) ?_
        refine wl_q rfl rfl rfl (qt_p tbok rfl) ?_
        refine wl_q rfl rfl rfl (qt_p tbok rfl) ?_
        refine wl_ef rfl (ef_pure (v := .c (.i64 (cntK K msg (M.map (·.1)) : Nat))) (by kernel_rfl) rfl rfl (fun w1 h1 => by rw [← hNl, ← hNm]; exact count_c hK (by omega) (cells_own h1 (.there (.there .here))) (cells_rd (rd_cells hm (off_new hk2 (off_new (newKey h9) (off_new hk1 (off_new (newKey hb) (off_all hT)))))) h1) hmax hNk (by omega) (cells_own h1 .here) (hz.lies h1 (fun b hb => .there (.there (.there (.there (lk_mem hb))))))) ?_)
        refine wl_q rfl rfl rfl (qt_p tbok rfl) ?_
        refine wl_done ?_
        refine nk_code ?_
        refine wc_seq ?_
        refine wc_region ?_
        refine wl_ef rfl (ef_buildSlice (vs := []) (l := []) tbok rfl zero84 rfl z2178_len rfl (by decide) rfl rfl (fun r0 hr0 => ?_))
        refine wl_q rfl rfl rfl (qt_p tbok rfl) ?_
        refine wl_ef rfl (ef_append tbok rfl el84 zero84 rfl rfl rfl .here own_z0 (newKey hr0) (m := M.length) (news := N.flatMap mrow) (by rw [rows_len (mrows_len hNk), hNl]) (rd_own hNo (.there .here)) (by omega) (by simp only [maxLen]; omega) (fun xa xc xt hxo hxk _ _ => ?_))
        have e0 : 0 + M.length = N.length := (by omega)
        rw [e0] at hxo ⊢
        replace hxo : OwnS xa N.length xc 2178 (N.flatMap mrow) xt := hxo
        refine wl_q rfl rfl rfl (qt_p tbok rfl) ?_
        refine wl_done ?_
        refine nk_code ?_
        refine wc_seq ?_
        refine wc_seq ?_
        refine wc_region ?_
        refine wl_q rfl rfl rfl (qt_p tbok rfl) ?_
        refine wl_q rfl rfl rfl (qt_len tbok rfl rfl) ?_
        refine wl_q rfl rfl rfl (qt_p tbok rfl) ?_
        refine wl_done ?_
        refine nk_code ?_
        refine wc_block ?_
        refine wc_loop (ι := Nat × List (Mk × Os) × Os) (fun j => j.1 ≤ O.length ∧ j.2.1.length ≤ M.length + j.1 ∧ OrdI K msg M N j.2.1 ∧ OwnS j.2.2.1 j.2.1.length j.2.2.2.1 2178 (j.2.1.flatMap mrow) j.2.2.2.2 ∧ (∀ k, j.2.2.1.key = some k → w.heap.size ≤ k)) (fun j => [(46, .c (.i64 (j.1 : Int))), (45, .c (.i64 (O.length : Int))), (44, .c (.slc oa O.length oc)), (12, .c (.slc j.2.2.1 j.2.1.length j.2.2.2.1)), (10, .c (.slc na M.length nc)), (11, .c (.i64 (cntK K msg (M.map (·.1)) : Nat))), (3, .c (.slc oa O.length oc)), (1, .c (.slc ma msg.length mc)), (9, .c (.ptr (.at t9 0))), (4, .c (.ptr (.at b 0)))]) (fun j => mob j.2.1 j.2.2 :: mob N (na, nc, nt) :: ⟨.at t9 0, [.i64 n, .slc y1.1 K.length y1.2.1], 72, (0, 0), []⟩ :: kob K y1 :: ⟨.at b 0, [.i64 n, .slc pa K.length pc], 68, (0, 0), []⟩ :: pbs N) (fun j => O.length - j.1) (0, N, xa, xc, xt) ⟨Nat.zero_le _, by show N.length ≤ M.length + 0; omega, ord_start hNm hM, hxo, hxk⟩ (nk_start ⟨rfl, rfl, rfl, rfl, rfl, rfl, rfl, rfl, rfl, rfl, trivial⟩ (fun w hw => hw)) (fun ⟨i, E, xa, xc, xt⟩ ⟨hi, hEl, hO, hx, hxk⟩ => ?_)
        replace hi : i ≤ O.length := hi
        replace hEl : E.length ≤ M.length + i := hEl
        replace hO : OrdI K msg M N E := hO
        replace hx : OwnS xa E.length xc 2178 (E.flatMap mrow) xt := hx
        replace hxk : ∀ k, xa.key = some k → w.heap.size ≤ k := hxk
        have hEk : ∀ p ∈ E, p.1.ok := fun p hp => (hO.1 p hp).1
        dsimp only
        refine wc_seq ?_
        refine wc_region ?_
        refine wl_q rfl rfl rfl (qt_p tbok rfl) ?_
        refine wl_done ?_
        refine nk_code ?_
        refine wc_seq ?_
        refine wc_cond rfl (fun h47 => ?_) (fun h47 => ?_)
        · have hi' : i < O.length := (by have h0 := of_decide_eq_true h47; omega)
          obtain ⟨or, oo, hoa⟩ := cells_nn ho (by rw [List.length_map]; omega)
          have hor : RS w (mob E (xa, xc, xt) :: mob N (na, nc, nt) :: ⟨.at t9 0, [.i64 n, .slc y1.1 K.length y1.2.1], 72, (0, 0), []⟩ :: kob K y1 :: ⟨.at b 0, [.i64 n, .slc pa K.length pc], 68, (0, 0), []⟩ :: pbs N) or oo (O.map C.i64) := (by have h9 := rd_cells ho (off_new hxk (off_new hk2 (off_new (newKey h9) (off_new hk1 (off_new (newKey hb) (off_all hT))))) : Off w oa (mob E (xa, xc, xt) :: mob N (na, nc, nt) :: ⟨.at t9 0, [.i64 n, .slc y1.1 K.length y1.2.1], 72, (0, 0), []⟩ :: kob K y1 :: ⟨.at b 0, [.i64 n, .slc pa K.length pc], 68, (0, 0), []⟩ :: pbs N)); rw [hoa] at h9; exact h9)
          refine wc_skip ?_
          refine nk_code ?_
          refine wc_seq ?_
          refine wc_block ?_
          refine wc_seq ?_
          refine wc_region ?_
          refine wl_q rfl rfl rfl (qt_p tbok rfl) ?_
          refine wl_q rfl rfl rfl (qt_idxA tbok rfl rfl rfl hoa ⟨by omega, by omega⟩) ?_
          refine wl_q rfl rfl rfl (qt_load (c := .i64 (el O i)) tbok rfl rfl rfl (hor.rc (i := i) (by rw [List.getElem?_map, el_get hi']; rfl) (by omega))) ?_
          refine wl_q rfl rfl rfl (qt_p tbok rfl) ?_
          refine wl_q rfl rfl rfl (qt_p tbok rfl) ?_
          refine wl_done ?_
          refine nk_code ?_
          refine wc_seq ?_
          refine wc_seq ?_
          refine wc_region ?_
          refine wl_q rfl rfl rfl (qt_p tbok rfl) ?_
          refine wl_q rfl rfl rfl (qt_len tbok rfl rfl) ?_
          first | refine wl_q rfl rfl rfl (qt_p tbok rfl) ?_ | refine wl_q rfl rfl rfl (qt_eqn tbok rfl rfl rfl) ?_
          refine wl_done ?_
          refine nk_code ?_
          refine wc_cond rfl (fun h53 => ?_) (fun h53 => ?_)
          · refine wc_exit rfl ?_
            refine nk_code ?_
            refine wc_seq ?_
            refine wc_seq ?_
            refine wc_region ?_
            refine wl_q rfl rfl rfl (qt_p tbok rfl) ?_
            refine wl_q rfl rfl rfl (qt_len tbok rfl rfl) ?_
            refine wl_q rfl rfl rfl (qt_p tbok rfl) ?_
            refine wl_done ?_
            refine nk_code ?_
            refine wc_block ?_
            refine wc_loop (ι := Nat × List (Mk × Os)) (fun j => j.1 ≤ E.length ∧ j.2.length = E.length ∧ OrdI K msg M N j.2) (fun j => [(87, .c (.i64 (j.1 : Int))), (86, .c (.i64 (E.length : Int))), (12, .c (.slc xa E.length xc)), (10, .c (.slc na M.length nc)), (11, .c (.i64 (cntK K msg (M.map (·.1)) : Nat))), (3, .c (.slc oa O.length oc)), (1, .c (.slc ma msg.length mc)), (9, .c (.ptr (.at t9 0))), (4, .c (.ptr (.at b 0)))]) (fun j => mob j.2 (xa, xc, xt) :: mob N (na, nc, nt) :: ⟨.at t9 0, [.i64 n, .slc y1.1 K.length y1.2.1], 72, (0, 0), []⟩ :: kob K y1 :: ⟨.at b 0, [.i64 n, .slc pa K.length pc], 68, (0, 0), []⟩ :: pbs N) (fun j => E.length - j.1) (0, E) ⟨Nat.zero_le _, rfl, hO⟩ (nk_start ⟨rfl, rfl, rfl, rfl, rfl, rfl, rfl, rfl, rfl, trivial⟩ (fun w hw => hw)) (fun ⟨i2, F⟩ ⟨hi2, hFl, hO2⟩ => ?_)
            replace hi2 : i2 ≤ E.length := hi2
            replace hFl : F.length = E.length := hFl
            replace hO2 : OrdI K msg M N F := hO2
            have hFk : ∀ p ∈ F, p.1.ok := fun p hp => (hO2.1 p hp).1
            dsimp only
            refine wc_seq ?_
            refine wc_region ?_
            refine wl_q rfl rfl rfl (qt_p tbok rfl) ?_
            refine wl_done ?_
            refine nk_code ?_
            refine wc_seq ?_
            refine wc_cond rfl (fun h88 => ?_) (fun h88 => ?_)
            · have hi3 : i2 < E.length := (by have h0 := of_decide_eq_true h88; omega)
              obtain ⟨xr, hxa⟩ := own_at hx (by omega)
              subst hxa
              have hoki := hFk _ (el_mem (show i2 < F.length by omega))
              refine wc_skip ?_
              refine nk_code ?_
              refine wc_seq ?_
              refine wc_block ?_
              refine wc_seq ?_
              refine wc_region ?_
              refine wl_q rfl rfl rfl (qt_p tbok rfl) ?_
              refine wl_q rfl rfl rfl (qt_p tbok rfl) ?_
              refine wl_done ?_
              refine nk_code ?_
              refine wc_seq ?_
              refine wc_region ?_
              refine wl_q rfl rfl rfl (qt_p tbok rfl) ?_
              refine wl_done ?_
              refine nk_code ?_
              refine wc_seq ?_
              refine wc_seq ?_
              refine wc_region ?_
              refine wl_q rfl rfl rfl (qt_p tbok rfl) ?_
              refine wl_q rfl rfl rfl (qt_p tbok rfl) ?_
              refine wl_q rfl rfl rfl (qt_len tbok rfl rfl) ?_
              refine wl_q rfl rfl rfl (qt_p tbok rfl) ?_
              refine wl_done ?_
              refine nk_code ?_
              refine wc_cond rfl (fun h93 => ?_) (fun h93 => ?_)
              · have hi4 : i2 < O.length := (by have h0 := of_decide_eq_true h93; omega)
                obtain ⟨or2, oo2, hoa2⟩ := cells_nn ho (by rw [List.length_map]; omega)
                have hor2 : RS w (mob F (.at xr 0, xc, xt) :: mob N (na, nc, nt) :: ⟨.at t9 0, [.i64 n, .slc y1.1 K.length y1.2.1], 72, (0, 0), []⟩ :: kob K y1 :: ⟨.at b 0, [.i64 n, .slc pa K.length pc], 68, (0, 0), []⟩ :: pbs N) or2 oo2 (O.map C.i64) := (by have h9 := rd_cells ho (off_new hxk (off_new hk2 (off_new (newKey h9) (off_new hk1 (off_new (newKey hb) (off_all hT))))) : Off w oa (mob F (.at xr 0, xc, xt) :: mob N (na, nc, nt) :: ⟨.at t9 0, [.i64 n, .slc y1.1 K.length y1.2.1], 72, (0, 0), []⟩ :: kob K y1 :: ⟨.at b 0, [.i64 n, .slc pa K.length pc], 68, (0, 0), []⟩ :: pbs N)); rw [hoa2] at h9; exact h9)
                have hr2 := rem64 (a := UInt64.ofInt (el O i2)) (m := i2 + 1) (by omega) (by omega)
                obtain ⟨u2, hu2⟩ : ∃ u : UInt64, u = UInt64.ofInt (el O i2) % UInt64.ofInt (((i2 + 1 : Nat)) : Int) := ⟨_, rfl⟩
                have hul2 : u2.toNat < i2 + 1 := (by rw [hu2]; exact hr2.2)
                have hokj := hFk _ (el_mem (show u2.toNat < F.length by omega))
                refine wc_region ?_
                refine wl_q rfl rfl rfl (qt_p tbok rfl) ?_
                refine wl_q rfl rfl rfl (qt_p tbok rfl) ?_
                refine wl_q rfl rfl rfl (qt_idxA tbok rfl rfl rfl hoa2 ⟨by omega, by omega⟩) ?_
                refine wl_q rfl rfl rfl (qt_load (c := .i64 (el O i2)) tbok rfl rfl rfl (hor2.rc (i := i2) (by rw [List.getElem?_map, el_get hi4]; rfl) (by omega))) ?_
                refine wl_q rfl rfl rfl (qt_p tbok rfl) ?_
                refine wl_q rfl rfl rfl (qt_p tbok rfl) ?_
                refine wl_q rfl rfl rfl (qt_p tbok rfl) ?_
                refine wl_q rfl rfl rfl (qt_p tbok rfl) ?_
                refine wl_q rfl rfl rfl (qt_pure tbok rfl hr2.1) ?_
                refine wl_as (v' := .c (.u64 u2)) (by rw [hu2]; rfl) ?_
                refine wl_q rfl rfl rfl (qt_p tbok rfl) ?_
                refine wl_q rfl rfl rfl (qt_p tbok rfl) ?_
                refine wl_done ?_
                refine nk_code ?_
                refine wc_draw (s0 := mob N (na, nc, nt) :: ⟨.at t9 0, [.i64 n, .slc y1.1 K.length y1.2.1], 72, (0, 0), []⟩ :: kob K y1 :: ⟨.at b 0, [.i64 n, .slc pa K.length pc], 68, (0, 0), []⟩ :: pbs N) 16 follows ?_
                refine wh_q 0 rfl (by kernel_rfl) rfl rfl rfl (qt_p tbok rfl) (fun w hw => hw.tail hxk) ?_
                refine wh_q 1 rfl (by kernel_rfl) rfl rfl rfl (qt_p tbok rfl) (fun w hw => hw.tail hxk) ?_
                refine wh_q 2 rfl (by kernel_rfl) rfl rfl rfl (qt_p tbok rfl) (fun w hw => hw.tail hxk) ?_
                refine wh_q 3 rfl (by kernel_rfl) rfl rfl rfl (qt_p tbok rfl) (fun w hw => hw.tail hxk) ?_
                refine wh_q 4 rfl (by kernel_rfl) rfl rfl rfl (qt_p tbok rfl) (fun w hw => hw.tail hxk) ?_
                refine wh_q 5 rfl (by kernel_rfl) rfl rfl rfl (qt_p tbok rfl) (fun w hw => hw.tail hxk) ?_
                refine wh_q 6 rfl (by kernel_rfl) rfl rfl rfl (qt_p tbok rfl) (fun w hw => hw.tail hxk) ?_
                refine wh_q 8 rfl (by kernel_rfl) rfl rfl rfl (qt_p tbok rfl) (fun w hw => hw.tail hxk) ?_
                refine wh_q 9 rfl (by kernel_rfl) rfl rfl rfl (qt_p tbok rfl) (fun w hw => hw.tail hxk) ?_
                refine wh_q 10 rfl (by kernel_rfl) rfl rfl rfl (qt_p tbok rfl) (fun w hw => hw.tail hxk) ?_
                refine wh_two 7 11 (by kernel_rfl) ?_ ?_
                · refine wo_ef rfl rfl (ef_q rfl rfl (qt_load_ag (l := mrow (el F (u2.toNat))) tbok rfl rfl rfl (mrow_len hokj) (rs_lk .here (rows_mid hFk (by omega) (by omega)))) ⟨fun w hw => hw.tail hxk, ?_⟩)
                  refine wh_one 11 (by kernel_rfl) (wo_ef rfl rfl (ef_q rfl rfl (qt_load_ag (l := mrow (el F i2)) tbok rfl rfl rfl (mrow_len hoki) (rs_lk .here (rows_mid hFk (by omega) (by omega)))) ⟨fun w hw => hw.tail hxk, ?_⟩))
                  refine wh_q 12 rfl (by kernel_rfl) rfl rfl rfl (qt_p tbok rfl) (fun w hw => hw.tail hxk) ?_
                  refine wh_one 13 (by kernel_rfl) (wo_ef rfl rfl (ef_store (cs' := (F.set i2 (el F (u2.toNat))).flatMap mrow) tbok rfl rfl rfl rfl .here (mrow_len hokj) (mrows_fit hFk (i := i2) (by omega) (by omega)) (rows_put hFk hokj (by omega) (by omega)) ⟨fun w hw => hw.tail hxk, ?_⟩))
                  refine wh_q 14 rfl (by kernel_rfl) rfl rfl rfl (qt_p tbok rfl) (fun w hw => hw.tail hxk) ?_
                  refine wh_one 15 (by kernel_rfl) (wo_ef rfl rfl (ef_store (cs' := (swp F i2 (u2.toNat)).flatMap mrow) tbok rfl rfl rfl rfl .here (mrow_len hoki) (mrows_fit (i := u2.toNat) (set_ok hFk hokj) (by rw [List.length_set]; omega) (by omega)) (rows_put (set_ok hFk hokj) hoki (by rw [List.length_set]; omega) (by omega)) ⟨fun w hw => hw.tail hxk, ?_⟩))
                  refine wh_done (by kernel_rfl) ?_
                  refine nk_code ?_
                  refine wc_region ?_
                  refine wl_q rfl rfl rfl (qt_p tbok rfl) ?_
                  refine wl_q rfl rfl rfl (qt_p tbok rfl) ?_
                  refine wl_done ?_
                  exact nk_round (i := (i2, F)) (i2 + 1, swp F i2 (u2.toNat)) ⟨hi3, by show (swp F i2 (u2.toNat)).length = E.length; rw [swp_len]; exact hFl, ord_swap hO2 (by omega) (by omega)⟩ (by show E.length - (i2 + 1) < E.length - i2; omega) ⟨rfl, rfl, rfl, rfl, rfl, rfl, rfl, rfl, rfl, trivial⟩ (fun w hw => hw)
                · refine wo_ef rfl rfl (ef_q rfl rfl (qt_load_ag (l := mrow (el F i2)) tbok rfl rfl rfl (mrow_len hoki) (rs_lk .here (rows_mid hFk (by omega) (by omega)))) ⟨fun w hw => hw.tail hxk, ?_⟩)
                  refine wh_one 7 (by kernel_rfl) (wo_ef rfl rfl (ef_q rfl rfl (qt_load_ag (l := mrow (el F (u2.toNat))) tbok rfl rfl rfl (mrow_len hokj) (rs_lk .here (rows_mid hFk (by omega) (by omega)))) ⟨fun w hw => hw.tail hxk, ?_⟩))
                  refine wh_q 12 rfl (by kernel_rfl) rfl rfl rfl (qt_p tbok rfl) (fun w hw => hw.tail hxk) ?_
                  refine wh_one 13 (by kernel_rfl) (wo_ef rfl rfl (ef_store (cs' := (F.set i2 (el F (u2.toNat))).flatMap mrow) tbok rfl rfl rfl rfl .here (mrow_len hokj) (mrows_fit hFk (i := i2) (by omega) (by omega)) (rows_put hFk hokj (by omega) (by omega)) ⟨fun w hw => hw.tail hxk, ?_⟩))
                  refine wh_q 14 rfl (by kernel_rfl) rfl rfl rfl (qt_p tbok rfl) (fun w hw => hw.tail hxk) ?_
                  refine wh_one 15 (by kernel_rfl) (wo_ef rfl rfl (ef_store (cs' := (swp F i2 (u2.toNat)).flatMap mrow) tbok rfl rfl rfl rfl .here (mrow_len hoki) (mrows_fit (i := u2.toNat) (set_ok hFk hokj) (by rw [List.length_set]; omega) (by omega)) (rows_put (set_ok hFk hokj) hoki (by rw [List.length_set]; omega) (by omega)) ⟨fun w hw => hw.tail hxk, ?_⟩))
                  refine wh_done (by kernel_rfl) ?_
                  refine nk_code ?_
                  refine wc_region ?_
                  refine wl_q rfl rfl rfl (qt_p tbok rfl) ?_
                  refine wl_q rfl rfl rfl (qt_p tbok rfl) ?_
                  refine wl_done ?_
                  exact nk_round (i := (i2, F)) (i2 + 1, swp F i2 (u2.toNat)) ⟨hi3, by show (swp F i2 (u2.toNat)).length = E.length; rw [swp_len]; exact hFl, ord_swap hO2 (by omega) (by omega)⟩ (by show E.length - (i2 + 1) < E.length - i2; omega) ⟨rfl, rfl, rfl, rfl, rfl, rfl, rfl, rfl, rfl, trivial⟩ (fun w hw => hw)
              · have hokj := hFk _ (el_mem (show 0 < F.length by omega))
                refine wc_skip ?_
                refine nk_code ?_
                refine wc_draw (s0 := mob N (na, nc, nt) :: ⟨.at t9 0, [.i64 n, .slc y1.1 K.length y1.2.1], 72, (0, 0), []⟩ :: kob K y1 :: ⟨.at b 0, [.i64 n, .slc pa K.length pc], 68, (0, 0), []⟩ :: pbs N) 16 follows ?_
                refine wh_q 0 rfl (by kernel_rfl) rfl rfl rfl (qt_p tbok rfl) (fun w hw => hw.tail hxk) ?_
                refine wh_q 1 rfl (by kernel_rfl) rfl rfl rfl (qt_p tbok rfl) (fun w hw => hw.tail hxk) ?_
                refine wh_q 2 rfl (by kernel_rfl) rfl rfl rfl (qt_p tbok rfl) (fun w hw => hw.tail hxk) ?_
                refine wh_q 3 rfl (by kernel_rfl) rfl rfl rfl (qt_p tbok rfl) (fun w hw => hw.tail hxk) ?_
                refine wh_q 4 rfl (by kernel_rfl) rfl rfl rfl (qt_p tbok rfl) (fun w hw => hw.tail hxk) ?_
                refine wh_q 5 rfl (by kernel_rfl) rfl rfl rfl (qt_p tbok rfl) (fun w hw => hw.tail hxk) ?_
                refine wh_q 6 rfl (by kernel_rfl) rfl rfl rfl (qt_p tbok rfl) (fun w hw => hw.tail hxk) ?_
                refine wh_q 8 rfl (by kernel_rfl) rfl rfl rfl (qt_p tbok rfl) (fun w hw => hw.tail hxk) ?_
                refine wh_q 9 rfl (by kernel_rfl) rfl rfl rfl (qt_p tbok rfl) (fun w hw => hw.tail hxk) ?_
                refine wh_q 10 rfl (by kernel_rfl) rfl rfl rfl (qt_p tbok rfl) (fun w hw => hw.tail hxk) ?_
                refine wh_two 7 11 (by kernel_rfl) ?_ ?_
                · refine wo_ef rfl rfl (ef_q rfl rfl (qt_load_ag (l := mrow (el F (0))) tbok rfl rfl rfl (mrow_len hokj) (rs_lk .here (rows_mid hFk (by omega) (by omega)))) ⟨fun w hw => hw.tail hxk, ?_⟩)
                  refine wh_one 11 (by kernel_rfl) (wo_ef rfl rfl (ef_q rfl rfl (qt_load_ag (l := mrow (el F i2)) tbok rfl rfl rfl (mrow_len hoki) (rs_lk .here (rows_mid hFk (by omega) (by omega)))) ⟨fun w hw => hw.tail hxk, ?_⟩))
                  refine wh_q 12 rfl (by kernel_rfl) rfl rfl rfl (qt_p tbok rfl) (fun w hw => hw.tail hxk) ?_
                  refine wh_one 13 (by kernel_rfl) (wo_ef rfl rfl (ef_store (cs' := (F.set i2 (el F (0))).flatMap mrow) tbok rfl rfl rfl rfl .here (mrow_len hokj) (mrows_fit hFk (i := i2) (by omega) (by omega)) (rows_put hFk hokj (by omega) (by omega)) ⟨fun w hw => hw.tail hxk, ?_⟩))
                  refine wh_q 14 rfl (by kernel_rfl) rfl rfl rfl (qt_p tbok rfl) (fun w hw => hw.tail hxk) ?_
                  refine wh_one 15 (by kernel_rfl) (wo_ef rfl rfl (ef_store (cs' := (swp F i2 (0)).flatMap mrow) tbok rfl rfl rfl rfl .here (mrow_len hoki) (mrows_fit (i := 0) (set_ok hFk hokj) (by rw [List.length_set]; omega) (by omega)) (rows_put (set_ok hFk hokj) hoki (by rw [List.length_set]; omega) (by omega)) ⟨fun w hw => hw.tail hxk, ?_⟩))
                  refine wh_done (by kernel_rfl) ?_
                  refine nk_code ?_
                  refine wc_region ?_
                  refine wl_q rfl rfl rfl (qt_p tbok rfl) ?_
                  refine wl_q rfl rfl rfl (qt_p tbok rfl) ?_
                  refine wl_done ?_
                  exact nk_round (i := (i2, F)) (i2 + 1, swp F i2 (0)) ⟨hi3, by show (swp F i2 (0)).length = E.length; rw [swp_len]; exact hFl, ord_swap hO2 (by omega) (by omega)⟩ (by show E.length - (i2 + 1) < E.length - i2; omega) ⟨rfl, rfl, rfl, rfl, rfl, rfl, rfl, rfl, rfl, trivial⟩ (fun w hw => hw)
                · refine wo_ef rfl rfl (ef_q rfl rfl (qt_load_ag (l := mrow (el F i2)) tbok rfl rfl rfl (mrow_len hoki) (rs_lk .here (rows_mid hFk (by omega) (by omega)))) ⟨fun w hw => hw.tail hxk, ?_⟩)
                  refine wh_one 7 (by kernel_rfl) (wo_ef rfl rfl (ef_q rfl rfl (qt_load_ag (l := mrow (el F (0))) tbok rfl rfl rfl (mrow_len hokj) (rs_lk .here (rows_mid hFk (by omega) (by omega)))) ⟨fun w hw => hw.tail hxk, ?_⟩))
                  refine wh_q 12 rfl (by kernel_rfl) rfl rfl rfl (qt_p tbok rfl) (fun w hw => hw.tail hxk) ?_
                  refine wh_one 13 (by kernel_rfl) (wo_ef rfl rfl (ef_store (cs' := (F.set i2 (el F (0))).flatMap mrow) tbok rfl rfl rfl rfl .here (mrow_len hokj) (mrows_fit hFk (i := i2) (by omega) (by omega)) (rows_put hFk hokj (by omega) (by omega)) ⟨fun w hw => hw.tail hxk, ?_⟩))
                  refine wh_q 14 rfl (by kernel_rfl) rfl rfl rfl (qt_p tbok rfl) (fun w hw => hw.tail hxk) ?_
                  refine wh_one 15 (by kernel_rfl) (wo_ef rfl rfl (ef_store (cs' := (swp F i2 (0)).flatMap mrow) tbok rfl rfl rfl rfl .here (mrow_len hoki) (mrows_fit (i := 0) (set_ok hFk hokj) (by rw [List.length_set]; omega) (by omega)) (rows_put (set_ok hFk hokj) hoki (by rw [List.length_set]; omega) (by omega)) ⟨fun w hw => hw.tail hxk, ?_⟩))
                  refine wh_done (by kernel_rfl) ?_
                  refine nk_code ?_
                  refine wc_region ?_
                  refine wl_q rfl rfl rfl (qt_p tbok rfl) ?_
                  refine wl_q rfl rfl rfl (qt_p tbok rfl) ?_
                  refine wl_done ?_
                  exact nk_round (i := (i2, F)) (i2 + 1, swp F i2 (0)) ⟨hi3, by show (swp F i2 (0)).length = E.length; rw [swp_len]; exact hFl, ord_swap hO2 (by omega) (by omega)⟩ (by show E.length - (i2 + 1) < E.length - i2; omega) ⟨rfl, rfl, rfl, rfl, rfl, rfl, rfl, rfl, rfl, trivial⟩ (fun w hw => hw)
            · refine wc_exit rfl ?_
              refine nk_code ?_
              refine wc_seq ?_
              refine wc_seq ?_
              refine wc_region ?_
              refine wl_q rfl rfl rfl (qt_load_ag (l := [.i64 n, .slc y1.1 K.length y1.2.1]) tbok rfl rfl rfl rfl (rs_lk (.there (.there .here)) at0)) ?_
              refine wl_ef rfl (ef_pure (v := .c (.bool (rightB n K))) (by kernel_rfl) rfl rfl (fun w1 h1 => right_c hK (cells_own h1 (.there (.there (.there .here))))) ?_)
              refine wl_bool (fun hr => ?_) (fun hr => ?_)
              · refine wl_q rfl rfl rfl (qt_p tbok rfl) ?_
                first | refine wl_g rfl rfl rfl rfl (qt_p tbok rfl) ?_ | refine wl_skip rfl rfl rfl rfl rfl ?_
                first | refine wl_g rfl rfl rfl rfl (qt_p tbok rfl) ?_ | refine wl_skip rfl rfl rfl rfl rfl ?_
                first | refine wl_g rfl rfl rfl rfl (qt_l tbok rfl rfl rfl) ?_ | refine wl_g rfl rfl rfl rfl (qt_la tbok rfl rfl rfl) ?_ | refine wl_skip rfl rfl rfl rfl rfl ?_
                first | refine wl_g rfl rfl rfl rfl (qt_len tbok rfl rfl) ?_ | refine wl_skip rfl rfl rfl rfl rfl ?_
                first | refine wl_g rfl rfl rfl rfl (qt_p tbok rfl) ?_ | refine wl_skip rfl rfl rfl rfl rfl ?_
                refine wl_as (v' := .c (.bool false)) (congrArg (fun b => V.c (C.bool b)) (decide_eq_false (by have := cntK_le K msg (M.map (·.1)); omega))) ?_
                first | refine wl_g rfl rfl rfl rfl (qt_p tbok rfl) ?_ | refine wl_skip rfl rfl rfl rfl rfl ?_
                first | refine wl_g rfl rfl rfl rfl (qt_p tbok rfl) ?_ | refine wl_skip rfl rfl rfl rfl rfl ?_
                first | refine wl_g rfl rfl rfl rfl (qt_p tbok rfl) ?_ | refine wl_skip rfl rfl rfl rfl rfl ?_
                first | refine wl_g rfl rfl rfl rfl (qt_len tbok rfl rfl) ?_ | refine wl_skip rfl rfl rfl rfl rfl ?_
                first | refine wl_g rfl rfl rfl rfl (qt_p tbok rfl) ?_ | refine wl_skip rfl rfl rfl rfl rfl ?_
                refine wl_as (v' := .c (.bool false)) (congrArg (fun b => V.c (C.bool b)) (decide_eq_false (by have := cnt_marks hr msg (M.map (·.1)); rw [List.length_map] at this; omega))) ?_
                first | refine wl_g rfl rfl rfl rfl (qt_p tbok rfl) ?_ | refine wl_skip rfl rfl rfl rfl rfl ?_
                first | refine wl_g rfl rfl rfl rfl (qt_p tbok rfl) ?_ | refine wl_skip rfl rfl rfl rfl rfl ?_
                refine wl_g rfl rfl rfl rfl (qt_load_ag (l := [.i64 n, .slc y1.1 K.length y1.2.1]) tbok rfl rfl rfl rfl (rs_lk (.there (.there .here)) at0)) ?_
                first | refine wl_g rfl rfl rfl rfl (qt_p tbok rfl) ?_ | refine wl_skip rfl rfl rfl rfl rfl ?_
                first | refine wl_g rfl rfl rfl rfl (qt_p tbok rfl) ?_ | refine wl_skip rfl rfl rfl rfl rfl ?_
                refine wl_gd rfl rfl (ef_pure (v := .c (.bool (meetsB n K msg (M.map (·.1))))) (by kernel_rfl) rfl rfl (fun w1 h1 => by rw [← hNl, ← hNm]; exact meets_c hK (by omega) (cells_own h1 (.there (.there (.there .here)))) (cells_rd (rd_cells hm (off_new hxk (off_new hk2 (off_new (newKey h9) (off_new hk1 (off_new (newKey hb) (off_all hT))))))) h1) hmax hNk (by omega) (cells_own h1 (.there .here)) (hz.lies h1 (fun b hb => .there (.there (.there (.there (.there (lk_mem hb)))))))) ?_)
                refine wl_bool (fun hq => ?_) (fun hq => ?_)
                · first | refine wl_g rfl rfl rfl rfl (qt_p tbok rfl) ?_ | refine wl_skip rfl rfl rfl rfl rfl ?_
                  first | refine wl_g rfl rfl rfl rfl (qt_p tbok rfl) ?_ | refine wl_skip rfl rfl rfl rfl rfl ?_
                  first | refine wl_g rfl rfl rfl rfl (qt_len tbok rfl rfl) ?_ | refine wl_skip rfl rfl rfl rfl rfl ?_
                  first | refine wl_g rfl rfl rfl rfl (qt_p tbok rfl) ?_ | refine wl_skip rfl rfl rfl rfl rfl ?_
                  first | refine wl_g rfl rfl rfl rfl (qt_l tbok rfl rfl rfl) ?_ | refine wl_g rfl rfl rfl rfl (qt_la tbok rfl rfl rfl) ?_ | refine wl_skip rfl rfl rfl rfl rfl ?_
                  first | refine wl_g rfl rfl rfl rfl (qt_p tbok rfl) ?_ | refine wl_skip rfl rfl rfl rfl rfl ?_
                  refine wl_as (v' := .c (.bool false)) (congrArg (fun b => V.c (C.bool b)) (decide_eq_false (by have h7 := cnt_marks hr msg (M.map (·.1)); rw [List.length_map] at h7; unfold meetsB at hq; simp only [Bool.and_eq_true, decide_eq_true_eq] at hq; omega))) ?_
                  first | refine wl_g rfl rfl rfl rfl (qt_p tbok rfl) ?_ | refine wl_skip rfl rfl rfl rfl rfl ?_
                  first | refine wl_g rfl rfl rfl rfl (qt_p tbok rfl) ?_ | refine wl_skip rfl rfl rfl rfl rfl ?_
                  refine wl_q rfl rfl rfl (qt_p tbok rfl) ?_
                  refine wl_done ?_
                  refine nk_code ?_
                  refine wc_no rfl ?_
                  refine wc_skip ?_
                  refine nk_code ?_
                  refine wc_seq ?_
                  refine wc_region ?_
                  refine wl_ef rfl (ef_pure (v := .c (.bool true)) (by kernel_rfl) rfl rfl (fun w1 _ => awake16_c) ?_)
                  refine wl_q rfl rfl rfl (qt_p tbok rfl) ?_
                  refine wl_g rfl rfl rfl rfl (qt_load_ag (l := [.i64 n, .slc y1.1 K.length y1.2.1]) tbok rfl rfl rfl rfl (rs_lk (.there (.there .here)) at0)) ?_
                  first | refine wl_g rfl rfl rfl rfl (qt_p tbok rfl) ?_ | refine wl_skip rfl rfl rfl rfl rfl ?_
                  first | refine wl_g rfl rfl rfl rfl (qt_p tbok rfl) ?_ | refine wl_skip rfl rfl rfl rfl rfl ?_
                  refine wl_gd rfl rfl (ef_pure (v := .c (.i64 (cntK K msg (M.map (·.1)) : Nat))) (by kernel_rfl) rfl rfl (fun w1 h1 => by rw [← ord_cnt hO2, ← hFl]; exact count_c hK (by omega) (cells_own h1 (.there (.there (.there .here)))) (cells_rd (rd_cells hm (off_new hxk (off_new hk2 (off_new (newKey h9) (off_new hk1 (off_new (newKey hb) (off_all hT))))))) h1) hmax hFk (by omega) (cells_own h1 .here) (ord_lies hO2 (hz.lies h1 (fun b hb => .there (.there (.there (.there (.there (lk_mem hb))))))))) ?_)
                  first | refine wl_g rfl rfl rfl rfl (qt_p tbok rfl) ?_ | refine wl_skip rfl rfl rfl rfl rfl ?_
                  first | refine wl_g rfl rfl rfl rfl (qt_p tbok rfl) ?_ | refine wl_g rfl rfl rfl rfl (qt_eqn tbok rfl rfl rfl) ?_ | refine wl_skip rfl rfl rfl rfl rfl ?_
                  refine wl_as (v' := .c (.bool true)) (congrArg (fun b => V.c (C.bool b)) (decide_eq_true rfl)) ?_
                  refine wl_q rfl rfl rfl (qt_p tbok rfl) ?_
                  refine wl_q rfl rfl rfl (qt_p tbok rfl) ?_
                  refine wl_done ?_
                  refine nk_code ?_
                  refine wc_ret ?_
                  try dsimp only
                  exact fin1 rfl (rv_tmp rfl) (fun w' hw => ⟨rfl, hw.all (new_cons hxk (new_cons hk2 (new_cons (newKey h9) (new_cons hk1 (new_cons (newKey hb) hT)))))⟩)
                · first | refine wl_g rfl rfl rfl rfl (qt_p tbok rfl) ?_ | refine wl_skip rfl rfl rfl rfl rfl ?_
                  first | refine wl_g rfl rfl rfl rfl (qt_p tbok rfl) ?_ | refine wl_skip rfl rfl rfl rfl rfl ?_
                  first | refine wl_g rfl rfl rfl rfl (qt_len tbok rfl rfl) ?_ | refine wl_skip rfl rfl rfl rfl rfl ?_
                  first | refine wl_g rfl rfl rfl rfl (qt_p tbok rfl) ?_ | refine wl_skip rfl rfl rfl rfl rfl ?_
                  first | refine wl_g rfl rfl rfl rfl (qt_l tbok rfl rfl rfl) ?_ | refine wl_g rfl rfl rfl rfl (qt_la tbok rfl rfl rfl) ?_ | refine wl_skip rfl rfl rfl rfl rfl ?_
                  first | refine wl_g rfl rfl rfl rfl (qt_p tbok rfl) ?_ | refine wl_skip rfl rfl rfl rfl rfl ?_
                  first | refine wl_g rfl rfl rfl rfl (qt_p tbok rfl) ?_ | refine wl_skip rfl rfl rfl rfl rfl ?_
                  first | refine wl_g rfl rfl rfl rfl (qt_p tbok rfl) ?_ | refine wl_skip rfl rfl rfl rfl rfl ?_
                  refine wl_q rfl rfl rfl (qt_p tbok rfl) ?_
                  refine wl_done ?_
                  refine nk_code ?_
                  refine wc_no rfl ?_
                  refine wc_skip ?_
                  refine nk_code ?_
                  refine wc_seq ?_
                  refine wc_region ?_
                  refine wl_ef rfl (ef_pure (v := .c (.bool true)) (by kernel_rfl) rfl rfl (fun w1 _ => awake16_c) ?_)
                  refine wl_q rfl rfl rfl (qt_p tbok rfl) ?_
                  refine wl_g rfl rfl rfl rfl (qt_load_ag (l := [.i64 n, .slc y1.1 K.length y1.2.1]) tbok rfl rfl rfl rfl (rs_lk (.there (.there .here)) at0)) ?_
                  first | refine wl_g rfl rfl rfl rfl (qt_p tbok rfl) ?_ | refine wl_skip rfl rfl rfl rfl rfl ?_
                  first | refine wl_g rfl rfl rfl rfl (qt_p tbok rfl) ?_ | refine wl_skip rfl rfl rfl rfl rfl ?_
                  refine wl_gd rfl rfl (ef_pure (v := .c (.i64 (cntK K msg (M.map (·.1)) : Nat))) (by kernel_rfl) rfl rfl (fun w1 h1 => by rw [← ord_cnt hO2, ← hFl]; exact count_c hK (by omega) (cells_own h1 (.there (.there (.there .here)))) (cells_rd (rd_cells hm (off_new hxk (off_new hk2 (off_new (newKey h9) (off_new hk1 (off_new (newKey hb) (off_all hT))))))) h1) hmax hFk (by omega) (cells_own h1 .here) (ord_lies hO2 (hz.lies h1 (fun b hb => .there (.there (.there (.there (.there (lk_mem hb))))))))) ?_)
                  first | refine wl_g rfl rfl rfl rfl (qt_p tbok rfl) ?_ | refine wl_skip rfl rfl rfl rfl rfl ?_
                  first | refine wl_g rfl rfl rfl rfl (qt_p tbok rfl) ?_ | refine wl_g rfl rfl rfl rfl (qt_eqn tbok rfl rfl rfl) ?_ | refine wl_skip rfl rfl rfl rfl rfl ?_
                  refine wl_as (v' := .c (.bool true)) (congrArg (fun b => V.c (C.bool b)) (decide_eq_true rfl)) ?_
                  refine wl_q rfl rfl rfl (qt_p tbok rfl) ?_
                  refine wl_q rfl rfl rfl (qt_p tbok rfl) ?_
                  refine wl_done ?_
                  refine nk_code ?_
                  refine wc_ret ?_
                  try dsimp only
                  exact fin1 rfl (rv_tmp rfl) (fun w' hw => ⟨rfl, hw.all (new_cons hxk (new_cons hk2 (new_cons (newKey h9) (new_cons hk1 (new_cons (newKey hb) hT)))))⟩)
              · refine wl_q rfl rfl rfl (qt_p tbok rfl) ?_
                first | refine wl_g rfl rfl rfl rfl (qt_p tbok rfl) ?_ | refine wl_skip rfl rfl rfl rfl rfl ?_
                first | refine wl_g rfl rfl rfl rfl (qt_p tbok rfl) ?_ | refine wl_skip rfl rfl rfl rfl rfl ?_
                first | refine wl_g rfl rfl rfl rfl (qt_l tbok rfl rfl rfl) ?_ | refine wl_g rfl rfl rfl rfl (qt_la tbok rfl rfl rfl) ?_ | refine wl_skip rfl rfl rfl rfl rfl ?_
                first | refine wl_g rfl rfl rfl rfl (qt_len tbok rfl rfl) ?_ | refine wl_skip rfl rfl rfl rfl rfl ?_
                first | refine wl_g rfl rfl rfl rfl (qt_p tbok rfl) ?_ | refine wl_skip rfl rfl rfl rfl rfl ?_
                first | refine wl_g rfl rfl rfl rfl (qt_p tbok rfl) ?_ | refine wl_skip rfl rfl rfl rfl rfl ?_
                refine wl_skip0 rfl rfl rfl rfl ?_
                refine wl_skip0 rfl rfl rfl rfl ?_
                refine wl_skip0 rfl rfl rfl rfl ?_
                refine wl_skip0 rfl rfl rfl rfl ?_
                first | refine wl_g rfl rfl rfl rfl (qt_p tbok rfl) ?_ | refine wl_skip rfl rfl rfl rfl rfl ?_
                first | refine wl_g rfl rfl rfl rfl (qt_p tbok rfl) ?_ | refine wl_skip rfl rfl rfl rfl rfl ?_
                refine wl_skip0 rfl rfl rfl rfl ?_
                refine wl_skip0 rfl rfl rfl rfl ?_
                refine wl_skip0 rfl rfl rfl rfl ?_
                refine wl_skip0 rfl rfl rfl rfl ?_
                refine wl_skip0 rfl rfl rfl rfl ?_
                refine wl_skip0 rfl rfl rfl rfl ?_
                refine wl_skip0 rfl rfl rfl rfl ?_
                refine wl_skip0 rfl rfl rfl rfl ?_
                refine wl_skip0 rfl rfl rfl rfl ?_
                refine wl_skip0 rfl rfl rfl rfl ?_
                refine wl_skip0 rfl rfl rfl rfl ?_
                first | refine wl_g rfl rfl rfl rfl (qt_p tbok rfl) ?_ | refine wl_skip rfl rfl rfl rfl rfl ?_
                refine wl_q rfl rfl rfl (qt_p tbok rfl) ?_
                refine wl_done ?_
                refine nk_code ?_
                refine wc_no rfl ?_
                refine wc_skip ?_
                refine nk_code ?_
                refine wc_seq ?_
                refine wc_region ?_
                refine wl_ef rfl (ef_pure (v := .c (.bool true)) (by kernel_rfl) rfl rfl (fun w1 _ => awake16_c) ?_)
                refine wl_q rfl rfl rfl (qt_p tbok rfl) ?_
                refine wl_g rfl rfl rfl rfl (qt_load_ag (l := [.i64 n, .slc y1.1 K.length y1.2.1]) tbok rfl rfl rfl rfl (rs_lk (.there (.there .here)) at0)) ?_
                first | refine wl_g rfl rfl rfl rfl (qt_p tbok rfl) ?_ | refine wl_skip rfl rfl rfl rfl rfl ?_
                first | refine wl_g rfl rfl rfl rfl (qt_p tbok rfl) ?_ | refine wl_skip rfl rfl rfl rfl rfl ?_
                refine wl_gd rfl rfl (ef_pure (v := .c (.i64 (cntK K msg (M.map (·.1)) : Nat))) (by kernel_rfl) rfl rfl (fun w1 h1 => by rw [← ord_cnt hO2, ← hFl]; exact count_c hK (by omega) (cells_own h1 (.there (.there (.there .here)))) (cells_rd (rd_cells hm (off_new hxk (off_new hk2 (off_new (newKey h9) (off_new hk1 (off_new (newKey hb) (off_all hT))))))) h1) hmax hFk (by omega) (cells_own h1 .here) (ord_lies hO2 (hz.lies h1 (fun b hb => .there (.there (.there (.there (.there (lk_mem hb))))))))) ?_)
                first | refine wl_g rfl rfl rfl rfl (qt_p tbok rfl) ?_ | refine wl_skip rfl rfl rfl rfl rfl ?_
                first | refine wl_g rfl rfl rfl rfl (qt_p tbok rfl) ?_ | refine wl_g rfl rfl rfl rfl (qt_eqn tbok rfl rfl rfl) ?_ | refine wl_skip rfl rfl rfl rfl rfl ?_
                refine wl_as (v' := .c (.bool true)) (congrArg (fun b => V.c (C.bool b)) (decide_eq_true rfl)) ?_
                refine wl_q rfl rfl rfl (qt_p tbok rfl) ?_
                refine wl_q rfl rfl rfl (qt_p tbok rfl) ?_
                refine wl_done ?_
                refine nk_code ?_
                refine wc_ret ?_
                try dsimp only
                exact fin1 rfl (rv_tmp rfl) (fun w' hw => ⟨rfl, hw.all (new_cons hxk (new_cons hk2 (new_cons (newKey h9) (new_cons hk1 (new_cons (newKey hb) hT)))))⟩)
          · have hMp : 0 < M.length := (by have h0 := of_decide_eq_false h53; omega)
            obtain ⟨nr, hna⟩ := own_at hNo hMp
            have hr64 := rem64 (a := UInt64.ofInt (el O i)) hMp (by omega)
            obtain ⟨u, hu⟩ : ∃ u : UInt64, u = UInt64.ofInt (el O i) % UInt64.ofInt (M.length : Int) := ⟨_, rfl⟩
            have hul : u.toNat < M.length := (by rw [hu]; exact hr64.2)
            have hun : u.toNat < N.length := (by omega)
            obtain ⟨m, hm2⟩ : ∃ m : Mk × Os, m = el N u.toNat := ⟨_, rfl⟩
            have hmN : m ∈ N := (by rw [hm2]; exact el_mem hun)
            have hok := hNk m hmN
            have hml := mrow_len hok
            obtain ⟨hidl, hC, hCl, hPA, hPl⟩ := hok
            have hok : m.1.ok := ⟨hidl, hC, hCl, hPA, hPl⟩
            have hnr : RS w (mob E (xa, xc, xt) :: mob N (na, nc, nt) :: ⟨.at t9 0, [.i64 n, .slc y1.1 K.length y1.2.1], 72, (0, 0), []⟩ :: kob K y1 :: ⟨.at b 0, [.i64 n, .slc pa K.length pc], 68, (0, 0), []⟩ :: pbs N) nr 0 (N.flatMap mrow) := rs_of (rd_own (w0 := w) hNo (.there .here : Lk (mob E (xa, xc, xt) :: mob N (na, nc, nt) :: ⟨.at t9 0, [.i64 n, .slc y1.1 K.length y1.2.1], 72, (0, 0), []⟩ :: kob K y1 :: ⟨.at b 0, [.i64 n, .slc pa K.length pc], 68, (0, 0), []⟩ :: pbs N) _)) hna
            obtain ⟨q, hq⟩ : ∃ q : UInt8, q = m.1.id.getD 0 0 ^^^ 85 := ⟨_, rfl⟩
            obtain ⟨m2, hmm⟩ : ∃ m2 : Mk, m2 = { m.1 with id := m.1.id.set 0 q } := ⟨_, rfl⟩
            have hok2 : m2.ok := (by rw [hmm]; exact ⟨by rw [List.length_set]; exact hidl, hC, hCl, hPA, hPl⟩)
            have hml2 : (mrow (m2, m.2)).length = 2178 := mrow_len hok2
            refine wc_skip ?_
            refine nk_code ?_
            refine wc_seq ?_
            refine wc_region ?_
            refine wl_q rfl rfl rfl (qt_p tbok rfl) ?_
            refine wl_q rfl rfl rfl (qt_p tbok rfl) ?_
            refine wl_q rfl rfl rfl (qt_p tbok rfl) ?_
            refine wl_q rfl rfl rfl (qt_p tbok rfl) ?_
            refine wl_q rfl rfl rfl (qt_len tbok rfl rfl) ?_
            refine wl_q rfl rfl rfl (qt_p tbok rfl) ?_
            refine wl_q rfl rfl rfl (qt_pure tbok rfl hr64.1) ?_
            refine wl_as (v' := .c (.u64 u)) (by rw [hu]) ?_
            refine wl_q rfl rfl rfl (qt_idxB tbok rfl rfl rfl hna hul) ?_
            refine wl_q rfl rfl rfl (qt_load_ag (l := mrow m) tbok rfl rfl rfl hml (hnr.part (k := u.toNat * 2178) (fun a c h => by rw [hm2] at h; exact rows_at (mrows_len hNk) hun a c h) (by omega))) ?_
            refine wl_ef rfl (ef_alloc zero84 rfl rfl (fun x15 h15 => ?_))
            refine wl_ef rfl (ef_store (cs' := mrow m) tbok rfl rfl rfl rfl .here hml (by show 0 + 2178 ≤ z2178.length; rw [z2178_len]; decide) (spl_all (by show (mrow _).length = z2178.length; rw [hml, z2178_len])) ?_)
            refine wl_done ?_
            refine nk_code ?_
            refine wc_seq ?_
            refine wc_seq ?_
            refine wc_region ?_
            refine wl_q rfl rfl rfl (qt_p tbok rfl) ?_
            refine wl_q rfl rfl rfl (qt_p tbok rfl) ?_
            first | refine wl_q rfl rfl rfl (qt_p tbok rfl) ?_ | refine wl_q rfl rfl rfl (qt_eqn tbok rfl rfl rfl) ?_
            refine wl_done ?_
            refine nk_code ?_
            refine wc_cond rfl (fun h65 => ?_) (fun h65 => ?_)
            · refine wc_seq ?_
              refine wc_region ?_
              refine wl_q rfl rfl rfl (qt_p tbok rfl) ?_
              refine wl_q rfl rfl rfl (qt_p tbok rfl) ?_
              refine wl_q rfl rfl rfl (qt_load (c := .u8 (m.1.id.getD 0 0)) tbok rfl rfl rfl (rc_lk .here (mrow_id 0 _ (bc_getD (by omega))))) ?_
              refine wl_q rfl rfl rfl (qt_p tbok rfl) ?_
              refine wl_as (v' := .c (.u8 q)) (by rw [hq]; rfl) ?_
              refine wl_q rfl rfl rfl (qt_p tbok rfl) ?_
              refine wl_q rfl rfl rfl (qt_p tbok rfl) ?_
              refine wl_ef rfl (ef_store (cs' := mrow (m2, m.2)) tbok rfl rfl rfl rfl .here rfl (by rw [hml]; decide) (by rw [hmm]; exact mrow_setid hok) ?_)
              refine wl_done ?_
              refine nk_code ?_
              refine wc_seq ?_
              refine wc_seq ?_
              refine wc_region ?_
              refine wl_q rfl rfl rfl (qt_load_ag (l := [.i64 n, .slc pa K.length pc]) tbok rfl rfl rfl rfl (rs_lk (.there (.there (.there (.there (.there .here))))) at0)) ?_
              refine wl_q rfl rfl rfl (qt_p tbok rfl) ?_
              refine wl_q rfl rfl rfl (qt_load_ag (l := bc m2.id) tbok rfl rfl rfl (by rw [bc_len]; exact hok2.1) (rs_lk .here (mrow_id (p := (m2, m.2))))) ?_
              refine wl_ef rfl (ef_pure (v := .c (.bool (strB K m2.id))) (by kernel_rfl) rfl rfl (fun w1 h1 => stranger_c hK (by omega) (cells_rd (rd_cells hc (off_new (newKey h15) (off_new hxk (off_new hk2 (off_new (newKey h9) (off_new hk1 (off_new (newKey hb) (off_all hT)))))))) h1) hok2.1) ?_)
              refine wl_done ?_
              refine nk_code ?_
              refine wc_cond rfl (fun h75 => ?_) (fun h75 => ?_)
              · refine wc_region ?_
                refine wl_q rfl rfl rfl (qt_load_ag (l := mrow (m2, m.2)) tbok rfl rfl rfl hml2 (rs_lk .here at0)) ?_
                refine wl_ef rfl (ef_buildSlice (vs := [(0, .agg (mrow (m2, m.2)))]) (l := mrow (m2, m.2)) tbok rfl zero84 rfl z2178_len rfl (by decide) (fill_oneN z2178_len hml2) rfl (fun br hbr => ?_))
                refine wl_q rfl rfl rfl (qt_p tbok rfl) ?_
                refine wl_ef rfl (ef_append tbok rfl el84 zero84 rfl rfl rfl .here (own_z hml2) (newKey hbr) (m := E.length) (news := E.flatMap mrow) (rows_len (mrows_len hEk)) (rd_own hx (.there (.there .here))) (by omega) (by simp only [maxLen]; omega) (fun a2 c2 t2 hown2 hk3 _ _ => ?_))
                rw [Nat.add_comm 1 E.length] at hown2 ⊢
                refine wl_q rfl rfl rfl (qt_p tbok rfl) ?_
                refine wl_done ?_
                refine nk_code ?_
                refine wc_exit rfl ?_
                refine nk_code ?_
                refine wc_region ?_
                refine wl_q rfl rfl rfl (qt_p tbok rfl) ?_
                refine wl_q rfl rfl rfl (qt_p tbok rfl) ?_
                refine wl_done ?_
                exact nk_round (i := (i, E, xa, xc, xt)) (i + 1, (m2, m.2) :: E, a2, c2, t2) ⟨hi', by show E.length + 1 ≤ M.length + (i + 1); omega, ord_cons hO hmN hok2 (by rw [hmm]) h75, hown2, hk3⟩ (by show O.length - (i + 1) < O.length - i; omega) ⟨rfl, rfl, rfl, rfl, rfl, rfl, rfl, rfl, rfl, rfl, trivial⟩ (fun w hw => Rm.sub_St (Rm.sub_St hw (.there .here) (newKey h15)) (.there .here) hxk)
              · refine wc_skip ?_
                refine nk_code ?_
                refine wc_exit rfl ?_
                refine nk_code ?_
                refine wc_region ?_
                refine wl_q rfl rfl rfl (qt_p tbok rfl) ?_
                refine wl_q rfl rfl rfl (qt_p tbok rfl) ?_
                refine wl_done ?_
                exact nk_round (i := (i, E, xa, xc, xt)) (i + 1, E, xa, xc, xt) ⟨hi', by show E.length ≤ M.length + (i + 1); omega, hO, hx, hxk⟩ (by show O.length - (i + 1) < O.length - i; omega) ⟨rfl, rfl, rfl, rfl, rfl, rfl, rfl, rfl, rfl, rfl, trivial⟩ (fun w hw => hw.tail (newKey h15))
            · refine wc_skip ?_
              refine nk_code ?_
              refine wc_region ?_
              refine wl_q rfl rfl rfl (qt_p tbok rfl) ?_
              refine wl_q rfl rfl rfl (qt_load_ag (l := mrow m) tbok rfl rfl rfl hml (rs_lk .here at0)) ?_
              refine wl_ef rfl (ef_buildSlice (vs := [(0, .agg (mrow m))]) (l := mrow m) tbok rfl zero84 rfl z2178_len rfl (by decide) (fill_oneN z2178_len hml) rfl (fun br hbr => ?_))
              refine wl_ef rfl (ef_append tbok rfl el84 zero84 rfl rfl rfl (.there (.there .here)) hx hxk (m := 1) (news := mrow m) hml (rs_lk .here at0) (by omega) (by simp only [maxLen]; omega) (fun a2 c2 t2 hown2 hk3 _ _ => ?_))
              refine wl_q rfl rfl rfl (qt_p tbok rfl) ?_
              refine wl_done ?_
              refine nk_code ?_
              refine wc_region ?_
              refine wl_q rfl rfl rfl (qt_p tbok rfl) ?_
              refine wl_q rfl rfl rfl (qt_p tbok rfl) ?_
              refine wl_done ?_
              have ef : (E ++ [m]).flatMap mrow = E.flatMap mrow ++ mrow m := (by simp)
              exact nk_round (i := (i, E, xa, xc, xt)) (i + 1, E ++ [m], a2, c2, t2) ⟨hi', by show (E ++ [m]).length ≤ M.length + (i + 1); rw [List.length_append, List.length_singleton]; omega, ord_snoc hO hNm hM hmN, by show OwnS a2 (E ++ [m]).length c2 2178 ((E ++ [m]).flatMap mrow) t2; rw [ef, List.length_append]; exact hown2, hk3⟩ (by show O.length - (i + 1) < O.length - i; omega) ⟨rfl, rfl, rfl, by rw [List.length_append]; rfl, rfl, rfl, rfl, rfl, rfl, rfl, trivial⟩ (fun w hw => by show St _ (⟨a2, (E ++ [m]).flatMap mrow, 84, (0, 0), t2⟩ :: mob N (na, nc, nt) :: ⟨.at t9 0, [.i64 n, .slc y1.1 K.length y1.2.1], 72, (0, 0), []⟩ :: kob K y1 :: ⟨.at b 0, [.i64 n, .slc pa K.length pc], 68, (0, 0), []⟩ :: pbs N) w; rw [ef]; exact Rm.sub_St (Rm.sub_St hw (.there .here) (newKey hbr)) (.there .here) (newKey h15))
        · refine wc_exit rfl ?_
          refine nk_code ?_
          refine wc_seq ?_
          refine wc_seq ?_
          refine wc_region ?_
          refine wl_q rfl rfl rfl (qt_p tbok rfl) ?_
          refine wl_q rfl rfl rfl (qt_len tbok rfl rfl) ?_
          refine wl_q rfl rfl rfl (qt_p tbok rfl) ?_
          refine wl_done ?_
          refine nk_code ?_
          refine wc_block ?_
          refine wc_loop (ι := Nat × List (Mk × Os)) (fun j => j.1 ≤ E.length ∧ j.2.length = E.length ∧ OrdI K msg M N j.2) (fun j => [(87, .c (.i64 (j.1 : Int))), (86, .c (.i64 (E.length : Int))), (12, .c (.slc xa E.length xc)), (10, .c (.slc na M.length nc)), (11, .c (.i64 (cntK K msg (M.map (·.1)) : Nat))), (3, .c (.slc oa O.length oc)), (1, .c (.slc ma msg.length mc)), (9, .c (.ptr (.at t9 0))), (4, .c (.ptr (.at b 0)))]) (fun j => mob j.2 (xa, xc, xt) :: mob N (na, nc, nt) :: ⟨.at t9 0, [.i64 n, .slc y1.1 K.length y1.2.1], 72, (0, 0), []⟩ :: kob K y1 :: ⟨.at b 0, [.i64 n, .slc pa K.length pc], 68, (0, 0), []⟩ :: pbs N) (fun j => E.length - j.1) (0, E) ⟨Nat.zero_le _, rfl, hO⟩ (nk_start ⟨rfl, rfl, rfl, rfl, rfl, rfl, rfl, rfl, rfl, trivial⟩ (fun w hw => hw)) (fun ⟨i2, F⟩ ⟨hi2, hFl, hO2⟩ => ?_)
          replace hi2 : i2 ≤ E.length := hi2
          replace hFl : F.length = E.length := hFl
          replace hO2 : OrdI K msg M N F := hO2
          have hFk : ∀ p ∈ F, p.1.ok := fun p hp => (hO2.1 p hp).1
          dsimp only
          refine wc_seq ?_
          refine wc_region ?_
          refine wl_q rfl rfl rfl (qt_p tbok rfl) ?_
          refine wl_done ?_
          refine nk_code ?_
          refine wc_seq ?_
          refine wc_cond rfl (fun h88 => ?_) (fun h88 => ?_)
          · have hi3 : i2 < E.length := (by have h0 := of_decide_eq_true h88; omega)
            obtain ⟨xr, hxa⟩ := own_at hx (by omega)
            subst hxa
            have hoki := hFk _ (el_mem (show i2 < F.length by omega))
            refine wc_skip ?_
            refine nk_code ?_
            refine wc_seq ?_
            refine wc_block ?_
            refine wc_seq ?_
            refine wc_region ?_
            refine wl_q rfl rfl rfl (qt_p tbok rfl) ?_
            refine wl_q rfl rfl rfl (qt_p tbok rfl) ?_
            refine wl_done ?_
            refine nk_code ?_
            refine wc_seq ?_
            refine wc_region ?_
            refine wl_q rfl rfl rfl (qt_p tbok rfl) ?_
            refine wl_done ?_
            refine nk_code ?_
            refine wc_seq ?_
            refine wc_seq ?_
            refine wc_region ?_
            refine wl_q rfl rfl rfl (qt_p tbok rfl) ?_
            refine wl_q rfl rfl rfl (qt_p tbok rfl) ?_
            refine wl_q rfl rfl rfl (qt_len tbok rfl rfl) ?_
            refine wl_q rfl rfl rfl (qt_p tbok rfl) ?_
            refine wl_done ?_
            refine nk_code ?_
            refine wc_cond rfl (fun h93 => ?_) (fun h93 => ?_)
            · have hi4 : i2 < O.length := (by have h0 := of_decide_eq_true h93; omega)
              obtain ⟨or2, oo2, hoa2⟩ := cells_nn ho (by rw [List.length_map]; omega)
              have hor2 : RS w (mob F (.at xr 0, xc, xt) :: mob N (na, nc, nt) :: ⟨.at t9 0, [.i64 n, .slc y1.1 K.length y1.2.1], 72, (0, 0), []⟩ :: kob K y1 :: ⟨.at b 0, [.i64 n, .slc pa K.length pc], 68, (0, 0), []⟩ :: pbs N) or2 oo2 (O.map C.i64) := (by have h9 := rd_cells ho (off_new hxk (off_new hk2 (off_new (newKey h9) (off_new hk1 (off_new (newKey hb) (off_all hT))))) : Off w oa (mob F (.at xr 0, xc, xt) :: mob N (na, nc, nt) :: ⟨.at t9 0, [.i64 n, .slc y1.1 K.length y1.2.1], 72, (0, 0), []⟩ :: kob K y1 :: ⟨.at b 0, [.i64 n, .slc pa K.length pc], 68, (0, 0), []⟩ :: pbs N)); rw [hoa2] at h9; exact h9)
              have hr2 := rem64 (a := UInt64.ofInt (el O i2)) (m := i2 + 1) (by omega) (by omega)
              obtain ⟨u2, hu2⟩ : ∃ u : UInt64, u = UInt64.ofInt (el O i2) % UInt64.ofInt (((i2 + 1 : Nat)) : Int) := ⟨_, rfl⟩
              have hul2 : u2.toNat < i2 + 1 := (by rw [hu2]; exact hr2.2)
              have hokj := hFk _ (el_mem (show u2.toNat < F.length by omega))
              refine wc_region ?_
              refine wl_q rfl rfl rfl (qt_p tbok rfl) ?_
              refine wl_q rfl rfl rfl (qt_p tbok rfl) ?_
              refine wl_q rfl rfl rfl (qt_idxA tbok rfl rfl rfl hoa2 ⟨by omega, by omega⟩) ?_
              refine wl_q rfl rfl rfl (qt_load (c := .i64 (el O i2)) tbok rfl rfl rfl (hor2.rc (i := i2) (by rw [List.getElem?_map, el_get hi4]; rfl) (by omega))) ?_
              refine wl_q rfl rfl rfl (qt_p tbok rfl) ?_
              refine wl_q rfl rfl rfl (qt_p tbok rfl) ?_
              refine wl_q rfl rfl rfl (qt_p tbok rfl) ?_
              refine wl_q rfl rfl rfl (qt_p tbok rfl) ?_
              refine wl_q rfl rfl rfl (qt_pure tbok rfl hr2.1) ?_
              refine wl_as (v' := .c (.u64 u2)) (by rw [hu2]; rfl) ?_
              refine wl_q rfl rfl rfl (qt_p tbok rfl) ?_
              refine wl_q rfl rfl rfl (qt_p tbok rfl) ?_
              refine wl_done ?_
              refine nk_code ?_
              refine wc_draw (s0 := mob N (na, nc, nt) :: ⟨.at t9 0, [.i64 n, .slc y1.1 K.length y1.2.1], 72, (0, 0), []⟩ :: kob K y1 :: ⟨.at b 0, [.i64 n, .slc pa K.length pc], 68, (0, 0), []⟩ :: pbs N) 16 follows ?_
              refine wh_q 0 rfl (by kernel_rfl) rfl rfl rfl (qt_p tbok rfl) (fun w hw => hw.tail hxk) ?_
              refine wh_q 1 rfl (by kernel_rfl) rfl rfl rfl (qt_p tbok rfl) (fun w hw => hw.tail hxk) ?_
              refine wh_q 2 rfl (by kernel_rfl) rfl rfl rfl (qt_p tbok rfl) (fun w hw => hw.tail hxk) ?_
              refine wh_q 3 rfl (by kernel_rfl) rfl rfl rfl (qt_p tbok rfl) (fun w hw => hw.tail hxk) ?_
              refine wh_q 4 rfl (by kernel_rfl) rfl rfl rfl (qt_p tbok rfl) (fun w hw => hw.tail hxk) ?_
              refine wh_q 5 rfl (by kernel_rfl) rfl rfl rfl (qt_p tbok rfl) (fun w hw => hw.tail hxk) ?_
              refine wh_q 6 rfl (by kernel_rfl) rfl rfl rfl (qt_p tbok rfl) (fun w hw => hw.tail hxk) ?_
              refine wh_q 8 rfl (by kernel_rfl) rfl rfl rfl (qt_p tbok rfl) (fun w hw => hw.tail hxk) ?_
              refine wh_q 9 rfl (by kernel_rfl) rfl rfl rfl (qt_p tbok rfl) (fun w hw => hw.tail hxk) ?_
              refine wh_q 10 rfl (by kernel_rfl) rfl rfl rfl (qt_p tbok rfl) (fun w hw => hw.tail hxk) ?_
              refine wh_two 7 11 (by kernel_rfl) ?_ ?_
              · refine wo_ef rfl rfl (ef_q rfl rfl (qt_load_ag (l := mrow (el F (u2.toNat))) tbok rfl rfl rfl (mrow_len hokj) (rs_lk .here (rows_mid hFk (by omega) (by omega)))) ⟨fun w hw => hw.tail hxk, ?_⟩)
                refine wh_one 11 (by kernel_rfl) (wo_ef rfl rfl (ef_q rfl rfl (qt_load_ag (l := mrow (el F i2)) tbok rfl rfl rfl (mrow_len hoki) (rs_lk .here (rows_mid hFk (by omega) (by omega)))) ⟨fun w hw => hw.tail hxk, ?_⟩))
                refine wh_q 12 rfl (by kernel_rfl) rfl rfl rfl (qt_p tbok rfl) (fun w hw => hw.tail hxk) ?_
                refine wh_one 13 (by kernel_rfl) (wo_ef rfl rfl (ef_store (cs' := (F.set i2 (el F (u2.toNat))).flatMap mrow) tbok rfl rfl rfl rfl .here (mrow_len hokj) (mrows_fit hFk (i := i2) (by omega) (by omega)) (rows_put hFk hokj (by omega) (by omega)) ⟨fun w hw => hw.tail hxk, ?_⟩))
                refine wh_q 14 rfl (by kernel_rfl) rfl rfl rfl (qt_p tbok rfl) (fun w hw => hw.tail hxk) ?_
                refine wh_one 15 (by kernel_rfl) (wo_ef rfl rfl (ef_store (cs' := (swp F i2 (u2.toNat)).flatMap mrow) tbok rfl rfl rfl rfl .here (mrow_len hoki) (mrows_fit (i := u2.toNat) (set_ok hFk hokj) (by rw [List.length_set]; omega) (by omega)) (rows_put (set_ok hFk hokj) hoki (by rw [List.length_set]; omega) (by omega)) ⟨fun w hw => hw.tail hxk, ?_⟩))
                refine wh_done (by kernel_rfl) ?_
                refine nk_code ?_
                refine wc_region ?_
                refine wl_q rfl rfl rfl (qt_p tbok rfl) ?_
                refine wl_q rfl rfl rfl (qt_p tbok rfl) ?_
                refine wl_done ?_
                exact nk_round (i := (i2, F)) (i2 + 1, swp F i2 (u2.toNat)) ⟨hi3, by show (swp F i2 (u2.toNat)).length = E.length; rw [swp_len]; exact hFl, ord_swap hO2 (by omega) (by omega)⟩ (by show E.length - (i2 + 1) < E.length - i2; omega) ⟨rfl, rfl, rfl, rfl, rfl, rfl, rfl, rfl, rfl, trivial⟩ (fun w hw => hw)
              · refine wo_ef rfl rfl (ef_q rfl rfl (qt_load_ag (l := mrow (el F i2)) tbok rfl rfl rfl (mrow_len hoki) (rs_lk .here (rows_mid hFk (by omega) (by omega)))) ⟨fun w hw => hw.tail hxk, ?_⟩)
                refine wh_one 7 (by kernel_rfl) (wo_ef rfl rfl (ef_q rfl rfl (qt_load_ag (l := mrow (el F (u2.toNat))) tbok rfl rfl rfl (mrow_len hokj) (rs_lk .here (rows_mid hFk (by omega) (by omega)))) ⟨fun w hw => hw.tail hxk, ?_⟩))
                refine wh_q 12 rfl (by kernel_rfl) rfl rfl rfl (qt_p tbok rfl) (fun w hw => hw.tail hxk) ?_
                refine wh_one 13 (by kernel_rfl) (wo_ef rfl rfl (ef_store (cs' := (F.set i2 (el F (u2.toNat))).flatMap mrow) tbok rfl rfl rfl rfl .here (mrow_len hokj) (mrows_fit hFk (i := i2) (by omega) (by omega)) (rows_put hFk hokj (by omega) (by omega)) ⟨fun w hw => hw.tail hxk, ?_⟩))
                refine wh_q 14 rfl (by kernel_rfl) rfl rfl rfl (qt_p tbok rfl) (fun w hw => hw.tail hxk) ?_
                refine wh_one 15 (by kernel_rfl) (wo_ef rfl rfl (ef_store (cs' := (swp F i2 (u2.toNat)).flatMap mrow) tbok rfl rfl rfl rfl .here (mrow_len hoki) (mrows_fit (i := u2.toNat) (set_ok hFk hokj) (by rw [List.length_set]; omega) (by omega)) (rows_put (set_ok hFk hokj) hoki (by rw [List.length_set]; omega) (by omega)) ⟨fun w hw => hw.tail hxk, ?_⟩))
                refine wh_done (by kernel_rfl) ?_
                refine nk_code ?_
                refine wc_region ?_
                refine wl_q rfl rfl rfl (qt_p tbok rfl) ?_
                refine wl_q rfl rfl rfl (qt_p tbok rfl) ?_
                refine wl_done ?_
                exact nk_round (i := (i2, F)) (i2 + 1, swp F i2 (u2.toNat)) ⟨hi3, by show (swp F i2 (u2.toNat)).length = E.length; rw [swp_len]; exact hFl, ord_swap hO2 (by omega) (by omega)⟩ (by show E.length - (i2 + 1) < E.length - i2; omega) ⟨rfl, rfl, rfl, rfl, rfl, rfl, rfl, rfl, rfl, trivial⟩ (fun w hw => hw)
            · have hokj := hFk _ (el_mem (show 0 < F.length by omega))
              refine wc_skip ?_
              refine nk_code ?_
              refine wc_draw (s0 := mob N (na, nc, nt) :: ⟨.at t9 0, [.i64 n, .slc y1.1 K.length y1.2.1], 72, (0, 0), []⟩ :: kob K y1 :: ⟨.at b 0, [.i64 n, .slc pa K.length pc], 68, (0, 0), []⟩ :: pbs N) 16 follows ?_
              refine wh_q 0 rfl (by kernel_rfl) rfl rfl rfl (qt_p tbok rfl) (fun w hw => hw.tail hxk) ?_
              refine wh_q 1 rfl (by kernel_rfl) rfl rfl rfl (qt_p tbok rfl) (fun w hw => hw.tail hxk) ?_
              refine wh_q 2 rfl (by kernel_rfl) rfl rfl rfl (qt_p tbok rfl) (fun w hw => hw.tail hxk) ?_
              refine wh_q 3 rfl (by kernel_rfl) rfl rfl rfl (qt_p tbok rfl) (fun w hw => hw.tail hxk) ?_
              refine wh_q 4 rfl (by kernel_rfl) rfl rfl rfl (qt_p tbok rfl) (fun w hw => hw.tail hxk) ?_
              refine wh_q 5 rfl (by kernel_rfl) rfl rfl rfl (qt_p tbok rfl) (fun w hw => hw.tail hxk) ?_
              refine wh_q 6 rfl (by kernel_rfl) rfl rfl rfl (qt_p tbok rfl) (fun w hw => hw.tail hxk) ?_
              refine wh_q 8 rfl (by kernel_rfl) rfl rfl rfl (qt_p tbok rfl) (fun w hw => hw.tail hxk) ?_
              refine wh_q 9 rfl (by kernel_rfl) rfl rfl rfl (qt_p tbok rfl) (fun w hw => hw.tail hxk) ?_
              refine wh_q 10 rfl (by kernel_rfl) rfl rfl rfl (qt_p tbok rfl) (fun w hw => hw.tail hxk) ?_
              refine wh_two 7 11 (by kernel_rfl) ?_ ?_
              · refine wo_ef rfl rfl (ef_q rfl rfl (qt_load_ag (l := mrow (el F (0))) tbok rfl rfl rfl (mrow_len hokj) (rs_lk .here (rows_mid hFk (by omega) (by omega)))) ⟨fun w hw => hw.tail hxk, ?_⟩)
                refine wh_one 11 (by kernel_rfl) (wo_ef rfl rfl (ef_q rfl rfl (qt_load_ag (l := mrow (el F i2)) tbok rfl rfl rfl (mrow_len hoki) (rs_lk .here (rows_mid hFk (by omega) (by omega)))) ⟨fun w hw => hw.tail hxk, ?_⟩))
                refine wh_q 12 rfl (by kernel_rfl) rfl rfl rfl (qt_p tbok rfl) (fun w hw => hw.tail hxk) ?_
                refine wh_one 13 (by kernel_rfl) (wo_ef rfl rfl (ef_store (cs' := (F.set i2 (el F (0))).flatMap mrow) tbok rfl rfl rfl rfl .here (mrow_len hokj) (mrows_fit hFk (i := i2) (by omega) (by omega)) (rows_put hFk hokj (by omega) (by omega)) ⟨fun w hw => hw.tail hxk, ?_⟩))
                refine wh_q 14 rfl (by kernel_rfl) rfl rfl rfl (qt_p tbok rfl) (fun w hw => hw.tail hxk) ?_
                refine wh_one 15 (by kernel_rfl) (wo_ef rfl rfl (ef_store (cs' := (swp F i2 (0)).flatMap mrow) tbok rfl rfl rfl rfl .here (mrow_len hoki) (mrows_fit (i := 0) (set_ok hFk hokj) (by rw [List.length_set]; omega) (by omega)) (rows_put (set_ok hFk hokj) hoki (by rw [List.length_set]; omega) (by omega)) ⟨fun w hw => hw.tail hxk, ?_⟩))
                refine wh_done (by kernel_rfl) ?_
                refine nk_code ?_
                refine wc_region ?_
                refine wl_q rfl rfl rfl (qt_p tbok rfl) ?_
                refine wl_q rfl rfl rfl (qt_p tbok rfl) ?_
                refine wl_done ?_
                exact nk_round (i := (i2, F)) (i2 + 1, swp F i2 (0)) ⟨hi3, by show (swp F i2 (0)).length = E.length; rw [swp_len]; exact hFl, ord_swap hO2 (by omega) (by omega)⟩ (by show E.length - (i2 + 1) < E.length - i2; omega) ⟨rfl, rfl, rfl, rfl, rfl, rfl, rfl, rfl, rfl, trivial⟩ (fun w hw => hw)
              · refine wo_ef rfl rfl (ef_q rfl rfl (qt_load_ag (l := mrow (el F i2)) tbok rfl rfl rfl (mrow_len hoki) (rs_lk .here (rows_mid hFk (by omega) (by omega)))) ⟨fun w hw => hw.tail hxk, ?_⟩)
                refine wh_one 7 (by kernel_rfl) (wo_ef rfl rfl (ef_q rfl rfl (qt_load_ag (l := mrow (el F (0))) tbok rfl rfl rfl (mrow_len hokj) (rs_lk .here (rows_mid hFk (by omega) (by omega)))) ⟨fun w hw => hw.tail hxk, ?_⟩))
                refine wh_q 12 rfl (by kernel_rfl) rfl rfl rfl (qt_p tbok rfl) (fun w hw => hw.tail hxk) ?_
                refine wh_one 13 (by kernel_rfl) (wo_ef rfl rfl (ef_store (cs' := (F.set i2 (el F (0))).flatMap mrow) tbok rfl rfl rfl rfl .here (mrow_len hokj) (mrows_fit hFk (i := i2) (by omega) (by omega)) (rows_put hFk hokj (by omega) (by omega)) ⟨fun w hw => hw.tail hxk, ?_⟩))
                refine wh_q 14 rfl (by kernel_rfl) rfl rfl rfl (qt_p tbok rfl) (fun w hw => hw.tail hxk) ?_
                refine wh_one 15 (by kernel_rfl) (wo_ef rfl rfl (ef_store (cs' := (swp F i2 (0)).flatMap mrow) tbok rfl rfl rfl rfl .here (mrow_len hoki) (mrows_fit (i := 0) (set_ok hFk hokj) (by rw [List.length_set]; omega) (by omega)) (rows_put (set_ok hFk hokj) hoki (by rw [List.length_set]; omega) (by omega)) ⟨fun w hw => hw.tail hxk, ?_⟩))
                refine wh_done (by kernel_rfl) ?_
                refine nk_code ?_
                refine wc_region ?_
                refine wl_q rfl rfl rfl (qt_p tbok rfl) ?_
                refine wl_q rfl rfl rfl (qt_p tbok rfl) ?_
                refine wl_done ?_
                exact nk_round (i := (i2, F)) (i2 + 1, swp F i2 (0)) ⟨hi3, by show (swp F i2 (0)).length = E.length; rw [swp_len]; exact hFl, ord_swap hO2 (by omega) (by omega)⟩ (by show E.length - (i2 + 1) < E.length - i2; omega) ⟨rfl, rfl, rfl, rfl, rfl, rfl, rfl, rfl, rfl, trivial⟩ (fun w hw => hw)
          · refine wc_exit rfl ?_
            refine nk_code ?_
            refine wc_seq ?_
            refine wc_seq ?_
            refine wc_region ?_
            refine wl_q rfl rfl rfl (qt_load_ag (l := [.i64 n, .slc y1.1 K.length y1.2.1]) tbok rfl rfl rfl rfl (rs_lk (.there (.there .here)) at0)) ?_
            refine wl_ef rfl (ef_pure (v := .c (.bool (rightB n K))) (by kernel_rfl) rfl rfl (fun w1 h1 => right_c hK (cells_own h1 (.there (.there (.there .here))))) ?_)
            refine wl_bool (fun hr => ?_) (fun hr => ?_)
            · refine wl_q rfl rfl rfl (qt_p tbok rfl) ?_
              first | refine wl_g rfl rfl rfl rfl (qt_p tbok rfl) ?_ | refine wl_skip rfl rfl rfl rfl rfl ?_
              first | refine wl_g rfl rfl rfl rfl (qt_p tbok rfl) ?_ | refine wl_skip rfl rfl rfl rfl rfl ?_
              first | refine wl_g rfl rfl rfl rfl (qt_l tbok rfl rfl rfl) ?_ | refine wl_g rfl rfl rfl rfl (qt_la tbok rfl rfl rfl) ?_ | refine wl_skip rfl rfl rfl rfl rfl ?_
              first | refine wl_g rfl rfl rfl rfl (qt_len tbok rfl rfl) ?_ | refine wl_skip rfl rfl rfl rfl rfl ?_
              first | refine wl_g rfl rfl rfl rfl (qt_p tbok rfl) ?_ | refine wl_skip rfl rfl rfl rfl rfl ?_
              refine wl_as (v' := .c (.bool false)) (congrArg (fun b => V.c (C.bool b)) (decide_eq_false (by have := cntK_le K msg (M.map (·.1)); omega))) ?_
              first | refine wl_g rfl rfl rfl rfl (qt_p tbok rfl) ?_ | refine wl_skip rfl rfl rfl rfl rfl ?_
              first | refine wl_g rfl rfl rfl rfl (qt_p tbok rfl) ?_ | refine wl_skip rfl rfl rfl rfl rfl ?_
              first | refine wl_g rfl rfl rfl rfl (qt_p tbok rfl) ?_ | refine wl_skip rfl rfl rfl rfl rfl ?_
              first | refine wl_g rfl rfl rfl rfl (qt_len tbok rfl rfl) ?_ | refine wl_skip rfl rfl rfl rfl rfl ?_
              first | refine wl_g rfl rfl rfl rfl (qt_p tbok rfl) ?_ | refine wl_skip rfl rfl rfl rfl rfl ?_
              refine wl_as (v' := .c (.bool false)) (congrArg (fun b => V.c (C.bool b)) (decide_eq_false (by have := cnt_marks hr msg (M.map (·.1)); rw [List.length_map] at this; omega))) ?_
              first | refine wl_g rfl rfl rfl rfl (qt_p tbok rfl) ?_ | refine wl_skip rfl rfl rfl rfl rfl ?_
              first | refine wl_g rfl rfl rfl rfl (qt_p tbok rfl) ?_ | refine wl_skip rfl rfl rfl rfl rfl ?_
              refine wl_g rfl rfl rfl rfl (qt_load_ag (l := [.i64 n, .slc y1.1 K.length y1.2.1]) tbok rfl rfl rfl rfl (rs_lk (.there (.there .here)) at0)) ?_
              first | refine wl_g rfl rfl rfl rfl (qt_p tbok rfl) ?_ | refine wl_skip rfl rfl rfl rfl rfl ?_
              first | refine wl_g rfl rfl rfl rfl (qt_p tbok rfl) ?_ | refine wl_skip rfl rfl rfl rfl rfl ?_
              refine wl_gd rfl rfl (ef_pure (v := .c (.bool (meetsB n K msg (M.map (·.1))))) (by kernel_rfl) rfl rfl (fun w1 h1 => by rw [← hNl, ← hNm]; exact meets_c hK (by omega) (cells_own h1 (.there (.there (.there .here)))) (cells_rd (rd_cells hm (off_new hxk (off_new hk2 (off_new (newKey h9) (off_new hk1 (off_new (newKey hb) (off_all hT))))))) h1) hmax hNk (by omega) (cells_own h1 (.there .here)) (hz.lies h1 (fun b hb => .there (.there (.there (.there (.there (lk_mem hb)))))))) ?_)
              refine wl_bool (fun hq => ?_) (fun hq => ?_)
              · first | refine wl_g rfl rfl rfl rfl (qt_p tbok rfl) ?_ | refine wl_skip rfl rfl rfl rfl rfl ?_
                first | refine wl_g rfl rfl rfl rfl (qt_p tbok rfl) ?_ | refine wl_skip rfl rfl rfl rfl rfl ?_
                first | refine wl_g rfl rfl rfl rfl (qt_len tbok rfl rfl) ?_ | refine wl_skip rfl rfl rfl rfl rfl ?_
                first | refine wl_g rfl rfl rfl rfl (qt_p tbok rfl) ?_ | refine wl_skip rfl rfl rfl rfl rfl ?_
                first | refine wl_g rfl rfl rfl rfl (qt_l tbok rfl rfl rfl) ?_ | refine wl_g rfl rfl rfl rfl (qt_la tbok rfl rfl rfl) ?_ | refine wl_skip rfl rfl rfl rfl rfl ?_
                first | refine wl_g rfl rfl rfl rfl (qt_p tbok rfl) ?_ | refine wl_skip rfl rfl rfl rfl rfl ?_
                refine wl_as (v' := .c (.bool false)) (congrArg (fun b => V.c (C.bool b)) (decide_eq_false (by have h7 := cnt_marks hr msg (M.map (·.1)); rw [List.length_map] at h7; unfold meetsB at hq; simp only [Bool.and_eq_true, decide_eq_true_eq] at hq; omega))) ?_
                first | refine wl_g rfl rfl rfl rfl (qt_p tbok rfl) ?_ | refine wl_skip rfl rfl rfl rfl rfl ?_
                first | refine wl_g rfl rfl rfl rfl (qt_p tbok rfl) ?_ | refine wl_skip rfl rfl rfl rfl rfl ?_
                refine wl_q rfl rfl rfl (qt_p tbok rfl) ?_
                refine wl_done ?_
                refine nk_code ?_
                refine wc_no rfl ?_
                refine wc_skip ?_
                refine nk_code ?_
                refine wc_seq ?_
                refine wc_region ?_
                refine wl_ef rfl (ef_pure (v := .c (.bool true)) (by kernel_rfl) rfl rfl (fun w1 _ => awake16_c) ?_)
                refine wl_q rfl rfl rfl (qt_p tbok rfl) ?_
                refine wl_g rfl rfl rfl rfl (qt_load_ag (l := [.i64 n, .slc y1.1 K.length y1.2.1]) tbok rfl rfl rfl rfl (rs_lk (.there (.there .here)) at0)) ?_
                first | refine wl_g rfl rfl rfl rfl (qt_p tbok rfl) ?_ | refine wl_skip rfl rfl rfl rfl rfl ?_
                first | refine wl_g rfl rfl rfl rfl (qt_p tbok rfl) ?_ | refine wl_skip rfl rfl rfl rfl rfl ?_
                refine wl_gd rfl rfl (ef_pure (v := .c (.i64 (cntK K msg (M.map (·.1)) : Nat))) (by kernel_rfl) rfl rfl (fun w1 h1 => by rw [← ord_cnt hO2, ← hFl]; exact count_c hK (by omega) (cells_own h1 (.there (.there (.there .here)))) (cells_rd (rd_cells hm (off_new hxk (off_new hk2 (off_new (newKey h9) (off_new hk1 (off_new (newKey hb) (off_all hT))))))) h1) hmax hFk (by omega) (cells_own h1 .here) (ord_lies hO2 (hz.lies h1 (fun b hb => .there (.there (.there (.there (.there (lk_mem hb))))))))) ?_)
                first | refine wl_g rfl rfl rfl rfl (qt_p tbok rfl) ?_ | refine wl_skip rfl rfl rfl rfl rfl ?_
                first | refine wl_g rfl rfl rfl rfl (qt_p tbok rfl) ?_ | refine wl_g rfl rfl rfl rfl (qt_eqn tbok rfl rfl rfl) ?_ | refine wl_skip rfl rfl rfl rfl rfl ?_
                refine wl_as (v' := .c (.bool true)) (congrArg (fun b => V.c (C.bool b)) (decide_eq_true rfl)) ?_
                refine wl_q rfl rfl rfl (qt_p tbok rfl) ?_
                refine wl_q rfl rfl rfl (qt_p tbok rfl) ?_
                refine wl_done ?_
                refine nk_code ?_
                refine wc_ret ?_
                try dsimp only
                exact fin1 rfl (rv_tmp rfl) (fun w' hw => ⟨rfl, hw.all (new_cons hxk (new_cons hk2 (new_cons (newKey h9) (new_cons hk1 (new_cons (newKey hb) hT)))))⟩)
              · first | refine wl_g rfl rfl rfl rfl (qt_p tbok rfl) ?_ | refine wl_skip rfl rfl rfl rfl rfl ?_
                first | refine wl_g rfl rfl rfl rfl (qt_p tbok rfl) ?_ | refine wl_skip rfl rfl rfl rfl rfl ?_
                first | refine wl_g rfl rfl rfl rfl (qt_len tbok rfl rfl) ?_ | refine wl_skip rfl rfl rfl rfl rfl ?_
                first | refine wl_g rfl rfl rfl rfl (qt_p tbok rfl) ?_ | refine wl_skip rfl rfl rfl rfl rfl ?_
                first | refine wl_g rfl rfl rfl rfl (qt_l tbok rfl rfl rfl) ?_ | refine wl_g rfl rfl rfl rfl (qt_la tbok rfl rfl rfl) ?_ | refine wl_skip rfl rfl rfl rfl rfl ?_
                first | refine wl_g rfl rfl rfl rfl (qt_p tbok rfl) ?_ | refine wl_skip rfl rfl rfl rfl rfl ?_
                first | refine wl_g rfl rfl rfl rfl (qt_p tbok rfl) ?_ | refine wl_skip rfl rfl rfl rfl rfl ?_
                first | refine wl_g rfl rfl rfl rfl (qt_p tbok rfl) ?_ | refine wl_skip rfl rfl rfl rfl rfl ?_
                refine wl_q rfl rfl rfl (qt_p tbok rfl) ?_
                refine wl_done ?_
                refine nk_code ?_
                refine wc_no rfl ?_
                refine wc_skip ?_
                refine nk_code ?_
                refine wc_seq ?_
                refine wc_region ?_
                refine wl_ef rfl (ef_pure (v := .c (.bool true)) (by kernel_rfl) rfl rfl (fun w1 _ => awake16_c) ?_)
                refine wl_q rfl rfl rfl (qt_p tbok rfl) ?_
                refine wl_g rfl rfl rfl rfl (qt_load_ag (l := [.i64 n, .slc y1.1 K.length y1.2.1]) tbok rfl rfl rfl rfl (rs_lk (.there (.there .here)) at0)) ?_
                first | refine wl_g rfl rfl rfl rfl (qt_p tbok rfl) ?_ | refine wl_skip rfl rfl rfl rfl rfl ?_
                first | refine wl_g rfl rfl rfl rfl (qt_p tbok rfl) ?_ | refine wl_skip rfl rfl rfl rfl rfl ?_
                refine wl_gd rfl rfl (ef_pure (v := .c (.i64 (cntK K msg (M.map (·.1)) : Nat))) (by kernel_rfl) rfl rfl (fun w1 h1 => by rw [← ord_cnt hO2, ← hFl]; exact count_c hK (by omega) (cells_own h1 (.there (.there (.there .here)))) (cells_rd (rd_cells hm (off_new hxk (off_new hk2 (off_new (newKey h9) (off_new hk1 (off_new (newKey hb) (off_all hT))))))) h1) hmax hFk (by omega) (cells_own h1 .here) (ord_lies hO2 (hz.lies h1 (fun b hb => .there (.there (.there (.there (.there (lk_mem hb))))))))) ?_)
                first | refine wl_g rfl rfl rfl rfl (qt_p tbok rfl) ?_ | refine wl_skip rfl rfl rfl rfl rfl ?_
                first | refine wl_g rfl rfl rfl rfl (qt_p tbok rfl) ?_ | refine wl_g rfl rfl rfl rfl (qt_eqn tbok rfl rfl rfl) ?_ | refine wl_skip rfl rfl rfl rfl rfl ?_
                refine wl_as (v' := .c (.bool true)) (congrArg (fun b => V.c (C.bool b)) (decide_eq_true rfl)) ?_
                refine wl_q rfl rfl rfl (qt_p tbok rfl) ?_
                refine wl_q rfl rfl rfl (qt_p tbok rfl) ?_
                refine wl_done ?_
                refine nk_code ?_
                refine wc_ret ?_
                try dsimp only
                exact fin1 rfl (rv_tmp rfl) (fun w' hw => ⟨rfl, hw.all (new_cons hxk (new_cons hk2 (new_cons (newKey h9) (new_cons hk1 (new_cons (newKey hb) hT)))))⟩)
            · refine wl_q rfl rfl rfl (qt_p tbok rfl) ?_
              first | refine wl_g rfl rfl rfl rfl (qt_p tbok rfl) ?_ | refine wl_skip rfl rfl rfl rfl rfl ?_
              first | refine wl_g rfl rfl rfl rfl (qt_p tbok rfl) ?_ | refine wl_skip rfl rfl rfl rfl rfl ?_
              first | refine wl_g rfl rfl rfl rfl (qt_l tbok rfl rfl rfl) ?_ | refine wl_g rfl rfl rfl rfl (qt_la tbok rfl rfl rfl) ?_ | refine wl_skip rfl rfl rfl rfl rfl ?_
              first | refine wl_g rfl rfl rfl rfl (qt_len tbok rfl rfl) ?_ | refine wl_skip rfl rfl rfl rfl rfl ?_
              first | refine wl_g rfl rfl rfl rfl (qt_p tbok rfl) ?_ | refine wl_skip rfl rfl rfl rfl rfl ?_
              first | refine wl_g rfl rfl rfl rfl (qt_p tbok rfl) ?_ | refine wl_skip rfl rfl rfl rfl rfl ?_
              refine wl_skip0 rfl rfl rfl rfl ?_
              refine wl_skip0 rfl rfl rfl rfl ?_
              refine wl_skip0 rfl rfl rfl rfl ?_
              refine wl_skip0 rfl rfl rfl rfl ?_
              first | refine wl_g rfl rfl rfl rfl (qt_p tbok rfl) ?_ | refine wl_skip rfl rfl rfl rfl rfl ?_
              first | refine wl_g rfl rfl rfl rfl (qt_p tbok rfl) ?_ | refine wl_skip rfl rfl rfl rfl rfl ?_
              refine wl_skip0 rfl rfl rfl rfl ?_
              refine wl_skip0 rfl rfl rfl rfl ?_
              refine wl_skip0 rfl rfl rfl rfl ?_
              refine wl_skip0 rfl rfl rfl rfl ?_
              refine wl_skip0 rfl rfl rfl rfl ?_
              refine wl_skip0 rfl rfl rfl rfl ?_
              refine wl_skip0 rfl rfl rfl rfl ?_
              refine wl_skip0 rfl rfl rfl rfl ?_
              refine wl_skip0 rfl rfl rfl rfl ?_
              refine wl_skip0 rfl rfl rfl rfl ?_
              refine wl_skip0 rfl rfl rfl rfl ?_
              first | refine wl_g rfl rfl rfl rfl (qt_p tbok rfl) ?_ | refine wl_skip rfl rfl rfl rfl rfl ?_
              refine wl_q rfl rfl rfl (qt_p tbok rfl) ?_
              refine wl_done ?_
              refine nk_code ?_
              refine wc_no rfl ?_
              refine wc_skip ?_
              refine nk_code ?_
              refine wc_seq ?_
              refine wc_region ?_
              refine wl_ef rfl (ef_pure (v := .c (.bool true)) (by kernel_rfl) rfl rfl (fun w1 _ => awake16_c) ?_)
              refine wl_q rfl rfl rfl (qt_p tbok rfl) ?_
              refine wl_g rfl rfl rfl rfl (qt_load_ag (l := [.i64 n, .slc y1.1 K.length y1.2.1]) tbok rfl rfl rfl rfl (rs_lk (.there (.there .here)) at0)) ?_
              first | refine wl_g rfl rfl rfl rfl (qt_p tbok rfl) ?_ | refine wl_skip rfl rfl rfl rfl rfl ?_
              first | refine wl_g rfl rfl rfl rfl (qt_p tbok rfl) ?_ | refine wl_skip rfl rfl rfl rfl rfl ?_
              refine wl_gd rfl rfl (ef_pure (v := .c (.i64 (cntK K msg (M.map (·.1)) : Nat))) (by kernel_rfl) rfl rfl (fun w1 h1 => by rw [← ord_cnt hO2, ← hFl]; exact count_c hK (by omega) (cells_own h1 (.there (.there (.there .here)))) (cells_rd (rd_cells hm (off_new hxk (off_new hk2 (off_new (newKey h9) (off_new hk1 (off_new (newKey hb) (off_all hT))))))) h1) hmax hFk (by omega) (cells_own h1 .here) (ord_lies hO2 (hz.lies h1 (fun b hb => .there (.there (.there (.there (.there (lk_mem hb))))))))) ?_)
              first | refine wl_g rfl rfl rfl rfl (qt_p tbok rfl) ?_ | refine wl_skip rfl rfl rfl rfl rfl ?_
              first | refine wl_g rfl rfl rfl rfl (qt_p tbok rfl) ?_ | refine wl_g rfl rfl rfl rfl (qt_eqn tbok rfl rfl rfl) ?_ | refine wl_skip rfl rfl rfl rfl rfl ?_
              refine wl_as (v' := .c (.bool true)) (congrArg (fun b => V.c (C.bool b)) (decide_eq_true rfl)) ?_
              refine wl_q rfl rfl rfl (qt_p tbok rfl) ?_
              refine wl_q rfl rfl rfl (qt_p tbok rfl) ?_
              refine wl_done ?_
              refine nk_code ?_
              refine wc_ret ?_
              try dsimp only
              exact fin1 rfl (rv_tmp rfl) (fun w' hw => ⟨rfl, hw.all (new_cons hxk (new_cons hk2 (new_cons (newKey h9) (new_cons hk1 (new_cons (newKey hb) hT)))))⟩)
end Go.Proofs.Ytjhmcmadleabjaa
