/- package trust: New, Root, Tag and Head of one store of the root believed; what they answer and what they leave. -/
import Derived.Test.YtjhmcmadleabjaaRoots
set_option linter.unusedVariables false
set_option maxRecDepth 100000
namespace Go.Hw
section
variable {X : Cx} {n : Nat} {e : Env} {s s' : Hp}
/-- A call by a function's value. -/
theorem run_callv {P : Program} {f : Nat} (hc : callable P f = true) {x : Operand} {args : Array Operand} {at_ : Array TypeId} {o : Oper} (ho : o.op = .call ⟨.value x, args, at_⟩) {a : Act} (hf : Fits n e a) (hx : ev e x = some (.fn f)) {vs : List V} (hv : evl e args.toList = some vs) (w : World) :
    (execOp a.eval o).run P w = .ok (.enter f (vs.map V.den).toArray) w := by
  unfold callable at hc
  split at hc
  · rename_i fn hfn
    simp only [Bool.and_eq_true, Bool.not_eq_true'] at hc
    have hargs : args.map a.eval = (vs.map V.den).toArray := by
      apply Array.ext'
      simpa using evl_map hf hv
    have hb : fn.body.isNone = false := by cases hh : fn.body <;> simp_all
    simp only [execOp, ho, resolve, hf.ev hx, V.den, Deferred.ofValue, Sem.run_bind, Sem.run_pure, Result.andThen_ok, hargs, invoke, callFunc, program, Sem.run]
    simp [hfn, hc.1, hb]
  · cases hc
theorem ef_purev {Q : Exit → Act → World → Prop} {d : Option Nat} {f : Nat} {x : Operand} {args : List Operand} {ats : Array TypeId} {ty : Nat} {pos : String} {af : Array Edge} {gd : Option (Nat × Bool)} {KK : Env → Hp → Prop} {vs : List V} {v : V}
    (hc : callable X.P f = true) (hx : ev e x = some (.fn f)) (hv : evl e args = some vs) (hd : okDst X.n d = true)
    (h : ∀ w, St X.w0 s w → CallsV X.P f vs w fun en w' => en = .returned v.den ∧ St w [] w') (hk : KK (Env.put d v e) s) :
    Ef X Q ⟨d, .call ⟨.value x, args.toArray, ats⟩, ty, pos, af, gd⟩ e s KK := by
  refine ⟨fun K hK a w hf hs => ?_⟩
  unfold Oper.wp
  rw [run_callv hc rfl hf hx (by simpa using hv) w, Oper.upon_enter]
  refine (h w hs).mono fun en w' ⟨he, hst⟩ => ?_
  subst he
  exact hK _ _ hk _ _ (hf.putE hd v) (hs.ext hst)
/-- A block is turned, others come. -/
theorem St.upN {w0 w w' : World} {σ σ' B : Hp} {b b' : Blk} (h : St w0 σ w) (hu : Up σ b b' σ') (hk : b'.key = b.key) (h' : St w (b' :: B) w') (hB : ∀ p ∈ B, ∀ k, p.key = some k → w.heap.size ≤ k) : St w0 (B ++ σ') w' := by
  have h1 : St w [b'] w' := h'.sub (List.Sublist.cons_cons b' (List.nil_sublist B)) fun p hp hn => by
    rcases List.mem_cons.1 hp with rfl | hp
    · exact absurd (List.mem_singleton.2 rfl) hn
    · exact hB p hp
  have h2 := h.up hu hk h1
  have ltw : ∀ p ∈ σ', ∀ k, p.key = some k → k < w.heap.size := by
    obtain ⟨l, r, rfl, rfl⟩ := hu.split
    intro p hp k hpk
    rcases List.mem_append.1 hp with hl | hr
    · exact h.lt p (List.mem_append.2 (.inl hl)) k hpk
    · rcases List.mem_cons.1 hr with rfl | hr
      · exact h.lt b (by simp) k (by rw [← hk]; exact hpk)
      · exact h.lt p (by simp [hr]) k hpk
  refine ⟨h2.os, h2.tape, h2.output, h2.size, fun k hk' hp => h2.old k hk' fun p hps => hp p (List.mem_append.2 (.inr hps)), fun p hp => ?_, List.pairwise_append.2 ⟨(List.pairwise_cons.1 h'.nodup).2, h2.nodup, fun p hp q hq => ?_⟩⟩
  · rcases List.mem_append.1 hp with hp | hp
    · exact h'.own p (.tail _ hp)
    · exact h2.own p hp
  · unfold apart
    cases hk2 : p.key with
    | none => exact .inl rfl
    | some k =>
      refine .inr (fun e => ?_)
      have g1 := hB p hp k hk2
      have g2 := ltw q hq k e.symm
      omega
end
end Go.Hw
namespace Go.Proofs.Ytjhmcmadleabjaa
open Go Go.Hw Go.Proofs

/-! ### What is believed -/
abbrev TB (tr : Nat) (z : RL) : Blk := ⟨.at tr 0, z.cs, 164, (0, 0), []⟩
theorem zero164 : zeroIs Try.prog 164 (.agg z8) := by unfold zeroIs; kernel_rfl
/-- A list has a place that may be asked for. -/
def okP (p : Ro × Os) : Prop := p.2.1 = .nil ∨ ∃ r o, p.2.1 = .at r o
theorem okP_own {p : Ro × Os} (h : roO p) : okP p := by
  obtain ⟨r, a, c, t⟩ := p
  cases a with
  | nil => exact .inl rfl
  | raw _ => exact h.elim
  | mp _ _ => exact h.elim
  | «at» r o => exact .inr ⟨r, o, rfl⟩
def RL.pl (z : RL) : Prop := okP z.r ∧ okP z.t ∧ okP z.l
theorem RL.own.pl {z : RL} (h : z.own) : z.pl := ⟨okP_own h.1, okP_own h.2.1, okP_own h.2.2⟩

theorem clone_c {w : World} {K : List (Int × List UInt8)} {a : Ad} {cap : Nat} (hp : a = .nil ∨ ∃ r o, a = .at r o) (hK : K32 K) (hl : K.length ≤ 1073741824) (hc : Cells w a (K.flatMap kr)) :
    CallsV Try.prog 119 [.c (.slc a K.length cap)] w fun en w' => ∃ y : Os, en = .returned (V.c (.slc y.1 K.length y.2.1)).den ∧ OwnS y.1 K.length y.2.1 33 (K.flatMap kr) y.2.2 ∧ (∀ k, (kob K y).key = some k → w.heap.size ≤ k) ∧ St w [kob K y] w' := by
  rcases hp with rfl | ⟨r, o, rfl⟩
  · have hK0 : K = [] := by
      have h1 : K.flatMap kr = [] := hc
      have h2 := rows_len hK.row
      rw [h1] at h2
      exact List.length_eq_zero_iff.1 (by have h3 : 0 = K.length * 33 := h2; omega)
    subst hK0
    refine calls_in (tb := tb) (fn := Try.f119) Try.func119 rfl rfl rfl [(0, .c (.slc .nil 0 cap))] rfl [] (St.refl _) ?_
    refine wc_seq ?_
    refine wc_region ?_
    refine wl_q rfl rfl rfl (qt_p tbok rfl) ?_
    refine wl_done ?_
    refine nk_code ?_
    refine wc_seq ?_
    refine wc_seq ?_
    refine wc_region ?_
    refine wl_q rfl rfl rfl (qt_p tbok rfl) ?_
    first | refine wl_q rfl rfl rfl (qt_p tbok rfl) ?_ | refine wl_q rfl rfl rfl (qt_eqn tbok rfl rfl rfl) ?_
    refine wl_done ?_
    refine nk_code ?_
    refine wc_yes rfl ?_
    refine wc_seq ?_
    refine wc_region ?_
    refine wl_q rfl rfl rfl (qt_p tbok rfl) ?_
    refine wl_done ?_
    refine nk_code ?_
    refine wc_ret ?_
    try dsimp only
    exact fin1 rfl (rv_tmp rfl) (fun w' hw => ⟨(.nil, 0, []), rfl, ⟨rfl, rfl, rfl, rfl⟩, nil_new, st_none hw⟩)
  · refine calls_in (tb := tb) (fn := Try.f119) Try.func119 rfl rfl rfl [(0, .c (.slc (.at r o) K.length cap))] rfl [] (St.refl _) ?_
    refine wc_seq ?_
    refine wc_region ?_
    refine wl_q rfl rfl rfl (qt_p tbok rfl) ?_
    refine wl_done ?_
    refine nk_code ?_
    refine wc_seq ?_
    refine wc_seq ?_
    refine wc_region ?_
    refine wl_q rfl rfl rfl (qt_p tbok rfl) ?_
    first | refine wl_q rfl rfl rfl (qt_p tbok rfl) ?_ | refine wl_q rfl rfl rfl (qt_eqn tbok rfl rfl rfl) ?_
    refine wl_done ?_
    refine nk_code ?_
    refine wc_no rfl ?_
    refine wc_skip ?_
    refine nk_code ?_
    refine wc_seq ?_
    refine wc_region ?_
    refine wl_ef rfl (ef_buildSlice (vs := []) (l := []) tbok rfl zero32 rfl rfl rfl (by decide) rfl rfl (fun b hb => ?_))
    refine wl_q rfl rfl rfl (qt_p tbok rfl) ?_
    refine wl_ef rfl (ef_append tbok rfl el32 zero32 rfl rfl rfl .here own_z0 (newKey hb) (m := K.length) (news := K.flatMap kr) (rows_len hK.row) (rd_cells hc (off_new (newKey hb) off_nil)) (by omega) (by simp only [maxLen]; omega) (fun a2 c2 t2 ho2 hk2 _ _ => ?_))
    rw [Nat.zero_add] at ho2 ⊢
    refine wl_q rfl rfl rfl (qt_p tbok rfl) ?_
    refine wl_done ?_
    refine nk_code ?_
    refine wc_ret ?_
    try dsimp only
    exact fin1 rfl (rv_tmp rfl) (fun w' hw => ⟨(a2, c2, t2), rfl, ho2, hk2, hw⟩)
/-- A root whose roles are copied one by one. -/
def cpL (W Z : List (Ro × Os)) : List (Ro × Os) := Z ++ W.drop Z.length
theorem cp_put {v u : Int} {W Z : List (Ro × Os)} {y : Os} (hW : W.length = 3) (h : Z.length < 3) {o : Nat} (ho : o = 2 + 2 * Z.length + 1) (hm : Z.map (·.1) = (W.take Z.length).map (·.1)) : spl (rlZ v u (cpL W Z)).cs o [.slc y.1 (el W Z.length).1.K.length y.2.1] = (rlZ v u (cpL W (Z ++ [((el W Z.length).1, y)]))).cs := by
  subst ho
  match W, hW with
  | [a, b, c], _ =>
    match Z, h with
    | [], _ => rfl
    | [p], _ => rfl
    | [p, q], _ => rfl
theorem cp_get {v u : Int} {W Z : List (Ro × Os)} (hW : W.length = 3) (h : Z.length < 3) {o : Nat} (ho : o = 2 + 2 * Z.length + 1) : (rlZ v u (cpL W Z)).cs[o]? = some (.slc (el W Z.length).2.1 (el W Z.length).1.K.length (el W Z.length).2.2.1) := by
  subst ho
  match W, hW with
  | [a, b, c], _ =>
    match Z, h with
    | [], _ => rfl
    | [p], _ => rfl
    | [p, q], _ => rfl
theorem zbs_snoc' (T : Nat) (Z : List (Ro × Os)) (p : Ro × Os) : ((Z ++ [p]).map (rob T)).reverse = rob T p :: (Z.map (rob T)).reverse := by simp
theorem four_first' {a b c d : Blk} {s : Hp} : (a :: b :: c :: d :: s).Perm (b :: c :: d :: a :: s) := (List.Perm.swap b a _).trans (List.Perm.cons b ((List.Perm.swap c a _).trans (List.Perm.cons c (List.Perm.swap d a _))))

theorem cp_full {W Z : List (Ro × Os)} {y : RL} (hW : W = [y.r, y.t, y.l]) (hm : Z.map (·.1) = (W.take Z.length).map (·.1)) (hl : Z.length = 3) (ho : ∀ p ∈ Z, roO p) : (rlZ y.v y.u (cpL W Z)).x = y.x ∧ (rlZ y.v y.u (cpL W Z)).own ∧ rbs 32 (rlZ y.v y.u (cpL W Z)) = (Z.map (rob 32)).reverse := by
  subst hW
  match Z, hl with
  | [a, c, d], _ =>
    have e : [a.1, c.1, d.1] = [y.r.1, y.t.1, y.l.1] := hm
    simp only [List.cons.injEq, and_true] at e
    refine ⟨?_, ⟨ho a (by simp), ho c (by simp), ho d (by simp)⟩, rfl⟩
    show (⟨_, _, a.1, c.1, d.1⟩ : Rx) = _
    rw [e.1, e.2.1, e.2.2]; rfl

theorem copied_c {w : World} {y : RL} (hk : y.ok) (hp : y.pl) (hl : y.lies w) :
    CallsV Try.prog 90 [.agg y.cs] w fun en w' => ∃ z : RL, en = .returned (V.agg z.cs).den ∧ (z.x = y.x ∧ z.own) ∧ (∀ p ∈ rbs 32 z, ∀ k, p.key = some k → w.heap.size ≤ k) ∧ St w (rbs 32 z) w' := by
  obtain ⟨W, hWW⟩ : ∃ W : List (Ro × Os), W = [y.r, y.t, y.l] := ⟨_, rfl⟩
  have hW3 : W.length = 3 := by rw [hWW]; rfl
  have hWa : ∀ p ∈ W, p.1.ok ∧ okP p ∧ roL w p := by
    rw [hWW]; intro p hp2
    rcases List.mem_cons.1 hp2 with rfl | hp2
    · exact ⟨hk.1, hp.1, hl.1⟩
    rcases List.mem_cons.1 hp2 with rfl | hp2
    · exact ⟨hk.2.1, hp.2.1, hl.2.1⟩
    rw [List.mem_singleton.1 hp2]; exact ⟨hk.2.2, hp.2.2, hl.2.2⟩
  refine calls_in (tb := tb) (fn := Try.f90) Try.func90 rfl rfl rfl [(0, .agg y.cs)] rfl [] (St.refl _) ?_
  refine wc_seq ?_
  refine wc_region ?_
  refine wl_ef rfl (ef_box rfl rfl rfl (fun b hb => ?_))
  refine wl_ef rfl (ef_alloc zero92 rfl rfl (fun o ho => ?_))
  refine wl_done ?_
  refine nk_code ?_
  refine wc_seq ?_
  refine wc_seq ?_
  refine wc_region ?_
  refine wl_q rfl rfl rfl (qt_p tbok rfl) ?_
  refine wl_q rfl rfl rfl (qt_p tbok rfl) ?_
  refine wl_q rfl rfl rfl (qt_p tbok rfl) ?_
  refine wl_ef rfl (ef_buildSlice (vs := [(0, .c (.ptr (.at b 2))), (1, .c (.ptr (.at b 4))), (2, .c (.ptr (.at b 6)))]) (l := [.ptr (.at b 2), .ptr (.at b 4), .ptr (.at b 6)]) tbok rfl zero156 rfl rfl rfl (by decide) rfl rfl (fun q hq => ?_))
  refine wl_q rfl rfl rfl (qt_len tbok rfl rfl) ?_
  refine wl_q rfl rfl rfl (qt_p tbok rfl) ?_
  refine wl_done ?_
  refine nk_code ?_
  refine wc_block ?_
  refine wc_loop (ι := List (Ro × Os)) (fun Z => (Z.length ≤ 3 ∧ Z.map (·.1) = (W.take Z.length).map (·.1) ∧ ∀ p ∈ Z, roO p) ∧ ∀ p ∈ Z, ∀ k, p.2.1.key = some k → w.heap.size ≤ k) (fun Z => [(10, .c (.i64 (Z.length : Int))), (9, .c (.i64 ((3 : Nat) : Int))), (8, .c (.slc (.at q 0) 3 3)), (1, .c (.ptr (.at b 0))), (2, .c (.ptr (.at o 0)))]) (fun Z => ⟨.at q 0, [.ptr (.at b 2), .ptr (.at b 4), .ptr (.at b 6)], 156, (0, 0), []⟩ :: ⟨.at o 0, z8, 92, (0, 0), []⟩ :: ⟨.at b 0, (rlZ y.v y.u (cpL W Z)).cs, 92, (0, 0), []⟩ :: (Z.map (rob 32)).reverse) (fun Z => 3 - Z.length) [] ⟨⟨Nat.zero_le _, by simp, fun p h => by cases h⟩, fun p h => by cases h⟩ (nk_start ⟨rfl, rfl, rfl, rfl, rfl, trivial⟩ (fun w hw => by show St _ (_ :: _ :: ⟨.at b 0, (rlZ y.v y.u ([] ++ W.drop 0)).cs, 92, (0, 0), []⟩ :: _) _; rw [hWW]; exact hw)) (fun Z ⟨⟨hZ3, hZm, hZo⟩, hZn⟩ => ?_)
  have hZk : ∀ b ∈ (Z.map (rob 32)).reverse, ∀ k, b.key = some k → w.heap.size ≤ k := (fun b hb => by rw [List.mem_reverse] at hb; obtain ⟨p, hp, rfl⟩ := List.mem_map.1 hb; exact hZn p hp)
  refine wc_seq ?_
  refine wc_region ?_
  refine wl_q rfl rfl rfl (qt_p tbok rfl) ?_
  refine wl_done ?_
  refine nk_code ?_
  refine wc_seq ?_
  refine wc_cond rfl (fun h11 => ?_) (fun h11 => ?_)
  · have hi' : Z.length < 3 := (by have h0 := of_decide_eq_true h11; omega)
    obtain ⟨⟨hKi, hKl⟩, hPi, hci⟩ := hWa _ (el_mem (show Z.length < W.length by omega))
    refine wc_skip ?_
    refine nk_code ?_
    refine wc_seq ?_
    refine wc_block ?_
    refine wc_seq ?_
    refine wc_region ?_
    refine wl_q rfl rfl rfl (qt_p tbok rfl) ?_
    refine wl_q rfl rfl rfl (qt_load (c := .ptr (.at b (2 + 2 * Z.length))) tbok rfl rfl rfl (rc_lk .here (by rcases (by omega : Z.length = 0 ∨ Z.length = 1 ∨ Z.length = 2) with h | h | h <;> rw [h] <;> rfl))) ?_
    refine wl_q rfl rfl rfl (qt_p tbok rfl) ?_
    refine wl_done ?_
    refine nk_code ?_
    refine wc_region ?_
    refine wl_q rfl rfl rfl (qt_p tbok rfl) ?_
    refine wl_q rfl rfl rfl (qt_p tbok rfl) ?_
    refine wl_q rfl rfl rfl (qt_p tbok rfl) ?_
    refine wl_q rfl rfl rfl (qt_p tbok rfl) ?_
    refine wl_q rfl rfl rfl (qt_load (c := .slc (el W Z.length).2.1 (el W Z.length).1.K.length (el W Z.length).2.2.1) tbok rfl rfl rfl (rc_lk (.there (.there .here)) (cp_get hW3 hi' rfl))) ?_
    refine wl_ef rfl (ef_fresh (by kernel_rfl) rfl rfl (fun w1 g1 => clone_c hPi hKi hKl (cells_rd (rd_cells hci (off_new (newKey hq) (off_new (newKey ho) (off_new (newKey hb) (off_all hZk))))) g1)) (fun z hz hzk => ?_))
    refine wl_q rfl rfl rfl (qt_p tbok rfl) ?_
    refine wl_q rfl rfl rfl (qt_p tbok rfl) ?_
    refine wl_ef rfl (ef_store (cs' := (rlZ y.v y.u (cpL W (Z ++ [((el W Z.length).1, z)]))).cs) tbok rfl rfl rfl rfl (.there (.there (.there .here))) rfl (by show 2 + 2 * Z.length + 1 + 1 ≤ 8; omega) (cp_put hW3 hi' rfl hZm) ?_)
    refine wl_done ?_
    refine nk_code ?_
    refine wc_region ?_
    refine wl_q rfl rfl rfl (qt_p tbok rfl) ?_
    refine wl_q rfl rfl rfl (qt_p tbok rfl) ?_
    refine wl_done ?_
    have ez : (Z ++ [((el W Z.length).1, z)]).length = Z.length + 1 := (by simp)
    exact nk_round (i := Z) (Z ++ [((el W Z.length).1, z)]) ⟨⟨by rw [ez]; exact hi', by rw [ez, List.map_append, hZm, el_take (by omega), List.map_append]; rfl, fun p hp => (by rcases List.mem_append.1 hp with h | h; exact hZo p h; rw [List.mem_singleton.1 h]; exact hz)⟩, fun p hp => (by rcases List.mem_append.1 hp with h | h; exact hZn p h; rw [List.mem_singleton.1 h]; exact hzk)⟩ (by rw [ez]; omega) ⟨by rw [ez]; rfl, rfl, rfl, rfl, rfl, trivial⟩ (fun w hw => by rw [zbs_snoc']; exact hw.perm four_first')
  · have he : Z.length = 3 := (by have h0 := of_decide_eq_false h11; omega)
    obtain ⟨f1, f2, f3⟩ := cp_full hWW hZm he hZo
    refine wc_exit rfl ?_
    refine nk_code ?_
    refine wc_seq ?_
    refine wc_region ?_
    refine wl_q rfl rfl rfl (qt_load_ag (l := (rlZ y.v y.u (cpL W Z)).cs) tbok rfl rfl rfl rfl (rs_lk (.there (.there .here)) at0)) ?_
    refine wl_ef rfl (ef_store (cs' := (rlZ y.v y.u (cpL W Z)).cs) tbok rfl rfl rfl rfl (.there .here) rfl (Nat.le_of_ble_eq_true rfl) rfl ?_)
    refine wl_done ?_
    refine nk_code ?_
    refine wc_ret ?_
    try dsimp only
    exact fin1 rfl (rv_ag (l := (rlZ y.v y.u (cpL W Z)).cs) tbok rfl rfl rfl rfl (rs_lk (.there .here) at0)) (fun w' hw => ⟨rlZ y.v y.u (cpL W Z), rfl, ⟨f1, f2⟩, by rw [f3]; exact hZk, by rw [f3]; exact Rm.sub_St (Rm.sub_St (Rm.sub_St hw .here (newKey hq)) .here (newKey ho)) .here (newKey hb)⟩)

theorem root_nil_c {w : World} : CallsV Try.prog 55 [.c (.ptr .nil)] w fun en w' => en = .returned (V.agg z8).den ∧ St w [] w' := by
  refine calls_in (tb := tb) (fn := Try.f55) Try.func55 rfl rfl rfl [(0, .c (.ptr .nil))] rfl [] (St.refl _) ?_
  refine wc_seq ?_
  refine wc_region ?_
  refine wl_ef rfl (ef_alloc zero92 rfl rfl (fun o ho => ?_))
  refine wl_done ?_
  refine nk_code ?_
  refine wc_seq ?_
  refine wc_seq ?_
  refine wc_region ?_
  refine wl_q rfl rfl rfl (qt_p tbok rfl) ?_
  first | refine wl_q rfl rfl rfl (qt_p tbok rfl) ?_ | refine wl_q rfl rfl rfl (qt_eqn tbok rfl rfl rfl) ?_
  refine wl_done ?_
  refine nk_code ?_
  refine wc_yes rfl ?_
  refine wc_seq ?_
  refine wc_region ?_
  refine wl_q rfl rfl rfl (qt_build (vs := []) (l := z8) tbok rfl zero92 rfl rfl) ?_
  refine wl_ef rfl (ef_store (cs' := z8) tbok rfl rfl rfl rfl .here rfl (Nat.le_of_ble_eq_true rfl) rfl ?_)
  refine wl_done ?_
  refine nk_code ?_
  refine wc_ret ?_
  try dsimp only
  exact fin1 rfl (rv_ag (l := z8) tbok rfl rfl rfl rfl (rs_lk .here at0)) (fun w' hw => ⟨rfl, hw.tail (newKey ho)⟩)
theorem root_c {w : World} {tr : Nat} {y : RL} (ht : Cells w (.at tr 0) y.cs) (hk : y.ok) (hp : y.pl) (hl : y.lies w) :
    CallsV Try.prog 55 [.c (.ptr (.at tr 0))] w fun en w' => ∃ z : RL, en = .returned (V.agg z.cs).den ∧ (z.x = y.x ∧ z.own) ∧ (∀ p ∈ rbs 32 z, ∀ k, p.key = some k → w.heap.size ≤ k) ∧ St w (rbs 32 z) w' := by
  refine calls_in (tb := tb) (fn := Try.f55) Try.func55 rfl rfl rfl [(0, .c (.ptr (.at tr 0)))] rfl [] (St.refl _) ?_
  refine wc_seq ?_
  refine wc_region ?_
  refine wl_ef rfl (ef_alloc zero92 rfl rfl (fun o ho => ?_))
  refine wl_done ?_
  refine nk_code ?_
  refine wc_seq ?_
  refine wc_seq ?_
  refine wc_region ?_
  refine wl_q rfl rfl rfl (qt_p tbok rfl) ?_
  first | refine wl_q rfl rfl rfl (qt_p tbok rfl) ?_ | refine wl_q rfl rfl rfl (qt_eqn tbok rfl rfl rfl) ?_
  refine wl_done ?_
  refine nk_code ?_
  refine wc_no rfl ?_
  refine wc_skip ?_
  refine nk_code ?_
  refine wc_seq ?_
  refine wc_region ?_
  refine wl_q rfl rfl rfl (qt_p tbok rfl) ?_
  refine wl_q rfl rfl rfl (qt_p tbok rfl) ?_
  refine wl_q rfl rfl rfl (qt_p tbok rfl) ?_
  refine wl_q rfl rfl rfl (qt_load_ag (l := y.cs) tbok rfl rfl rfl rfl ((rs_cells ht (off_new (newKey ho) off_nil)).part (k := 0) at0 rfl)) ?_
  refine wl_ef rfl (ef_freshL (B := fun z : RL => rbs 32 z) (I := fun z : RL => z.x = y.x ∧ z.own) (v := fun z : RL => .agg z.cs) (by kernel_rfl) rfl rfl (fun w1 g1 => copied_c hk hp (hl.up (fun ad => off_new (newKey ho) off_nil) g1)) (fun z hz hzk => ?_))
  refine wl_ef rfl (ef_store (cs' := z.cs) tbok rfl rfl rfl rfl (.there (.there (.there .here))) rfl (Nat.le_of_ble_eq_true rfl) rfl ?_)
  refine wl_done ?_
  refine nk_code ?_
  refine wc_ret ?_
  try dsimp only
  exact fin1 rfl (rv_ag (l := z.cs) tbok rfl rfl rfl rfl (rs_lk (.there (.there (.there .here))) at0)) (fun w' hw => ⟨z, rfl, hz, hzk, Rm.sub_St hw (.there (.there (.there .here))) (newKey ho)⟩)

/-! ### New -/
def nwE (x : Rx) (M : List Mk) : Int := if rootB x = true then (if meetsB x.r.n x.r.K (encB x) M = true then 0 else 161) else 160
theorem encR_len' {y : RL} (hk : y.ok) : (encR y.x).length ≤ 1700 := by
  unfold encR
  split
  · rename_i h; exact (enc_len hk h).1
  · exact Nat.zero_le _

theorem new_bad_c {w : World} {y : RL} {M : List (Mk × Os)} {la : Ad} {lc : Nat} (hk : y.ok) (hpl : y.pl) (hl : y.lies w) (hM : ∀ p ∈ M, p.1.ok) (hMl : M.length ≤ 1073741824) (hlm : Cells w la (M.flatMap mrow)) (hp : ∀ p ∈ M, Mk.lies w p) (hr : rootB y.x = false) :
    CallsV Try.prog 53 [.agg y.cs, .c (.slc la M.length lc)] w fun en w' => en = .returned (V.t2 (.c (.ptr .nil)) (.c (.i64 160))).den ∧ St w [] w' := by
  have hel := (encR_len' hk)
  refine calls_in (tb := tb) (fn := Try.f53) Try.func53 rfl rfl rfl [(0, .agg y.cs), (1, .c (.slc la M.length lc))] rfl [] (St.refl _) ?_
  refine wc_seq ?_
  refine wc_region ?_
  refine wl_ef rfl (ef_box rfl rfl rfl (fun b hb => ?_))
  refine wl_q rfl rfl rfl (qt_p tbok rfl) ?_
  refine wl_q rfl rfl rfl (qt_p tbok rfl) ?_
  refine wl_done ?_
  refine nk_code ?_
  refine wc_seq ?_
  refine wc_region ?_
  refine wl_q rfl rfl rfl (qt_load_ag (l := y.cs) tbok rfl rfl rfl rfl (rs_lk .here at0)) ?_
  refine wl_ef rfl (ef_fresh (b := fun z : Os => ob (encR y.x) z) (I := fun z : Os => Oi (encR y.x) z) (v := fun z : Os => .t2 (.c (.slc z.1 (encR y.x).length z.2.1)) (.c (.i64 (encE y.x)))) (by kernel_rfl) rfl rfl (fun w1 g1 => encode_c hk (hl.up (fun ad => off_new (newKey hb) off_nil) g1)) (fun e1 he1 he1k => ?_))
  refine wl_q rfl rfl rfl (qt_p tbok rfl) ?_
  refine wl_q rfl rfl rfl (qt_p tbok rfl) ?_
  refine wl_q rfl rfl rfl (qt_p tbok rfl) ?_
  refine wl_q rfl rfl rfl (qt_p tbok rfl) ?_
  refine wl_q rfl rfl rfl (qt_p tbok rfl) ?_
  refine wl_done ?_
  refine nk_code ?_
  refine wc_seq ?_
  refine wc_block ?_
  refine wc_seq ?_
  refine wc_region ?_
  refine wl_q rfl rfl rfl (qt_p tbok rfl) ?_
  refine wl_as (v' := .c (.i64 1)) (by unfold encE; rw [hr]; rfl) ?_
  first | refine wl_q rfl rfl rfl (qt_p tbok rfl) ?_ | refine wl_q rfl rfl rfl (qt_neqn tbok rfl rfl rfl) ?_
  refine wl_q rfl rfl rfl (qt_p tbok rfl) ?_
  refine wl_done ?_
  refine nk_code ?_
  refine wc_yes rfl ?_
  refine wc_seq ?_
  refine wc_region ?_
  refine wl_q rfl rfl rfl (qt_p tbok rfl) ?_
  refine wl_q rfl rfl rfl (qt_p tbok rfl) ?_
  refine wl_done ?_
  refine nk_code ?_
  refine wc_ret ?_
  try dsimp only
  exact fin2 rfl (rv_tmp rfl) (rv_tmp rfl) (fun w' hw => ⟨rfl, hw.all (new_cons he1k (new_cons (newKey hb) new_nil))⟩)

theorem new_few_c {w : World} {y : RL} {M : List (Mk × Os)} {la : Ad} {lc : Nat} (hk : y.ok) (hpl : y.pl) (hl : y.lies w) (hM : ∀ p ∈ M, p.1.ok) (hMl : M.length ≤ 1073741824) (hlm : Cells w la (M.flatMap mrow)) (hp : ∀ p ∈ M, Mk.lies w p) (hr : rootB y.x = true) (hm : meetsB y.x.r.n y.x.r.K (encB y.x) (M.map (·.1)) = false) :
    CallsV Try.prog 53 [.agg y.cs, .c (.slc la M.length lc)] w fun en w' => en = .returned (V.t2 (.c (.ptr .nil)) (.c (.i64 161))).den ∧ St w [] w' := by
  have hel := (encR_len' hk)
  refine calls_in (tb := tb) (fn := Try.f53) Try.func53 rfl rfl rfl [(0, .agg y.cs), (1, .c (.slc la M.length lc))] rfl [] (St.refl _) ?_
  refine wc_seq ?_
  refine wc_region ?_
  refine wl_ef rfl (ef_box rfl rfl rfl (fun b hb => ?_))
  refine wl_q rfl rfl rfl (qt_p tbok rfl) ?_
  refine wl_q rfl rfl rfl (qt_p tbok rfl) ?_
  refine wl_done ?_
  refine nk_code ?_
  refine wc_seq ?_
  refine wc_region ?_
  refine wl_q rfl rfl rfl (qt_load_ag (l := y.cs) tbok rfl rfl rfl rfl (rs_lk .here at0)) ?_
  refine wl_ef rfl (ef_fresh (b := fun z : Os => ob (encR y.x) z) (I := fun z : Os => Oi (encR y.x) z) (v := fun z : Os => .t2 (.c (.slc z.1 (encR y.x).length z.2.1)) (.c (.i64 (encE y.x)))) (by kernel_rfl) rfl rfl (fun w1 g1 => encode_c hk (hl.up (fun ad => off_new (newKey hb) off_nil) g1)) (fun e1 he1 he1k => ?_))
  refine wl_q rfl rfl rfl (qt_p tbok rfl) ?_
  refine wl_q rfl rfl rfl (qt_p tbok rfl) ?_
  refine wl_q rfl rfl rfl (qt_p tbok rfl) ?_
  refine wl_q rfl rfl rfl (qt_p tbok rfl) ?_
  refine wl_q rfl rfl rfl (qt_p tbok rfl) ?_
  refine wl_done ?_
  refine nk_code ?_
  refine wc_seq ?_
  refine wc_block ?_
  refine wc_seq ?_
  refine wc_region ?_
  refine wl_q rfl rfl rfl (qt_p tbok rfl) ?_
  refine wl_as (v' := .c (.i64 0)) (by unfold encE; rw [if_pos hr]) ?_
  first | refine wl_q rfl rfl rfl (qt_p tbok rfl) ?_ | refine wl_q rfl rfl rfl (qt_neqn tbok rfl rfl rfl) ?_
  refine wl_q rfl rfl rfl (qt_p tbok rfl) ?_
  refine wl_done ?_
  refine nk_code ?_
  refine wc_no rfl ?_
  refine wc_seq ?_
  refine wc_region ?_
  refine wl_q rfl rfl rfl (qt_p tbok rfl) ?_
  refine wl_q rfl rfl rfl (qt_load_ag (l := rrow y.r) tbok rfl rfl rfl rfl (rs_lk (.there .here) (rl_r y))) ?_
  refine wl_q rfl rfl rfl (qt_p tbok rfl) ?_
  refine wl_q rfl rfl rfl (qt_p tbok rfl) ?_
  refine wl_ef rfl (ef_pure (vs := [.agg (rrow y.r), .c (.slc e1.1 (encR y.x).length e1.2.1), .c (.slc la M.length lc)]) (v := .c (.bool (meetsB y.r.1.n y.r.1.K (encR y.x) (M.map (·.1))))) (by kernel_rfl) rfl rfl (fun w1 g1 => by exact meets_c (n := y.r.1.n) (K := y.r.1.K) (M := M) (msg := encR y.x) (pa := y.r.2.1) (pc := y.r.2.2.1) (ma := e1.1) (mc := e1.2.1) (la := la) (lc := lc) hk.1.1 hk.1.2 (cells_rd (rd_cells hl.1 (off_new he1k (off_new (newKey hb) off_nil))) g1) (cells_own g1 .here) (by omega) hM hMl (cells_rd (rd_cells hlm (off_new he1k (off_new (newKey hb) off_nil))) g1) (fun p hpm => ⟨cells_rd (rd_cells (hp p hpm).1 (off_new he1k (off_new (newKey hb) off_nil))) g1, (hp p hpm).2⟩)) ?_)
  refine wl_as (v' := .c (.bool false)) (congrArg (fun b => V.c (C.bool b)) (by unfold encR; rw [if_pos hr]; exact hm)) ?_
  refine wl_q rfl rfl rfl (qt_p tbok rfl) ?_
  refine wl_q rfl rfl rfl (qt_p tbok rfl) ?_
  refine wl_done ?_
  refine nk_code ?_
  refine wc_yes rfl ?_
  refine wc_seq ?_
  refine wc_region ?_
  refine wl_q rfl rfl rfl (qt_p tbok rfl) ?_
  refine wl_q rfl rfl rfl (qt_p tbok rfl) ?_
  refine wl_done ?_
  refine nk_code ?_
  refine wc_ret ?_
  try dsimp only
  exact fin2 rfl (rv_tmp rfl) (rv_tmp rfl) (fun w' hw => ⟨rfl, hw.all (new_cons he1k (new_cons (newKey hb) new_nil))⟩)

theorem new_ok_c {w : World} {y : RL} {M : List (Mk × Os)} {la : Ad} {lc : Nat} (hk : y.ok) (hpl : y.pl) (hl : y.lies w) (hM : ∀ p ∈ M, p.1.ok) (hMl : M.length ≤ 1073741824) (hlm : Cells w la (M.flatMap mrow)) (hp : ∀ p ∈ M, Mk.lies w p) (hr : rootB y.x = true) (hm : meetsB y.x.r.n y.x.r.K (encB y.x) (M.map (·.1)) = true) :
    CallsV Try.prog 53 [.agg y.cs, .c (.slc la M.length lc)] w fun en w' => ∃ x : Nat × RL, en = .returned (V.t2 (.c (.ptr (.at x.1 0))) (.c (.i64 0))).den ∧ (x.2.x = y.x ∧ x.2.own) ∧ (∀ p ∈ TB x.1 x.2 :: rbs 32 x.2, ∀ k, p.key = some k → w.heap.size ≤ k) ∧ St w (TB x.1 x.2 :: rbs 32 x.2) w' := by
  have hel := (encR_len' hk)
  refine calls_in (tb := tb) (fn := Try.f53) Try.func53 rfl rfl rfl [(0, .agg y.cs), (1, .c (.slc la M.length lc))] rfl [] (St.refl _) ?_
  refine wc_seq ?_
  refine wc_region ?_
  refine wl_ef rfl (ef_box rfl rfl rfl (fun b hb => ?_))
  refine wl_q rfl rfl rfl (qt_p tbok rfl) ?_
  refine wl_q rfl rfl rfl (qt_p tbok rfl) ?_
  refine wl_done ?_
  refine nk_code ?_
  refine wc_seq ?_
  refine wc_region ?_
  refine wl_q rfl rfl rfl (qt_load_ag (l := y.cs) tbok rfl rfl rfl rfl (rs_lk .here at0)) ?_
  refine wl_ef rfl (ef_fresh (b := fun z : Os => ob (encR y.x) z) (I := fun z : Os => Oi (encR y.x) z) (v := fun z : Os => .t2 (.c (.slc z.1 (encR y.x).length z.2.1)) (.c (.i64 (encE y.x)))) (by kernel_rfl) rfl rfl (fun w1 g1 => encode_c hk (hl.up (fun ad => off_new (newKey hb) off_nil) g1)) (fun e1 he1 he1k => ?_))
  refine wl_q rfl rfl rfl (qt_p tbok rfl) ?_
  refine wl_q rfl rfl rfl (qt_p tbok rfl) ?_
  refine wl_q rfl rfl rfl (qt_p tbok rfl) ?_
  refine wl_q rfl rfl rfl (qt_p tbok rfl) ?_
  refine wl_q rfl rfl rfl (qt_p tbok rfl) ?_
  refine wl_done ?_
  refine nk_code ?_
  refine wc_seq ?_
  refine wc_block ?_
  refine wc_seq ?_
  refine wc_region ?_
  refine wl_q rfl rfl rfl (qt_p tbok rfl) ?_
  refine wl_as (v' := .c (.i64 0)) (by unfold encE; rw [if_pos hr]) ?_
  first | refine wl_q rfl rfl rfl (qt_p tbok rfl) ?_ | refine wl_q rfl rfl rfl (qt_neqn tbok rfl rfl rfl) ?_
  refine wl_q rfl rfl rfl (qt_p tbok rfl) ?_
  refine wl_done ?_
  refine nk_code ?_
  refine wc_no rfl ?_
  refine wc_seq ?_
  refine wc_region ?_
  refine wl_q rfl rfl rfl (qt_p tbok rfl) ?_
  refine wl_q rfl rfl rfl (qt_load_ag (l := rrow y.r) tbok rfl rfl rfl rfl (rs_lk (.there .here) (rl_r y))) ?_
  refine wl_q rfl rfl rfl (qt_p tbok rfl) ?_
  refine wl_q rfl rfl rfl (qt_p tbok rfl) ?_
  refine wl_ef rfl (ef_pure (vs := [.agg (rrow y.r), .c (.slc e1.1 (encR y.x).length e1.2.1), .c (.slc la M.length lc)]) (v := .c (.bool (meetsB y.r.1.n y.r.1.K (encR y.x) (M.map (·.1))))) (by kernel_rfl) rfl rfl (fun w1 g1 => by exact meets_c (n := y.r.1.n) (K := y.r.1.K) (M := M) (msg := encR y.x) (pa := y.r.2.1) (pc := y.r.2.2.1) (ma := e1.1) (mc := e1.2.1) (la := la) (lc := lc) hk.1.1 hk.1.2 (cells_rd (rd_cells hl.1 (off_new he1k (off_new (newKey hb) off_nil))) g1) (cells_own g1 .here) (by omega) hM hMl (cells_rd (rd_cells hlm (off_new he1k (off_new (newKey hb) off_nil))) g1) (fun p hpm => ⟨cells_rd (rd_cells (hp p hpm).1 (off_new he1k (off_new (newKey hb) off_nil))) g1, (hp p hpm).2⟩)) ?_)
  refine wl_as (v' := .c (.bool true)) (congrArg (fun b => V.c (C.bool b)) (by unfold encR; rw [if_pos hr]; exact hm)) ?_
  refine wl_q rfl rfl rfl (qt_p tbok rfl) ?_
  refine wl_q rfl rfl rfl (qt_p tbok rfl) ?_
  refine wl_done ?_
  refine nk_code ?_
  refine wc_no rfl ?_
  refine wc_skip ?_
  refine nk_code ?_
  refine wc_seq ?_
  refine wc_region ?_
  refine wl_q rfl rfl rfl (qt_load_ag (l := y.cs) tbok rfl rfl rfl rfl (rs_lk (.there .here) at0)) ?_
  refine wl_ef rfl (ef_freshL (B := fun z : RL => rbs 32 z) (I := fun z : RL => z.x = y.x ∧ z.own) (v := fun z : RL => .agg z.cs) (by kernel_rfl) rfl rfl (fun w1 g1 => copied_c hk hpl (hl.up (fun ad => off_new he1k (off_new (newKey hb) off_nil)) g1)) (fun z hz hzk => ?_))
  refine wl_q rfl rfl rfl (qt_build (vs := [(0, .agg z.cs)]) (l := z.cs) tbok rfl zero164 rfl rfl) ?_
  refine wl_ef rfl (ef_box rfl rfl rfl (fun tr htr => ?_))
  refine wl_q rfl rfl rfl (qt_p tbok rfl) ?_
  refine wl_q rfl rfl rfl (qt_p tbok rfl) ?_
  refine wl_done ?_
  refine nk_code ?_
  refine wc_ret ?_
  try dsimp only
  exact fin2 rfl (rv_tmp rfl) (rv_tmp rfl) (fun w' hw => ⟨(tr, z), rfl, hz, new_cons (newKey htr) hzk, Rm.sub_St (Rm.sub_St hw (.there (.there (.there (.there .here)))) he1k) (.there (.there (.there (.there .here)))) (newKey hb)⟩)

/-! ### Tag, Head -/

theorem pickT_c {w : World} {y : RL} : CallsV Try.prog 92 [.agg y.cs] w fun en w' => en = .returned (V.agg (rrow y.t)).den ∧ St w [] w' := by
  refine calls_in (tb := tb) (fn := Try.f92) Try.func92 rfl rfl rfl [(0, .agg y.cs)] rfl [] (St.refl _) ?_
  refine wc_seq ?_
  refine wc_region ?_
  refine wl_ef rfl (ef_box rfl rfl rfl (fun b hb => ?_))
  refine wl_ef rfl (ef_alloc zero72 rfl rfl (fun o ho => ?_))
  refine wl_done ?_
  refine nk_code ?_
  refine wc_seq ?_
  refine wc_region ?_
  refine wl_q rfl rfl rfl (qt_p tbok rfl) ?_
  refine wl_q rfl rfl rfl (qt_load_ag (l := rrow y.t) tbok rfl rfl rfl rfl (rs_lk (.there .here) (rl_t y))) ?_
  refine wl_ef rfl (ef_store (cs' := rrow y.t) tbok rfl rfl rfl rfl .here rfl (Nat.le_of_ble_eq_true rfl) rfl ?_)
  refine wl_done ?_
  refine nk_code ?_
  refine wc_ret ?_
  try dsimp only
  exact fin1 rfl (rv_ag (l := rrow y.t) tbok rfl rfl rfl rfl (rs_lk .here at0)) (fun w' hw => ⟨rfl, hw.all (new_cons (newKey ho) (new_cons (newKey hb) new_nil))⟩)

theorem pickL_c {w : World} {y : RL} : CallsV Try.prog 93 [.agg y.cs] w fun en w' => en = .returned (V.agg (rrow y.l)).den ∧ St w [] w' := by
  refine calls_in (tb := tb) (fn := Try.f93) Try.func93 rfl rfl rfl [(0, .agg y.cs)] rfl [] (St.refl _) ?_
  refine wc_seq ?_
  refine wc_region ?_
  refine wl_ef rfl (ef_box rfl rfl rfl (fun b hb => ?_))
  refine wl_ef rfl (ef_alloc zero72 rfl rfl (fun o ho => ?_))
  refine wl_done ?_
  refine nk_code ?_
  refine wc_seq ?_
  refine wc_region ?_
  refine wl_q rfl rfl rfl (qt_p tbok rfl) ?_
  refine wl_q rfl rfl rfl (qt_load_ag (l := rrow y.l) tbok rfl rfl rfl rfl (rs_lk (.there .here) (rl_l y))) ?_
  refine wl_ef rfl (ef_store (cs' := rrow y.l) tbok rfl rfl rfl rfl .here rfl (Nat.le_of_ble_eq_true rfl) rfl ?_)
  refine wl_done ?_
  refine nk_code ?_
  refine wc_ret ?_
  try dsimp only
  exact fin1 rfl (rv_ag (l := rrow y.l) tbok rfl rfl rfl rfl (rs_lk .here at0)) (fun w' hw => ⟨rfl, hw.all (new_cons (newKey ho) (new_cons (newKey hb) new_nil))⟩)

def ckE (u : Int) (r : Ro) (msg : List UInt8) (M : List Mk) (now : Int) : Int := if u < now then 131 else if meetsB r.n r.K msg M = true then 0 else 161

theorem checkT_c {w : World} {tr : Nat} {y : RL} {M : List (Mk × Os)} {msg : List UInt8} {ma la : Ad} {mc lc : Nat} {now : Int} (ht : Cells w (.at tr 0) y.cs) (hk : y.ok) (hl : y.lies w) (hm : Cells w ma (bc msg)) (hmax : msg.length ≤ 1073741000) (hM : ∀ p ∈ M, p.1.ok) (hMl : M.length ≤ 1073741824) (hlm : Cells w la (M.flatMap mrow)) (hp : ∀ p ∈ M, Mk.lies w p) :
    CallsV Try.prog 91 [.c (.ptr (.at tr 0)), .fn 92, .c (.slc ma msg.length mc), .c (.slc la M.length lc), .c (.i64 now)] w fun en w' => en = .returned (V.c (.i64 (ckE y.u y.t.1 msg (M.map (·.1)) now))).den ∧ St w [] w' := by
  refine calls_in (tb := tb) (fn := Try.f91) Try.func91 rfl rfl rfl [(0, .c (.ptr (.at tr 0))), (1, .fn 92), (2, .c (.slc ma msg.length mc)), (3, .c (.slc la M.length lc)), (4, .c (.i64 now))] rfl [] (St.refl _) ?_
  refine wc_seq ?_
  refine wc_region ?_
  refine wl_q rfl rfl rfl (qt_p tbok rfl) ?_
  refine wl_done ?_
  refine nk_code ?_
  refine wc_seq ?_
  refine wc_block ?_
  refine wc_seq ?_
  refine wc_region ?_
  refine wl_q rfl rfl rfl (qt_p tbok rfl) ?_
  first | refine wl_q rfl rfl rfl (qt_p tbok rfl) ?_ | refine wl_q rfl rfl rfl (qt_eqn tbok rfl rfl rfl) ?_
  refine wl_q rfl rfl rfl (qt_p tbok rfl) ?_
  refine wl_done ?_
  refine nk_code ?_
  refine wc_no rfl ?_
  refine wc_seq ?_
  refine wc_region ?_
  refine wl_q rfl rfl rfl (qt_p tbok rfl) ?_
  refine wl_q rfl rfl rfl (qt_p tbok rfl) ?_
  refine wl_q rfl rfl rfl (qt_p tbok rfl) ?_
  refine wl_q rfl rfl rfl (qt_p tbok rfl) ?_
  refine wl_q rfl rfl rfl (qt_p tbok rfl) ?_
  refine wl_q rfl rfl rfl (qt_load (c := .i64 y.u) tbok rfl rfl rfl ((rs_cells ht off_nil).rc (i := 1) rfl rfl)) ?_
  refine wl_q rfl rfl rfl (qt_p tbok rfl) ?_
  refine wl_q rfl rfl rfl (qt_p tbok rfl) ?_
  refine wl_done ?_
  refine nk_code ?_
  refine wc_cond rfl (fun h14 => ?_) (fun h14 => ?_)
  · refine wc_seq ?_
    refine wc_region ?_
    refine wl_q rfl rfl rfl (qt_p tbok rfl) ?_
    refine wl_done ?_
    refine nk_code ?_
    refine wc_ret ?_
    try dsimp only
    exact fin1 rfl (rv_tmp rfl) (fun w' hw => ⟨by unfold ckE; rw [if_pos (of_decide_eq_true h14)], hw⟩)
  · refine wc_seq ?_
    refine wc_region ?_
    refine wl_q rfl rfl rfl (qt_p tbok rfl) ?_
    refine wl_q rfl rfl rfl (qt_p tbok rfl) ?_
    refine wl_q rfl rfl rfl (qt_p tbok rfl) ?_
    refine wl_q rfl rfl rfl (qt_p tbok rfl) ?_
    refine wl_q rfl rfl rfl (qt_load_ag (l := y.cs) tbok rfl rfl rfl rfl ((rs_cells ht off_nil).part (k := 0) at0 rfl)) ?_
    refine wl_ef rfl (ef_purev (f := 92) (v := .agg (rrow y.t)) (by kernel_rfl) rfl rfl rfl (fun w1 _ => pickT_c) ?_)
    refine wl_q rfl rfl rfl (qt_p tbok rfl) ?_
    refine wl_q rfl rfl rfl (qt_p tbok rfl) ?_
    refine wl_ef rfl (ef_pure (vs := [.agg (rrow y.t), .c (.slc ma msg.length mc), .c (.slc la M.length lc)]) (v := .c (.bool (meetsB y.t.1.n y.t.1.K msg (M.map (·.1))))) (by kernel_rfl) rfl rfl (fun w1 g1 => by exact meets_c (n := y.t.1.n) (K := y.t.1.K) (M := M) (msg := msg) (pa := y.t.2.1) (pc := y.t.2.2.1) (ma := ma) (mc := mc) (la := la) (lc := lc) hk.2.1.1 hk.2.1.2 (cells_rd (rd_cells hl.2.1 off_nil) g1) (cells_rd (rd_cells hm off_nil) g1) hmax hM hMl (cells_rd (rd_cells hlm off_nil) g1) (fun p hpm => ⟨cells_rd (rd_cells (hp p hpm).1 off_nil) g1, (hp p hpm).2⟩)) ?_)
    refine wl_q rfl rfl rfl (qt_p tbok rfl) ?_
    refine wl_q rfl rfl rfl (qt_p tbok rfl) ?_
    refine wl_done ?_
    refine nk_code ?_
    refine wc_cond rfl (fun h22 => ?_) (fun h22 => ?_)
    · refine wc_seq ?_
      refine wc_region ?_
      refine wl_q rfl rfl rfl (qt_p tbok rfl) ?_
      refine wl_done ?_
      refine nk_code ?_
      refine wc_ret ?_
      try dsimp only
      exact fin1 rfl (rv_tmp rfl) (fun w' hw => ⟨by rw [Bool.not_eq_true'] at h22; unfold ckE; rw [if_neg (of_decide_eq_false h14), h22]; rfl, hw⟩)
    · refine wc_skip ?_
      refine nk_code ?_
      refine wc_seq ?_
      refine wc_region ?_
      refine wl_q rfl rfl rfl (qt_p tbok rfl) ?_
      refine wl_done ?_
      refine nk_code ?_
      refine wc_ret ?_
      try dsimp only
      exact fin1 rfl (rv_tmp rfl) (fun w' hw => ⟨by rw [Bool.not_eq_false'] at h22; unfold ckE; rw [if_neg (of_decide_eq_false h14), h22]; rfl, hw⟩)

theorem tag_c {w : World} {tr : Nat} {y : RL} {M : List (Mk × Os)} {msg : List UInt8} {ma la : Ad} {mc lc : Nat} {now : Int} (ht : Cells w (.at tr 0) y.cs) (hk : y.ok) (hl : y.lies w) (hm : Cells w ma (bc msg)) (hmax : msg.length ≤ 1073741000) (hM : ∀ p ∈ M, p.1.ok) (hMl : M.length ≤ 1073741824) (hlm : Cells w la (M.flatMap mrow)) (hp : ∀ p ∈ M, Mk.lies w p) :
    CallsV Try.prog 59 [.c (.ptr (.at tr 0)), .c (.slc ma msg.length mc), .c (.slc la M.length lc), .c (.i64 now)] w fun en w' => en = .returned (V.c (.i64 (ckE y.u y.t.1 msg (M.map (·.1)) now))).den ∧ St w [] w' := by
  refine calls_in (tb := tb) (fn := Try.f59) Try.func59 rfl rfl rfl [(0, .c (.ptr (.at tr 0))), (1, .c (.slc ma msg.length mc)), (2, .c (.slc la M.length lc)), (3, .c (.i64 now))] rfl [] (St.refl _) ?_
  refine wc_seq ?_
  refine wc_region ?_
  refine wl_q rfl rfl rfl (qt_p tbok rfl) ?_
  refine wl_done ?_
  refine nk_code ?_
  refine wc_seq ?_
  refine wc_region ?_
  refine wl_q rfl rfl rfl (qt_p tbok rfl) ?_
  refine wl_q rfl rfl rfl (qt_p tbok rfl) ?_
  refine wl_q rfl rfl rfl (qt_p tbok rfl) ?_
  refine wl_q rfl rfl rfl (qt_p tbok rfl) ?_
  refine wl_ef rfl (ef_pure (vs := [.c (.ptr (.at tr 0)), .fn 92, .c (.slc ma msg.length mc), .c (.slc la M.length lc), .c (.i64 now)]) (v := .c (.i64 (ckE y.u y.t.1 msg (M.map (·.1)) now))) (by kernel_rfl) rfl rfl (fun w1 g1 => by exact checkT_c (tr := tr) (y := y) (M := M) (msg := msg) (ma := ma) (la := la) (mc := mc) (lc := lc) (now := now) (cells_rd (rd_cells ht off_nil) g1) hk (hl.up (fun ad => off_nil) g1) (cells_rd (rd_cells hm off_nil) g1) hmax hM hMl (cells_rd (rd_cells hlm off_nil) g1) (fun p hpm => ⟨cells_rd (rd_cells (hp p hpm).1 off_nil) g1, (hp p hpm).2⟩)) ?_)
  refine wl_q rfl rfl rfl (qt_p tbok rfl) ?_
  refine wl_done ?_
  refine nk_code ?_
  refine wc_ret ?_
  try dsimp only
  exact fin1 rfl (rv_tmp rfl) (fun w' hw => ⟨rfl, hw⟩)
theorem tag_nil_c {w : World} {x y : C} {now : Int} (hx : (V.c x).flat = true) :
    CallsV Try.prog 59 [.c (.ptr .nil), .c x, .c y, .c (.i64 now)] w fun en w' => en = .returned (V.c (.i64 2)).den ∧ St w [] w' := by
  have h91 : ∀ w1, CallsV Try.prog 91 [.c (.ptr .nil), .fn 92, .c x, .c y, .c (.i64 now)] w1 fun en w' => en = .returned (V.c (.i64 2)).den ∧ St w1 [] w' := fun w1 => by
    refine calls_in (tb := tb) (fn := Try.f91) Try.func91 rfl rfl rfl [(0, .c (.ptr .nil)), (1, .fn 92), (2, .c x), (3, .c y), (4, .c (.i64 now))] rfl [] (St.refl _) ?_
    refine wc_seq ?_
    refine wc_region ?_
    refine wl_q rfl rfl rfl (qt_p tbok rfl) ?_
    refine wl_done ?_
    refine nk_code ?_
    refine wc_seq ?_
    refine wc_block ?_
    refine wc_seq ?_
    refine wc_region ?_
    refine wl_q rfl rfl rfl (qt_p tbok rfl) ?_
    first | refine wl_q rfl rfl rfl (qt_p tbok rfl) ?_ | refine wl_q rfl rfl rfl (qt_eqn tbok rfl rfl rfl) ?_
    refine wl_q rfl rfl rfl (qt_p tbok rfl) ?_
    refine wl_done ?_
    refine nk_code ?_
    refine wc_yes rfl ?_
    refine wc_seq ?_
    refine wc_region ?_
    refine wl_q rfl rfl rfl (qt_p tbok rfl) ?_
    refine wl_done ?_
    refine nk_code ?_
    refine wc_ret ?_
    try dsimp only
    exact fin1 rfl (rv_tmp rfl) (fun w' hw => ⟨rfl, hw⟩)
  refine calls_in (tb := tb) (fn := Try.f59) Try.func59 rfl rfl rfl [(0, .c (.ptr .nil)), (1, .c x), (2, .c y), (3, .c (.i64 now))] rfl [] (St.refl _) ?_
  refine wc_seq ?_
  refine wc_region ?_
  refine wl_q rfl rfl rfl (qt_p tbok rfl) ?_
  refine wl_done ?_
  refine nk_code ?_
  refine wc_seq ?_
  refine wc_region ?_
  refine wl_q rfl rfl rfl (qt_p tbok rfl) ?_
  refine wl_q rfl rfl rfl (qt_p tbok rfl) ?_
  refine wl_q rfl rfl rfl (qt_p tbok rfl) ?_
  refine wl_q rfl rfl rfl (qt_p tbok rfl) ?_
  refine wl_ef rfl (ef_pure (v := .c (.i64 2)) (by kernel_rfl) rfl rfl (fun w1 g1 => h91 w1) ?_)
  refine wl_q rfl rfl rfl (qt_p tbok rfl) ?_
  refine wl_done ?_
  refine nk_code ?_
  refine wc_ret ?_
  try dsimp only
  exact fin1 rfl (rv_tmp rfl) (fun w' hw => ⟨rfl, hw⟩)

theorem checkL_c {w : World} {tr : Nat} {y : RL} {M : List (Mk × Os)} {msg : List UInt8} {ma la : Ad} {mc lc : Nat} {now : Int} (ht : Cells w (.at tr 0) y.cs) (hk : y.ok) (hl : y.lies w) (hm : Cells w ma (bc msg)) (hmax : msg.length ≤ 1073741000) (hM : ∀ p ∈ M, p.1.ok) (hMl : M.length ≤ 1073741824) (hlm : Cells w la (M.flatMap mrow)) (hp : ∀ p ∈ M, Mk.lies w p) :
    CallsV Try.prog 91 [.c (.ptr (.at tr 0)), .fn 93, .c (.slc ma msg.length mc), .c (.slc la M.length lc), .c (.i64 now)] w fun en w' => en = .returned (V.c (.i64 (ckE y.u y.l.1 msg (M.map (·.1)) now))).den ∧ St w [] w' := by
  refine calls_in (tb := tb) (fn := Try.f91) Try.func91 rfl rfl rfl [(0, .c (.ptr (.at tr 0))), (1, .fn 93), (2, .c (.slc ma msg.length mc)), (3, .c (.slc la M.length lc)), (4, .c (.i64 now))] rfl [] (St.refl _) ?_
  refine wc_seq ?_
  refine wc_region ?_
  refine wl_q rfl rfl rfl (qt_p tbok rfl) ?_
  refine wl_done ?_
  refine nk_code ?_
  refine wc_seq ?_
  refine wc_block ?_
  refine wc_seq ?_
  refine wc_region ?_
  refine wl_q rfl rfl rfl (qt_p tbok rfl) ?_
  first | refine wl_q rfl rfl rfl (qt_p tbok rfl) ?_ | refine wl_q rfl rfl rfl (qt_eqn tbok rfl rfl rfl) ?_
  refine wl_q rfl rfl rfl (qt_p tbok rfl) ?_
  refine wl_done ?_
  refine nk_code ?_
  refine wc_no rfl ?_
  refine wc_seq ?_
  refine wc_region ?_
  refine wl_q rfl rfl rfl (qt_p tbok rfl) ?_
  refine wl_q rfl rfl rfl (qt_p tbok rfl) ?_
  refine wl_q rfl rfl rfl (qt_p tbok rfl) ?_
  refine wl_q rfl rfl rfl (qt_p tbok rfl) ?_
  refine wl_q rfl rfl rfl (qt_p tbok rfl) ?_
  refine wl_q rfl rfl rfl (qt_load (c := .i64 y.u) tbok rfl rfl rfl ((rs_cells ht off_nil).rc (i := 1) rfl rfl)) ?_
  refine wl_q rfl rfl rfl (qt_p tbok rfl) ?_
  refine wl_q rfl rfl rfl (qt_p tbok rfl) ?_
  refine wl_done ?_
  refine nk_code ?_
  refine wc_cond rfl (fun h14 => ?_) (fun h14 => ?_)
  · refine wc_seq ?_
    refine wc_region ?_
    refine wl_q rfl rfl rfl (qt_p tbok rfl) ?_
    refine wl_done ?_
    refine nk_code ?_
    refine wc_ret ?_
    try dsimp only
    exact fin1 rfl (rv_tmp rfl) (fun w' hw => ⟨by unfold ckE; rw [if_pos (of_decide_eq_true h14)], hw⟩)
  · refine wc_seq ?_
    refine wc_region ?_
    refine wl_q rfl rfl rfl (qt_p tbok rfl) ?_
    refine wl_q rfl rfl rfl (qt_p tbok rfl) ?_
    refine wl_q rfl rfl rfl (qt_p tbok rfl) ?_
    refine wl_q rfl rfl rfl (qt_p tbok rfl) ?_
    refine wl_q rfl rfl rfl (qt_load_ag (l := y.cs) tbok rfl rfl rfl rfl ((rs_cells ht off_nil).part (k := 0) at0 rfl)) ?_
    refine wl_ef rfl (ef_purev (f := 93) (v := .agg (rrow y.l)) (by kernel_rfl) rfl rfl rfl (fun w1 _ => pickL_c) ?_)
    refine wl_q rfl rfl rfl (qt_p tbok rfl) ?_
    refine wl_q rfl rfl rfl (qt_p tbok rfl) ?_
    refine wl_ef rfl (ef_pure (vs := [.agg (rrow y.l), .c (.slc ma msg.length mc), .c (.slc la M.length lc)]) (v := .c (.bool (meetsB y.l.1.n y.l.1.K msg (M.map (·.1))))) (by kernel_rfl) rfl rfl (fun w1 g1 => by exact meets_c (n := y.l.1.n) (K := y.l.1.K) (M := M) (msg := msg) (pa := y.l.2.1) (pc := y.l.2.2.1) (ma := ma) (mc := mc) (la := la) (lc := lc) hk.2.2.1 hk.2.2.2 (cells_rd (rd_cells hl.2.2 off_nil) g1) (cells_rd (rd_cells hm off_nil) g1) hmax hM hMl (cells_rd (rd_cells hlm off_nil) g1) (fun p hpm => ⟨cells_rd (rd_cells (hp p hpm).1 off_nil) g1, (hp p hpm).2⟩)) ?_)
    refine wl_q rfl rfl rfl (qt_p tbok rfl) ?_
    refine wl_q rfl rfl rfl (qt_p tbok rfl) ?_
    refine wl_done ?_
    refine nk_code ?_
    refine wc_cond rfl (fun h22 => ?_) (fun h22 => ?_)
    · refine wc_seq ?_
      refine wc_region ?_
      refine wl_q rfl rfl rfl (qt_p tbok rfl) ?_
      refine wl_done ?_
      refine nk_code ?_
      refine wc_ret ?_
      try dsimp only
      exact fin1 rfl (rv_tmp rfl) (fun w' hw => ⟨by rw [Bool.not_eq_true'] at h22; unfold ckE; rw [if_neg (of_decide_eq_false h14), h22]; rfl, hw⟩)
    · refine wc_skip ?_
      refine nk_code ?_
      refine wc_seq ?_
      refine wc_region ?_
      refine wl_q rfl rfl rfl (qt_p tbok rfl) ?_
      refine wl_done ?_
      refine nk_code ?_
      refine wc_ret ?_
      try dsimp only
      exact fin1 rfl (rv_tmp rfl) (fun w' hw => ⟨by rw [Bool.not_eq_false'] at h22; unfold ckE; rw [if_neg (of_decide_eq_false h14), h22]; rfl, hw⟩)

theorem head_c {w : World} {tr : Nat} {y : RL} {M : List (Mk × Os)} {msg : List UInt8} {ma la : Ad} {mc lc : Nat} {now : Int} (ht : Cells w (.at tr 0) y.cs) (hk : y.ok) (hl : y.lies w) (hm : Cells w ma (bc msg)) (hmax : msg.length ≤ 1073741000) (hM : ∀ p ∈ M, p.1.ok) (hMl : M.length ≤ 1073741824) (hlm : Cells w la (M.flatMap mrow)) (hp : ∀ p ∈ M, Mk.lies w p) :
    CallsV Try.prog 60 [.c (.ptr (.at tr 0)), .c (.slc ma msg.length mc), .c (.slc la M.length lc), .c (.i64 now)] w fun en w' => en = .returned (V.c (.i64 (ckE y.u y.l.1 msg (M.map (·.1)) now))).den ∧ St w [] w' := by
  refine calls_in (tb := tb) (fn := Try.f60) Try.func60 rfl rfl rfl [(0, .c (.ptr (.at tr 0))), (1, .c (.slc ma msg.length mc)), (2, .c (.slc la M.length lc)), (3, .c (.i64 now))] rfl [] (St.refl _) ?_
  refine wc_seq ?_
  refine wc_region ?_
  refine wl_q rfl rfl rfl (qt_p tbok rfl) ?_
  refine wl_done ?_
  refine nk_code ?_
  refine wc_seq ?_
  refine wc_region ?_
  refine wl_q rfl rfl rfl (qt_p tbok rfl) ?_
  refine wl_q rfl rfl rfl (qt_p tbok rfl) ?_
  refine wl_q rfl rfl rfl (qt_p tbok rfl) ?_
  refine wl_q rfl rfl rfl (qt_p tbok rfl) ?_
  refine wl_ef rfl (ef_pure (vs := [.c (.ptr (.at tr 0)), .fn 93, .c (.slc ma msg.length mc), .c (.slc la M.length lc), .c (.i64 now)]) (v := .c (.i64 (ckE y.u y.l.1 msg (M.map (·.1)) now))) (by kernel_rfl) rfl rfl (fun w1 g1 => by exact checkL_c (tr := tr) (y := y) (M := M) (msg := msg) (ma := ma) (la := la) (mc := mc) (lc := lc) (now := now) (cells_rd (rd_cells ht off_nil) g1) hk (hl.up (fun ad => off_nil) g1) (cells_rd (rd_cells hm off_nil) g1) hmax hM hMl (cells_rd (rd_cells hlm off_nil) g1) (fun p hpm => ⟨cells_rd (rd_cells (hp p hpm).1 off_nil) g1, (hp p hpm).2⟩)) ?_)
  refine wl_q rfl rfl rfl (qt_p tbok rfl) ?_
  refine wl_done ?_
  refine nk_code ?_
  refine wc_ret ?_
  try dsimp only
  exact fin1 rfl (rv_tmp rfl) (fun w' hw => ⟨rfl, hw⟩)
theorem head_nil_c {w : World} {x y : C} {now : Int} (hx : (V.c x).flat = true) :
    CallsV Try.prog 60 [.c (.ptr .nil), .c x, .c y, .c (.i64 now)] w fun en w' => en = .returned (V.c (.i64 2)).den ∧ St w [] w' := by
  have h91 : ∀ w1, CallsV Try.prog 91 [.c (.ptr .nil), .fn 93, .c x, .c y, .c (.i64 now)] w1 fun en w' => en = .returned (V.c (.i64 2)).den ∧ St w1 [] w' := fun w1 => by
    refine calls_in (tb := tb) (fn := Try.f91) Try.func91 rfl rfl rfl [(0, .c (.ptr .nil)), (1, .fn 93), (2, .c x), (3, .c y), (4, .c (.i64 now))] rfl [] (St.refl _) ?_
    refine wc_seq ?_
    refine wc_region ?_
    refine wl_q rfl rfl rfl (qt_p tbok rfl) ?_
    refine wl_done ?_
    refine nk_code ?_
    refine wc_seq ?_
    refine wc_block ?_
    refine wc_seq ?_
    refine wc_region ?_
    refine wl_q rfl rfl rfl (qt_p tbok rfl) ?_
    first | refine wl_q rfl rfl rfl (qt_p tbok rfl) ?_ | refine wl_q rfl rfl rfl (qt_eqn tbok rfl rfl rfl) ?_
    refine wl_q rfl rfl rfl (qt_p tbok rfl) ?_
    refine wl_done ?_
    refine nk_code ?_
    refine wc_yes rfl ?_
    refine wc_seq ?_
    refine wc_region ?_
    refine wl_q rfl rfl rfl (qt_p tbok rfl) ?_
    refine wl_done ?_
    refine nk_code ?_
    refine wc_ret ?_
    try dsimp only
    exact fin1 rfl (rv_tmp rfl) (fun w' hw => ⟨rfl, hw⟩)
  refine calls_in (tb := tb) (fn := Try.f60) Try.func60 rfl rfl rfl [(0, .c (.ptr .nil)), (1, .c x), (2, .c y), (3, .c (.i64 now))] rfl [] (St.refl _) ?_
  refine wc_seq ?_
  refine wc_region ?_
  refine wl_q rfl rfl rfl (qt_p tbok rfl) ?_
  refine wl_done ?_
  refine nk_code ?_
  refine wc_seq ?_
  refine wc_region ?_
  refine wl_q rfl rfl rfl (qt_p tbok rfl) ?_
  refine wl_q rfl rfl rfl (qt_p tbok rfl) ?_
  refine wl_q rfl rfl rfl (qt_p tbok rfl) ?_
  refine wl_q rfl rfl rfl (qt_p tbok rfl) ?_
  refine wl_ef rfl (ef_pure (v := .c (.i64 2)) (by kernel_rfl) rfl rfl (fun w1 g1 => h91 w1) ?_)
  refine wl_q rfl rfl rfl (qt_p tbok rfl) ?_
  refine wl_done ?_
  refine nk_code ?_
  refine wc_ret ?_
  try dsimp only
  exact fin1 rfl (rv_tmp rfl) (fun w' hw => ⟨rfl, hw⟩)
end Go.Proofs.Ytjhmcmadleabjaa
