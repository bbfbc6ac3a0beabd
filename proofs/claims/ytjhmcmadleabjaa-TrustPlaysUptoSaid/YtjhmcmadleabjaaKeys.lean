/- keys.New, Public, Left, Skip, Sign and hallmarkref05.Leaves, Sign: what they make and change. -/
import Derived.Test.YtjhmcmadleabjaaSigns
import Derived.Test.YtjhmcmadleabjaaFrameB
set_option linter.unusedVariables false
set_option maxRecDepth 100000
namespace Go.Proofs.Ytjhmcmadleabjaa
open Go Go.Hw Go.Proofs

/-- A key's cells; its leaves. -/
def kcs (sd : List UInt8) (h : Nat) (x : Os) (m nx : Nat) : List C := bc sd ++ ([.i64 (h : Int), .slc x.1 m x.2.1, .i64 (nx : Int)])
abbrev kb (kr : Nat) (sd : List UInt8) (h : Nat) (x : Os) (m nx : Nat) : Blk := ⟨.at kr 0, kcs sd h x m nx, 135, (0, 0), []⟩
def lvs (sd : List UInt8) (m : Nat) : List (List UInt8) := (List.range m).map fun (i : Nat) => leafH (pubH sd (UInt32.ofInt (i : Int)))
theorem lvs_len (sd : List UInt8) (m : Nat) : (lvs sd m).length = m := by simp [lvs]
theorem lvs_A (sd : List UInt8) (m : Nat) : A32 (lvs sd m) := fun s hs => by
  simp only [lvs, List.mem_map] at hs
  obtain ⟨i, _, rfl⟩ := hs
  rfl
theorem lvs_succ (sd : List UInt8) (m : Nat) : lvs sd (m + 1) = lvs sd m ++ [leafH (pubH sd (UInt32.ofInt (m : Int)))] := by
  simp [lvs, List.range_succ]
theorem leafH_blen (p : List UInt8) : (bc (leafH p)).length = 32 := by rw [bc_len]; exact sha_len _
theorem kcs_len {sd : List UInt8} (hs : sd.length = 32) (h : Nat) (x : Os) (m nx : Nat) : (kcs sd h x m nx).length = 35 := by simp [kcs, bc_len, hs]
theorem kcs_seed {sd : List UInt8} (h : Nat) (x : Os) (m nx : Nat) : ∀ (i : Nat) (c : C), (bc sd)[i]? = some c → (kcs sd h x m nx)[0 + i]? = some c := fun i c hi => by
  rw [Nat.zero_add]; unfold kcs; rw [List.getElem?_append_left (List.getElem?_eq_some_iff.1 hi).1]; exact hi
theorem kcs_get {sd : List UInt8} (hs : sd.length = 32) (h : Nat) (x : Os) (m nx : Nat) : (kcs sd h x m nx)[32]? = some (.i64 (h : Int)) ∧ (kcs sd h x m nx)[33]? = some (.slc x.1 m x.2.1) ∧ (kcs sd h x m nx)[34]? = some (.i64 (nx : Int)) := by
  have hl : (bc sd).length = 32 := by rw [bc_len, hs]
  unfold kcs
  refine ⟨?_, ?_, ?_⟩ <;> rw [List.getElem?_append_right (by omega), hl] <;> rfl
theorem kcs_setL {sd : List UInt8} (hs : sd.length = 32) (h : Nat) (x y : Os) (m m2 nx : Nat) : spl (kcs sd h x m nx) 33 [.slc y.1 m2 y.2.1] = kcs sd h y m2 nx := by
  have hl : (bc sd).length = 32 := by rw [bc_len, hs]
  have e : ∀ (z : Os) (k : Nat), kcs sd h z k nx = (bc sd ++ [.i64 (h : Int)]) ++ ([.slc z.1 k z.2.1] ++ [.i64 (nx : Int)]) := fun z k => by simp [kcs]
  rw [e, e]; exact spl_at (by simp [hl]) rfl
theorem kcs_setN {sd : List UInt8} (hs : sd.length = 32) (h : Nat) (x : Os) (m nx n2 : Nat) : spl (kcs sd h x m nx) 34 [.i64 (n2 : Int)] = kcs sd h x m n2 := by
  have hl : (bc sd).length = 32 := by rw [bc_len, hs]
  have e : ∀ (k : Nat), kcs sd h x m k = (bc sd ++ [.i64 (h : Int), .slc x.1 m x.2.1]) ++ ([.i64 (k : Int)] ++ []) := fun k => by simp [kcs]
  rw [e, e]; exact spl_at (by simp [hl]) rfl
def z135 : List C := bc (List.replicate 32 0) ++ [.i64 0, .slc .nil 0 0, .i64 0]
theorem zero135 : zeroIs Try.prog 135 (.agg z135) := by unfold zeroIs; kernel_rfl
theorem kfill135 {sd : List UInt8} (hs : sd.length = 32) (h : Nat) : fillS (placeF [(30, 0, 32), (3, 32, 1), (36, 33, 1), (3, 34, 1)]) z135 [(0, .agg (bc sd)), (1, .c (.i64 (h : Int)))] = some (kcs sd h (.nil, 0, []) 0 0) := by
  have hl : (bc sd).length = 32 := by rw [bc_len, hs]
  refine fillS_cons (off := 0) (z := 32) (cs' := bc sd ++ ([.i64 0] ++ [.slc .nil 0 0, .i64 0])) rfl rfl hl (Nat.le_of_ble_eq_true rfl) ?_ ?_
  · exact spl_at (A := []) (B := bc (List.replicate 32 0)) (D := [.i64 0, .slc .nil 0 0, .i64 0]) rfl hl
  refine fillS_cons (off := 32) (z := 1) (cs' := bc sd ++ ([.i64 (h : Int)] ++ [.slc .nil 0 0, .i64 0])) rfl rfl rfl (by simp [hl]) ?_ rfl
  exact spl_at hl.symm rfl

theorem new_c {w : World} {sd : List UInt8} {h : Nat} (hs : sd.length = 32) (hh : h ≤ 6) :
    CallsV Try.prog 21 [.agg (bc sd), .c (.i64 (h : Int))] w fun en w' => ∃ x : Nat × Os, en = .returned (V.t2 (.c (.ptr (.at x.1 0))) (.c (.i64 0))).den ∧ OwnS x.2.1 (pw h) x.2.2.1 32 (bc (lvs sd (pw h)).flatten) x.2.2.2 ∧ (∀ k, (dob 30 (lvs sd (pw h)) x.2).key = some k → w.heap.size ≤ k) ∧ (∀ k, (kb x.1 sd h x.2 (pw h) 0).key = some k → w.heap.size ≤ k) ∧ St w [dob 30 (lvs sd (pw h)) x.2, kb x.1 sd h x.2 (pw h) 0] w' := by
  have hsl : (bc sd).length = 32 := by rw [bc_len, hs]
  have hp6 : pw h ≤ 64 := pw_mono hh
  have hq : (2 : Int) ^ h = ((pw h : Nat) : Int) := by rw [pw_two]; simp
  refine calls_in (tb := tb) (fn := Try.f21) Try.func21 rfl rfl rfl [(0, .agg (bc sd)), (1, .c (.i64 (h : Int)))] rfl [] (St.refl _) ?_
  refine wc_seq ?_
  refine wc_region ?_
  refine wl_ef rfl (ef_box rfl rfl rfl (fun b hb => ?_))
  refine wl_q rfl rfl rfl (qt_p tbok rfl) ?_
  refine wl_q rfl rfl rfl (qt_p tbok rfl) ?_
  refine wl_done ?_
  refine nk_code ?_
  refine wc_seq ?_
  refine wc_seq ?_
  refine wc_region ?_
  refine wl_q rfl rfl rfl (qt_p tbok rfl) ?_
  refine wl_q rfl rfl rfl (qt_p tbok rfl) ?_
  refine wl_as (v' := .c (.bool false)) (congrArg (fun b => V.c (C.bool b)) (decide_eq_false (by omega))) ?_
  refine wl_q rfl rfl rfl (qt_p tbok rfl) ?_
  first | refine wl_g rfl rfl rfl rfl (qt_p tbok rfl) ?_ | refine wl_skip rfl rfl rfl rfl rfl ?_
  first | refine wl_g rfl rfl rfl rfl (qt_p tbok rfl) ?_ | refine wl_skip rfl rfl rfl rfl rfl ?_
  refine wl_as (v' := .c (.bool false)) (congrArg (fun b => V.c (C.bool b)) (decide_eq_false (by omega))) ?_
  refine wl_q rfl rfl rfl (qt_p tbok rfl) ?_
  refine wl_done ?_
  refine nk_code ?_
  refine wc_no rfl ?_
  refine wc_skip ?_
  refine nk_code ?_
  refine wc_seq ?_
  refine wc_region ?_
  refine wl_q rfl rfl rfl (qt_load_ag (l := bc sd) tbok rfl rfl rfl hsl (rs_lk .here at0)) ?_
  refine wl_q rfl rfl rfl (qt_p tbok rfl) ?_
  refine wl_q rfl rfl rfl (qt_build tbok rfl zero135 rfl (kfill135 hs h)) ?_
  refine wl_ef rfl (ef_box rfl rfl rfl (fun kr hkr => ?_))
  refine wl_q rfl rfl rfl (qt_p tbok rfl) ?_
  refine wl_done ?_
  refine nk_code ?_
  refine wc_seq ?_
  refine wc_seq ?_
  refine wc_region ?_
  refine wl_q rfl rfl rfl (qt_p tbok rfl) ?_
  refine wl_q rfl rfl rfl (qt_pure tbok rfl (by rw [Int.toNat_natCast, Int.one_mul, hq]; refine And.intro ?_ (And.intro ?_ (And.intro ?_ ?_)) <;> omega)) ?_
  refine wl_as (v' := .c (.i64 (pw h : Int))) (congrArg (fun z => V.c (C.i64 z)) (by rw [Int.toNat_natCast, Int.one_mul, hq])) ?_
  refine wl_q rfl rfl rfl (qt_p tbok rfl) ?_
  refine wl_done ?_
  refine nk_code ?_
  refine wc_block ?_
  refine wc_loop (ι := Nat × Os) (fun i => i.1 ≤ pw h ∧ OwnS i.2.1 i.1 i.2.2.1 32 (bc (lvs sd i.1).flatten) i.2.2.2 ∧ (∀ k, i.2.1.key = some k → w.heap.size ≤ k)) (fun i => [(20, .c (.i64 (i.1 : Int))), (19, .c (.i64 (pw h : Int))), (6, .c (.ptr (.at kr 0))), (2, .c (.ptr (.at b 0)))]) (fun i => [dob 30 (lvs sd i.1) i.2, kb kr sd h i.2 i.1 0, ⟨.at b 0, bc sd, 30, (0, 0), []⟩]) (fun i => pw h - i.1) (0, .nil, 0, []) ⟨Nat.zero_le _, doi_nil, nil_new⟩ (nk_start ⟨rfl, rfl, rfl, rfl, trivial⟩ (fun w hw => st_none hw)) (fun ⟨i, x⟩ ⟨hi, hx, hkx⟩ => ?_)
  replace hi : i ≤ pw h := hi
  replace hx : OwnS x.1 i x.2.1 32 (bc (lvs sd i).flatten) x.2.2 := hx
  replace hkx : ∀ k, x.1.key = some k → w.heap.size ≤ k := hkx
  have hg := kcs_get hs h x i 0
  have hkl := kcs_len hs h x i 0
  dsimp only
  refine wc_seq ?_
  refine wc_region ?_
  refine wl_q rfl rfl rfl (qt_p tbok rfl) ?_
  refine wl_done ?_
  refine nk_code ?_
  refine wc_seq ?_
  refine wc_cond rfl (fun h21 => ?_) (fun h21 => ?_)
  · have hi' : i < pw h := (by have h0 := of_decide_eq_true h21; omega)
    have hpl := pubH_blen sd (UInt32.ofInt (i : Int))
    have hll := leafH_blen (pubH sd (UInt32.ofInt (i : Int)))
    refine wc_skip ?_
    refine nk_code ?_
    refine wc_seq ?_
    refine wc_block ?_
    refine wc_seq ?_
    refine wc_region ?_
    refine wl_q rfl rfl rfl (qt_p tbok rfl) ?_
    refine wl_q rfl rfl rfl (qt_p tbok rfl) ?_
    refine wl_done ?_
    refine nk_code ?_
    refine wc_draw (s0 := [kb kr sd h x i 0, ⟨.at b 0, bc sd, 30, (0, 0), []⟩]) 14 follows ?_
    refine wh_q 0 rfl (by kernel_rfl) rfl rfl rfl (qt_p tbok rfl) (fun w hw => hw.tail hkx) ?_
    refine wh_q 1 rfl (by kernel_rfl) rfl rfl rfl (qt_p tbok rfl) (fun w hw => hw.tail hkx) ?_
    refine wh_q 2 rfl (by kernel_rfl) rfl rfl rfl (qt_p tbok rfl) (fun w hw => hw.tail hkx) ?_
    refine wh_q 3 rfl (by kernel_rfl) rfl rfl rfl (qt_p tbok rfl) (fun w hw => hw.tail hkx) ?_
    refine wh_q 4 rfl (by kernel_rfl) rfl rfl rfl (qt_load tbok rfl rfl rfl (rc_lk .here hg.2.1)) (fun w hw => hw.tail hkx) ?_
    refine wh_q 5 rfl (by kernel_rfl) rfl rfl rfl (qt_load_ag (l := bc sd) tbok rfl rfl rfl hsl (rs_lk (.there .here) at0)) (fun w hw => hw.tail hkx) ?_
    refine wh_q 6 rfl (by kernel_rfl) rfl rfl rfl (qt_p tbok rfl) (fun w hw => hw.tail hkx) ?_
    refine wh_q 7 rfl (by kernel_rfl) rfl rfl rfl (qt_p tbok rfl) (fun w hw => hw.tail hkx) ?_
    refine wh_one 8 (by kernel_rfl) (wo_ef rfl rfl (ef_pure (v := .agg (bc (pubH sd (UInt32.ofInt (i : Int))))) (by kernel_rfl) rfl rfl (fun w1 _ => pub72_c hs) ⟨fun w hw => hw.tail hkx, ?_⟩))
    refine wh_one 9 (by kernel_rfl) (wo_ef rfl rfl (ef_pure (v := .agg (bc (leafH (pubH sd (UInt32.ofInt (i : Int)))))) (by kernel_rfl) rfl rfl (fun w1 _ => kleaf_c (pubH_len _ _)) ⟨fun w hw => hw.tail hkx, ?_⟩))
    refine wh_one 10 (by kernel_rfl) (wo_ef rfl rfl (ef_buildSlice (vs := [(0, .agg (bc (leafH (pubH sd (UInt32.ofInt (i : Int))))))]) (l := bc (leafH (pubH sd (UInt32.ofInt (i : Int))))) tbok rfl zero30 rfl rfl rfl (by decide) (fill_one rfl hll) rfl (fun br hb2 => ⟨fun w hw => (hw.tail (newKey hb2)).tail hkx, ?_⟩)))
    refine wh_one 11 (by kernel_rfl) (wo_ef rfl rfl (ef_append tbok rfl el30 zero30 rfl rfl rfl (.there .here) hx hkx (m := 1) (news := bc (leafH (pubH sd (UInt32.ofInt (i : Int))))) hll (rs_lk .here at0) (by omega) (by simp only [maxLen]; omega) (fun a2 c2 t2 hown2 hk2 hnn _ => ⟨fun w hw => (hw.tail hk2).tail (newKey hb2), ?_⟩)))
    refine wh_one 12 (by kernel_rfl) (wo_ef rfl rfl (ef_q rfl rfl (qt_p tbok rfl) ⟨fun w hw => (hw.tail hk2).tail (newKey hb2), ?_⟩))
    refine wh_q 13 rfl (by kernel_rfl) rfl rfl rfl (qt_p tbok rfl) (fun w hw => (hw.tail hk2).tail (newKey hb2)) ?_
    refine wh_one 14 (by kernel_rfl) (wo_fin rfl rfl (ef_store (cs' := kcs sd h (a2, c2, t2) (i + 1) 0) tbok rfl rfl rfl rfl (.there (.there .here)) rfl (by rw [hkl]; decide) (kcs_setL hs h x (a2, c2, t2) i (i + 1) 0) ?_))
    refine wh_done (by kernel_rfl) ?_
    refine nk_code ?_
    refine wc_region ?_
    refine wl_q rfl rfl rfl (qt_p tbok rfl) ?_
    refine wl_q rfl rfl rfl (qt_p tbok rfl) ?_
    refine wl_done ?_
    exact nk_round (i := (i, x)) (i + 1, a2, c2, t2) ⟨hi', by show OwnS a2 (i + 1) c2 32 (bc (lvs sd (i + 1)).flatten) t2; rw [lvs_succ, ← flat_snoc]; exact hown2, hk2⟩ (by show pw h - (i + 1) < pw h - i; omega) ⟨rfl, rfl, rfl, rfl, trivial⟩ (fun w hw => by have h2 := Rm.sub_St hw (.there .here) (newKey hb2); rw [flat_snoc, ← lvs_succ] at h2; exact h2)
  · have he : i = pw h := (by have h0 := of_decide_eq_false h21; omega)
    refine wc_exit rfl ?_
    refine nk_code ?_
    refine wc_seq ?_
    refine wc_region ?_
    refine wl_q rfl rfl rfl (qt_p tbok rfl) ?_
    refine wl_q rfl rfl rfl (qt_p tbok rfl) ?_
    refine wl_q rfl rfl rfl (qt_p tbok rfl) ?_
    refine wl_done ?_
    refine nk_code ?_
    refine wc_ret ?_
    try dsimp only
    subst he
    exact fin2 rfl (rv_tmp rfl) (rv_tmp rfl) (fun w' hw => ⟨(kr, x), rfl, hx, hkx, newKey hkr, Rm.sub_St hw (.there (.there .here)) (newKey hb)⟩)
end Go.Proofs.Ytjhmcmadleabjaa

set_option maxRecDepth 100000
namespace Go.Proofs.Ytjhmcmadleabjaa
open Go Go.Hw Go.Proofs

def z33 : List C := .i64 0 :: bc (List.replicate 32 0)
theorem zero32 : zeroIs Try.prog 32 (.agg z33) := by unfold zeroIs; kernel_rfl
theorem zero24 : zeroIs Try.prog 24 (.agg z33) := by unfold zeroIs; kernel_rfl
theorem pfill {T : Nat} {h : Int} {l : List C} (hl : l.length = 32) : fillS (placeF [(3, 0, 1), (T, 1, 32)]) z33 [(0, .c (.i64 h)), (1, .agg l)] = some (.i64 h :: l) := by
  refine fillS_cons (off := 0) (z := 1) (cs' := .i64 h :: bc (List.replicate 32 0)) rfl rfl rfl (Nat.le_of_ble_eq_true rfl) rfl ?_
  refine fillS_cons (off := 1) (z := 32) (cs' := .i64 h :: l) rfl rfl hl (Nat.le_of_ble_eq_true rfl) ?_ rfl
  have := spl_at (A := [C.i64 h]) (B := bc (List.replicate 32 0)) (D := []) (l := l) (off := 1) rfl (by rw [hl]; rfl)
  rw [List.append_nil, List.append_nil] at this
  exact this

theorem newbad_c {w : World} {sd : List UInt8} {h : Int} (hs : sd.length = 32) (hh : h < 0 ∨ 6 < h) :
    CallsV Try.prog 21 [.agg (bc sd), .c (.i64 h)] w fun en w' => en = .returned (V.t2 (.c (.ptr .nil)) (.c (.i64 1))).den ∧ St w [] w' := by
  by_cases h0 : h < 0
  · refine calls_in (tb := tb) (fn := Try.f21) Try.func21 rfl rfl rfl [(0, .agg (bc sd)), (1, .c (.i64 h))] rfl [] (St.refl _) ?_
    refine wc_seq ?_
    refine wc_region ?_
    refine wl_ef rfl (ef_box rfl rfl rfl (fun b hb => ?_))
    refine wl_q rfl rfl rfl (qt_p tbok rfl) ?_
    refine wl_q rfl rfl rfl (qt_p tbok rfl) ?_
    refine wl_done ?_
    refine nk_code ?_
    refine wc_seq ?_
    refine wc_seq ?_
    refine wc_region ?_
    refine wl_q rfl rfl rfl (qt_p tbok rfl) ?_
    refine wl_q rfl rfl rfl (qt_p tbok rfl) ?_
    refine wl_as (v' := .c (.bool true)) (congrArg (fun b => V.c (C.bool b)) (decide_eq_true h0)) ?_
    refine wl_q rfl rfl rfl (qt_p tbok rfl) ?_
    refine wl_skip rfl rfl rfl rfl rfl ?_
    refine wl_skip rfl rfl rfl rfl rfl ?_
    refine wl_q rfl rfl rfl (qt_p tbok rfl) ?_
    refine wl_done ?_
    refine nk_code ?_
    refine wc_yes rfl ?_
    refine wc_seq ?_
    refine wc_region ?_
    refine wl_q rfl rfl rfl (qt_p tbok rfl) ?_
    refine wl_q rfl rfl rfl (qt_p tbok rfl) ?_
    refine wl_done ?_
    refine nk_code ?_
    refine wc_ret ?_
    try dsimp only
    exact fin2 rfl (rv_tmp rfl) (rv_tmp rfl) (fun w' hw => ⟨rfl, hw.all (new_cons (newKey hb) new_nil)⟩)
  · refine calls_in (tb := tb) (fn := Try.f21) Try.func21 rfl rfl rfl [(0, .agg (bc sd)), (1, .c (.i64 h))] rfl [] (St.refl _) ?_
    refine wc_seq ?_
    refine wc_region ?_
    refine wl_ef rfl (ef_box rfl rfl rfl (fun b hb => ?_))
    refine wl_q rfl rfl rfl (qt_p tbok rfl) ?_
    refine wl_q rfl rfl rfl (qt_p tbok rfl) ?_
    refine wl_done ?_
    refine nk_code ?_
    refine wc_seq ?_
    refine wc_seq ?_
    refine wc_region ?_
    refine wl_q rfl rfl rfl (qt_p tbok rfl) ?_
    refine wl_q rfl rfl rfl (qt_p tbok rfl) ?_
    refine wl_as (v' := .c (.bool false)) (congrArg (fun b => V.c (C.bool b)) (decide_eq_false h0)) ?_
    refine wl_q rfl rfl rfl (qt_p tbok rfl) ?_
    first | refine wl_g rfl rfl rfl rfl (qt_p tbok rfl) ?_ | refine wl_skip rfl rfl rfl rfl rfl ?_
    first | refine wl_g rfl rfl rfl rfl (qt_p tbok rfl) ?_ | refine wl_skip rfl rfl rfl rfl rfl ?_
    refine wl_as (v' := .c (.bool true)) (congrArg (fun b => V.c (C.bool b)) (decide_eq_true (by omega))) ?_
    refine wl_q rfl rfl rfl (qt_p tbok rfl) ?_
    refine wl_done ?_
    refine nk_code ?_
    refine wc_yes rfl ?_
    refine wc_seq ?_
    refine wc_region ?_
    refine wl_q rfl rfl rfl (qt_p tbok rfl) ?_
    refine wl_q rfl rfl rfl (qt_p tbok rfl) ?_
    refine wl_done ?_
    refine nk_code ?_
    refine wc_ret ?_
    try dsimp only
    exact fin2 rfl (rv_tmp rfl) (rv_tmp rfl) (fun w' hw => ⟨rfl, hw.all (new_cons (newKey hb) new_nil)⟩)

theorem leaves_c {w : World} {sd : List UInt8} {h : Nat} (hs : sd.length = 32) (hh : h ≤ 6) :
    CallsV Try.prog 22 [.agg (bc sd), .c (.i64 (h : Int))] w fun en w' => ∃ x : Os, en = .returned (V.c (.slc x.1 (pw h) x.2.1)).den ∧ OwnS x.1 (pw h) x.2.1 32 (bc (lvs sd (pw h)).flatten) x.2.2 ∧ (∀ k, (dob 22 (lvs sd (pw h)) x).key = some k → w.heap.size ≤ k) ∧ St w [dob 22 (lvs sd (pw h)) x] w' := by
  have hsl : (bc sd).length = 32 := by rw [bc_len, hs]
  have hp6 : pw h ≤ 64 := pw_mono hh
  have hq : (2 : Int) ^ h = ((pw h : Nat) : Int) := by rw [pw_two]; simp
  have hu : UInt64.ofInt (h : Int) = UInt64.ofNat h := u64_ofInt h
  have hn : (UInt64.ofNat h).toNat = h := by simp; omega
  refine calls_in (tb := tb) (fn := Try.f22) Try.func22 rfl rfl rfl [(0, .agg (bc sd)), (1, .c (.i64 (h : Int)))] rfl [] (St.refl _) ?_
  refine wc_seq ?_
  refine wc_region ?_
  refine wl_ef rfl (ef_box rfl rfl rfl (fun b hb => ?_))
  refine wl_q rfl rfl rfl (qt_p tbok rfl) ?_
  refine wl_done ?_
  refine nk_code ?_
  refine wc_seq ?_
  refine wc_region ?_
  refine wl_q rfl rfl rfl (qt_p tbok rfl) ?_
  refine wl_done ?_
  refine nk_code ?_
  refine wc_seq ?_
  refine wc_seq ?_
  refine wc_region ?_
  refine wl_q rfl rfl rfl (qt_p tbok rfl) ?_
  refine wl_done ?_
  refine nk_code ?_
  refine wc_block ?_
  refine wc_loop (ι := Nat × Os) (fun i => i.1 ≤ pw h ∧ OwnS i.2.1 i.1 i.2.2.1 32 (bc (lvs sd i.1).flatten) i.2.2.2 ∧ (∀ k, i.2.1.key = some k → w.heap.size ≤ k)) (fun i => [(6, .c (.i64 (i.1 : Int))), (1, .c (.i64 (h : Int))), (5, .c (.slc i.2.1 i.1 i.2.2.1)), (2, .c (.ptr (.at b 0)))]) (fun i => [dob 22 (lvs sd i.1) i.2, ⟨.at b 0, bc sd, 22, (0, 0), []⟩]) (fun i => pw h - i.1) (0, .nil, 0, []) ⟨Nat.zero_le _, doi_nil, nil_new⟩ (nk_start ⟨rfl, rfl, rfl, rfl, trivial⟩ (fun w hw => st_none hw)) (fun ⟨i, x⟩ ⟨hi, hx, hkx⟩ => ?_)
  replace hi : i ≤ pw h := hi
  replace hx : OwnS x.1 i x.2.1 32 (bc (lvs sd i).flatten) x.2.2 := hx
  replace hkx : ∀ k, x.1.key = some k → w.heap.size ≤ k := hkx
  dsimp only
  refine wc_seq ?_
  refine wc_seq ?_
  refine wc_region ?_
  refine wl_q rfl rfl rfl (qt_p tbok rfl) ?_
  refine wl_q rfl rfl rfl (qt_p tbok rfl) ?_
  refine wl_q rfl rfl rfl (qt_p tbok rfl) ?_
  refine wl_as (v' := .c (.u64 (UInt64.ofNat h))) (congrArg (fun z => V.c (C.u64 z)) hu) ?_
  refine wl_q rfl rfl rfl (qt_pure tbok rfl (by rw [hn, Int.toNat_natCast, Int.one_mul, hq]; refine And.intro ?_ (And.intro ?_ (And.intro ?_ ?_)) <;> omega)) ?_
  refine wl_as (v' := .c (.i64 (pw h : Int))) (congrArg (fun z => V.c (C.i64 z)) (by rw [hn, Int.toNat_natCast, Int.one_mul, hq])) ?_
  refine wl_q rfl rfl rfl (qt_p tbok rfl) ?_
  refine wl_done ?_
  refine nk_code ?_
  refine wc_cond rfl (fun h11 => ?_) (fun h11 => ?_)
  · have hi' : i < pw h := (by have h0 := of_decide_eq_true h11; omega)
    have hpl := pubH_blen sd (UInt32.ofInt (i : Int))
    have hll := leafH_blen (pubH sd (UInt32.ofInt (i : Int)))
    refine wc_skip ?_
    refine nk_code ?_
    refine wc_seq ?_
    refine wc_block ?_
    refine wc_region ?_
    refine wl_q rfl rfl rfl (qt_p tbok rfl) ?_
    refine wl_q rfl rfl rfl (qt_load_ag (l := bc sd) tbok rfl rfl rfl hsl (rs_lk (.there .here) at0)) ?_
    refine wl_q rfl rfl rfl (qt_p tbok rfl) ?_
    refine wl_q rfl rfl rfl (qt_p tbok rfl) ?_
    refine wl_ef rfl (ef_pure (v := .agg (bc (pubH sd (UInt32.ofInt (i : Int))))) (by kernel_rfl) rfl rfl (fun w1 _ => pub73_c hs) ?_)
    refine wl_ef rfl (ef_pure (v := .agg (bc (leafH (pubH sd (UInt32.ofInt (i : Int)))))) (by kernel_rfl) rfl rfl (fun w1 _ => kleaf2_c (pubH_len _ _)) ?_)
    refine wl_ef rfl (ef_buildSlice (vs := [(0, .agg (bc (leafH (pubH sd (UInt32.ofInt (i : Int))))))]) (l := bc (leafH (pubH sd (UInt32.ofInt (i : Int))))) tbok rfl zero22 rfl rfl rfl (by decide) (fill_one rfl hll) rfl (fun br hb2 => ?_))
    refine wl_ef rfl (ef_append tbok rfl el22 zero22 rfl rfl rfl (.there .here) hx hkx (m := 1) (news := bc (leafH (pubH sd (UInt32.ofInt (i : Int))))) hll (rs_lk .here at0) (by omega) (by simp only [maxLen]; omega) (fun a2 c2 t2 hown2 hk2 hnn _ => ?_))
    refine wl_q rfl rfl rfl (qt_p tbok rfl) ?_
    refine wl_done ?_
    refine nk_code ?_
    refine wc_region ?_
    refine wl_q rfl rfl rfl (qt_p tbok rfl) ?_
    refine wl_q rfl rfl rfl (qt_p tbok rfl) ?_
    refine wl_q rfl rfl rfl (qt_p tbok rfl) ?_
    refine wl_done ?_
    exact nk_round (i := (i, x)) (i + 1, a2, c2, t2) ⟨hi', by show OwnS a2 (i + 1) c2 32 (bc (lvs sd (i + 1)).flatten) t2; rw [lvs_succ, ← flat_snoc]; exact hown2, hk2⟩ (by show pw h - (i + 1) < pw h - i; omega) ⟨rfl, rfl, rfl, rfl, trivial⟩ (fun w hw => by have h2 := Rm.sub_St hw (.there .here) (newKey hb2); rw [flat_snoc, ← lvs_succ] at h2; exact h2)
  · have he : i = pw h := (by have h0 := of_decide_eq_false h11; omega)
    refine wc_exit rfl ?_
    refine nk_code ?_
    refine wc_seq ?_
    refine wc_region ?_
    refine wl_q rfl rfl rfl (qt_p tbok rfl) ?_
    refine wl_q rfl rfl rfl (qt_p tbok rfl) ?_
    refine wl_done ?_
    refine nk_code ?_
    refine wc_ret ?_
    try dsimp only
    subst he
    exact fin1 rfl (rv_tmp rfl) (fun w' hw => ⟨x, rfl, hx, hkx, Rm.sub_St hw (.there .here) (newKey hb)⟩)

theorem public_c {w : World} {sd : List UInt8} {h kr nx : Nat} {L : List (List UInt8)} {x : Os} (hs : sd.length = 32) (hh : h ≤ 6) (hk : Cells w (.at kr 0) (kcs sd h x (pw h) nx)) (hA : A32 L) (hl : L.length = pw h) (hcap : pw h ≤ x.2.1) (hc : Cells w x.1 (bc L.flatten)) :
    CallsV Try.prog 23 [.c (.ptr (.at kr 0))] w fun en w' => en = .returned (V.agg (.i64 (h : Int) :: bc (rootT h L))).den ∧ St w [] w' := by
  have hg := kcs_get hs h x (pw h) nx
  have hrl : (bc (rootT h L)).length = 32 := by rw [bc_len, rootT_len h hA hl]
  have hk2 := fun (s : Hp) (ho : Off w (.at kr 0) s) => rs_cells hk ho
  refine calls_in (tb := tb) (fn := Try.f23) Try.func23 rfl rfl rfl [(0, .c (.ptr (.at kr 0)))] rfl [] (St.refl _) ?_
  refine wc_seq ?_
  refine wc_region ?_
  refine wl_ef rfl (ef_alloc zero32 rfl rfl (fun o ho => ?_))
  refine wl_done ?_
  refine nk_code ?_
  refine wc_seq ?_
  refine wc_seq ?_
  refine wc_region ?_
  refine wl_q rfl rfl rfl (qt_p tbok rfl) ?_
  first | refine wl_q rfl rfl rfl (qt_p tbok rfl) ?_ | refine wl_q rfl rfl rfl (qt_eqn tbok rfl rfl rfl) ?_
  refine wl_done ?_
  refine nk_code ?_
  refine wc_no rfl ?_
  refine wc_skip ?_
  refine nk_code ?_
  refine wc_seq ?_
  refine wc_tail 10 follows (by kernel_rfl) ?_
  refine wq_q rfl rfl rfl (qt_p tbok rfl) ?_
  refine wq_q rfl rfl rfl (qt_p tbok rfl) ?_
  refine wq_q rfl rfl rfl (qt_p tbok rfl) ?_
  refine wq_q rfl rfl rfl (qt_load tbok rfl rfl rfl (rc_cells hk hg.1 (off_new (newKey ho) off_nil))) ?_
  refine wq_q rfl rfl rfl (qt_p tbok rfl) ?_
  refine wq_q rfl rfl rfl (qt_p tbok rfl) ?_
  refine wq_q rfl rfl rfl (qt_p tbok rfl) ?_
  refine wq_q rfl rfl rfl (qt_load tbok rfl rfl rfl (rc_cells hk hg.2.1 (off_new (newKey ho) off_nil))) ?_
  refine wq_call (.agg (bc (rootT h L))) (by kernel_rfl) rfl rfl (fun w1 h1 => root74_c h hA hl (by omega) (by rw [hl]; exact hcap) (cells_rd (rd_cells hc (off_new (newKey ho) off_nil)) h1)) ?_
  refine wq_q rfl rfl rfl (qt_build (vs := [(0, .c (.i64 (h : Int))), (1, .agg (bc (rootT h L)))]) tbok rfl zero32 rfl (pfill hrl)) ?_
  refine wq_done ?_
  refine wl_ef rfl (ef_store (cs' := .i64 (h : Int) :: bc (rootT h L)) tbok rfl rfl rfl rfl .here (by show (C.i64 (h : Int) :: bc (rootT h L)).length = 33; rw [List.length_cons, hrl]) (Nat.le_of_ble_eq_true rfl) (spl_all (by show (C.i64 (h : Int) :: bc (rootT h L)).length = _; rw [List.length_cons, hrl]; rfl)) ?_)
  refine wl_done ?_
  refine nk_code ?_
  refine wc_ret ?_
  try dsimp only
  exact fin1 rfl (rv_ag (l := .i64 (h : Int) :: bc (rootT h L)) tbok rfl rfl rfl (by rw [List.length_cons, hrl]) (rs_lk .here at0)) (fun w' hw => ⟨rfl, hw.all (new_cons (newKey ho) new_nil)⟩)
theorem publicnil_c {w : World} : CallsV Try.prog 23 [.c (.ptr .nil)] w fun en w' => en = .returned (V.agg (.i64 0 :: bc (List.replicate 32 0))).den ∧ St w [] w' := by
  refine calls_in (tb := tb) (fn := Try.f23) Try.func23 rfl rfl rfl [(0, .c (.ptr .nil))] rfl [] (St.refl _) ?_
  refine wc_seq ?_
  refine wc_region ?_
  refine wl_ef rfl (ef_alloc zero32 rfl rfl (fun o ho => ?_))
  refine wl_done ?_
  refine nk_code ?_
  refine wc_seq ?_
  refine wc_seq ?_
  refine wc_region ?_
  refine wl_q rfl rfl rfl (qt_p tbok rfl) ?_
  first | refine wl_q rfl rfl rfl (qt_p tbok rfl) ?_ | refine wl_q rfl rfl rfl (qt_eqn tbok rfl rfl rfl) ?_
  refine wl_done ?_
  refine nk_code ?_
  refine wc_yes rfl ?_
  refine wc_seq ?_
  refine wc_region ?_
  refine wl_q rfl rfl rfl (qt_build (vs := []) (l := .i64 0 :: bc (List.replicate 32 0)) tbok rfl zero32 rfl rfl) ?_
  refine wl_ef rfl (ef_store (cs' := .i64 0 :: bc (List.replicate 32 0)) tbok rfl rfl rfl rfl .here rfl (Nat.le_of_ble_eq_true rfl) (spl_all rfl) ?_)
  refine wl_done ?_
  refine nk_code ?_
  refine wc_ret ?_
  try dsimp only
  exact fin1 rfl (rv_ag (l := .i64 0 :: bc (List.replicate 32 0)) tbok rfl rfl rfl rfl (rs_lk .here at0)) (fun w' hw => ⟨rfl, hw.all (new_cons (newKey ho) new_nil)⟩)

theorem left_c {w : World} {sd : List UInt8} {h kr m nx : Nat} {x : Os} (hs : sd.length = 32) (hm : m ≤ 1024) (hn : nx ≤ m) (hk : Cells w (.at kr 0) (kcs sd h x m nx)) :
    CallsV Try.prog 24 [.c (.ptr (.at kr 0))] w fun en w' => en = .returned (V.c (.i64 ((m - nx : Nat) : Int))).den ∧ St w [] w' := by
  have hg := kcs_get hs h x m nx
  refine calls_in (tb := tb) (fn := Try.f24) Try.func24 rfl rfl rfl [(0, .c (.ptr (.at kr 0)))] rfl [] (St.refl _) ?_
  refine wc_seq ?_
  refine wc_region ?_
  refine wl_q rfl rfl rfl (qt_p tbok rfl) ?_
  refine wl_done ?_
  refine nk_code ?_
  refine wc_seq ?_
  refine wc_seq ?_
  refine wc_region ?_
  refine wl_q rfl rfl rfl (qt_p tbok rfl) ?_
  first | refine wl_q rfl rfl rfl (qt_p tbok rfl) ?_ | refine wl_q rfl rfl rfl (qt_eqn tbok rfl rfl rfl) ?_
  refine wl_done ?_
  refine nk_code ?_
  refine wc_no rfl ?_
  refine wc_skip ?_
  refine nk_code ?_
  refine wc_seq ?_
  refine wc_quiet follows (by kernel_rfl) ?_
  refine wq_q rfl rfl rfl (qt_p tbok rfl) ?_
  refine wq_q rfl rfl rfl (qt_p tbok rfl) ?_
  refine wq_q rfl rfl rfl (qt_p tbok rfl) ?_
  refine wq_q rfl rfl rfl (qt_load tbok rfl rfl rfl (rc_cells hk hg.2.1 off_nil)) ?_
  refine wq_q rfl rfl rfl (qt_len tbok rfl rfl) ?_
  refine wq_q rfl rfl rfl (qt_p tbok rfl) ?_
  refine wq_q rfl rfl rfl (qt_p tbok rfl) ?_
  refine wq_q rfl rfl rfl (qt_p tbok rfl) ?_
  refine wq_q rfl rfl rfl (qt_load tbok rfl rfl rfl (rc_cells hk hg.2.2 off_nil)) ?_
  refine wq_q rfl rfl rfl (qt_p tbok rfl) ?_
  refine wq_as (v' := .c (.i64 ((m - nx : Nat) : Int))) (congrArg (fun z => V.c (C.i64 z)) (by omega)) ?_
  refine wq_q rfl rfl rfl (qt_p tbok rfl) ?_
  refine wq_done ?_
  refine wl_done ?_
  refine nk_code ?_
  refine wc_ret ?_
  try dsimp only
  exact fin1 rfl (rv_tmp rfl) (fun w' hw => ⟨rfl, hw⟩)
theorem leftnil_c {w : World} : CallsV Try.prog 24 [.c (.ptr .nil)] w fun en w' => en = .returned (V.c (.i64 0)).den ∧ St w [] w' := by
  refine calls_in (tb := tb) (fn := Try.f24) Try.func24 rfl rfl rfl [(0, .c (.ptr .nil))] rfl [] (St.refl _) ?_
  refine wc_seq ?_
  refine wc_region ?_
  refine wl_q rfl rfl rfl (qt_p tbok rfl) ?_
  refine wl_done ?_
  refine nk_code ?_
  refine wc_seq ?_
  refine wc_seq ?_
  refine wc_region ?_
  refine wl_q rfl rfl rfl (qt_p tbok rfl) ?_
  first | refine wl_q rfl rfl rfl (qt_p tbok rfl) ?_ | refine wl_q rfl rfl rfl (qt_eqn tbok rfl rfl rfl) ?_
  refine wl_done ?_
  refine nk_code ?_
  refine wc_yes rfl ?_
  refine wc_seq ?_
  refine wc_region ?_
  refine wl_q rfl rfl rfl (qt_p tbok rfl) ?_
  refine wl_done ?_
  refine nk_code ?_
  refine wc_ret ?_
  try dsimp only
  exact fin1 rfl (rv_tmp rfl) (fun w' hw => ⟨rfl, hw⟩)
end Go.Proofs.Ytjhmcmadleabjaa

set_option maxRecDepth 100000
namespace Go.Proofs.Ytjhmcmadleabjaa
open Go Go.Hw Go.Proofs

theorem skip_c {w : World} {sd : List UInt8} {h kr m nx n : Nat} {x : Os} (hs : sd.length = 32) (hm : m ≤ 1024) (hn : nx + n ≤ m) (hs0 : St w [kb kr sd h x m nx] w) :
    CallsV Try.prog 25 [.c (.ptr (.at kr 0)), .c (.i64 (n : Int))] w fun en w' => en = .returned (V.c (.i64 0)).den ∧ St w [kb kr sd h x m (nx + n)] w' := by
  have hg := kcs_get hs h x m nx
  have hkl := kcs_len hs h x m nx
  refine calls_in (tb := tb) (fn := Try.f25) Try.func25 rfl rfl rfl [(0, .c (.ptr (.at kr 0))), (1, .c (.i64 (n : Int)))] rfl _ hs0 ?_
  refine wc_seq ?_
  refine wc_region ?_
  refine wl_q rfl rfl rfl (qt_p tbok rfl) ?_
  refine wl_done ?_
  refine nk_code ?_
  refine wc_seq ?_
  refine wc_block ?_
  refine wc_seq ?_
  refine wc_region ?_
  refine wl_q rfl rfl rfl (qt_p tbok rfl) ?_
  first | refine wl_q rfl rfl rfl (qt_p tbok rfl) ?_ | refine wl_q rfl rfl rfl (qt_eqn tbok rfl rfl rfl) ?_
  refine wl_q rfl rfl rfl (qt_p tbok rfl) ?_
  refine wl_done ?_
  refine nk_code ?_
  refine wc_no rfl ?_
  refine wc_seq ?_
  refine wc_region ?_
  refine wl_q rfl rfl rfl (qt_p tbok rfl) ?_
  refine wl_q rfl rfl rfl (qt_p tbok rfl) ?_
  refine wl_as (v' := .c (.bool false)) (congrArg (fun b => V.c (C.bool b)) (decide_eq_false (by omega))) ?_
  refine wl_q rfl rfl rfl (qt_p tbok rfl) ?_
  first | refine wl_g rfl rfl rfl rfl (qt_p tbok rfl) ?_ | refine wl_skip rfl rfl rfl rfl rfl ?_
  first | refine wl_g rfl rfl rfl rfl (qt_p tbok rfl) ?_ | refine wl_skip rfl rfl rfl rfl rfl ?_
  refine wl_gd rfl rfl (ef_pure (v := .c (.i64 ((m - nx : Nat) : Int))) (by kernel_rfl) rfl rfl (fun w1 h1 => left_c hs hm (by omega) (cells_own h1 .here)) ?_)
  first | refine wl_g rfl rfl rfl rfl (qt_p tbok rfl) ?_ | refine wl_skip rfl rfl rfl rfl rfl ?_
  refine wl_as (v' := .c (.bool false)) (congrArg (fun b => V.c (C.bool b)) (decide_eq_false (by omega))) ?_
  refine wl_q rfl rfl rfl (qt_p tbok rfl) ?_
  refine wl_q rfl rfl rfl (qt_p tbok rfl) ?_
  refine wl_done ?_
  refine nk_code ?_
  refine wc_no rfl ?_
  refine wc_skip ?_
  refine nk_code ?_
  refine wc_seq ?_
  refine wc_region ?_
  refine wl_q rfl rfl rfl (qt_p tbok rfl) ?_
  refine wl_q rfl rfl rfl (qt_p tbok rfl) ?_
  refine wl_q rfl rfl rfl (qt_p tbok rfl) ?_
  refine wl_q rfl rfl rfl (qt_load tbok rfl rfl rfl (rc_lk .here hg.2.2)) ?_
  refine wl_q rfl rfl rfl (qt_p tbok rfl) ?_
  refine wl_q rfl rfl rfl (qt_p tbok rfl) ?_
  refine wl_as (v' := .c (.i64 ((nx + n : Nat) : Int))) (congrArg (fun z => V.c (C.i64 z)) (by omega)) ?_
  refine wl_q rfl rfl rfl (qt_p tbok rfl) ?_
  refine wl_q rfl rfl rfl (qt_p tbok rfl) ?_
  refine wl_ef rfl (ef_store (cs' := kcs sd h x m (nx + n)) tbok rfl rfl rfl rfl .here rfl (by rw [hkl]; decide) (kcs_setN hs h x m nx (nx + n)) ?_)
  refine wl_done ?_
  refine nk_code ?_
  refine wc_seq ?_
  refine wc_region ?_
  refine wl_q rfl rfl rfl (qt_p tbok rfl) ?_
  refine wl_done ?_
  refine nk_code ?_
  refine wc_ret ?_
  try dsimp only
  exact fin1 rfl (rv_tmp rfl) (fun w' hw => ⟨rfl, hw⟩)

theorem skipbad_c {w : World} {sd : List UInt8} {h kr m nx : Nat} {n : Int} {x : Os} (hs : sd.length = 32) (hm : m ≤ 1024) (hn : nx ≤ m) (hb : n < 0 ∨ (m : Int) - nx < n) (hk : Cells w (.at kr 0) (kcs sd h x m nx)) :
    CallsV Try.prog 25 [.c (.ptr (.at kr 0)), .c (.i64 n)] w fun en w' => en = .returned (V.c (.i64 1)).den ∧ St w [] w' := by
  by_cases h0 : n < 0
  · refine calls_in (tb := tb) (fn := Try.f25) Try.func25 rfl rfl rfl [(0, .c (.ptr (.at kr 0))), (1, .c (.i64 n))] rfl [] (St.refl _) ?_
    refine wc_seq ?_
    refine wc_region ?_
    refine wl_q rfl rfl rfl (qt_p tbok rfl) ?_
    refine wl_done ?_
    refine nk_code ?_
    refine wc_seq ?_
    refine wc_block ?_
    refine wc_seq ?_
    refine wc_region ?_
    refine wl_q rfl rfl rfl (qt_p tbok rfl) ?_
    first | refine wl_q rfl rfl rfl (qt_p tbok rfl) ?_ | refine wl_q rfl rfl rfl (qt_eqn tbok rfl rfl rfl) ?_
    refine wl_q rfl rfl rfl (qt_p tbok rfl) ?_
    refine wl_done ?_
    refine nk_code ?_
    refine wc_no rfl ?_
    refine wc_seq ?_
    refine wc_region ?_
    refine wl_q rfl rfl rfl (qt_p tbok rfl) ?_
    refine wl_q rfl rfl rfl (qt_p tbok rfl) ?_
    refine wl_as (v' := .c (.bool true)) (congrArg (fun b => V.c (C.bool b)) (decide_eq_true h0)) ?_
    refine wl_q rfl rfl rfl (qt_p tbok rfl) ?_
    refine wl_skip rfl rfl rfl rfl rfl ?_
    refine wl_skip rfl rfl rfl rfl rfl ?_
    refine wl_skip rfl rfl rfl rfl rfl ?_
    refine wl_skip rfl rfl rfl rfl rfl ?_
    refine wl_q rfl rfl rfl (qt_p tbok rfl) ?_
    refine wl_q rfl rfl rfl (qt_p tbok rfl) ?_
    refine wl_done ?_
    refine nk_code ?_
    refine wc_yes rfl ?_
    refine wc_seq ?_
    refine wc_region ?_
    refine wl_q rfl rfl rfl (qt_p tbok rfl) ?_
    refine wl_done ?_
    refine nk_code ?_
    refine wc_ret ?_
    try dsimp only
    exact fin1 rfl (rv_tmp rfl) (fun w' hw => ⟨rfl, hw⟩)
  · refine calls_in (tb := tb) (fn := Try.f25) Try.func25 rfl rfl rfl [(0, .c (.ptr (.at kr 0))), (1, .c (.i64 n))] rfl [] (St.refl _) ?_
    refine wc_seq ?_
    refine wc_region ?_
    refine wl_q rfl rfl rfl (qt_p tbok rfl) ?_
    refine wl_done ?_
    refine nk_code ?_
    refine wc_seq ?_
    refine wc_block ?_
    refine wc_seq ?_
    refine wc_region ?_
    refine wl_q rfl rfl rfl (qt_p tbok rfl) ?_
    first | refine wl_q rfl rfl rfl (qt_p tbok rfl) ?_ | refine wl_q rfl rfl rfl (qt_eqn tbok rfl rfl rfl) ?_
    refine wl_q rfl rfl rfl (qt_p tbok rfl) ?_
    refine wl_done ?_
    refine nk_code ?_
    refine wc_no rfl ?_
    refine wc_seq ?_
    refine wc_region ?_
    refine wl_q rfl rfl rfl (qt_p tbok rfl) ?_
    refine wl_q rfl rfl rfl (qt_p tbok rfl) ?_
    refine wl_as (v' := .c (.bool false)) (congrArg (fun b => V.c (C.bool b)) (decide_eq_false h0)) ?_
    refine wl_q rfl rfl rfl (qt_p tbok rfl) ?_
    first | refine wl_g rfl rfl rfl rfl (qt_p tbok rfl) ?_ | refine wl_skip rfl rfl rfl rfl rfl ?_
    first | refine wl_g rfl rfl rfl rfl (qt_p tbok rfl) ?_ | refine wl_skip rfl rfl rfl rfl rfl ?_
    refine wl_gd rfl rfl (ef_pure (v := .c (.i64 ((m - nx : Nat) : Int))) (by kernel_rfl) rfl rfl (fun w1 h1 => left_c hs hm hn (hk.ext h1)) ?_)
    first | refine wl_g rfl rfl rfl rfl (qt_p tbok rfl) ?_ | refine wl_skip rfl rfl rfl rfl rfl ?_
    refine wl_as (v' := .c (.bool true)) (congrArg (fun b => V.c (C.bool b)) (decide_eq_true (by omega))) ?_
    refine wl_q rfl rfl rfl (qt_p tbok rfl) ?_
    refine wl_q rfl rfl rfl (qt_p tbok rfl) ?_
    refine wl_done ?_
    refine nk_code ?_
    refine wc_yes rfl ?_
    refine wc_seq ?_
    refine wc_region ?_
    refine wl_q rfl rfl rfl (qt_p tbok rfl) ?_
    refine wl_done ?_
    refine nk_code ?_
    refine wc_ret ?_
    try dsimp only
    exact fin1 rfl (rv_tmp rfl) (fun w' hw => ⟨rfl, hw⟩)
theorem skipnil_c {w : World} {n : Int} : CallsV Try.prog 25 [.c (.ptr .nil), .c (.i64 n)] w fun en w' => en = .returned (V.c (.i64 2)).den ∧ St w [] w' := by
  refine calls_in (tb := tb) (fn := Try.f25) Try.func25 rfl rfl rfl [(0, .c (.ptr .nil)), (1, .c (.i64 n))] rfl [] (St.refl _) ?_
  refine wc_seq ?_
  refine wc_region ?_
  refine wl_q rfl rfl rfl (qt_p tbok rfl) ?_
  refine wl_done ?_
  refine nk_code ?_
  refine wc_seq ?_
  refine wc_block ?_
  refine wc_seq ?_
  refine wc_region ?_
  refine wl_q rfl rfl rfl (qt_p tbok rfl) ?_
  first | refine wl_q rfl rfl rfl (qt_p tbok rfl) ?_ | refine wl_q rfl rfl rfl (qt_eqn tbok rfl rfl rfl) ?_
  refine wl_q rfl rfl rfl (qt_p tbok rfl) ?_
  refine wl_done ?_
  refine nk_code ?_
  refine wc_yes rfl ?_
  refine wc_seq ?_
  refine wc_region ?_
  refine wl_q rfl rfl rfl (qt_p tbok rfl) ?_
  refine wl_done ?_
  refine nk_code ?_
  refine wc_ret ?_
  try dsimp only
  exact fin1 rfl (rv_tmp rfl) (fun w' hw => ⟨rfl, hw⟩)

/-- A signature's cells. -/
def scs (i : Int) (F : List UInt8) (a : Ad) (n cap : Nat) : List C := .i64 i :: (bc F ++ [.slc a n cap])
def z38 : List C := scs 0 (List.replicate 2144 0) .nil 0 0
theorem zero38 : zeroIs Try.prog 38 (.agg z38) := by unfold zeroIs; kernel_rfl
theorem zero29 : zeroIs Try.prog 29 (.agg z38) := by unfold zeroIs; kernel_rfl
theorem z38_len : z38.length = 2146 := by simp [z38, scs, bc_len]
theorem scs_len {i : Int} {F : List UInt8} {a : Ad} {n cap : Nat} (hF : F.length = 2144) : (scs i F a n cap).length = 2146 := by simp [scs, bc_len, hF]
theorem scs_set0 (i j : Int) (F : List UInt8) (a : Ad) (n cap : Nat) : spl (scs i F a n cap) 0 [.i64 j] = scs j F a n cap := rfl
theorem scs_set1 {i : Int} {F G : List UInt8} {a : Ad} {n cap : Nat} (hF : F.length = 2144) (hG : G.length = 2144) : spl (scs i F a n cap) 1 (bc G) = scs i G a n cap :=
  spl_at (A := [C.i64 i]) (B := bc F) (D := [.slc a n cap]) rfl (by rw [bc_len, bc_len, hF, hG])
theorem scs_set2 {i : Int} {F : List UInt8} {a b : Ad} {n cap m c2 : Nat} (hF : F.length = 2144) : spl (scs i F a n cap) 2145 [.slc b m c2] = scs i F b m c2 := by
  have e : ∀ (a : Ad) (n cap : Nat), scs i F a n cap = (C.i64 i :: bc F) ++ ([.slc a n cap] ++ []) := fun a n cap => by simp [scs]
  rw [e, e]; exact spl_at (by simp [bc_len, hF]) rfl
theorem scs_get {i : Int} {F : List UInt8} {a : Ad} {n cap : Nat} (hF : F.length = 2144) : (scs i F a n cap)[0]? = some (.i64 i) ∧ (∀ (j : Nat) c, (bc F)[j]? = some c → (scs i F a n cap)[1 + j]? = some c) ∧ (scs i F a n cap)[2145]? = some (.slc a n cap) := by
  refine ⟨rfl, get_at (A := [C.i64 i]) (B := bc F) (D := [.slc a n cap]) rfl, ?_⟩
  have := get_at (A := C.i64 i :: bc F) (B := [.slc a n cap]) (D := []) (off := 2145) (by simp [bc_len, hF]) 0 (.slc a n cap) rfl
  simpa [scs] using this
theorem sfill2 {T U : Nat} {i : Int} {F : List UInt8} (hF : F.length = 2144) : fillS (placeF [(3, 0, 1), (T, 1, 2144), (U, 2145, 1)]) z38 [(0, .c (.i64 i)), (1, .agg (bc F))] = some (scs i F .nil 0 0) := by
  refine fillS_cons (off := 0) (z := 1) (cs' := scs i (List.replicate 2144 0) .nil 0 0) rfl rfl rfl (by rw [z38_len]; decide) (scs_set0 0 i _ _ _ _) ?_
  exact fillS_cons (off := 1) (z := 2144) (cs' := scs i F .nil 0 0) rfl rfl (by show (bc F).length = 2144; rw [bc_len, hF]) (by rw [scs_len (by simp)]; decide) (scs_set1 (by simp) hF) rfl
theorem sfill3 {T U : Nat} {i : Int} {F : List UInt8} {a : Ad} {n cap : Nat} (hF : F.length = 2144) : fillS (placeF [(3, 0, 1), (T, 1, 2144), (U, 2145, 1)]) z38 [(0, .c (.i64 i)), (1, .agg (bc F)), (2, .c (.slc a n cap))] = some (scs i F a n cap) := by
  refine fillS_cons (off := 0) (z := 1) (cs' := scs i (List.replicate 2144 0) .nil 0 0) rfl rfl rfl (by rw [z38_len]; decide) (scs_set0 0 i _ _ _ _) ?_
  refine fillS_cons (off := 1) (z := 2144) (cs' := scs i F .nil 0 0) rfl rfl (by show (bc F).length = 2144; rw [bc_len, hF]) (by rw [scs_len (by simp)]; decide) (scs_set1 (by simp) hF) ?_
  exact fillS_cons (off := 2145) (z := 1) (cs' := scs i F a n cap) rfl rfl rfl (by rw [scs_len hF]; decide) (scs_set2 hF) rfl

theorem signil_c {w : World} {ma : Ad} {ml mc : Nat} : CallsV Try.prog 26 [.c (.ptr .nil), .c (.slc ma ml mc)] w fun en w' => en = .returned (V.t2 (.agg z38) (.c (.i64 2))).den ∧ St w [] w' := by
  refine calls_in (tb := tb) (fn := Try.f26) Try.func26 rfl rfl rfl [(0, .c (.ptr .nil)), (1, .c (.slc ma ml mc))] rfl [] (St.refl _) ?_
  refine wc_seq ?_
  refine wc_region ?_
  refine wl_ef rfl (ef_alloc zero38 rfl rfl (fun o ho => ?_))
  refine wl_q rfl rfl rfl (qt_p tbok rfl) ?_
  refine wl_done ?_
  refine nk_code ?_
  refine wc_seq ?_
  refine wc_block ?_
  refine wc_seq ?_
  refine wc_region ?_
  refine wl_q rfl rfl rfl (qt_p tbok rfl) ?_
  first | refine wl_q rfl rfl rfl (qt_p tbok rfl) ?_ | refine wl_q rfl rfl rfl (qt_eqn tbok rfl rfl rfl) ?_
  refine wl_q rfl rfl rfl (qt_p tbok rfl) ?_
  refine wl_done ?_
  refine nk_code ?_
  refine wc_yes rfl ?_
  refine wc_seq ?_
  refine wc_region ?_
  refine wl_q rfl rfl rfl (qt_build (vs := []) (l := z38) tbok rfl zero38 rfl rfl) ?_
  refine wl_ef rfl (ef_store (cs' := z38) tbok rfl rfl rfl rfl .here z38_len (by show 0 + 2146 ≤ z38.length; rw [z38_len]; decide) (spl_all rfl) ?_)
  refine wl_q rfl rfl rfl (qt_p tbok rfl) ?_
  refine wl_done ?_
  refine nk_code ?_
  refine wc_ret ?_
  try dsimp only
  exact fin2 rfl (rv_ag (l := z38) tbok rfl rfl rfl z38_len (rs_lk .here at0)) (rv_tmp rfl) (fun w' hw => ⟨rfl, hw.all (new_cons (newKey ho) new_nil)⟩)
theorem sigspent_c {w : World} {sd : List UInt8} {h kr m : Nat} {x : Os} {ma : Ad} {ml mc : Nat} (hs : sd.length = 32) (hm : m ≤ 1024) (hk : Cells w (.at kr 0) (kcs sd h x m m)) :
    CallsV Try.prog 26 [.c (.ptr (.at kr 0)), .c (.slc ma ml mc)] w fun en w' => en = .returned (V.t2 (.agg z38) (.c (.i64 50))).den ∧ St w [] w' := by
  refine calls_in (tb := tb) (fn := Try.f26) Try.func26 rfl rfl rfl [(0, .c (.ptr (.at kr 0))), (1, .c (.slc ma ml mc))] rfl [] (St.refl _) ?_
  refine wc_seq ?_
  refine wc_region ?_
  refine wl_ef rfl (ef_alloc zero38 rfl rfl (fun o ho => ?_))
  refine wl_q rfl rfl rfl (qt_p tbok rfl) ?_
  refine wl_done ?_
  refine nk_code ?_
  refine wc_seq ?_
  refine wc_block ?_
  refine wc_seq ?_
  refine wc_region ?_
  refine wl_q rfl rfl rfl (qt_p tbok rfl) ?_
  first | refine wl_q rfl rfl rfl (qt_p tbok rfl) ?_ | refine wl_q rfl rfl rfl (qt_eqn tbok rfl rfl rfl) ?_
  refine wl_q rfl rfl rfl (qt_p tbok rfl) ?_
  refine wl_done ?_
  refine nk_code ?_
  refine wc_no rfl ?_
  refine wc_seq ?_
  refine wc_region ?_
  refine wl_q rfl rfl rfl (qt_p tbok rfl) ?_
  refine wl_ef rfl (ef_pure (v := .c (.i64 ((m - m : Nat) : Int))) (by kernel_rfl) rfl rfl (fun w1 h1 => left_c hs hm (Nat.le_refl _) (cells_rd (rd_cells hk (off_new (newKey ho) off_nil)) h1)) ?_)
  first | refine wl_q rfl rfl rfl (qt_p tbok rfl) ?_ | refine wl_q rfl rfl rfl (qt_eqn tbok rfl rfl rfl) ?_
  refine wl_as (v' := .c (.bool true)) (congrArg (fun b => V.c (C.bool b)) (decide_eq_true (by omega))) ?_
  refine wl_q rfl rfl rfl (qt_p tbok rfl) ?_
  refine wl_done ?_
  refine nk_code ?_
  refine wc_yes rfl ?_
  refine wc_seq ?_
  refine wc_region ?_
  refine wl_q rfl rfl rfl (qt_build (vs := []) (l := z38) tbok rfl zero38 rfl rfl) ?_
  refine wl_ef rfl (ef_store (cs' := z38) tbok rfl rfl rfl rfl .here z38_len (by show 0 + 2146 ≤ z38.length; rw [z38_len]; decide) (spl_all rfl) ?_)
  refine wl_q rfl rfl rfl (qt_p tbok rfl) ?_
  refine wl_done ?_
  refine nk_code ?_
  refine wc_ret ?_
  try dsimp only
  exact fin2 rfl (rv_ag (l := z38) tbok rfl rfl rfl z38_len (rs_lk .here at0)) (rv_tmp rfl) (fun w' hw => ⟨rfl, hw.all (new_cons (newKey ho) new_nil)⟩)
end Go.Proofs.Ytjhmcmadleabjaa

set_option maxRecDepth 100000
namespace Go.Proofs.Ytjhmcmadleabjaa
open Go Go.Hw Go.Proofs

theorem sgF_len (sd : List UInt8) (n : UInt32) (x : List UInt8) : (sgL sd n x).flatten.length = 2144 := by rw [flat_len (sgL_A _ _ _), sgL_len]
/-- The chains of the signature at an index. -/
def sigF (sd : List UInt8) (h : Nat) (L : List (List UInt8)) (i : Nat) (msg : List UInt8) : List UInt8 := (sgL sd (UInt32.ofInt (i : Int)) (wordH (h : Int) (rootT h L) (i : Int) msg)).flatten
theorem sigF_len (sd : List UInt8) (h : Nat) (L : List (List UInt8)) (i : Nat) (msg : List UInt8) : (sigF sd h L i msg).length = 2144 := sgF_len _ _ _

theorem sign26_c {w : World} {sd msg : List UInt8} {h kr nx : Nat} {x : Os} {L : List (List UInt8)} {ma : Ad} {mc : Nat} (hs : sd.length = 32) (hh : h ≤ 6) (hn : nx < pw h) (hs0 : St w [kb kr sd h x (pw h) nx] w) (hA : A32 L) (hl : L.length = pw h) (hcap : pw h ≤ x.2.1) (hc : Cells w x.1 (bc L.flatten)) (hxne : x.1.key ≠ some kr)
    (hm : Cells w ma (bc msg)) (hmne : ma.key ≠ some kr) (hmax : msg.length ≤ 1073741000) :
    CallsV Try.prog 26 [.c (.ptr (.at kr 0)), .c (.slc ma msg.length mc)] w fun en w' => ∃ y : Os, en = .returned (V.t2 (.agg (scs (nx : Int) (sigF sd h L nx msg) y.1 h y.2.1)) (.c (.i64 0))).den ∧ OwnS y.1 h y.2.1 32 (bc (pathT h nx L).flatten) y.2.2 ∧ (∀ k, (dob 30 (pathT h nx L) y).key = some k → w.heap.size ≤ k) ∧ St w [kb kr sd h x (pw h) (nx + 1), dob 30 (pathT h nx L) y] w' := by
  have hp6 : pw h ≤ 64 := pw_mono hh
  have hsl : (bc sd).length = 32 := by rw [bc_len, hs]
  have hg := kcs_get hs h x (pw h) nx
  have hg1 := kcs_get hs h x (pw h) (nx + 1)
  have hkl := kcs_len hs h x (pw h) nx
  have hrl := rootT_len h hA hl
  have hFl := sigF_len sd h L nx msg
  have hF1 : (bc (sigF sd h L nx msg)).length = 2144 := by rw [bc_len, hFl]
  refine calls_in (tb := tb) (fn := Try.f26) Try.func26 rfl rfl rfl [(0, .c (.ptr (.at kr 0))), (1, .c (.slc ma msg.length mc))] rfl _ hs0 ?_
  refine wc_seq ?_
  refine wc_region ?_
  refine wl_ef rfl (ef_alloc zero38 rfl rfl (fun o ho => ?_))
  have offm : Off w ma [⟨.at o 0, z38, 38, (0, 0), []⟩, kb kr sd h x (pw h) (nx + 1)] := off_new (newKey ho) (off_one hmne)
  have offx : Off w x.1 [⟨.at o 0, z38, 38, (0, 0), []⟩, kb kr sd h x (pw h) (nx + 1)] := off_new (newKey ho) (off_one hxne)
  refine wl_q rfl rfl rfl (qt_p tbok rfl) ?_
  refine wl_done ?_
  refine nk_code ?_
  refine wc_seq ?_
  refine wc_block ?_
  refine wc_seq ?_
  refine wc_region ?_
  refine wl_q rfl rfl rfl (qt_p tbok rfl) ?_
  first | refine wl_q rfl rfl rfl (qt_p tbok rfl) ?_ | refine wl_q rfl rfl rfl (qt_eqn tbok rfl rfl rfl) ?_
  refine wl_q rfl rfl rfl (qt_p tbok rfl) ?_
  refine wl_done ?_
  refine nk_code ?_
  refine wc_no rfl ?_
  refine wc_seq ?_
  refine wc_region ?_
  refine wl_q rfl rfl rfl (qt_p tbok rfl) ?_
  refine wl_ef rfl (ef_pure (v := .c (.i64 ((pw h - nx : Nat) : Int))) (by kernel_rfl) rfl rfl (fun w1 h1 => left_c hs (by omega) (by omega) (cells_own h1 (.there .here))) ?_)
  first | refine wl_q rfl rfl rfl (qt_p tbok rfl) ?_ | refine wl_q rfl rfl rfl (qt_eqn tbok rfl rfl rfl) ?_
  refine wl_as (v' := .c (.bool false)) (congrArg (fun b => V.c (C.bool b)) (decide_eq_false (by omega))) ?_
  refine wl_q rfl rfl rfl (qt_p tbok rfl) ?_
  refine wl_done ?_
  refine nk_code ?_
  refine wc_no rfl ?_
  refine wc_skip ?_
  refine nk_code ?_
  refine wc_seq ?_
  refine wc_region ?_
  refine wl_q rfl rfl rfl (qt_p tbok rfl) ?_
  refine wl_q rfl rfl rfl (qt_p tbok rfl) ?_
  refine wl_q rfl rfl rfl (qt_p tbok rfl) ?_
  refine wl_q rfl rfl rfl (qt_load tbok rfl rfl rfl (rc_lk (.there .here) hg.2.2)) ?_
  refine wl_q rfl rfl rfl (qt_p tbok rfl) ?_
  refine wl_done ?_
  refine nk_code ?_
  refine wc_seq ?_
  refine wc_region ?_
  refine wl_q rfl rfl rfl (qt_p tbok rfl) ?_
  refine wl_q rfl rfl rfl (qt_p tbok rfl) ?_
  refine wl_q rfl rfl rfl (qt_p tbok rfl) ?_
  refine wl_q rfl rfl rfl (qt_load tbok rfl rfl rfl (rc_lk (.there .here) hg.2.2)) ?_
  refine wl_q rfl rfl rfl (qt_p tbok rfl) ?_
  refine wl_as (v' := .c (.i64 ((nx + 1 : Nat) : Int))) (congrArg (fun z => V.c (C.i64 z)) (by omega)) ?_
  refine wl_q rfl rfl rfl (qt_p tbok rfl) ?_
  refine wl_q rfl rfl rfl (qt_p tbok rfl) ?_
  refine wl_ef rfl (ef_store (cs' := kcs sd h x (pw h) (nx + 1)) tbok rfl rfl rfl rfl (.there .here) rfl (by rw [hkl]; decide) (kcs_setN hs h x (pw h) nx (nx + 1)) ?_)
  have hS : ∀ w', St w [⟨.at o 0, z38, 38, (0, 0), []⟩, kb kr sd h x (pw h) (nx + 1)] w' → St w [⟨.at o 0, z38, 38, (0, 0), []⟩, kb kr sd h x (pw h) (nx + 1)] w' := fun _ h => h
  refine wl_done ?_
  refine nk_code ?_
  refine wc_seq ?_
  refine wc_draw (s0 := [⟨.at o 0, z38, 38, (0, 0), []⟩, kb kr sd h x (pw h) (nx + 1)]) 15 follows ?_
  refine wh_q 0 rfl (by kernel_rfl) rfl rfl rfl (qt_p tbok rfl) (hS) ?_
  refine wh_q 1 rfl (by kernel_rfl) rfl rfl rfl (qt_p tbok rfl) (hS) ?_
  refine wh_q 2 rfl (by kernel_rfl) rfl rfl rfl (qt_p tbok rfl) (hS) ?_
  refine wh_q 3 rfl (by kernel_rfl) rfl rfl rfl (qt_p tbok rfl) (hS) ?_
  refine wh_q 4 rfl (by kernel_rfl) rfl rfl rfl (qt_load_ag (l := bc sd) tbok rfl rfl rfl hsl (rs_lk (.there .here) (kcs_seed h x (pw h) (nx + 1)))) (hS) ?_
  refine wh_q 5 rfl (by kernel_rfl) rfl rfl rfl (qt_p tbok rfl) (hS) ?_
  refine wh_q 6 rfl (by kernel_rfl) rfl rfl rfl (qt_p tbok rfl) (hS) ?_
  refine wh_q 7 rfl (by kernel_rfl) rfl rfl rfl (qt_p tbok rfl) (hS) ?_
  refine wh_q 9 rfl (by kernel_rfl) rfl rfl rfl (qt_p tbok rfl) (hS) ?_
  refine wh_q 10 rfl (by kernel_rfl) rfl rfl rfl (qt_p tbok rfl) (hS) ?_
  refine wh_two 8 14 (by kernel_rfl) ?_ ?_
  · refine wo_ef rfl rfl (ef_pure (v := .agg (.i64 (h : Int) :: bc (rootT h L))) (by kernel_rfl) rfl rfl (fun w1 h1 => public_c hs hh (cells_own (hS w1 h1) (.there .here)) hA hl hcap (cells_rd (rd_cells hc offx) (hS w1 h1))) ⟨hS, ?_⟩)
    refine wh_two 11 14 (by kernel_rfl) ?_ ?_
    · refine wo_ef rfl rfl (ef_pure (v := .agg (bc (wordH (h : Int) (rootT h L) (nx : Int) msg))) (by kernel_rfl) rfl rfl (fun w1 h1 => word_c hrl (cells_rd (rd_cells hm offm) (hS w1 h1)) (by omega)) ⟨hS, ?_⟩)
      refine wh_two 12 14 (by kernel_rfl) ?_ ?_
      · refine wo_ef rfl rfl (ef_pure (v := .agg (bc (sigF sd h L nx msg))) (by kernel_rfl) rfl rfl (fun w1 _ => sign_c hs (wordH_len _ _ _ _)) ⟨hS, ?_⟩)
        refine wh_q 13 rfl (by kernel_rfl) rfl rfl rfl (qt_build (vs := [(0, .c (.i64 (nx : Int))), (1, .agg (bc (sigF sd h L nx msg)))]) (l := scs (nx : Int) (sigF sd h L nx msg) .nil 0 0) tbok rfl zero38 rfl (sfill2 hFl)) (hS) ?_
        refine wh_one 14 (by kernel_rfl) (wo_ef rfl rfl (ef_alloc zero38 rfl rfl (fun r hr => ⟨fun w hw => hw.tail (newKey hr), ?_⟩)))
        have hS : ∀ w', St w [⟨.at r 0, z38, 38, (0, 0), []⟩, ⟨.at o 0, z38, 38, (0, 0), []⟩, kb kr sd h x (pw h) (nx + 1)] w' → St w [⟨.at o 0, z38, 38, (0, 0), []⟩, kb kr sd h x (pw h) (nx + 1)] w' := fun _ h => h.tail (newKey hr)
        refine wh_one 15 (by kernel_rfl) (wo_fin rfl rfl (ef_store (cs' := scs (nx : Int) (sigF sd h L nx msg) .nil 0 0) tbok rfl rfl rfl rfl .here (scs_len hFl) (by show 0 + 2146 ≤ z38.length; rw [z38_len]; decide) (spl_all (by show (scs _ _ _ _ _).length = z38.length; rw [scs_len hFl, z38_len])) ?_))
        refine wh_done (by kernel_rfl) ?_
        refine nk_code ?_
        refine wc_seq ?_
        refine wc_region ?_
        refine wl_q rfl rfl rfl (qt_p tbok rfl) ?_
        refine wl_q rfl rfl rfl (qt_p tbok rfl) ?_
        refine wl_q rfl rfl rfl (qt_p tbok rfl) ?_
        refine wl_q rfl rfl rfl (qt_load tbok rfl rfl rfl (rc_lk (.there (.there .here)) hg1.2.1)) ?_
        refine wl_q rfl rfl rfl (qt_p tbok rfl) ?_
        refine wl_ef rfl (ef_fresh (by kernel_rfl) rfl rfl (fun w1 h1 => path76_c hA hl hn (by omega) (by rw [hl]; exact hcap) (cells_rd (rd_cells hc (off_new (newKey hr) (off_new (newKey ho) (off_one hxne)))) h1)) (fun y hy hky => ?_))
        refine wl_q rfl rfl rfl (qt_p tbok rfl) ?_
        refine wl_q rfl rfl rfl (qt_p tbok rfl) ?_
        refine wl_q rfl rfl rfl (qt_p tbok rfl) ?_
        refine wl_q rfl rfl rfl (qt_p tbok rfl) ?_
        refine wl_ef rfl (ef_store (cs' := scs (nx : Int) (sigF sd h L nx msg) y.1 h y.2.1) tbok rfl rfl rfl rfl (.there .here) rfl (by rw [scs_len hFl]; decide) (scs_set2 hFl) ?_)
        refine wl_done ?_
        refine nk_code ?_
        refine wc_seq ?_
        refine wc_region ?_
        refine wl_q rfl rfl rfl (qt_load_ag (l := scs (nx : Int) (sigF sd h L nx msg) y.1 h y.2.1) tbok rfl rfl rfl (scs_len hFl) (rs_lk (.there .here) at0)) ?_
        refine wl_ef rfl (ef_store (cs' := scs (nx : Int) (sigF sd h L nx msg) y.1 h y.2.1) tbok rfl rfl rfl rfl (.there (.there .here)) (scs_len hFl) (by show 0 + 2146 ≤ z38.length; rw [z38_len]; decide) (spl_all (by show (scs _ _ _ _ _).length = z38.length; rw [scs_len hFl, z38_len])) ?_)
        refine wl_q rfl rfl rfl (qt_p tbok rfl) ?_
        refine wl_done ?_
        refine nk_code ?_
        refine wc_ret ?_
        try dsimp only
        exact fin2 rfl (rv_ag (l := scs (nx : Int) (sigF sd h L nx msg) y.1 h y.2.1) tbok rfl rfl rfl (scs_len hFl) (rs_lk (.there (.there .here)) at0)) (rv_tmp rfl) (fun w' hw => ⟨y, rfl, hy, hky, (Rm.sub_St (Rm.sub_St hw (.there .here) (newKey hr)) (.there .here) (newKey ho)).two⟩)
      · refine wo_ef rfl rfl (ef_alloc zero38 rfl rfl (fun r hr => ⟨fun w hw => hw.tail (newKey hr), ?_⟩))
        have hS : ∀ w', St w [⟨.at r 0, z38, 38, (0, 0), []⟩, ⟨.at o 0, z38, 38, (0, 0), []⟩, kb kr sd h x (pw h) (nx + 1)] w' → St w [⟨.at o 0, z38, 38, (0, 0), []⟩, kb kr sd h x (pw h) (nx + 1)] w' := fun _ h => h.tail (newKey hr)
        refine wh_one 12 (by kernel_rfl) (wo_ef rfl rfl (ef_pure (v := .agg (bc (sigF sd h L nx msg))) (by kernel_rfl) rfl rfl (fun w1 _ => sign_c hs (wordH_len _ _ _ _)) ⟨hS, ?_⟩))
        refine wh_q 13 rfl (by kernel_rfl) rfl rfl rfl (qt_build (vs := [(0, .c (.i64 (nx : Int))), (1, .agg (bc (sigF sd h L nx msg)))]) (l := scs (nx : Int) (sigF sd h L nx msg) .nil 0 0) tbok rfl zero38 rfl (sfill2 hFl)) (hS) ?_
        refine wh_one 15 (by kernel_rfl) (wo_fin rfl rfl (ef_store (cs' := scs (nx : Int) (sigF sd h L nx msg) .nil 0 0) tbok rfl rfl rfl rfl .here (scs_len hFl) (by show 0 + 2146 ≤ z38.length; rw [z38_len]; decide) (spl_all (by show (scs _ _ _ _ _).length = z38.length; rw [scs_len hFl, z38_len])) ?_))
        refine wh_done (by kernel_rfl) ?_
        refine nk_code ?_
        refine wc_seq ?_
        refine wc_region ?_
        refine wl_q rfl rfl rfl (qt_p tbok rfl) ?_
        refine wl_q rfl rfl rfl (qt_p tbok rfl) ?_
        refine wl_q rfl rfl rfl (qt_p tbok rfl) ?_
        refine wl_q rfl rfl rfl (qt_load tbok rfl rfl rfl (rc_lk (.there (.there .here)) hg1.2.1)) ?_
        refine wl_q rfl rfl rfl (qt_p tbok rfl) ?_
        refine wl_ef rfl (ef_fresh (by kernel_rfl) rfl rfl (fun w1 h1 => path76_c hA hl hn (by omega) (by rw [hl]; exact hcap) (cells_rd (rd_cells hc (off_new (newKey hr) (off_new (newKey ho) (off_one hxne)))) h1)) (fun y hy hky => ?_))
        refine wl_q rfl rfl rfl (qt_p tbok rfl) ?_
        refine wl_q rfl rfl rfl (qt_p tbok rfl) ?_
        refine wl_q rfl rfl rfl (qt_p tbok rfl) ?_
        refine wl_q rfl rfl rfl (qt_p tbok rfl) ?_
        refine wl_ef rfl (ef_store (cs' := scs (nx : Int) (sigF sd h L nx msg) y.1 h y.2.1) tbok rfl rfl rfl rfl (.there .here) rfl (by rw [scs_len hFl]; decide) (scs_set2 hFl) ?_)
        refine wl_done ?_
        refine nk_code ?_
        refine wc_seq ?_
        refine wc_region ?_
        refine wl_q rfl rfl rfl (qt_load_ag (l := scs (nx : Int) (sigF sd h L nx msg) y.1 h y.2.1) tbok rfl rfl rfl (scs_len hFl) (rs_lk (.there .here) at0)) ?_
        refine wl_ef rfl (ef_store (cs' := scs (nx : Int) (sigF sd h L nx msg) y.1 h y.2.1) tbok rfl rfl rfl rfl (.there (.there .here)) (scs_len hFl) (by show 0 + 2146 ≤ z38.length; rw [z38_len]; decide) (spl_all (by show (scs _ _ _ _ _).length = z38.length; rw [scs_len hFl, z38_len])) ?_)
        refine wl_q rfl rfl rfl (qt_p tbok rfl) ?_
        refine wl_done ?_
        refine nk_code ?_
        refine wc_ret ?_
        try dsimp only
        exact fin2 rfl (rv_ag (l := scs (nx : Int) (sigF sd h L nx msg) y.1 h y.2.1) tbok rfl rfl rfl (scs_len hFl) (rs_lk (.there (.there .here)) at0)) (rv_tmp rfl) (fun w' hw => ⟨y, rfl, hy, hky, (Rm.sub_St (Rm.sub_St hw (.there .here) (newKey hr)) (.there .here) (newKey ho)).two⟩)
    · refine wo_ef rfl rfl (ef_alloc zero38 rfl rfl (fun r hr => ⟨fun w hw => hw.tail (newKey hr), ?_⟩))
      have hS : ∀ w', St w [⟨.at r 0, z38, 38, (0, 0), []⟩, ⟨.at o 0, z38, 38, (0, 0), []⟩, kb kr sd h x (pw h) (nx + 1)] w' → St w [⟨.at o 0, z38, 38, (0, 0), []⟩, kb kr sd h x (pw h) (nx + 1)] w' := fun _ h => h.tail (newKey hr)
      refine wh_one 11 (by kernel_rfl) (wo_ef rfl rfl (ef_pure (v := .agg (bc (wordH (h : Int) (rootT h L) (nx : Int) msg))) (by kernel_rfl) rfl rfl (fun w1 h1 => word_c hrl (cells_rd (rd_cells hm offm) (hS w1 h1)) (by omega)) ⟨hS, ?_⟩))
      refine wh_one 12 (by kernel_rfl) (wo_ef rfl rfl (ef_pure (v := .agg (bc (sigF sd h L nx msg))) (by kernel_rfl) rfl rfl (fun w1 _ => sign_c hs (wordH_len _ _ _ _)) ⟨hS, ?_⟩))
      refine wh_q 13 rfl (by kernel_rfl) rfl rfl rfl (qt_build (vs := [(0, .c (.i64 (nx : Int))), (1, .agg (bc (sigF sd h L nx msg)))]) (l := scs (nx : Int) (sigF sd h L nx msg) .nil 0 0) tbok rfl zero38 rfl (sfill2 hFl)) (hS) ?_
      refine wh_one 15 (by kernel_rfl) (wo_fin rfl rfl (ef_store (cs' := scs (nx : Int) (sigF sd h L nx msg) .nil 0 0) tbok rfl rfl rfl rfl .here (scs_len hFl) (by show 0 + 2146 ≤ z38.length; rw [z38_len]; decide) (spl_all (by show (scs _ _ _ _ _).length = z38.length; rw [scs_len hFl, z38_len])) ?_))
      refine wh_done (by kernel_rfl) ?_
      refine nk_code ?_
      refine wc_seq ?_
      refine wc_region ?_
      refine wl_q rfl rfl rfl (qt_p tbok rfl) ?_
      refine wl_q rfl rfl rfl (qt_p tbok rfl) ?_
      refine wl_q rfl rfl rfl (qt_p tbok rfl) ?_
      refine wl_q rfl rfl rfl (qt_load tbok rfl rfl rfl (rc_lk (.there (.there .here)) hg1.2.1)) ?_
      refine wl_q rfl rfl rfl (qt_p tbok rfl) ?_
      refine wl_ef rfl (ef_fresh (by kernel_rfl) rfl rfl (fun w1 h1 => path76_c hA hl hn (by omega) (by rw [hl]; exact hcap) (cells_rd (rd_cells hc (off_new (newKey hr) (off_new (newKey ho) (off_one hxne)))) h1)) (fun y hy hky => ?_))
      refine wl_q rfl rfl rfl (qt_p tbok rfl) ?_
      refine wl_q rfl rfl rfl (qt_p tbok rfl) ?_
      refine wl_q rfl rfl rfl (qt_p tbok rfl) ?_
      refine wl_q rfl rfl rfl (qt_p tbok rfl) ?_
      refine wl_ef rfl (ef_store (cs' := scs (nx : Int) (sigF sd h L nx msg) y.1 h y.2.1) tbok rfl rfl rfl rfl (.there .here) rfl (by rw [scs_len hFl]; decide) (scs_set2 hFl) ?_)
      refine wl_done ?_
      refine nk_code ?_
      refine wc_seq ?_
      refine wc_region ?_
      refine wl_q rfl rfl rfl (qt_load_ag (l := scs (nx : Int) (sigF sd h L nx msg) y.1 h y.2.1) tbok rfl rfl rfl (scs_len hFl) (rs_lk (.there .here) at0)) ?_
      refine wl_ef rfl (ef_store (cs' := scs (nx : Int) (sigF sd h L nx msg) y.1 h y.2.1) tbok rfl rfl rfl rfl (.there (.there .here)) (scs_len hFl) (by show 0 + 2146 ≤ z38.length; rw [z38_len]; decide) (spl_all (by show (scs _ _ _ _ _).length = z38.length; rw [scs_len hFl, z38_len])) ?_)
      refine wl_q rfl rfl rfl (qt_p tbok rfl) ?_
      refine wl_done ?_
      refine nk_code ?_
      refine wc_ret ?_
      try dsimp only
      exact fin2 rfl (rv_ag (l := scs (nx : Int) (sigF sd h L nx msg) y.1 h y.2.1) tbok rfl rfl rfl (scs_len hFl) (rs_lk (.there (.there .here)) at0)) (rv_tmp rfl) (fun w' hw => ⟨y, rfl, hy, hky, (Rm.sub_St (Rm.sub_St hw (.there .here) (newKey hr)) (.there .here) (newKey ho)).two⟩)
  · refine wo_ef rfl rfl (ef_alloc zero38 rfl rfl (fun r hr => ⟨fun w hw => hw.tail (newKey hr), ?_⟩))
    have hS : ∀ w', St w [⟨.at r 0, z38, 38, (0, 0), []⟩, ⟨.at o 0, z38, 38, (0, 0), []⟩, kb kr sd h x (pw h) (nx + 1)] w' → St w [⟨.at o 0, z38, 38, (0, 0), []⟩, kb kr sd h x (pw h) (nx + 1)] w' := fun _ h => h.tail (newKey hr)
    refine wh_one 8 (by kernel_rfl) (wo_ef rfl rfl (ef_pure (v := .agg (.i64 (h : Int) :: bc (rootT h L))) (by kernel_rfl) rfl rfl (fun w1 h1 => public_c hs hh (cells_own (hS w1 h1) (.there .here)) hA hl hcap (cells_rd (rd_cells hc offx) (hS w1 h1))) ⟨hS, ?_⟩))
    refine wh_one 11 (by kernel_rfl) (wo_ef rfl rfl (ef_pure (v := .agg (bc (wordH (h : Int) (rootT h L) (nx : Int) msg))) (by kernel_rfl) rfl rfl (fun w1 h1 => word_c hrl (cells_rd (rd_cells hm offm) (hS w1 h1)) (by omega)) ⟨hS, ?_⟩))
    refine wh_one 12 (by kernel_rfl) (wo_ef rfl rfl (ef_pure (v := .agg (bc (sigF sd h L nx msg))) (by kernel_rfl) rfl rfl (fun w1 _ => sign_c hs (wordH_len _ _ _ _)) ⟨hS, ?_⟩))
    refine wh_q 13 rfl (by kernel_rfl) rfl rfl rfl (qt_build (vs := [(0, .c (.i64 (nx : Int))), (1, .agg (bc (sigF sd h L nx msg)))]) (l := scs (nx : Int) (sigF sd h L nx msg) .nil 0 0) tbok rfl zero38 rfl (sfill2 hFl)) (hS) ?_
    refine wh_one 15 (by kernel_rfl) (wo_fin rfl rfl (ef_store (cs' := scs (nx : Int) (sigF sd h L nx msg) .nil 0 0) tbok rfl rfl rfl rfl .here (scs_len hFl) (by show 0 + 2146 ≤ z38.length; rw [z38_len]; decide) (spl_all (by show (scs _ _ _ _ _).length = z38.length; rw [scs_len hFl, z38_len])) ?_))
    refine wh_done (by kernel_rfl) ?_
    refine nk_code ?_
    refine wc_seq ?_
    refine wc_region ?_
    refine wl_q rfl rfl rfl (qt_p tbok rfl) ?_
    refine wl_q rfl rfl rfl (qt_p tbok rfl) ?_
    refine wl_q rfl rfl rfl (qt_p tbok rfl) ?_
    refine wl_q rfl rfl rfl (qt_load tbok rfl rfl rfl (rc_lk (.there (.there .here)) hg1.2.1)) ?_
    refine wl_q rfl rfl rfl (qt_p tbok rfl) ?_
    refine wl_ef rfl (ef_fresh (by kernel_rfl) rfl rfl (fun w1 h1 => path76_c hA hl hn (by omega) (by rw [hl]; exact hcap) (cells_rd (rd_cells hc (off_new (newKey hr) (off_new (newKey ho) (off_one hxne)))) h1)) (fun y hy hky => ?_))
    refine wl_q rfl rfl rfl (qt_p tbok rfl) ?_
    refine wl_q rfl rfl rfl (qt_p tbok rfl) ?_
    refine wl_q rfl rfl rfl (qt_p tbok rfl) ?_
    refine wl_q rfl rfl rfl (qt_p tbok rfl) ?_
    refine wl_ef rfl (ef_store (cs' := scs (nx : Int) (sigF sd h L nx msg) y.1 h y.2.1) tbok rfl rfl rfl rfl (.there .here) rfl (by rw [scs_len hFl]; decide) (scs_set2 hFl) ?_)
    refine wl_done ?_
    refine nk_code ?_
    refine wc_seq ?_
    refine wc_region ?_
    refine wl_q rfl rfl rfl (qt_load_ag (l := scs (nx : Int) (sigF sd h L nx msg) y.1 h y.2.1) tbok rfl rfl rfl (scs_len hFl) (rs_lk (.there .here) at0)) ?_
    refine wl_ef rfl (ef_store (cs' := scs (nx : Int) (sigF sd h L nx msg) y.1 h y.2.1) tbok rfl rfl rfl rfl (.there (.there .here)) (scs_len hFl) (by show 0 + 2146 ≤ z38.length; rw [z38_len]; decide) (spl_all (by show (scs _ _ _ _ _).length = z38.length; rw [scs_len hFl, z38_len])) ?_)
    refine wl_q rfl rfl rfl (qt_p tbok rfl) ?_
    refine wl_done ?_
    refine nk_code ?_
    refine wc_ret ?_
    try dsimp only
    exact fin2 rfl (rv_ag (l := scs (nx : Int) (sigF sd h L nx msg) y.1 h y.2.1) tbok rfl rfl rfl (scs_len hFl) (rs_lk (.there (.there .here)) at0)) (rv_tmp rfl) (fun w' hw => ⟨y, rfl, hy, hky, (Rm.sub_St (Rm.sub_St hw (.there .here) (newKey hr)) (.there .here) (newKey ho)).two⟩)

theorem sign29_c {w : World} {sd rt msg : List UInt8} {h nx : Nat} {L : List (List UInt8)} {la ma : Ad} {lc mc : Nat} (hs : sd.length = 32) (hr : rt.length = 32) (hh : h ≤ 6) (hn : nx < pw h) (hA : A32 L) (hl : L.length = pw h) (hcap : pw h ≤ lc) (hc : Cells w la (bc L.flatten))
    (hm : Cells w ma (bc msg)) (hmax : msg.length ≤ 1073741000) :
    CallsV Try.prog 29 [.agg (bc sd), .c (.slc la (pw h) lc), .agg (.i64 (h : Int) :: bc rt), .c (.i64 (nx : Int)), .c (.slc ma msg.length mc)] w fun en w' => ∃ y : Os, en = .returned (V.agg (scs (nx : Int) ((sgL sd (UInt32.ofInt (nx : Int)) (wordH (h : Int) rt (nx : Int) msg)).flatten) y.1 h y.2.1)).den ∧ OwnS y.1 h y.2.1 32 (bc (pathT h nx L).flatten) y.2.2 ∧ (∀ k, (dob 22 (pathT h nx L) y).key = some k → w.heap.size ≤ k) ∧ St w [dob 22 (pathT h nx L) y] w' := by
  have hp6 : pw h ≤ 64 := pw_mono hh
  have hsl : (bc sd).length = 32 := by rw [bc_len, hs]
  have hrb : (bc rt).length = 32 := by rw [bc_len, hr]
  have hFl := sgF_len sd (UInt32.ofInt (nx : Int)) (wordH (h : Int) rt (nx : Int) msg)
  refine calls_in (tb := tb) (fn := Try.f29) Try.func29 rfl rfl rfl [(0, .agg (bc sd)), (1, .c (.slc la (pw h) lc)), (2, .agg (.i64 (h : Int) :: bc rt)), (3, .c (.i64 (nx : Int))), (4, .c (.slc ma msg.length mc))] rfl [] (St.refl _) ?_
  refine wc_seq ?_
  refine wc_region ?_
  refine wl_ef rfl (ef_box rfl rfl rfl (fun b hb => ?_))
  refine wl_ef rfl (ef_box rfl rfl rfl (fun b2 hb2 => ?_))
  refine wl_ef rfl (ef_alloc zero29 rfl rfl (fun o ho => ?_))
  have hS : ∀ w', St w [⟨.at o 0, z38, 29, (0, 0), []⟩, ⟨.at b2 0, .i64 (h : Int) :: bc rt, 24, (0, 0), []⟩, ⟨.at b 0, bc sd, 22, (0, 0), []⟩] w' → St w [⟨.at o 0, z38, 29, (0, 0), []⟩, ⟨.at b2 0, .i64 (h : Int) :: bc rt, 24, (0, 0), []⟩, ⟨.at b 0, bc sd, 22, (0, 0), []⟩] w' := fun _ h => h
  refine wl_done ?_
  refine nk_code ?_
  refine wc_seq ?_
  refine wc_draw (s0 := [⟨.at o 0, z38, 29, (0, 0), []⟩, ⟨.at b2 0, .i64 (h : Int) :: bc rt, 24, (0, 0), []⟩, ⟨.at b 0, bc sd, 22, (0, 0), []⟩]) 13 follows ?_
  refine wh_q 0 rfl (by kernel_rfl) rfl rfl rfl (qt_p tbok rfl) (hS) ?_
  refine wh_q 1 rfl (by kernel_rfl) rfl rfl rfl (qt_load_ag (l := bc sd) tbok rfl rfl rfl hsl (rs_lk (.there (.there .here)) at0)) (hS) ?_
  refine wh_q 2 rfl (by kernel_rfl) rfl rfl rfl (qt_p tbok rfl) (hS) ?_
  refine wh_q 3 rfl (by kernel_rfl) rfl rfl rfl (qt_p tbok rfl) (hS) ?_
  refine wh_q 4 rfl (by kernel_rfl) rfl rfl rfl (qt_load_ag (l := .i64 (h : Int) :: bc rt) tbok rfl rfl rfl (by rw [List.length_cons, hrb]) (rs_lk (.there .here) at0)) (hS) ?_
  refine wh_q 5 rfl (by kernel_rfl) rfl rfl rfl (qt_p tbok rfl) (hS) ?_
  refine wh_q 6 rfl (by kernel_rfl) rfl rfl rfl (qt_p tbok rfl) (hS) ?_
  refine wh_q 9 rfl (by kernel_rfl) rfl rfl rfl (qt_p tbok rfl) (hS) ?_
  refine wh_q 10 rfl (by kernel_rfl) rfl rfl rfl (qt_p tbok rfl) (hS) ?_
  refine wh_one 7 (by kernel_rfl) (wo_ef rfl rfl (ef_pure (v := .agg (bc (wordH (h : Int) rt (nx : Int) msg))) (by kernel_rfl) rfl rfl (fun w1 h1 => word2_c hr (cells_rd (rd_cells hm (off_new (newKey ho) (off_new (newKey hb2) (off_new (newKey hb) off_nil)))) (hS w1 h1)) (by omega)) ⟨hS, ?_⟩))
  refine wh_one 8 (by kernel_rfl) (wo_ef rfl rfl (ef_pure (v := .agg (bc (sgL sd (UInt32.ofInt (nx : Int)) (wordH (h : Int) rt (nx : Int) msg)).flatten)) (by kernel_rfl) rfl rfl (fun w1 _ => sign2_c hs (wordH_len _ _ _ _)) ⟨hS, ?_⟩))
  refine wh_one 11 (by kernel_rfl) (wo_ef rfl rfl (ef_fresh (by kernel_rfl) rfl rfl (fun w1 h1 => path79_c h hA hl hn (by omega) (by rw [hl]; exact hcap) (cells_rd (rd_cells hc (off_new (newKey ho) (off_new (newKey hb2) (off_new (newKey hb) off_nil)))) h1)) (fun y hy hky => ⟨fun w hw => hw.tail hky, ?_⟩)))
  have hS : ∀ w', St w (dob 22 (pathT h nx L) y :: [⟨.at o 0, z38, 29, (0, 0), []⟩, ⟨.at b2 0, .i64 (h : Int) :: bc rt, 24, (0, 0), []⟩, ⟨.at b 0, bc sd, 22, (0, 0), []⟩]) w' → St w [⟨.at o 0, z38, 29, (0, 0), []⟩, ⟨.at b2 0, .i64 (h : Int) :: bc rt, 24, (0, 0), []⟩, ⟨.at b 0, bc sd, 22, (0, 0), []⟩] w' := fun _ h => h.tail hky
  refine wh_q 12 rfl (by kernel_rfl) rfl rfl rfl (qt_build (vs := [(0, .c (.i64 (nx : Int))), (1, .agg (bc (sgL sd (UInt32.ofInt (nx : Int)) (wordH (h : Int) rt (nx : Int) msg)).flatten)), (2, .c (.slc y.1 h y.2.1))]) tbok rfl zero29 rfl (sfill3 hFl)) (hS) ?_
  refine wh_one 13 (by kernel_rfl) (wo_fin rfl rfl (ef_store (cs' := scs (nx : Int) ((sgL sd (UInt32.ofInt (nx : Int)) (wordH (h : Int) rt (nx : Int) msg)).flatten) y.1 h y.2.1) tbok rfl rfl rfl rfl (.there .here) (scs_len hFl) (by show 0 + 2146 ≤ z38.length; rw [z38_len]; decide) (spl_all (by show (scs _ _ _ _ _).length = z38.length; rw [scs_len hFl, z38_len])) ?_))
  refine wh_done (by kernel_rfl) ?_
  refine nk_code ?_
  refine wc_ret ?_
  try dsimp only
  exact fin1 rfl (rv_ag (l := scs (nx : Int) ((sgL sd (UInt32.ofInt (nx : Int)) (wordH (h : Int) rt (nx : Int) msg)).flatten) y.1 h y.2.1) tbok rfl rfl rfl (scs_len hFl) (rs_lk (.there .here) at0)) (fun w' hw => ⟨y, rfl, hy, hky, Rm.sub_St (Rm.sub_St (Rm.sub_St hw (.there .here) (newKey ho)) (.there .here) (newKey hb2)) (.there .here) (newKey hb)⟩)
end Go.Proofs.Ytjhmcmadleabjaa
