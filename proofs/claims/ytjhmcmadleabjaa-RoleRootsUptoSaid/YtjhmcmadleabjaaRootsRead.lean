/- The root of any bytes: both sides read the same; a root comes back from its bytes. -/
import Derived.Test.YtjhmcmadleabjaaRoots
set_option linter.unusedVariables false
set_option maxRecDepth 100000
namespace Go.Hw
section
variable {X : Cx} {d : Option Nat} {ty : Nat} {pos : String} {af : Array Edge} {gd : Option (Nat × Bool)} {e : Env} {s : Hp}
theorem qt_arrayAt {t n el z sz : Nat} {x : Operand} {r off len cap : Nat} (ht : TbOk X.P X.tb) (htt : X.tb.get t = some (.arr n el z, sz)) (hx : ev e x = some (.c (.slc (.at r off) len cap))) (hl : n ≤ len) :
    Qt X ⟨d, .sliceToArrayPointer t x, ty, pos, af, gd⟩ e s (.c (.ptr (.at r off))) := by
  refine ⟨fun a w hf hs => ?_⟩
  obtain ⟨hu, hz⟩ := und_arr ht htt
  have h1 : ¬ (len < n) := by omega
  simp only [execOp]; rw [hf.ev hx]
  simp [V.den, C.den, Ad.den, Instr.arrayAt, run_underlying hu, Result.andThen, Sem.run_bind, h1]
end
end Go.Hw
namespace Go.Proofs.Ytjhmcmadleabjaa
open Go Go.Hw Go.Proofs

/-! ### Numbers of bytes -/
def gv (l : List UInt8) : UInt64 := l.foldl (fun a b => a * 256 + b.toUInt64) 0
theorem gv_snoc (l : List UInt8) (b : UInt8) : gv (l ++ [b]) = gv l * 256 + b.toUInt64 := by simp [gv]
theorem or_add (a : UInt64) (b : UInt8) : (a <<< 8) ||| b.toUInt64 = a * 256 + b.toUInt64 := by
  apply UInt64.toNat_inj.1
  have hb := b.toNat_lt
  have h8 : (8 : UInt64).toNat % 64 = 8 := rfl
  have h256 : (256 : UInt64).toNat = 256 := rfl
  rw [UInt64.toNat_or, UInt64.toNat_shiftLeft, UInt64.toNat_add, UInt64.toNat_mul, h8, h256, UInt8.toNat_toUInt64, Nat.shiftLeft_eq]
  have e : a.toNat * 2 ^ 8 % 2 ^ 64 = (a.toNat % 2 ^ 56) <<< 8 := by rw [Nat.shiftLeft_eq]; omega
  rw [e, ← Nat.shiftLeft_add_eq_or_of_lt (by omega), Nat.shiftLeft_eq]
  omega

theorem get85_c {w : World} {l : List UInt8} {ca : Ad} {cc : Nat} (hc : Cells w ca (bc l)) (hl : l.length ≤ 8) :
    CallsV Try.prog 85 [.c (.slc ca l.length cc)] w fun en w' => en = .returned (V.t2 (.c (.u64 (gv l))) (.c (.bool true))).den ∧ St w [] w' := by
  refine calls_in (tb := tb) (fn := Try.f85) Try.func85 rfl rfl rfl [(0, .c (.slc ca l.length cc))] rfl [] (St.refl _) ?_
  refine wc_seq ?_
  refine wc_region ?_
  refine wl_q rfl rfl rfl (qt_p tbok rfl) ?_
  refine wl_q rfl rfl rfl (qt_p tbok rfl) ?_
  refine wl_done ?_
  refine nk_code ?_
  refine wc_seq ?_
  refine wc_seq ?_
  refine wc_region ?_
  refine wl_q rfl rfl rfl (qt_p tbok rfl) ?_
  refine wl_q rfl rfl rfl (qt_len tbok rfl rfl) ?_
  refine wl_q rfl rfl rfl (qt_p tbok rfl) ?_
  refine wl_as (v' := .c (.bool false)) (congrArg (fun b => V.c (C.bool b)) (decide_eq_false (by omega))) ?_
  refine wl_done ?_
  refine nk_code ?_
  refine wc_no rfl ?_
  refine wc_skip ?_
  refine nk_code ?_
  refine wc_seq ?_
  refine wc_region ?_
  refine wl_q rfl rfl rfl (qt_p tbok rfl) ?_
  refine wl_done ?_
  refine nk_code ?_
  refine wc_seq ?_
  refine wc_seq ?_
  refine wc_region ?_
  refine wl_q rfl rfl rfl (qt_p tbok rfl) ?_
  refine wl_q rfl rfl rfl (qt_len tbok rfl rfl) ?_
  refine wl_q rfl rfl rfl (qt_p tbok rfl) ?_
  refine wl_done ?_
  refine nk_code ?_
  refine wc_block ?_
  refine wc_loop (ι := Nat) (fun i => i ≤ l.length) (fun i => [(12, .c (.i64 (i : Int))), (11, .c (.i64 (l.length : Int))), (10, .c (.slc ca l.length cc)), (4, .c (.u64 (gv (l.take i))))]) (fun i => []) (fun i => l.length - i) 0 (Nat.zero_le _) (nk_start ⟨rfl, rfl, rfl, rfl, trivial⟩ (fun w hw => hw)) (fun i hi => ?_)
  refine wc_seq ?_
  refine wc_region ?_
  refine wl_q rfl rfl rfl (qt_p tbok rfl) ?_
  refine wl_done ?_
  refine nk_code ?_
  refine wc_seq ?_
  refine wc_cond rfl (fun h13 => ?_) (fun h13 => ?_)
  · have hi' : i < l.length := (by have h0 := of_decide_eq_true h13; omega)
    obtain ⟨cr, co, hca⟩ := cells_nn hc (by rw [bc_len]; omega)
    subst hca
    refine wc_skip ?_
    refine nk_code ?_
    refine wc_seq ?_
    refine wc_block ?_
    refine wc_seq ?_
    refine wc_region ?_
    refine wl_q rfl rfl rfl (qt_p tbok rfl) ?_
    refine wl_q rfl rfl rfl (qt_load (c := .u8 (l.getD i 0)) tbok rfl rfl rfl ((rs_cells hc off_nil).rc (bc_getD hi') (by omega))) ?_
    refine wl_q rfl rfl rfl (qt_p tbok rfl) ?_
    refine wl_done ?_
    refine nk_code ?_
    refine wc_region ?_
    refine wl_q rfl rfl rfl (qt_p tbok rfl) ?_
    refine wl_q rfl rfl rfl (qt_p tbok rfl) ?_
    refine wl_q rfl rfl rfl (qt_p tbok rfl) ?_
    refine wl_q rfl rfl rfl (qt_p tbok rfl) ?_
    refine wl_q rfl rfl rfl (qt_p tbok rfl) ?_
    refine wl_as (v' := .c (.u64 (gv (l.take (i + 1))))) (by rw [take_snoc hi', gv_snoc, ← or_add]; rfl) ?_
    refine wl_q rfl rfl rfl (qt_p tbok rfl) ?_
    refine wl_done ?_
    refine nk_code ?_
    refine wc_region ?_
    refine wl_q rfl rfl rfl (qt_p tbok rfl) ?_
    refine wl_q rfl rfl rfl (qt_p tbok rfl) ?_
    refine wl_done ?_
    exact nk_round (i := i) (i + 1) hi' (by show l.length - (i + 1) < l.length - i; omega) ⟨rfl, rfl, rfl, rfl, trivial⟩ (fun w hw => hw)
  · have he : i = l.length := (by have h0 := of_decide_eq_false h13; omega)
    subst he
    rw [List.take_length]
    refine wc_exit rfl ?_
    refine nk_code ?_
    refine wc_seq ?_
    refine wc_region ?_
    refine wl_q rfl rfl rfl (qt_p tbok rfl) ?_
    refine wl_q rfl rfl rfl (qt_p tbok rfl) ?_
    refine wl_q rfl rfl rfl (qt_p tbok rfl) ?_
    refine wl_done ?_
    refine nk_code ?_
    refine wc_ret ?_
    try dsimp only
    exact fin2 rfl (rv_tmp rfl) (rv_tmp rfl) (fun w' hw => ⟨rfl, hw⟩)

theorem get87_c {w : World} {l : List UInt8} {ca : Ad} {cc : Nat} (hc : Cells w ca (bc l)) (hl : l.length ≤ 8) :
    CallsV Try.prog 87 [.c (.slc ca l.length cc)] w fun en w' => en = .returned (V.t2 (.c (.u64 (gv l))) (.c (.bool true))).den ∧ St w [] w' := by
  refine calls_in (tb := tb) (fn := Try.f87) Try.func87 rfl rfl rfl [(0, .c (.slc ca l.length cc))] rfl [] (St.refl _) ?_
  refine wc_seq ?_
  refine wc_region ?_
  refine wl_q rfl rfl rfl (qt_p tbok rfl) ?_
  refine wl_q rfl rfl rfl (qt_p tbok rfl) ?_
  refine wl_done ?_
  refine nk_code ?_
  refine wc_seq ?_
  refine wc_seq ?_
  refine wc_region ?_
  refine wl_q rfl rfl rfl (qt_p tbok rfl) ?_
  refine wl_q rfl rfl rfl (qt_len tbok rfl rfl) ?_
  refine wl_q rfl rfl rfl (qt_p tbok rfl) ?_
  refine wl_as (v' := .c (.bool false)) (congrArg (fun b => V.c (C.bool b)) (decide_eq_false (by omega))) ?_
  refine wl_done ?_
  refine nk_code ?_
  refine wc_no rfl ?_
  refine wc_skip ?_
  refine nk_code ?_
  refine wc_seq ?_
  refine wc_region ?_
  refine wl_q rfl rfl rfl (qt_p tbok rfl) ?_
  refine wl_done ?_
  refine nk_code ?_
  refine wc_seq ?_
  refine wc_seq ?_
  refine wc_region ?_
  refine wl_q rfl rfl rfl (qt_p tbok rfl) ?_
  refine wl_done ?_
  refine nk_code ?_
  refine wc_block ?_
  refine wc_loop (ι := Nat) (fun i => i ≤ l.length) (fun i => [(5, .c (.i64 (i : Int))), (4, .c (.u64 (gv (l.take i)))), (0, .c (.slc ca l.length cc))]) (fun i => []) (fun i => l.length - i) 0 (Nat.zero_le _) (nk_start ⟨rfl, rfl, rfl, trivial⟩ (fun w hw => hw)) (fun i hi => ?_)
  refine wc_seq ?_
  refine wc_seq ?_
  refine wc_region ?_
  refine wl_q rfl rfl rfl (qt_p tbok rfl) ?_
  refine wl_q rfl rfl rfl (qt_p tbok rfl) ?_
  refine wl_q rfl rfl rfl (qt_len tbok rfl rfl) ?_
  refine wl_q rfl rfl rfl (qt_p tbok rfl) ?_
  refine wl_done ?_
  refine nk_code ?_
  refine wc_cond rfl (fun h12 => ?_) (fun h12 => ?_)
  · have hi' : i < l.length := (by have h0 := of_decide_eq_true h12; omega)
    obtain ⟨cr, co, hca⟩ := cells_nn hc (by rw [bc_len]; omega)
    subst hca
    refine wc_skip ?_
    refine nk_code ?_
    refine wc_seq ?_
    refine wc_block ?_
    refine wc_region ?_
    refine wl_q rfl rfl rfl (qt_p tbok rfl) ?_
    refine wl_q rfl rfl rfl (qt_p tbok rfl) ?_
    refine wl_q rfl rfl rfl (qt_p tbok rfl) ?_
    refine wl_q rfl rfl rfl (qt_p tbok rfl) ?_
    refine wl_q rfl rfl rfl (qt_p tbok rfl) ?_
    refine wl_q rfl rfl rfl (qt_load (c := .u8 (l.getD i 0)) tbok rfl rfl rfl ((rs_cells hc off_nil).rc (bc_getD hi') (by omega))) ?_
    refine wl_q rfl rfl rfl (qt_p tbok rfl) ?_
    refine wl_q rfl rfl rfl (qt_p tbok rfl) ?_
    refine wl_as (v' := .c (.u64 (gv (l.take (i + 1))))) (by rw [take_snoc hi', gv_snoc]; rfl) ?_
    refine wl_q rfl rfl rfl (qt_p tbok rfl) ?_
    refine wl_done ?_
    refine nk_code ?_
    refine wc_region ?_
    refine wl_q rfl rfl rfl (qt_p tbok rfl) ?_
    refine wl_q rfl rfl rfl (qt_p tbok rfl) ?_
    refine wl_q rfl rfl rfl (qt_p tbok rfl) ?_
    refine wl_done ?_
    exact nk_round (i := i) (i + 1) hi' (by show l.length - (i + 1) < l.length - i; omega) ⟨rfl, rfl, rfl, trivial⟩ (fun w hw => hw)
  · have he : i = l.length := (by have h0 := of_decide_eq_false h12; omega)
    subst he
    rw [List.take_length]
    refine wc_exit rfl ?_
    refine nk_code ?_
    refine wc_seq ?_
    refine wc_region ?_
    refine wl_q rfl rfl rfl (qt_p tbok rfl) ?_
    refine wl_q rfl rfl rfl (qt_p tbok rfl) ?_
    refine wl_q rfl rfl rfl (qt_p tbok rfl) ?_
    refine wl_done ?_
    refine nk_code ?_
    refine wc_ret ?_
    try dsimp only
    exact fin2 rfl (rv_tmp rfl) (rv_tmp rfl) (fun w' hw => ⟨rfl, hw⟩)

/-! ### A role off bytes -/
def keysOf (m : Nat) (l : List UInt8) : List (Int × List UInt8) := (List.range m).map fun i => (((l.getD (33 * i) 0).toNat : Int), (l.drop (33 * i + 1)).take 32)
def tkM (c : List UInt8) : Nat := (c.getD 1 0).toNat
def tkO (c : List UInt8) : Bool := decide (2 ≤ c.length) && decide (2 + 33 * tkM c ≤ c.length)
def tkR (c : List UInt8) : Ro := if tkO c = true then ⟨((c.getD 0 0).toNat : Int), keysOf (tkM c) (c.drop 2)⟩ else ⟨0, []⟩
def tkD (c : List UInt8) : List UInt8 := if tkO c = true then c.drop (2 + 33 * tkM c) else []
theorem keysOf_len (m : Nat) (l : List UInt8) : (keysOf m l).length = m := by simp [keysOf]
theorem keysOf_el {m i : Nat} (l : List UInt8) (h : i < m) : el (keysOf m l) i = (((l.getD (33 * i) 0).toNat : Int), (l.drop (33 * i + 1)).take 32) := by
  have := el_get (A := keysOf m l) (i := i) (by rw [keysOf_len]; exact h)
  have h2 : (keysOf m l)[i]? = some (((l.getD (33 * i) 0).toNat : Int), (l.drop (33 * i + 1)).take 32) := by simp [keysOf, h]
  rw [h2] at this
  exact (Option.some.inj this).symm
theorem keysOf_32 {m : Nat} {l : List UInt8} (h : 33 * m ≤ l.length) : K32 (keysOf m l) := fun k hk => by
  obtain ⟨i, hi, rfl⟩ := List.mem_map.1 hk
  have := List.mem_range.1 hi
  rw [List.length_take, List.length_drop]; omega
theorem tkO_spec {c : List UInt8} (h : tkO c = true) : 2 ≤ c.length ∧ 2 + 33 * tkM c ≤ c.length := by
  unfold tkO at h; simpa using h
theorem tkM_lt (c : List UInt8) : tkM c < 256 := (c.getD 1 0).toNat_lt
theorem tk_ok (c : List UInt8) : (tkR c).ok := by
  unfold tkR
  by_cases h : tkO c = true
  · rw [if_pos h]
    obtain ⟨_, h2⟩ := tkO_spec h
    have h3 := tkM_lt c
    exact ⟨keysOf_32 (by rw [List.length_drop]; omega), by show (keysOf _ _).length ≤ _; rw [keysOf_len]; omega⟩
  · rw [if_neg h]; exact ⟨(fun k hk => by cases hk), Nat.zero_le _⟩
theorem drop_bc {l : List UInt8} {k : Nat} (h : k + 32 < l.length) : ∀ (j : Nat) c, (bc ((l.drop (k + 1)).take 32))[j]? = some c → (bc l)[k + 1 + j]? = some c := fun j c hj => by
  have hl : j < ((l.drop (k + 1)).take 32).length := by have := (List.getElem?_eq_some_iff.1 hj).1; rwa [bc_len] at this
  rw [List.length_take, List.length_drop] at hl
  unfold bc at *
  rw [List.getElem?_map, List.getElem?_take_of_lt (by omega), List.getElem?_drop] at hj
  rw [List.getElem?_map]; exact hj

theorem takeno_c {w : World} {c : List UInt8} {ca : Ad} {cc : Nat} (hc : Cells w ca (bc c)) (hl : c.length ≤ 1073741824) (h : tkO c = false) :
    CallsV Try.prog 86 [.c (.slc ca c.length cc)] w fun en w' => en = .returned (V.t3 (.agg (rrow default)) (.c (.slc .nil 0 0)) (.c (.bool false))).den ∧ St w [] w' := by
  refine calls_in (tb := tb) (fn := Try.f86) Try.func86 rfl rfl rfl [(0, .c (.slc ca c.length cc))] rfl [] (St.refl _) ?_
  refine wc_seq ?_
  refine wc_region ?_
  refine wl_ef rfl (ef_alloc zero72 rfl rfl (fun o ho => ?_))
  refine wl_q rfl rfl rfl (qt_p tbok rfl) ?_
  refine wl_q rfl rfl rfl (qt_p tbok rfl) ?_
  refine wl_done ?_
  refine nk_code ?_
  refine wc_seq ?_
  refine wc_seq ?_
  refine wc_region ?_
  refine wl_q rfl rfl rfl (qt_p tbok rfl) ?_
  refine wl_q rfl rfl rfl (qt_len tbok rfl rfl) ?_
  refine wl_q rfl rfl rfl (qt_p tbok rfl) ?_
  refine wl_bool (fun h1 => ?_) (fun h1 => ?_)
  · refine wl_q rfl rfl rfl (qt_p tbok rfl) ?_
    first | refine wl_g rfl rfl rfl rfl (qt_p tbok rfl) ?_ | refine wl_skip rfl rfl rfl rfl rfl ?_
    first | refine wl_g rfl rfl rfl rfl (qt_len tbok rfl rfl) ?_ | refine wl_skip rfl rfl rfl rfl rfl ?_
    first | refine wl_g rfl rfl rfl rfl (qt_p tbok rfl) ?_ | refine wl_skip rfl rfl rfl rfl rfl ?_
    first | refine wl_g rfl rfl rfl rfl (qt_p tbok rfl) ?_ | refine wl_skip rfl rfl rfl rfl rfl ?_
    first | refine wl_g rfl rfl rfl rfl (qt_l tbok rfl rfl rfl) ?_ | refine wl_g rfl rfl rfl rfl (qt_la tbok rfl rfl rfl) ?_ | refine wl_skip rfl rfl rfl rfl rfl ?_
    first | refine wl_g rfl rfl rfl rfl (qt_p tbok rfl) ?_ | refine wl_skip rfl rfl rfl rfl rfl ?_
    first | refine wl_g rfl rfl rfl rfl (qt_p tbok rfl) ?_ | refine wl_skip rfl rfl rfl rfl rfl ?_
    first | refine wl_g rfl rfl rfl rfl (qt_p tbok rfl) ?_ | refine wl_skip rfl rfl rfl rfl rfl ?_
    first | refine wl_g rfl rfl rfl rfl (qt_p tbok rfl) ?_ | refine wl_skip rfl rfl rfl rfl rfl ?_
    refine wl_q rfl rfl rfl (qt_p tbok rfl) ?_
    refine wl_done ?_
    refine nk_code ?_
    refine wc_yes rfl ?_
    refine wc_seq ?_
    refine wc_region ?_
    refine wl_q rfl rfl rfl (qt_load_ag (l := rrow default) tbok rfl rfl rfl rfl (rs_lk .here at0)) ?_
    refine wl_ef rfl (ef_store (cs' := rrow default) tbok rfl rfl rfl rfl .here rfl (Nat.le_of_ble_eq_true rfl) rfl ?_)
    refine wl_q rfl rfl rfl (qt_p tbok rfl) ?_
    refine wl_q rfl rfl rfl (qt_p tbok rfl) ?_
    refine wl_done ?_
    refine nk_code ?_
    refine wc_ret ?_
    try dsimp only
    exact fin3 rfl (rv_ag (l := rrow default) tbok rfl rfl rfl rfl (rs_lk .here at0)) (rv_tmp rfl) (rv_tmp rfl) (fun w' hw => ⟨rfl, hw.tail (newKey ho)⟩)
  · refine wl_q rfl rfl rfl (qt_p tbok rfl) ?_
    have hl2 : 2 ≤ c.length := (by have := of_decide_eq_false h1; omega)
    obtain ⟨cr, co, hca⟩ := cells_nn hc (by rw [bc_len]; omega)
    subst hca
    have hm := tkM_lt c
    have hno : ¬ (2 + 33 * tkM c ≤ c.length) := (by unfold tkO at h; rw [decide_eq_true hl2, Bool.true_and] at h; exact of_decide_eq_false h)
    first | refine wl_g rfl rfl rfl rfl (qt_p tbok rfl) ?_ | refine wl_skip rfl rfl rfl rfl rfl ?_
    first | refine wl_g rfl rfl rfl rfl (qt_len tbok rfl rfl) ?_ | refine wl_skip rfl rfl rfl rfl rfl ?_
    first | refine wl_g rfl rfl rfl rfl (qt_p tbok rfl) ?_ | refine wl_skip rfl rfl rfl rfl rfl ?_
    first | refine wl_g rfl rfl rfl rfl (qt_p tbok rfl) ?_ | refine wl_skip rfl rfl rfl rfl rfl ?_
    refine wl_g rfl rfl rfl rfl (qt_load (c := .u8 (c.getD 1 0)) tbok rfl rfl rfl ((rs_cells hc (off_new (newKey ho) off_nil)).rc (bc_getD (i := 1) (by omega)) rfl)) ?_
    first | refine wl_g rfl rfl rfl rfl (qt_p tbok rfl) ?_ | refine wl_skip rfl rfl rfl rfl rfl ?_
    have hm2 : (c.getD 1 0).toNat < 256 := (c.getD 1 0).toNat_lt
    first | refine wl_g rfl rfl rfl rfl (qt_p tbok rfl) ?_ | refine wl_skip rfl rfl rfl rfl rfl ?_
    first | refine wl_g rfl rfl rfl rfl (qt_p tbok rfl) ?_ | refine wl_skip rfl rfl rfl rfl rfl ?_
    first | refine wl_g rfl rfl rfl rfl (qt_p tbok rfl) ?_ | refine wl_skip rfl rfl rfl rfl rfl ?_
    refine wl_as (v' := .c (.bool true)) (congrArg (fun b => V.c (C.bool b)) (decide_eq_true (by unfold tkM at hno; omega))) ?_
    refine wl_q rfl rfl rfl (qt_p tbok rfl) ?_
    refine wl_done ?_
    refine nk_code ?_
    refine wc_yes rfl ?_
    refine wc_seq ?_
    refine wc_region ?_
    refine wl_q rfl rfl rfl (qt_load_ag (l := rrow default) tbok rfl rfl rfl rfl (rs_lk .here at0)) ?_
    refine wl_ef rfl (ef_store (cs' := rrow default) tbok rfl rfl rfl rfl .here rfl (Nat.le_of_ble_eq_true rfl) rfl ?_)
    refine wl_q rfl rfl rfl (qt_p tbok rfl) ?_
    refine wl_q rfl rfl rfl (qt_p tbok rfl) ?_
    refine wl_done ?_
    refine nk_code ?_
    refine wc_ret ?_
    try dsimp only
    exact fin3 rfl (rv_ag (l := rrow default) tbok rfl rfl rfl rfl (rs_lk .here at0)) (rv_tmp rfl) (rv_tmp rfl) (fun w' hw => ⟨rfl, hw.tail (newKey ho)⟩)

theorem takeyes_c {w : World} {c : List UInt8} {ca : Ad} {cc : Nat} (hc : Cells w ca (bc c)) (hl : c.length ≤ 1073741824) (hcap : c.length ≤ cc) (h : tkO c = true) :
    CallsV Try.prog 86 [.c (.slc ca c.length cc)] w fun en w' => ∃ x : Os × Ad × Nat, en = .returned (V.t3 (.agg (rrow (tkR c, x.1))) (.c (.slc x.2.1 (tkD c).length x.2.2)) (.c (.bool true))).den ∧ (roO (tkR c, x.1) ∧ (∀ w2 : World, Cells w2 ca (bc c) → Cells w2 x.2.1 (bc (tkD c))) ∧ (tkD c).length ≤ x.2.2) ∧ (∀ k, x.1.1.key = some k → w.heap.size ≤ k) ∧ St w [rob 32 (tkR c, x.1)] w' := by
  obtain ⟨hl2, hle⟩ := tkO_spec h
  have hm := tkM_lt c
  have hmd : (c.getD 1 0).toNat = tkM c := rfl
  have hR : tkR c = ⟨((c.getD 0 0).toNat : Int), keysOf (tkM c) (c.drop 2)⟩ := by unfold tkR; rw [if_pos h]
  have hD : tkD c = c.drop (2 + 33 * tkM c) := by unfold tkD; rw [if_pos h]
  obtain ⟨cr, co, hca⟩ := cells_nn hc (by rw [bc_len]; omega)
  subst hca
  obtain ⟨m, hmm⟩ : ∃ m, m = tkM c := ⟨_, rfl⟩
  obtain ⟨n0, hn0⟩ : ∃ n : Int, n = ((c.getD 0 0).toNat : Int) := ⟨_, rfl⟩
  obtain ⟨l, hll⟩ : ∃ l, l = c.drop 2 := ⟨_, rfl⟩
  have hlen : l.length = c.length - 2 := by rw [hll, List.length_drop]
  rw [← hmm] at hm hmd hR hD hle
  rw [← hn0, ← hll] at hR
  rw [show c.drop (2 + 33 * m) = l.drop (33 * m) by rw [hll, List.drop_drop]] at hD
  have hK := keysOf_32 (m := m) (l := l) (by omega)
  obtain ⟨K, hKK⟩ : ∃ K, K = keysOf m l := ⟨_, rfl⟩
  have hKl : K.length = m := by rw [hKK, keysOf_len]
  rw [← hKK] at hR hK
  rw [hR, hD]
  refine calls_in (tb := tb) (fn := Try.f86) Try.func86 rfl rfl rfl [(0, .c (.slc (.at cr co) c.length cc))] rfl [] (St.refl _) ?_
  refine wc_seq ?_
  refine wc_region ?_
  refine wl_ef rfl (ef_alloc zero72 rfl rfl (fun o ho => ?_))
  refine wl_q rfl rfl rfl (qt_p tbok rfl) ?_
  refine wl_q rfl rfl rfl (qt_p tbok rfl) ?_
  refine wl_done ?_
  refine nk_code ?_
  refine wc_seq ?_
  refine wc_seq ?_
  refine wc_region ?_
  refine wl_q rfl rfl rfl (qt_p tbok rfl) ?_
  refine wl_q rfl rfl rfl (qt_len tbok rfl rfl) ?_
  refine wl_q rfl rfl rfl (qt_p tbok rfl) ?_
  refine wl_as (v' := .c (.bool false)) (congrArg (fun b => V.c (C.bool b)) (decide_eq_false (by omega))) ?_
  refine wl_q rfl rfl rfl (qt_p tbok rfl) ?_
  first | refine wl_g rfl rfl rfl rfl (qt_p tbok rfl) ?_ | refine wl_skip rfl rfl rfl rfl rfl ?_
  first | refine wl_g rfl rfl rfl rfl (qt_len tbok rfl rfl) ?_ | refine wl_skip rfl rfl rfl rfl rfl ?_
  first | refine wl_g rfl rfl rfl rfl (qt_p tbok rfl) ?_ | refine wl_skip rfl rfl rfl rfl rfl ?_
  first | refine wl_g rfl rfl rfl rfl (qt_p tbok rfl) ?_ | refine wl_skip rfl rfl rfl rfl rfl ?_
  refine wl_g rfl rfl rfl rfl (qt_load (c := .u8 (c.getD 1 0)) tbok rfl rfl rfl ((rs_cells hc (off_new (newKey ho) off_nil)).rc (bc_getD (i := 1) (by omega)) rfl)) ?_
  first | refine wl_g rfl rfl rfl rfl (qt_p tbok rfl) ?_ | refine wl_skip rfl rfl rfl rfl rfl ?_
  refine wl_as (v' := .c (.i64 (m : Int))) (by rw [hmd]) ?_
  first | refine wl_g rfl rfl rfl rfl (qt_p tbok rfl) ?_ | refine wl_skip rfl rfl rfl rfl rfl ?_
  first | refine wl_g rfl rfl rfl rfl (qt_p tbok rfl) ?_ | refine wl_skip rfl rfl rfl rfl rfl ?_
  first | refine wl_g rfl rfl rfl rfl (qt_p tbok rfl) ?_ | refine wl_skip rfl rfl rfl rfl rfl ?_
  refine wl_as (v' := .c (.bool false)) (congrArg (fun b => V.c (C.bool b)) (decide_eq_false (by omega))) ?_
  refine wl_q rfl rfl rfl (qt_p tbok rfl) ?_
  refine wl_done ?_
  refine nk_code ?_
  refine wc_no rfl ?_
  refine wc_skip ?_
  refine nk_code ?_
  refine wc_seq ?_
  refine wc_region ?_
  refine wl_q rfl rfl rfl (qt_p tbok rfl) ?_
  refine wl_q rfl rfl rfl (qt_p tbok rfl) ?_
  refine wl_q rfl rfl rfl (qt_load (c := .u8 (c.getD 0 0)) tbok rfl rfl rfl ((rs_cells hc (off_new (newKey ho) off_nil)).rc (bc_getD (i := 0) (by omega)) rfl)) ?_
  refine wl_q rfl rfl rfl (qt_p tbok rfl) ?_
  refine wl_as (v' := .c (.i64 n0)) (by rw [hn0]) ?_
  refine wl_q rfl rfl rfl (qt_p tbok rfl) ?_
  refine wl_ef rfl (ef_store (cs' := [.i64 n0, .slc .nil 0 0]) tbok rfl rfl rfl rfl .here rfl (Nat.le_of_ble_eq_true rfl) rfl ?_)
  refine wl_done ?_
  refine nk_code ?_
  refine wc_seq ?_
  refine wc_region ?_
  refine wl_q rfl rfl rfl (qt_p tbok rfl) ?_
  refine wl_q rfl rfl rfl (qt_p tbok rfl) ?_
  refine wl_q rfl rfl rfl (qt_load (c := .u8 (c.getD 1 0)) tbok rfl rfl rfl ((rs_cells hc (off_new (newKey ho) off_nil)).rc (bc_getD (i := 1) (by omega)) rfl)) ?_
  refine wl_q rfl rfl rfl (qt_p tbok rfl) ?_
  refine wl_as (v' := .c (.i64 (m : Int))) (by rw [hmd]) ?_
  refine wl_q rfl rfl rfl (qt_p tbok rfl) ?_
  refine wl_done ?_
  refine nk_code ?_
  refine wc_seq ?_
  refine wc_seq ?_
  refine wc_region ?_
  refine wl_q rfl rfl rfl (qt_p tbok rfl) ?_
  first | refine wl_q rfl rfl rfl (qt_sl tbok rfl rfl rfl rfl) ?_ | refine wl_q rfl rfl rfl (qt_sa tbok rfl rfl rfl rfl) ?_
  have e2 : c.length - 2 = (l.drop (33 * 0)).length := (by rw [List.length_drop]; omega)
  have hc2 : ∀ w2 : World, Cells w2 (.at cr co) (bc c) → Cells w2 ((Ad.at cr co).adv 2 cc 1) (bc (l.drop (33 * 0))) := (fun w2 h2 => by have := h2.adv (k := 2) (m := cc) (by rw [bc_len]; exact hcap); rw [bc_drop, ← hll] at this; exact this)
  have hcap2 : (l.drop (33 * 0)).length ≤ cc - 2 := (by rw [← e2]; omega)
  refine wl_q rfl rfl rfl (qt_p tbok rfl) ?_
  refine wl_done ?_
  refine nk_code ?_
  refine wc_block ?_
  refine wc_loop (ι := Nat × (Ad × Nat) × Os) (fun j => j.1 ≤ m ∧ (∀ w2 : World, Cells w2 (.at cr co) (bc c) → Cells w2 j.2.1.1 (bc (l.drop (33 * j.1)))) ∧ (l.drop (33 * j.1)).length ≤ j.2.1.2 ∧ OwnS j.2.2.1 j.1 j.2.2.2.1 33 ((K.take j.1).flatMap kr) j.2.2.2.2 ∧ (∀ k, j.2.2.1.key = some k → w.heap.size ≤ k)) (fun j => [(5, .c (.i64 ((m : Int) - (j.1 : Int)))), (0, .c (.slc j.2.1.1 (l.drop (33 * j.1)).length j.2.1.2)), (2, .c (.ptr (.at o 0)))]) (fun j => [⟨.at o 0, [.i64 n0, .slc j.2.2.1 j.1 j.2.2.2.1], 72, (0, 0), []⟩, kob (K.take j.1) j.2.2]) (fun j => m - j.1) (0, ((Ad.at cr co).adv 2 cc 1, cc - 2), .nil, 0, []) ⟨Nat.zero_le _, hc2, hcap2, ⟨rfl, rfl, rfl, rfl⟩, nil_new⟩ (nk_start ⟨by show some (V.c (C.i64 (m : Int))) = some (V.c (C.i64 ((m : Int) - ((0 : Nat) : Int)))); rw [Int.natCast_zero, Int.sub_zero], by show some (V.c (C.slc ((Ad.at cr co).adv 2 cc 1) (c.length - 2) (cc - 2))) = some (V.c (C.slc ((Ad.at cr co).adv 2 cc 1) (l.drop (33 * 0)).length (cc - 2))); rw [e2], rfl, trivial⟩ (fun w hw => (st_none hw).two)) (fun ⟨i, ⟨da, dc⟩, y⟩ ⟨hi, hcd, hcl, hy, hyk⟩ => ?_)
  replace hi : i ≤ m := hi
  replace hcd : ∀ w2 : World, Cells w2 (.at cr co) (bc c) → Cells w2 da (bc (l.drop (33 * i))) := hcd
  replace hcl : (l.drop (33 * i)).length ≤ dc := hcl
  replace hy : OwnS y.1 i y.2.1 33 ((K.take i).flatMap kr) y.2.2 := hy
  replace hyk : ∀ k, y.1.key = some k → w.heap.size ≤ k := hyk
  have hdl : (l.drop (33 * i)).length = l.length - 33 * i := List.length_drop
  dsimp only
  refine wc_seq ?_
  refine wc_seq ?_
  refine wc_region ?_
  refine wl_q rfl rfl rfl (qt_p tbok rfl) ?_
  refine wl_q rfl rfl rfl (qt_p tbok rfl) ?_
  refine wl_done ?_
  refine nk_code ?_
  refine wc_cond rfl (fun h33 => ?_) (fun h33 => ?_)
  · have hi' : i < m := (by have h0 := of_decide_eq_true h33; omega)
    obtain ⟨dr, d0, hda⟩ := cells_nn (hcd w hc) (by rw [bc_len]; omega)
    subst hda
    have hki : i < K.length := (by omega)
    have hgl := hK.row _ (el_mem hki)
    have hgb : (bc (el K i).2).length = 32 := (by rw [bc_len]; exact hK _ (el_mem hki))
    have hdc : dc ≠ 1 := (by omega)
    have hel : el K i = (((l.getD (33 * i) 0).toNat : Int), (l.drop (33 * i + 1)).take 32) := (by rw [hKK]; exact keysOf_el l hi')
    have hrd : RS w [⟨.at o 0, [.i64 n0, .slc y.1 i y.2.1], 72, (0, 0), []⟩] dr d0 (bc (l.drop (33 * i))) := rs_cells (hcd w hc) (off_new (newKey ho) off_nil)
    have hg0 : (l.drop (33 * i)).getD 0 0 = l.getD (33 * i) 0 := (by rw [List.getD_eq_getElem?_getD, List.getElem?_drop, List.getD_eq_getElem?_getD]; rfl)
    refine wc_skip ?_
    refine nk_code ?_
    refine wc_seq ?_
    refine wc_block ?_
    refine wc_seq ?_
    refine wc_draw (s0 := [⟨.at o 0, [.i64 n0, .slc y.1 i y.2.1], 72, (0, 0), []⟩]) 14 follows ?_
    refine wh_q 0 rfl (by kernel_rfl) rfl rfl rfl (qt_p tbok rfl) (fun w hw => st_cut hw (new_cons hyk new_nil)) ?_
    first | refine wh_q 1 rfl (by kernel_rfl) rfl rfl rfl (qt_l tbok rfl rfl rfl) (fun w hw => st_cut hw (new_cons hyk new_nil)) ?_ | refine wh_q 1 rfl (by kernel_rfl) rfl rfl rfl (qt_la tbok rfl rfl rfl) (fun w hw => st_cut hw (new_cons hyk new_nil)) ?_
    refine wh_q 2 rfl (by kernel_rfl) rfl rfl rfl (qt_p tbok rfl) (fun w hw => st_cut hw (new_cons hyk new_nil)) ?_
    refine wh_q 3 rfl (by kernel_rfl) rfl rfl rfl (qt_p tbok rfl) (fun w hw => st_cut hw (new_cons hyk new_nil)) ?_
    refine wh_q 4 rfl (by kernel_rfl) rfl rfl rfl (qt_load (c := .u8 ((l.drop (33 * i)).getD 0 0)) tbok rfl rfl rfl (hrd.rc (bc_getD (i := 0) (by omega)) (by omega))) (fun w hw => st_cut hw (new_cons hyk new_nil)) ?_
    refine wh_q 5 rfl (by kernel_rfl) rfl rfl rfl (qt_p tbok rfl) (fun w hw => st_cut hw (new_cons hyk new_nil)) ?_
    refine wh_as (v' := .c (.i64 (el K i).1)) (by rw [hel, hg0]) ?_
    refine wh_q 6 rfl (by kernel_rfl) rfl rfl rfl (qt_p tbok rfl) (fun w hw => st_cut hw (new_cons hyk new_nil)) ?_
    first | refine wh_q 7 rfl (by kernel_rfl) rfl rfl rfl (qt_sl tbok rfl rfl rfl rfl) (fun w hw => st_cut hw (new_cons hyk new_nil)) ?_ | refine wh_q 7 rfl (by kernel_rfl) rfl rfl rfl (qt_sa tbok rfl rfl rfl rfl) (fun w hw => st_cut hw (new_cons hyk new_nil)) ?_
    refine wh_as (v' := .c (.slc (.at dr (d0 + 1)) 32 (dc - 1))) (by show V.c (C.slc (.at dr (if dc = 1 then d0 else d0 + 1 * 1)) (33 - 1) (dc - 1)) = _; rw [if_neg hdc]) ?_
    refine wh_q 8 rfl (by kernel_rfl) rfl rfl rfl (qt_arrayAt tbok rfl rfl (Nat.le_refl 32)) (fun w hw => st_cut hw (new_cons hyk new_nil)) ?_
    refine wh_q 9 rfl (by kernel_rfl) rfl rfl rfl (qt_load_ag (l := bc (el K i).2) tbok rfl rfl rfl hgb (hrd.part (k := 1) (fun j c hj => by rw [hel] at hj; have h8 := drop_bc (l := l.drop (33 * i)) (k := 0) (by omega) j c (by rw [List.drop_drop]; exact hj); rw [Nat.zero_add] at h8; exact h8) rfl)) (fun w hw => st_cut hw (new_cons hyk new_nil)) ?_
    refine wh_q 10 rfl (by kernel_rfl) rfl rfl rfl (qt_build (vs := [(0, .c (.i64 (el K i).1)), (1, .agg (bc (el K i).2))]) (l := kr (el K i)) tbok rfl zero32 rfl (pfill hgb)) (fun w hw => st_cut hw (new_cons hyk new_nil)) ?_
    refine wh_one 11 (by kernel_rfl) (wo_ef rfl rfl (ef_buildSlice (vs := [(0, .agg (kr (el K i)))]) (l := kr (el K i)) tbok rfl zero32 rfl rfl rfl (by decide) (fill_oneN rfl hgl) rfl (fun br hbr => ⟨fun w hw => st_cut (hw.tail (newKey hbr)) (new_cons hyk new_nil), ?_⟩)))
    refine wh_one 12 (by kernel_rfl) (wo_ef rfl rfl (ef_append tbok rfl el32 zero32 rfl rfl rfl (.there (.there .here)) hy hyk (m := 1) (news := kr (el K i)) hgl (rs_lk .here at0) (by omega) (by simp only [maxLen]; omega) (fun a2 c2 t2 ho2 hk2 _ _ => ⟨fun w hw => (hw.tail hk2).tail (newKey hbr), ?_⟩)))
    refine wh_q 13 rfl (by kernel_rfl) rfl rfl rfl (qt_p tbok rfl) (fun w hw => (hw.tail hk2).tail (newKey hbr)) ?_
    refine wh_one 14 (by kernel_rfl) (wo_fin rfl rfl (ef_store (cs' := [.i64 n0, .slc a2 (i + 1) c2]) tbok rfl rfl rfl rfl (.there (.there .here)) rfl (Nat.le_of_ble_eq_true rfl) rfl ?_))
    refine wh_done (by kernel_rfl) ?_
    refine nk_code ?_
    refine wc_region ?_
    refine wl_q rfl rfl rfl (qt_p tbok rfl) ?_
    first | refine wl_q rfl rfl rfl (qt_sl tbok rfl rfl rfl rfl) ?_ | refine wl_q rfl rfl rfl (qt_sa tbok rfl rfl rfl rfl) ?_
    refine wl_q rfl rfl rfl (qt_p tbok rfl) ?_
    refine wl_done ?_
    refine nk_code ?_
    refine wc_region ?_
    refine wl_q rfl rfl rfl (qt_p tbok rfl) ?_
    refine wl_q rfl rfl rfl (qt_p tbok rfl) ?_
    refine wl_q rfl rfl rfl (qt_p tbok rfl) ?_
    refine wl_done ?_
    have e3 : (l.drop (33 * i)).length - 33 = (l.drop (33 * (i + 1))).length := (by rw [List.length_drop, List.length_drop]; omega)
    have hc3 : ∀ w2 : World, Cells w2 (.at cr co) (bc c) → Cells w2 ((Ad.at dr d0).adv 33 dc 1) (bc (l.drop (33 * (i + 1)))) := (fun w2 h2 => by have := (hcd w2 h2).adv (k := 33) (m := dc) (by rw [bc_len]; exact hcl); rw [bc_drop, List.drop_drop, show 33 * i + 33 = 33 * (i + 1) by omega] at this; exact this)
    exact nk_round (i := (i, (.at dr d0, dc), y)) (i + 1, ((Ad.at dr d0).adv 33 dc 1, dc - 33), a2, c2, t2) ⟨hi', hc3, by show (l.drop (33 * (i + 1))).length ≤ dc - 33; rw [← e3]; omega, by show OwnS a2 (i + 1) c2 33 ((K.take (i + 1)).flatMap kr) t2; rw [← rows_snoc hki]; exact ho2, hk2⟩ (by show m - (i + 1) < m - i; omega) ⟨by show some (V.c (C.i64 ((m : Int) - (i : Int) - 1))) = some (V.c (C.i64 ((m : Int) - ((i + 1 : Nat) : Int)))); rw [show (m : Int) - ((i + 1 : Nat) : Int) = (m : Int) - (i : Int) - 1 by omega], by show some (V.c (C.slc ((Ad.at dr d0).adv 33 dc 1) ((l.drop (33 * i)).length - 33) (dc - 33))) = some (V.c (C.slc ((Ad.at dr d0).adv 33 dc 1) (l.drop (33 * (i + 1))).length (dc - 33))); rw [e3], rfl, trivial⟩ (fun w hw => by have h2 := (Rm.sub_St hw (.there .here) (newKey hbr)).two; rw [rows_snoc hki] at h2; exact h2)
  · have he : i = m := (by have h0 := of_decide_eq_false h33; omega)
    subst he
    rw [← hKl] at hcd hcl
    rw [← hKl, List.take_length] at hy ⊢
    refine wc_exit rfl ?_
    refine nk_code ?_
    refine wc_seq ?_
    refine wc_region ?_
    refine wl_q rfl rfl rfl (qt_load_ag (l := rrow (⟨n0, K⟩, y)) tbok rfl rfl rfl rfl (rs_lk .here at0)) ?_
    refine wl_q rfl rfl rfl (qt_p tbok rfl) ?_
    refine wl_ef rfl (ef_store (cs' := rrow (⟨n0, K⟩, y)) tbok rfl rfl rfl rfl .here rfl (Nat.le_of_ble_eq_true rfl) rfl ?_)
    refine wl_q rfl rfl rfl (qt_p tbok rfl) ?_
    refine wl_q rfl rfl rfl (qt_p tbok rfl) ?_
    refine wl_done ?_
    refine nk_code ?_
    refine wc_ret ?_
    try dsimp only
    exact fin3 rfl (rv_ag (l := rrow (⟨n0, K⟩, y)) tbok rfl rfl rfl rfl (rs_lk .here at0)) (rv_tmp rfl) (rv_tmp rfl) (fun w' hw => ⟨(y, da, dc), rfl, ⟨hy, hcd, hcl⟩, hyk, hw.tail (newKey ho)⟩)
end Go.Proofs.Ytjhmcmadleabjaa

set_option maxRecDepth 100000
namespace Go.Proofs.Ytjhmcmadleabjaa
open Go Go.Hw Go.Proofs

/-! ### The root that bytes are -/
def gv1 (b : List UInt8) : UInt64 := gv ((b.drop 1).take 8)
def gv2 (b : List UInt8) : UInt64 := gv ((b.drop 9).take 8)
abbrev maxT : UInt64 := UInt64.ofNat (Int.toNat 1099511627776)
def cN (b : List UInt8) : Nat → List UInt8
  | 0 => b.drop 17
  | i + 1 => tkD (cN b i)
def rN (b : List UInt8) (i : Nat) : Ro := tkR (cN b i)
def decR (b : List UInt8) : Rx := ⟨((gv1 b).toNat : Int), ((gv2 b).toNat : Int), rN b 0, rN b 1, rN b 2⟩
def Dec (b : List UInt8) : Prop := 17 ≤ b.length ∧ b.getD 0 0 = 8 ∧ ¬ maxT < gv1 b ∧ ¬ maxT < gv2 b ∧ (tkO (cN b 0) = true ∧ tkO (cN b 1) = true ∧ tkO (cN b 2) = true) ∧ cN b 3 = [] ∧ rootB (decR b) = true
instance dec_dec (b : List UInt8) : Decidable (Dec b) := by unfold Dec; infer_instance
def zeroRx : Rx := ⟨0, 0, ⟨0, []⟩, ⟨0, []⟩, ⟨0, []⟩⟩
def decX (b : List UInt8) : Rx := if Dec b then decR b else zeroRx
def decE (b : List UInt8) : Int := if Dec b then 0 else 10
theorem dec_no {b : List UInt8} (h : ¬ Dec b) : decX b = zeroRx ∧ decE b = 10 := by unfold decX decE; rw [if_neg h, if_neg h]; exact ⟨rfl, rfl⟩
theorem dec_yes {b : List UInt8} (h : Dec b) : decX b = decR b ∧ decE b = 0 := by unfold decX decE; rw [if_pos h, if_pos h]; exact ⟨rfl, rfl⟩
def zeroRL : RL := ⟨0, 0, default, default, default⟩
theorem own0 : zeroRL.own := ⟨⟨rfl, rfl, rfl, rfl⟩, ⟨rfl, rfl, rfl, rfl⟩, ⟨rfl, rfl, rfl, rfl⟩⟩
theorem new0 {w : World} {T : Nat} : ∀ p ∈ rbs T zeroRL, ∀ k, p.key = some k → w.heap.size ≤ k := new_cons (fun k h => by cases h) (new_cons (fun k h => by cases h) (new_cons (fun k h => by cases h) new_nil))
theorem maxT_le {a : UInt64} (h : ¬ maxT < a) : a.toNat ≤ 1099511627776 := by
  rw [UInt64.lt_iff_toNat_lt] at h
  have : maxT.toNat = 1099511627776 := rfl
  omega
theorem cells_win {w : World} {ad : Ad} {B : List UInt8} {cap : Nat} (h : Cells w ad (bc B)) (hc : B.length ≤ cap) (k m : Nat) : Cells w (ad.adv k cap 1) (bc ((B.drop k).take m)) := by
  have := (h.adv (k := k) (m := cap) (by rw [bc_len]; exact hc)).take m
  rw [bc_drop, bc_take] at this; exact this
/-- Roles so far, in a root. -/
abbrev rlZ (v u : Int) (Z : List (Ro × Os)) : RL := ⟨v, u, el Z 0, el Z 1, el Z 2⟩
theorem rlz_put {v u : Int} {Z : List (Ro × Os)} {p : Ro × Os} (h : Z.length < 3) {o : Nat} (ho : o = 2 + 2 * Z.length) : spl (rlZ v u Z).cs o (rrow p) = (rlZ v u (Z ++ [p])).cs := by
  subst ho
  match Z, h with
  | [], _ => rfl
  | [a], _ => rfl
  | [a, b], _ => rfl
theorem St.two_at {w0 w : World} {a b : Blk} {s : Hp} (h : St w0 (a :: b :: s) w) : St w0 (b :: a :: s) w := h.perm (List.Perm.swap b a s)
theorem four_first {a b c d : Blk} {s : Hp} : (a :: b :: c :: d :: s).Perm (b :: c :: d :: a :: s) := (List.Perm.swap b a _).trans (List.Perm.cons b ((List.Perm.swap c a _).trans (List.Perm.cons c (List.Perm.swap d a _))))
def zbs (T : Nat) (Z : List (Ro × Os)) : Hp := (Z.map (rob T)).reverse
theorem zbs_snoc (T : Nat) (Z : List (Ro × Os)) (p : Ro × Os) : zbs T (Z ++ [p]) = rob T p :: zbs T Z := by simp [zbs]
theorem zbs_new {w : World} {T : Nat} {Z : List (Ro × Os)} (h : ∀ p ∈ Z, ∀ k, p.2.1.key = some k → w.heap.size ≤ k) : ∀ b ∈ zbs T Z, ∀ k, b.key = some k → w.heap.size ≤ k := fun b hb => by
  unfold zbs at hb
  rw [List.mem_reverse] at hb
  obtain ⟨p, hp, rfl⟩ := List.mem_map.1 hb
  exact h p hp
/-- What the roles so far are. -/
def ZI (b : List UInt8) (Z : List (Ro × Os)) : Prop := Z.length ≤ 3 ∧ Z.map (·.1) = (List.range Z.length).map (rN b) ∧ (∀ p ∈ Z, roO p) ∧ ∀ j, j < Z.length → tkO (cN b j) = true
theorem zi_nil (b : List UInt8) : ZI b [] := ⟨Nat.zero_le _, rfl, (fun p h => by cases h), fun j h => absurd h (Nat.not_lt_zero _)⟩
theorem zi_snoc {b : List UInt8} {Z : List (Ro × Os)} {y : Os} (h : ZI b Z) (hl : Z.length < 3) (ho : tkO (cN b Z.length) = true) (hy : roO (rN b Z.length, y)) : ZI b (Z ++ [(rN b Z.length, y)]) := by
  obtain ⟨h1, h2, h3, h4⟩ := h
  refine ⟨by rw [List.length_append]; exact hl, ?_, fun p hp => ?_, fun j hj => ?_⟩
  · rw [List.map_append, h2, List.length_append, List.length_singleton, List.range_succ, List.map_append]; rfl
  · rcases List.mem_append.1 hp with hp | hp
    · exact h3 p hp
    · rw [List.mem_singleton.1 hp]; exact hy
  · rw [List.length_append, List.length_singleton] at hj
    rcases Nat.lt_or_ge j Z.length with h | h
    · exact h4 j h
    · rw [show j = Z.length by omega]; exact ho
theorem zi_full {b : List UInt8} {Z : List (Ro × Os)} (h : ZI b Z) (hl : Z.length = 3) (T : Nat) : (rlZ ((gv1 b).toNat : Int) ((gv2 b).toNat : Int) Z).x = decR b ∧ (rlZ ((gv1 b).toNat : Int) ((gv2 b).toNat : Int) Z).own ∧ rbs T (rlZ ((gv1 b).toNat : Int) ((gv2 b).toNat : Int) Z) = zbs T Z ∧ (tkO (cN b 0) = true ∧ tkO (cN b 1) = true ∧ tkO (cN b 2) = true) := by
  obtain ⟨h1, h2, h3, h4⟩ := h
  match Z, hl with
  | [a, c, d], _ =>
    have e : [a.1, c.1, d.1] = [rN b 0, rN b 1, rN b 2] := h2
    simp only [List.cons.injEq, and_true] at e
    refine ⟨?_, ⟨h3 a (by simp), h3 c (by simp), h3 d (by simp)⟩, rfl, h4 0 (by show 0 < 3; decide), h4 1 (by show 1 < 3; decide), h4 2 (by show 2 < 3; decide)⟩
    show (⟨_, _, a.1, c.1, d.1⟩ : Rx) = _
    rw [e.1, e.2.1, e.2.2]; rfl
theorem decR_ok (b : List UInt8) : (rN b 0).ok ∧ (rN b 1).ok ∧ (rN b 2).ok := ⟨tk_ok _, tk_ok _, tk_ok _⟩
theorem cN_len (b : List UInt8) : ∀ i, (cN b i).length ≤ b.length
  | 0 => by show (b.drop 17).length ≤ _; rw [List.length_drop]; omega
  | i + 1 => by
    have := cN_len b i
    show (tkD (cN b i)).length ≤ _
    unfold tkD
    split
    · rw [List.length_drop]; omega
    · exact Nat.zero_le _

theorem zero156 : zeroIs Try.prog 156 (.c (.ptr .nil)) := by unfold zeroIs; kernel_rfl
set_option maxHeartbeats 1000000 in
theorem decode_c {w : World} {B : List UInt8} {ba : Ad} {bcap : Nat} (hc : Cells w ba (bc B)) (hl : B.length ≤ 1073741824) (hcap : B.length ≤ bcap) :
    CallsV Try.prog 45 [.c (.slc ba B.length bcap)] w fun en w' => ∃ z : RL, en = .returned (V.t2 (.agg z.cs) (.c (.i64 (decE B)))).den ∧ (z.x = decX B ∧ z.own) ∧ (∀ p ∈ rbs 32 z, ∀ k, p.key = some k → w.heap.size ≤ k) ∧ St w (rbs 32 z) w' := by
  refine calls_in (tb := tb) (fn := Try.f45) Try.func45 rfl rfl rfl [(0, .c (.slc ba B.length bcap))] rfl [] (St.refl _) ?_
  refine wc_seq ?_
  refine wc_region ?_
  refine wl_ef rfl (ef_alloc zero92 rfl rfl (fun o ho => ?_))
  refine wl_q rfl rfl rfl (qt_p tbok rfl) ?_
  refine wl_done ?_
  refine nk_code ?_
  refine wc_seq ?_
  refine wc_seq ?_
  refine wc_region ?_
  refine wl_q rfl rfl rfl (qt_p tbok rfl) ?_
  refine wl_q rfl rfl rfl (qt_len tbok rfl rfl) ?_
  refine wl_q rfl rfl rfl (qt_p tbok rfl) ?_
  refine wl_bool (fun h1 => ?_) (fun h1 => ?_)
  · refine wl_q rfl rfl rfl (qt_p tbok rfl) ?_
    first | refine wl_g rfl rfl rfl rfl (qt_p tbok rfl) ?_ | refine wl_skip rfl rfl rfl rfl rfl ?_
    first | refine wl_g rfl rfl rfl rfl (qt_p tbok rfl) ?_ | refine wl_skip rfl rfl rfl rfl rfl ?_
    first | refine wl_g rfl rfl rfl rfl (qt_l tbok rfl rfl rfl) ?_ | refine wl_g rfl rfl rfl rfl (qt_la tbok rfl rfl rfl) ?_ | refine wl_skip rfl rfl rfl rfl rfl ?_
    first | refine wl_g rfl rfl rfl rfl (qt_p tbok rfl) ?_ | refine wl_g rfl rfl rfl rfl (qt_neqn tbok rfl rfl rfl) ?_ | refine wl_skip rfl rfl rfl rfl rfl ?_
    refine wl_q rfl rfl rfl (qt_p tbok rfl) ?_
    refine wl_done ?_
    refine nk_code ?_
    refine wc_yes rfl ?_
    refine wc_seq ?_
    refine wc_region ?_
    refine wl_q rfl rfl rfl (qt_build (vs := []) (l := z8) tbok rfl zero92 rfl rfl) ?_
    refine wl_ef rfl (ef_store (cs' := z8) tbok rfl rfl rfl rfl .here rfl (Nat.le_of_ble_eq_true rfl) rfl ?_)
    refine wl_q rfl rfl rfl (qt_p tbok rfl) ?_
    refine wl_done ?_
    refine nk_code ?_
    refine wc_ret ?_
    try dsimp only
    obtain ⟨x1, x2⟩ := dec_no ((fun h => by have := of_decide_eq_true h1; have := h.1; omega) : ¬ Dec B)
    rw [x2]
    exact fin2 rfl (rv_ag (l := z8) tbok rfl rfl rfl rfl (rs_lk .here at0)) (rv_tmp rfl) (fun w' hw => ⟨zeroRL, rfl, ⟨x1.symm, own0⟩, new0, st_none (st_none (st_none (hw.all (new_cons (newKey ho) new_nil))))⟩)
  · refine wl_q rfl rfl rfl (qt_p tbok rfl) ?_
    have hl17 : 17 ≤ B.length := (by have := of_decide_eq_false h1; omega)
    obtain ⟨br, bo, hba⟩ := cells_nn hc (by rw [bc_len]; omega)
    subst hba
    first | refine wl_g rfl rfl rfl rfl (qt_p tbok rfl) ?_ | refine wl_skip rfl rfl rfl rfl rfl ?_
    first | refine wl_g rfl rfl rfl rfl (qt_p tbok rfl) ?_ | refine wl_skip rfl rfl rfl rfl rfl ?_
    refine wl_g rfl rfl rfl rfl (qt_load (c := .u8 (B.getD 0 0)) tbok rfl rfl rfl ((rs_cells hc (off_new (newKey ho) off_nil)).rc (bc_getD (i := 0) (by omega)) rfl)) ?_
    first | refine wl_g rfl rfl rfl rfl (qt_p tbok rfl) ?_ | refine wl_g rfl rfl rfl rfl (qt_neqn tbok rfl rfl rfl) ?_ | refine wl_skip rfl rfl rfl rfl rfl ?_
    refine wl_bool (fun h2 => ?_) (fun h2 => ?_)
    · refine wl_q rfl rfl rfl (qt_p tbok rfl) ?_
      refine wl_done ?_
      refine nk_code ?_
      refine wc_yes rfl ?_
      refine wc_seq ?_
      refine wc_region ?_
      refine wl_q rfl rfl rfl (qt_build (vs := []) (l := z8) tbok rfl zero92 rfl rfl) ?_
      refine wl_ef rfl (ef_store (cs' := z8) tbok rfl rfl rfl rfl .here rfl (Nat.le_of_ble_eq_true rfl) rfl ?_)
      refine wl_q rfl rfl rfl (qt_p tbok rfl) ?_
      refine wl_done ?_
      refine nk_code ?_
      refine wc_ret ?_
      try dsimp only
      obtain ⟨x1, x2⟩ := dec_no ((fun h => by rw [h.2.1] at h2; revert h2; decide) : ¬ Dec B)
      rw [x2]
      exact fin2 rfl (rv_ag (l := z8) tbok rfl rfl rfl rfl (rs_lk .here at0)) (rv_tmp rfl) (fun w' hw => ⟨zeroRL, rfl, ⟨x1.symm, own0⟩, new0, st_none (st_none (st_none (hw.all (new_cons (newKey ho) new_nil))))⟩)
    · refine wl_q rfl rfl rfl (qt_p tbok rfl) ?_
      refine wl_done ?_
      refine nk_code ?_
      refine wc_no rfl ?_
      refine wc_skip ?_
      refine nk_code ?_
      refine wc_seq ?_
      refine wc_region ?_
      refine wl_q rfl rfl rfl (qt_p tbok rfl) ?_
      first | refine wl_q rfl rfl rfl (qt_sl tbok rfl rfl rfl rfl) ?_ | refine wl_q rfl rfl rfl (qt_sa tbok rfl rfl rfl rfl) ?_
      refine wl_as (v' := .c (.slc ((Ad.at br bo).adv 1 bcap 1) ((B.drop 1).take 8).length (bcap - 1))) (by rw [show ((B.drop 1).take 8).length = 8 by rw [List.length_take, List.length_drop]; omega]; rfl) ?_
      refine wl_ef rfl (ef_pure (v := .t2 (.c (.u64 (gv1 B))) (.c (.bool true))) (by kernel_rfl) rfl rfl (fun w1 g1 => get85_c (l := (B.drop 1).take 8) (cells_rd (rd_cells (cells_win hc hcap 1 8) (off_new (newKey ho) off_nil)) g1) (by rw [List.length_take]; omega)) ?_)
      refine wl_q rfl rfl rfl (qt_p tbok rfl) ?_
      refine wl_q rfl rfl rfl (qt_p tbok rfl) ?_
      refine wl_q rfl rfl rfl (qt_p tbok rfl) ?_
      refine wl_q rfl rfl rfl (qt_p tbok rfl) ?_
      refine wl_q rfl rfl rfl (qt_p tbok rfl) ?_
      refine wl_done ?_
      refine nk_code ?_
      refine wc_seq ?_
      refine wc_region ?_
      refine wl_q rfl rfl rfl (qt_p tbok rfl) ?_
      first | refine wl_q rfl rfl rfl (qt_sl tbok rfl rfl rfl rfl) ?_ | refine wl_q rfl rfl rfl (qt_sa tbok rfl rfl rfl rfl) ?_
      refine wl_as (v' := .c (.slc ((Ad.at br bo).adv 9 bcap 1) ((B.drop 9).take 8).length (bcap - 9))) (by rw [show ((B.drop 9).take 8).length = 8 by rw [List.length_take, List.length_drop]; omega]; rfl) ?_
      refine wl_ef rfl (ef_pure (v := .t2 (.c (.u64 (gv2 B))) (.c (.bool true))) (by kernel_rfl) rfl rfl (fun w1 g1 => get85_c (l := (B.drop 9).take 8) (cells_rd (rd_cells (cells_win hc hcap 9 8) (off_new (newKey ho) off_nil)) g1) (by rw [List.length_take]; omega)) ?_)
      refine wl_q rfl rfl rfl (qt_p tbok rfl) ?_
      refine wl_q rfl rfl rfl (qt_p tbok rfl) ?_
      refine wl_q rfl rfl rfl (qt_p tbok rfl) ?_
      refine wl_q rfl rfl rfl (qt_p tbok rfl) ?_
      refine wl_q rfl rfl rfl (qt_p tbok rfl) ?_
      refine wl_done ?_
      refine nk_code ?_
      refine wc_seq ?_
      refine wc_seq ?_
      refine wc_region ?_
      refine wl_q rfl rfl rfl (qt_p tbok rfl) ?_
      refine wl_q rfl rfl rfl (qt_p tbok rfl) ?_
      refine wl_bool (fun h3 => ?_) (fun h3 => ?_)
      · refine wl_q rfl rfl rfl (qt_p tbok rfl) ?_
        first | refine wl_g rfl rfl rfl rfl (qt_p tbok rfl) ?_ | refine wl_skip rfl rfl rfl rfl rfl ?_
        first | refine wl_g rfl rfl rfl rfl (qt_p tbok rfl) ?_ | refine wl_skip rfl rfl rfl rfl rfl ?_
        refine wl_q rfl rfl rfl (qt_p tbok rfl) ?_
        refine wl_done ?_
        refine nk_code ?_
        refine wc_yes rfl ?_
        refine wc_seq ?_
        refine wc_region ?_
        refine wl_q rfl rfl rfl (qt_build (vs := []) (l := z8) tbok rfl zero92 rfl rfl) ?_
        refine wl_ef rfl (ef_store (cs' := z8) tbok rfl rfl rfl rfl .here rfl (Nat.le_of_ble_eq_true rfl) rfl ?_)
        refine wl_q rfl rfl rfl (qt_p tbok rfl) ?_
        refine wl_done ?_
        refine nk_code ?_
        refine wc_ret ?_
        try dsimp only
        obtain ⟨x1, x2⟩ := dec_no ((fun h => h.2.2.1 (of_decide_eq_true h3)) : ¬ Dec B)
        rw [x2]
        exact fin2 rfl (rv_ag (l := z8) tbok rfl rfl rfl rfl (rs_lk .here at0)) (rv_tmp rfl) (fun w' hw => ⟨zeroRL, rfl, ⟨x1.symm, own0⟩, new0, st_none (st_none (st_none (hw.all (new_cons (newKey ho) new_nil))))⟩)
      · refine wl_q rfl rfl rfl (qt_p tbok rfl) ?_
        first | refine wl_g rfl rfl rfl rfl (qt_p tbok rfl) ?_ | refine wl_skip rfl rfl rfl rfl rfl ?_
        first | refine wl_g rfl rfl rfl rfl (qt_p tbok rfl) ?_ | refine wl_skip rfl rfl rfl rfl rfl ?_
        refine wl_bool (fun h4 => ?_) (fun h4 => ?_)
        · refine wl_q rfl rfl rfl (qt_p tbok rfl) ?_
          refine wl_done ?_
          refine nk_code ?_
          refine wc_yes rfl ?_
          refine wc_seq ?_
          refine wc_region ?_
          refine wl_q rfl rfl rfl (qt_build (vs := []) (l := z8) tbok rfl zero92 rfl rfl) ?_
          refine wl_ef rfl (ef_store (cs' := z8) tbok rfl rfl rfl rfl .here rfl (Nat.le_of_ble_eq_true rfl) rfl ?_)
          refine wl_q rfl rfl rfl (qt_p tbok rfl) ?_
          refine wl_done ?_
          refine nk_code ?_
          refine wc_ret ?_
          try dsimp only
          obtain ⟨x1, x2⟩ := dec_no ((fun h => h.2.2.2.1 (of_decide_eq_true h4)) : ¬ Dec B)
          rw [x2]
          exact fin2 rfl (rv_ag (l := z8) tbok rfl rfl rfl rfl (rs_lk .here at0)) (rv_tmp rfl) (fun w' hw => ⟨zeroRL, rfl, ⟨x1.symm, own0⟩, new0, st_none (st_none (st_none (hw.all (new_cons (newKey ho) new_nil))))⟩)
        · refine wl_q rfl rfl rfl (qt_p tbok rfl) ?_
          refine wl_done ?_
          refine nk_code ?_
          refine wc_no rfl ?_
          refine wc_skip ?_
          refine nk_code ?_
          refine wc_seq ?_
          refine wc_region ?_
          refine wl_q rfl rfl rfl (qt_p tbok rfl) ?_
          have m1 := maxT_le (of_decide_eq_false h3)
          have m2 := maxT_le (of_decide_eq_false h4)
          refine wl_q rfl rfl rfl (qt_pure tbok rfl (by omega)) ?_
          refine wl_q rfl rfl rfl (qt_p tbok rfl) ?_
          refine wl_q rfl rfl rfl (qt_pure tbok rfl (by omega)) ?_
          refine wl_q rfl rfl rfl (qt_build (vs := [(0, .c (.i64 ((gv1 B).toNat : Int))), (1, .c (.i64 ((gv2 B).toNat : Int)))]) (l := (rlZ ((gv1 B).toNat : Int) ((gv2 B).toNat : Int) []).cs) tbok rfl zero92 rfl rfl) ?_
          refine wl_ef rfl (ef_alloc zero92 rfl rfl (fun x8 h8 => ?_))
          refine wl_ef rfl (ef_store (cs' := (rlZ ((gv1 B).toNat : Int) ((gv2 B).toNat : Int) []).cs) tbok rfl rfl rfl rfl .here rfl (Nat.le_of_ble_eq_true rfl) rfl ?_)
          refine wl_done ?_
          refine nk_code ?_
          refine wc_seq ?_
          refine wc_region ?_
          refine wl_q rfl rfl rfl (qt_p tbok rfl) ?_
          first | refine wl_q rfl rfl rfl (qt_sl tbok rfl rfl rfl rfl) ?_ | refine wl_q rfl rfl rfl (qt_sa tbok rfl rfl rfl rfl) ?_
          refine wl_as (v' := .c (.slc ((Ad.at br bo).adv 17 bcap 1) (cN B 0).length (bcap - 17))) (by rw [show (cN B 0).length = B.length - 17 from List.length_drop]; rfl) ?_
          refine wl_q rfl rfl rfl (qt_p tbok rfl) ?_
          refine wl_done ?_
          refine nk_code ?_
          refine wc_seq ?_
          refine wc_seq ?_
          refine wc_region ?_
          refine wl_q rfl rfl rfl (qt_p tbok rfl) ?_
          refine wl_q rfl rfl rfl (qt_p tbok rfl) ?_
          refine wl_q rfl rfl rfl (qt_p tbok rfl) ?_
          refine wl_ef rfl (ef_buildSlice (vs := [(0, .c (.ptr (.at x8 2))), (1, .c (.ptr (.at x8 4))), (2, .c (.ptr (.at x8 6)))]) (l := [.ptr (.at x8 2), .ptr (.at x8 4), .ptr (.at x8 6)]) tbok rfl zero156 rfl rfl rfl (by decide) rfl rfl (fun q hq => ?_))
          refine wl_q rfl rfl rfl (qt_len tbok rfl rfl) ?_
          refine wl_q rfl rfl rfl (qt_p tbok rfl) ?_
          refine wl_done ?_
          refine nk_code ?_
          refine wc_block ?_
          refine wc_loop (ι := List (Ro × Os) × Ad × Nat) (fun j => ZI B j.1 ∧ (∀ p ∈ j.1, ∀ k, p.2.1.key = some k → w.heap.size ≤ k) ∧ Cells w j.2.1 (bc (cN B j.1.length)) ∧ (cN B j.1.length).length ≤ j.2.2) (fun j => [(53, .c (.i64 (j.1.length : Int))), (52, .c (.i64 ((3 : Nat) : Int))), (51, .c (.slc (.at q 0) 3 3)), (0, .c (.slc j.2.1 (cN B j.1.length).length j.2.2)), (8, .c (.ptr (.at x8 0))), (2, .c (.ptr (.at o 0)))]) (fun j => ⟨.at x8 0, (rlZ ((gv1 B).toNat : Int) ((gv2 B).toNat : Int) j.1).cs, 92, (0, 0), []⟩ :: ⟨.at q 0, [.ptr (.at x8 2), .ptr (.at x8 4), .ptr (.at x8 6)], 156, (0, 0), []⟩ :: ⟨.at o 0, z8, 92, (0, 0), []⟩ :: zbs 32 j.1) (fun j => 3 - j.1.length) ([], (Ad.at br bo).adv 17 bcap 1, bcap - 17) ⟨zi_nil B, fun p h => (by cases h), (by have := hc.adv (k := 17) (m := bcap) (by rw [bc_len]; exact hcap); rw [bc_drop] at this; exact this), (by show (B.drop 17).length ≤ bcap - 17; rw [List.length_drop]; omega)⟩ (nk_start ⟨rfl, rfl, rfl, rfl, rfl, rfl, trivial⟩ (fun w hw => St.two_at hw)) (fun ⟨Z, da, dc⟩ ⟨hZ, hZn, hcd, hcl⟩ => ?_)
          replace hZ : ZI B Z := hZ
          replace hZn : ∀ p ∈ Z, ∀ k, p.2.1.key = some k → w.heap.size ≤ k := hZn
          replace hcd : Cells w da (bc (cN B Z.length)) := hcd
          replace hcl : (cN B Z.length).length ≤ dc := hcl
          have hZk := zbs_new (T := 32) hZn
          have hZ3 := hZ.1
          have hcn := cN_len B Z.length
          dsimp only
          refine wc_seq ?_
          refine wc_region ?_
          refine wl_q rfl rfl rfl (qt_p tbok rfl) ?_
          refine wl_done ?_
          refine nk_code ?_
          refine wc_seq ?_
          refine wc_cond rfl (fun h54 => ?_) (fun h54 => ?_)
          · have hi' : Z.length < 3 := (by have h0 := of_decide_eq_true h54; omega)
            refine wc_skip ?_
            refine nk_code ?_
            refine wc_seq ?_
            refine wc_block ?_
            refine wc_seq ?_
            refine wc_region ?_
            refine wl_q rfl rfl rfl (qt_p tbok rfl) ?_
            refine wl_q rfl rfl rfl (qt_load (c := .ptr (.at x8 (2 + 2 * Z.length))) tbok rfl rfl rfl (rc_lk (.there .here) (by rcases (by omega : Z.length = 0 ∨ Z.length = 1 ∨ Z.length = 2) with h | h | h <;> rw [h] <;> rfl))) ?_
            refine wl_q rfl rfl rfl (qt_p tbok rfl) ?_
            refine wl_done ?_
            refine nk_code ?_
            refine wc_seq ?_
            refine wc_region ?_
            refine wl_q rfl rfl rfl (qt_p tbok rfl) ?_
            refine wl_done ?_
            refine nk_code ?_
            refine wc_seq ?_
            by_cases hO : tkO (cN B Z.length) = true
            · refine wc_region ?_
              refine wl_q rfl rfl rfl (qt_p tbok rfl) ?_
              refine wl_q rfl rfl rfl (qt_p tbok rfl) ?_
              refine wl_ef rfl (ef_fresh (α := Os × Ad × Nat) (I := fun x => roO (tkR (cN B Z.length), x.1) ∧ (∀ w2 : World, Cells w2 da (bc (cN B Z.length)) → Cells w2 x.2.1 (bc (tkD (cN B Z.length)))) ∧ (tkD (cN B Z.length)).length ≤ x.2.2) (b := fun x => rob 32 (tkR (cN B Z.length), x.1)) (v := fun x => .t3 (.agg (rrow (tkR (cN B Z.length), x.1))) (.c (.slc x.2.1 (tkD (cN B Z.length)).length x.2.2)) (.c (.bool true))) (by kernel_rfl) rfl rfl (fun w1 g1 => takeyes_c (cells_rd (rd_cells hcd (off_new (newKey h8) (off_new (newKey hq) (off_new (newKey ho) (off_all hZk))))) g1) (by omega) hcl hO) (fun ⟨y, ea, ec⟩ hy hyk => ?_))
              dsimp only at hy hyk ⊢
              refine wl_q rfl rfl rfl (qt_p tbok rfl) ?_
              refine wl_q rfl rfl rfl (qt_p tbok rfl) ?_
              refine wl_q rfl rfl rfl (qt_p tbok rfl) ?_
              refine wl_q rfl rfl rfl (qt_p tbok rfl) ?_
              refine wl_q rfl rfl rfl (qt_p tbok rfl) ?_
              refine wl_ef rfl (ef_store (cs' := (rlZ ((gv1 B).toNat : Int) ((gv2 B).toNat : Int) (Z ++ [(rN B Z.length, y)])).cs) tbok rfl rfl rfl rfl (.there .here) rfl (by show 2 + 2 * Z.length + 2 ≤ 8; omega) (rlz_put hi' rfl) ?_)
              refine wl_q rfl rfl rfl (qt_p tbok rfl) ?_
              refine wl_q rfl rfl rfl (qt_p tbok rfl) ?_
              refine wl_done ?_
              refine nk_code ?_
              refine wc_seq ?_
              refine wc_region ?_
              refine wl_q rfl rfl rfl (qt_p tbok rfl) ?_
              refine wl_q rfl rfl rfl (qt_p tbok rfl) ?_
              refine wl_done ?_
              refine nk_code ?_
              refine wc_no rfl ?_
              refine wc_skip ?_
              refine nk_code ?_
              refine wc_region ?_
              refine wl_q rfl rfl rfl (qt_p tbok rfl) ?_
              refine wl_q rfl rfl rfl (qt_p tbok rfl) ?_
              refine wl_done ?_
              exact nk_round (i := (Z, da, dc)) (Z ++ [(rN B Z.length, y)], ea, ec) ⟨zi_snoc hZ hi' hO hy.1, fun p hp => (by rcases List.mem_append.1 hp with h | h; exact hZn p h; rw [List.mem_singleton.1 h]; exact hyk), by rw [show (Z ++ [(rN B Z.length, y)]).length = Z.length + 1 by simp]; exact hy.2.1 w hcd, by rw [show (Z ++ [(rN B Z.length, y)]).length = Z.length + 1 by simp]; exact hy.2.2⟩ (by show 3 - (Z ++ [(rN B Z.length, y)]).length < 3 - Z.length; rw [show (Z ++ [(rN B Z.length, y)]).length = Z.length + 1 by simp]; omega) ⟨by rw [show (Z ++ [(rN B Z.length, y)]).length = Z.length + 1 by simp]; rfl, rfl, rfl, by rw [show (Z ++ [(rN B Z.length, y)]).length = Z.length + 1 by simp]; rfl, rfl, rfl, trivial⟩ (fun w hw => by rw [zbs_snoc]; exact hw.perm four_first)
            · refine wc_region ?_
              refine wl_q rfl rfl rfl (qt_p tbok rfl) ?_
              refine wl_q rfl rfl rfl (qt_p tbok rfl) ?_
              refine wl_ef rfl (ef_pure (v := .t3 (.agg (rrow default)) (.c (.slc .nil 0 0)) (.c (.bool false))) (by kernel_rfl) rfl rfl (fun w1 g1 => takeno_c (cells_rd (rd_cells hcd (off_new (newKey h8) (off_new (newKey hq) (off_new (newKey ho) (off_all hZk))))) g1) (by omega) (by rwa [Bool.not_eq_true] at hO)) ?_)
              refine wl_q rfl rfl rfl (qt_p tbok rfl) ?_
              refine wl_q rfl rfl rfl (qt_p tbok rfl) ?_
              refine wl_q rfl rfl rfl (qt_p tbok rfl) ?_
              refine wl_q rfl rfl rfl (qt_p tbok rfl) ?_
              refine wl_q rfl rfl rfl (qt_p tbok rfl) ?_
              refine wl_ef rfl (ef_store (cs' := spl (rlZ ((gv1 B).toNat : Int) ((gv2 B).toNat : Int) Z).cs (2 + 2 * Z.length) (rrow default)) tbok rfl rfl rfl rfl .here rfl (by show 2 + 2 * Z.length + 2 ≤ 8; omega) rfl ?_)
              refine wl_q rfl rfl rfl (qt_p tbok rfl) ?_
              refine wl_q rfl rfl rfl (qt_p tbok rfl) ?_
              refine wl_done ?_
              refine nk_code ?_
              refine wc_seq ?_
              refine wc_region ?_
              refine wl_q rfl rfl rfl (qt_p tbok rfl) ?_
              refine wl_q rfl rfl rfl (qt_p tbok rfl) ?_
              refine wl_done ?_
              refine nk_code ?_
              refine wc_yes rfl ?_
              refine wc_seq ?_
              refine wc_region ?_
              refine wl_q rfl rfl rfl (qt_build (vs := []) (l := z8) tbok rfl zero92 rfl rfl) ?_
              refine wl_ef rfl (ef_store (cs' := z8) tbok rfl rfl rfl rfl (.there (.there .here)) rfl (Nat.le_of_ble_eq_true rfl) rfl ?_)
              refine wl_q rfl rfl rfl (qt_p tbok rfl) ?_
              refine wl_done ?_
              refine nk_code ?_
              refine wc_ret ?_
              try dsimp only
              obtain ⟨x1, x2⟩ := dec_no ((fun h => hO (by have h9 := h.2.2.2.2.1; rcases (by omega : Z.length = 0 ∨ Z.length = 1 ∨ Z.length = 2) with e | e | e <;> rw [e]; exact h9.1; exact h9.2.1; exact h9.2.2)) : ¬ Dec B)
              rw [x2]
              exact fin2 rfl (rv_ag (l := z8) tbok rfl rfl rfl rfl (rs_lk (.there (.there .here)) at0)) (rv_tmp rfl) (fun w' hw => ⟨zeroRL, rfl, ⟨x1.symm, own0⟩, new0, st_none (st_none (st_none (hw.all (new_cons (newKey h8) (new_cons (newKey hq) (new_cons (newKey ho) hZk))))))⟩)
          · have he : Z.length = 3 := (by have h0 := of_decide_eq_false h54; omega)
            obtain ⟨f1, f2, f3, f4⟩ := zi_full hZ he 32
            have e3 : cN B Z.length = cN B 3 := (by rw [he])
            refine wc_exit rfl ?_
            refine nk_code ?_
            refine wc_seq ?_
            refine wc_seq ?_
            refine wc_region ?_
            refine wl_q rfl rfl rfl (qt_p tbok rfl) ?_
            refine wl_q rfl rfl rfl (qt_len tbok rfl rfl) ?_
            refine wl_q rfl rfl rfl (qt_p tbok rfl) ?_
            refine wl_bool (fun h5 => ?_) (fun h5 => ?_)
            · refine wl_q rfl rfl rfl (qt_p tbok rfl) ?_
              first | refine wl_g rfl rfl rfl rfl (qt_l tbok rfl rfl rfl) ?_ | refine wl_g rfl rfl rfl rfl (qt_la tbok rfl rfl rfl) ?_ | refine wl_skip rfl rfl rfl rfl rfl ?_
              first | refine wl_g rfl rfl rfl rfl (qt_len tbok rfl rfl) ?_ | refine wl_skip rfl rfl rfl rfl rfl ?_
              first | refine wl_g rfl rfl rfl rfl (qt_p tbok rfl) ?_ | refine wl_skip rfl rfl rfl rfl rfl ?_
              refine wl_q rfl rfl rfl (qt_p tbok rfl) ?_
              refine wl_done ?_
              refine nk_code ?_
              refine wc_yes rfl ?_
              refine wc_seq ?_
              refine wc_region ?_
              refine wl_q rfl rfl rfl (qt_build (vs := []) (l := z8) tbok rfl zero92 rfl rfl) ?_
              refine wl_ef rfl (ef_store (cs' := z8) tbok rfl rfl rfl rfl (.there (.there .here)) rfl (Nat.le_of_ble_eq_true rfl) rfl ?_)
              refine wl_q rfl rfl rfl (qt_p tbok rfl) ?_
              refine wl_done ?_
              refine nk_code ?_
              refine wc_ret ?_
              try dsimp only
              obtain ⟨x1, x2⟩ := dec_no ((fun h => by have h8 := of_decide_eq_true h5; rw [e3, h.2.2.2.2.2.1] at h8; revert h8; decide) : ¬ Dec B)
              rw [x2]
              exact fin2 rfl (rv_ag (l := z8) tbok rfl rfl rfl rfl (rs_lk (.there (.there .here)) at0)) (rv_tmp rfl) (fun w' hw => ⟨zeroRL, rfl, ⟨x1.symm, own0⟩, new0, st_none (st_none (st_none (hw.all (new_cons (newKey h8) (new_cons (newKey hq) (new_cons (newKey ho) hZk))))))⟩)
            · refine wl_q rfl rfl rfl (qt_p tbok rfl) ?_
              refine wl_g rfl rfl rfl rfl (qt_load_ag (l := (rlZ ((gv1 B).toNat : Int) ((gv2 B).toNat : Int) Z).cs) tbok rfl rfl rfl rfl (rs_lk .here at0)) ?_
              refine wl_gd rfl rfl (ef_pure (v := .c (.bool (rootB (decR B)))) (by kernel_rfl) rfl rfl (fun w1 g1 => by rw [← f1]; exact rightRoot_c (y := rlZ ((gv1 B).toNat : Int) ((gv2 B).toNat : Int) Z) (by unfold RL.ok; have f1' := f1; unfold RL.x decR at f1'; simp only [Rx.mk.injEq, true_and] at f1'; rw [f1'.1, f1'.2.1, f1'.2.2]; exact decR_ok B) (RL.lies_own (T := 32) g1 (.there (.there (.there (lk_mem (f3 ▸ (by simp)))))) (.there (.there (.there (lk_mem (f3 ▸ (by simp)))))) (.there (.there (.there (lk_mem (f3 ▸ (by simp)))))))) ?_)
              first | refine wl_g rfl rfl rfl rfl (qt_p tbok rfl) ?_ | refine wl_skip rfl rfl rfl rfl rfl ?_
              refine wl_q rfl rfl rfl (qt_p tbok rfl) ?_
              refine wl_done ?_
              refine nk_code ?_
              refine wc_cond rfl (fun h76 => ?_) (fun h76 => ?_)
              · refine wc_seq ?_
                refine wc_region ?_
                refine wl_q rfl rfl rfl (qt_build (vs := []) (l := z8) tbok rfl zero92 rfl rfl) ?_
                refine wl_ef rfl (ef_store (cs' := z8) tbok rfl rfl rfl rfl (.there (.there .here)) rfl (Nat.le_of_ble_eq_true rfl) rfl ?_)
                refine wl_q rfl rfl rfl (qt_p tbok rfl) ?_
                refine wl_done ?_
                refine nk_code ?_
                refine wc_ret ?_
                try dsimp only
                obtain ⟨x1, x2⟩ := dec_no ((fun h => by have h8 := h.2.2.2.2.2.2; rw [h8] at h76; cases h76) : ¬ Dec B)
                rw [x2]
                exact fin2 rfl (rv_ag (l := z8) tbok rfl rfl rfl rfl (rs_lk (.there (.there .here)) at0)) (rv_tmp rfl) (fun w' hw => ⟨zeroRL, rfl, ⟨x1.symm, own0⟩, new0, st_none (st_none (st_none (hw.all (new_cons (newKey h8) (new_cons (newKey hq) (new_cons (newKey ho) hZk))))))⟩)
              · refine wc_skip ?_
                refine nk_code ?_
                refine wc_seq ?_
                refine wc_region ?_
                refine wl_q rfl rfl rfl (qt_load_ag (l := (rlZ ((gv1 B).toNat : Int) ((gv2 B).toNat : Int) Z).cs) tbok rfl rfl rfl rfl (rs_lk .here at0)) ?_
                refine wl_ef rfl (ef_store (cs' := (rlZ ((gv1 B).toNat : Int) ((gv2 B).toNat : Int) Z).cs) tbok rfl rfl rfl rfl (.there (.there .here)) rfl (Nat.le_of_ble_eq_true rfl) rfl ?_)
                refine wl_q rfl rfl rfl (qt_p tbok rfl) ?_
                refine wl_done ?_
                refine nk_code ?_
                refine wc_ret ?_
                try dsimp only
                have hD : Dec B := ⟨hl17, by rw [Bool.not_eq_false'] at h2; exact of_decide_eq_true h2, of_decide_eq_false h3, of_decide_eq_false h4, f4, by have h8 := of_decide_eq_false h5; rw [e3] at h8; exact List.length_eq_zero_iff.1 (by omega), by rwa [Bool.not_eq_false'] at h76⟩
                obtain ⟨x1, x2⟩ := dec_yes hD
                rw [x2]
                exact fin2 rfl (rv_ag (l := (rlZ ((gv1 B).toNat : Int) ((gv2 B).toNat : Int) Z).cs) tbok rfl rfl rfl rfl (rs_lk (.there (.there .here)) at0)) (rv_tmp rfl) (fun w' hw => ⟨rlZ ((gv1 B).toNat : Int) ((gv2 B).toNat : Int) Z, rfl, ⟨by rw [x1, f1], f2⟩, by rw [f3]; exact hZk, by rw [f3]; exact Rm.sub_St (Rm.sub_St (Rm.sub_St hw .here (newKey h8)) .here (newKey hq)) .here (newKey ho)⟩)
end Go.Proofs.Ytjhmcmadleabjaa

set_option maxRecDepth 100000
namespace Go.Proofs.Ytjhmcmadleabjaa
open Go Go.Hw Go.Proofs

/-! ### Bytes there and back -/
theorem be_snoc (x : UInt64) {n : Nat} (h : n + 1 ≤ 8) : be x (n + 1) = be (x >>> 8) n ++ [x.toUInt8] := by
  unfold be
  rw [List.range_succ, List.map_append]
  congr 1
  · refine List.map_congr_left fun j hj => ?_
    have hj' := List.mem_range.1 hj
    refine congrArg UInt64.toUInt8 (UInt64.toNat_inj.1 ?_)
    have e8 : (8 : UInt64).toNat % 64 = 8 := rfl
    rw [UInt64.toNat_shiftRight, UInt64.toNat_shiftRight, UInt64.toNat_shiftRight, e8]
    have a1 : (UInt64.ofNat (8 * (n + 1 - 1 - j))).toNat = 8 * (n + 1 - 1 - j) := by rw [UInt64.toNat_ofNat']; omega
    have a2 : (UInt64.ofNat (8 * (n - 1 - j))).toNat = 8 * (n - 1 - j) := by rw [UInt64.toNat_ofNat']; omega
    rw [a1, a2, ← Nat.shiftRight_add]
    congr 1; omega
  · simp
theorem gv_lt : ∀ (l : List UInt8), l.length ≤ 8 → (gv l).toNat < 256 ^ l.length := by
  refine snoc_ind ?_ (fun l b ih h => ?_)
  · intro _; show (0 : Nat) < 1; decide
  · rw [List.length_append, List.length_singleton] at h
    have h1 := ih (by omega)
    have hb := b.toNat_lt
    have h2 : 256 ^ l.length * 256 ≤ 256 ^ 8 := by rw [← Nat.pow_succ]; exact Nat.pow_le_pow_right (by decide) (by omega)
    have h256 : (256 : UInt64).toNat = 256 := rfl
    have e8 : (256 : Nat) ^ 8 = 18446744073709551616 := by decide
    rw [gv_snoc, List.length_append, List.length_singleton, Nat.pow_succ, UInt64.toNat_add, UInt64.toNat_mul, UInt8.toNat_toUInt64, h256]
    rw [e8] at h2
    generalize 256 ^ l.length = P at *
    omega
theorem gv_step (l : List UInt8) (b : UInt8) (h : l.length + 1 ≤ 8) : (gv (l ++ [b])).toNat = (gv l).toNat * 256 + b.toNat := by
  have h1 := gv_lt l (by omega)
  have hb := b.toNat_lt
  have h2 : 256 ^ l.length * 256 ≤ 256 ^ 8 := by rw [← Nat.pow_succ]; exact Nat.pow_le_pow_right (by decide) (by omega)
  have h256 : (256 : UInt64).toNat = 256 := rfl
  have e8 : (256 : Nat) ^ 8 = 18446744073709551616 := by decide
  rw [gv_snoc, UInt64.toNat_add, UInt64.toNat_mul, UInt8.toNat_toUInt64, h256]
  rw [e8] at h2
  generalize 256 ^ l.length = P at *
  omega
theorem be_gv : ∀ (l : List UInt8), l.length ≤ 8 → be (gv l) l.length = l := by
  refine snoc_ind ?_ (fun l b ih h => ?_)
  · intro _; rfl
  · rw [List.length_append, List.length_singleton] at h ⊢
    have hs := gv_step l b h
    have hb := b.toNat_lt
    rw [be_snoc _ h]
    have e1 : gv (l ++ [b]) >>> 8 = gv l := by
      apply UInt64.toNat_inj.1
      have e8 : (8 : UInt64).toNat % 64 = 8 := rfl
      rw [UInt64.toNat_shiftRight, e8, hs, Nat.shiftRight_eq_div_pow]
      omega
    have e2 : (gv (l ++ [b])).toUInt8 = b := by
      apply UInt8.toNat_inj.1
      rw [UInt64.toNat_toUInt8, hs]
      omega
    rw [e1, e2, ih (by omega)]
theorem gv_be : ∀ (n : Nat) (x : UInt64), n ≤ 8 → (gv (be x n)).toNat = x.toNat % 256 ^ n
  | 0, x, _ => by simp [be, gv, Nat.mod_one]
  | n + 1, x, h => by
    have ih := gv_be n (x >>> 8) (by omega)
    have e8 : (8 : UInt64).toNat % 64 = 8 := rfl
    have e2 : (2 : Nat) ^ 8 = 256 := by decide
    have ep : 256 ^ (n + 1) = 256 * 256 ^ n := by rw [Nat.pow_succ, Nat.mul_comm]
    rw [be_snoc x h, gv_step _ _ (by rw [be_len]; exact h), ih, UInt64.toNat_shiftRight, e8, Nat.shiftRight_eq_div_pow, UInt64.toNat_toUInt8, ep, Nat.mod_mul, e2]
    generalize x.toNat / 256 % 256 ^ n = Y
    omega
theorem of_u64 (x : UInt64) : UInt64.ofInt (x.toNat : Int) = x := by
  apply UInt64.toNat_inj.1
  have := u64ofInt (x.toNat : Int)
  have := x.toNat_lt
  omega
theorem of_u8 (x : UInt8) : UInt8.ofInt (x.toNat : Int) = x := by
  apply UInt8.toNat_inj.1
  have := u8ofInt (x.toNat : Int)
  have := x.toNat_lt
  omega
theorem u64_of {z : Int} (h0 : 0 ≤ z) (h : z ≤ 1099511627776) : ((UInt64.ofInt z).toNat : Int) = z := by
  have := u64ofInt z
  omega
theorem u8_of {z : Int} (h0 : 0 ≤ z) (h : z < 256) : ((UInt8.ofInt z).toNat : Int) = z := by
  have := u8ofInt z
  omega
theorem take8 {l m : List UInt8} (h : l.length = 8) : (l ++ m).take 8 = l := by rw [← h, List.take_left]
theorem keysOf_cons (m : Nat) (a : UInt8) (x l : List UInt8) (hx : x.length = 32) : keysOf (m + 1) (a :: x ++ l) = ((a.toNat : Int), x) :: keysOf m l := by
  unfold keysOf
  rw [List.range_succ_eq_map, List.map_cons, List.map_map]
  congr 1
  · refine Prod.ext rfl ?_
    show (((a :: x) ++ l).drop 1).take 32 = x
    rw [List.cons_append, List.drop_succ_cons, List.drop_zero, ← hx, List.take_left]
  · refine List.map_congr_left fun i _ => ?_
    have hl : (a :: x).length = 33 := by rw [List.length_cons, hx]
    refine Prod.ext ?_ ?_
    · show ((((a :: x) ++ l).getD (33 * (i + 1)) 0).toNat : Int) = _
      rw [List.getD_eq_getElem?_getD, List.getElem?_append_right (by omega), hl, List.getD_eq_getElem?_getD, show 33 * (i + 1) - 33 = 33 * i by omega]
    · show (((a :: x) ++ l).drop (33 * (i + 1) + 1)).take 32 = _
      rw [List.drop_append, List.drop_of_length_le (by omega), List.nil_append, hl, show 33 * (i + 1) + 1 - 33 = 33 * i + 1 by omega]
theorem keys_flat : ∀ (m : Nat) (l : List UInt8), 33 * m ≤ l.length → (keysOf m l).flatMap kb1 = l.take (33 * m)
  | 0, l, _ => by simp [keysOf]
  | m + 1, l, h => by
    obtain ⟨a, t, rfl⟩ : ∃ a t, l = a :: t := by
      cases l with
      | nil => simp at h
      | cons a t => exact ⟨a, t, rfl⟩
    rw [List.length_cons] at h
    obtain ⟨x, r, hx, rfl⟩ : ∃ x r, x.length = 32 ∧ t = x ++ r := ⟨t.take 32, t.drop 32, by rw [List.length_take]; omega, (List.take_append_drop 32 t).symm⟩
    rw [List.length_append, hx] at h
    have ih := keys_flat m r (by omega)
    have hl : (a :: x).length = 33 := by rw [List.length_cons, hx]
    rw [← List.cons_append, keysOf_cons m a x r hx, List.flatMap_cons, ih, List.take_append, List.take_of_length_le (l := a :: x) (by rw [hl]; omega), hl, show 33 * (m + 1) - 33 = 33 * m by omega]
    congr 1
    unfold kb1
    rw [of_u8]
theorem keys_lay : ∀ (K : List (Int × List UInt8)) (d : List UInt8), K32 K → (∀ k ∈ K, 0 ≤ k.1 ∧ k.1 ≤ 6) → keysOf K.length (K.flatMap kb1 ++ d) = K
  | [], d, _, _ => rfl
  | k :: K, d, h, hh => by
    have h0 := hh k (.head _)
    have ih := keys_lay K d (fun x hx => h x (.tail _ hx)) (fun x hx => hh x (.tail _ hx))
    rw [List.length_cons, List.flatMap_cons, List.append_assoc]
    show keysOf (K.length + 1) (UInt8.ofInt k.1 :: k.2 ++ (K.flatMap kb1 ++ d)) = _
    rw [keysOf_cons _ _ _ _ (h k (.head _)), ih, u8_of h0.1 (by omega)]
theorem tk_split {c : List UInt8} (h : tkO c = true) : c = layB (tkR c) ++ tkD c := by
  obtain ⟨h1, h2⟩ := tkO_spec h
  unfold tkR tkD
  rw [if_pos h, if_pos h]
  unfold layB
  rw [keysOf_len, of_u8, keys_flat _ _ (by rw [List.length_drop]; omega)]
  match c, h1 with
  | a :: b :: t, _ =>
    show a :: b :: t = a :: UInt8.ofInt ((b.toNat : Int)) :: (t.take (33 * b.toNat)) ++ (a :: b :: t).drop (2 + 33 * b.toNat)
    rw [of_u8, Nat.add_comm 2, List.drop_succ_cons, List.drop_succ_cons, List.cons_append, List.cons_append, List.take_append_drop]
theorem tk_lay {r : Ro} (hr : rightB r.n r.K = true) (hk : K32 r.K) (d : List UInt8) : tkO (layB r ++ d) = true ∧ tkR (layB r ++ d) = r ∧ tkD (layB r ++ d) = d := by
  obtain ⟨h1, h2, h3, h4, _⟩ := of_decide_eq_true hr
  have hl := layB_len hk
  have hm : tkM (layB r ++ d) = r.K.length := by
    show (UInt8.ofInt (r.K.length : Int)).toNat = _
    have := u8_of (z := (r.K.length : Int)) (by omega) (by omega)
    omega
  have ho : tkO (layB r ++ d) = true := by
    unfold tkO
    rw [hm, decide_eq_true (by rw [List.length_append]; omega), decide_eq_true (by rw [List.length_append]; omega)]; rfl
  refine ⟨ho, ?_, ?_⟩
  · unfold tkR
    rw [if_pos ho, hm]
    have e : (layB r ++ d).drop 2 = r.K.flatMap kb1 ++ d := rfl
    rw [e, keys_lay r.K d hk h4]
    have : ((UInt8.ofInt r.n).toNat : Int) = r.n := u8_of (by omega) (by omega)
    show (⟨((UInt8.ofInt r.n).toNat : Int), r.K⟩ : Ro) = r
    rw [this]
  · unfold tkD
    rw [if_pos ho, hm, show 2 + 33 * r.K.length = (layB r).length by omega, List.drop_left]
/-- The bytes of a root that was read. -/
theorem dec_bytes {b : List UInt8} (h17 : 17 ≤ b.length) (h0 : tkO (cN b 0) = true) (h1 : tkO (cN b 1) = true) (h2 : tkO (cN b 2) = true) : b = b.getD 0 0 :: (encB (decR b)).drop 1 ++ cN b 3 := by
  have s0 := tk_split h0
  have s1 := tk_split h1
  have s2 := tk_split h2
  have e1 : UInt64.ofInt (decR b).v = gv1 b := of_u64 _
  have e2 : UInt64.ofInt (decR b).u = gv2 b := of_u64 _
  have l1 : ((b.drop 1).take 8).length = 8 := by rw [List.length_take, List.length_drop]; omega
  have l2 : ((b.drop 9).take 8).length = 8 := by rw [List.length_take, List.length_drop]; omega
  have b1 : be (gv1 b) 8 = (b.drop 1).take 8 := by have := be_gv _ (show ((b.drop 1).take 8).length ≤ 8 by omega); rw [l1] at this; exact this
  have b2 : be (gv2 b) 8 = (b.drop 9).take 8 := by have := be_gv _ (show ((b.drop 9).take 8).length ≤ 8 by omega); rw [l2] at this; exact this
  have eD : (encB (decR b)).drop 1 = (b.drop 1).take 8 ++ (b.drop 9).take 8 ++ layB (rN b 0) ++ layB (rN b 1) ++ layB (rN b 2) := by
    unfold encB headB
    rw [e1, e2, b1, b2]
    show List.drop 1 (([8] ++ _ ++ _) ++ layB (rN b 0) ++ layB (rN b 1) ++ layB (rN b 2)) = _
    rw [List.append_assoc [8], List.append_assoc [8], List.append_assoc [8], List.append_assoc [8]]
    show (_ ++ _ ++ _ ++ _ ++ _ : List UInt8) = _
    rfl
  have eC : b.drop 17 = layB (rN b 0) ++ (layB (rN b 1) ++ (layB (rN b 2) ++ cN b 3)) := by
    have t0 : cN b 0 = layB (rN b 0) ++ cN b 1 := s0
    have t1 : cN b 1 = layB (rN b 1) ++ cN b 2 := s1
    have t2 : cN b 2 = layB (rN b 2) ++ cN b 3 := s2
    show cN b 0 = _
    rw [t0, t1, t2]
  rw [eD]
  have eH : b = b.getD 0 0 :: ((b.drop 1).take 8 ++ ((b.drop 9).take 8 ++ b.drop 17)) := by
    match b, h17 with
    | a :: t, _ =>
      show a :: t = a :: (t.take 8 ++ ((t.drop 8).take 8 ++ t.drop 16))
      rw [show t.drop 16 = (t.drop 8).drop 8 by rw [List.drop_drop], List.take_append_drop, List.take_append_drop]
  rw [eC] at eH
  conv => lhs; rw [eH]
  simp [List.append_assoc]
theorem enc_cons (x : Rx) : encB x = 8 :: (encB x).drop 1 := by
  unfold encB headB
  rw [List.append_assoc [8], List.append_assoc [8], List.append_assoc [8], List.append_assoc [8]]
  rfl
theorem enc_is {b : List UInt8} (h17 : 17 ≤ b.length) (h0 : tkO (cN b 0) = true) (h1 : tkO (cN b 1) = true) (h2 : tkO (cN b 2) = true) : encB (decR b) = b ↔ b.getD 0 0 = 8 ∧ cN b 3 = [] := by
  have hb := dec_bytes h17 h0 h1 h2
  constructor
  · intro e
    have h8 : b.getD 0 0 = 8 := by rw [← e, enc_cons]; rfl
    refine ⟨h8, ?_⟩
    have hl := congrArg List.length hb
    have hl2 := congrArg List.length (enc_cons (decR b))
    rw [e] at hl2
    rw [List.length_append, List.length_cons, e] at hl
    rw [List.length_cons] at hl2
    exact List.length_eq_zero_iff.1 (by omega)
  · intro ⟨h8, h3⟩
    rw [h8, h3, List.append_nil] at hb
    rw [enc_cons]; exact hb.symm
/-- A root's bytes are read as that root. -/
theorem dec_enc {y : RL} (hk : y.ok) (h : rootB y.x = true) : Dec (encB y.x) ∧ decR (encB y.x) = y.x := by
  obtain ⟨r1, r2, r3⟩ := rootB_roles h
  obtain ⟨⟨k1, _⟩, ⟨k2, _⟩, ⟨k3, _⟩⟩ := hk
  have hb := h
  unfold rootB at hb
  simp only [Bool.and_eq_true, decide_eq_true_eq] at hb
  obtain ⟨v1, v2, u1, u2, _⟩ := hb
  have hv := u64_of (z := y.x.v) (by omega) v2
  have hu := u64_of u1 u2
  have lh := headB_len y.x
  have p256 : (256 : Nat) ^ 8 = 18446744073709551616 := by decide
  have nv : (gv (be (UInt64.ofInt y.x.v) 8)) = UInt64.ofInt y.x.v := UInt64.toNat_inj.1 (by rw [gv_be 8 _ (by decide), p256]; have := (UInt64.ofInt y.x.v).toNat_lt; omega)
  have nu : (gv (be (UInt64.ofInt y.x.u) 8)) = UInt64.ofInt y.x.u := UInt64.toNat_inj.1 (by rw [gv_be 8 _ (by decide), p256]; have := (UInt64.ofInt y.x.u).toNat_lt; omega)
  have lb := be_len (UInt64.ofInt y.x.v) 8
  have lb2 := be_len (UInt64.ofInt y.x.u) 8
  have e0 : encB y.x = 8 :: (be (UInt64.ofInt y.x.v) 8 ++ (be (UInt64.ofInt y.x.u) 8 ++ (layB y.x.r ++ (layB y.x.t ++ (layB y.x.l ++ []))))) := by
    unfold encB headB; simp [List.append_assoc]
  have g1 : gv1 (encB y.x) = UInt64.ofInt y.x.v := by
    unfold gv1
    rw [e0, List.drop_succ_cons, List.drop_zero, take8 lb, nv]
  have g2 : gv2 (encB y.x) = UInt64.ofInt y.x.u := by
    unfold gv2
    rw [e0, List.drop_succ_cons, List.drop_append, List.drop_of_length_le (by rw [lb]; decide), lb, List.nil_append, Nat.sub_self, List.drop_zero, take8 lb2, nu]
  have c0 : cN (encB y.x) 0 = layB y.x.r ++ (layB y.x.t ++ (layB y.x.l ++ [])) := by
    show (encB y.x).drop 17 = _
    rw [e0, List.drop_succ_cons, List.drop_append, List.drop_of_length_le (by rw [lb]; decide), lb, List.nil_append, List.drop_append, List.drop_of_length_le (by rw [lb2]; decide), lb2, List.nil_append]; rfl
  have t0 := tk_lay r1 k1 (layB y.x.t ++ (layB y.x.l ++ []))
  have t1 := tk_lay r2 k2 (layB y.x.l ++ [])
  have t2 := tk_lay r3 k3 []
  have c1 : cN (encB y.x) 1 = layB y.x.t ++ (layB y.x.l ++ []) := by show tkD (cN (encB y.x) 0) = _; rw [c0]; exact t0.2.2
  have c2 : cN (encB y.x) 2 = layB y.x.l ++ [] := by show tkD (cN (encB y.x) 1) = _; rw [c1]; exact t1.2.2
  have c3 : cN (encB y.x) 3 = [] := by show tkD (cN (encB y.x) 2) = _; rw [c2]; exact t2.2.2
  have dR : decR (encB y.x) = y.x := by
    unfold decR rN
    rw [g1, g2, c0, c1, c2, t0.2.1, t1.2.1, t2.2.1, hv, hu]
  have mT : maxT.toNat = 1099511627776 := rfl
  refine ⟨⟨?_, by rw [e0]; rfl, ?_, ?_, ⟨by rw [c0]; exact t0.1, by rw [c1]; exact t1.1, by rw [c2]; exact t2.1⟩, c3, by rw [dR]; exact h⟩, dR⟩
  · unfold encB; simp only [List.length_append]; omega
  · rw [g1, UInt64.lt_iff_toNat_lt]; omega
  · rw [g2, UInt64.lt_iff_toNat_lt]; omega
end Go.Proofs.Ytjhmcmadleabjaa

set_option maxRecDepth 100000
namespace Go.Proofs.Ytjhmcmadleabjaa
open Go Go.Hw Go.Proofs

def pN (b : List UInt8) : Nat → Nat
  | 0 => 17
  | i + 1 => pN b i + 2 + 33 * tkM (cN b i)
theorem cN_drop {b : List UInt8} : ∀ (i : Nat), (∀ j, j < i → tkO (cN b j) = true) → cN b i = b.drop (pN b i)
  | 0, _ => rfl
  | i + 1, h => by
    have ih := cN_drop i (fun j hj => h j (by omega))
    show tkD (cN b i) = b.drop (pN b i + 2 + 33 * tkM (cN b i))
    unfold tkD
    rw [if_pos (h i (by omega))]
    generalize tkM (cN b i) = M
    rw [ih, List.drop_drop]
    congr 1; omega
theorem pN_le {b : List UInt8} (h17 : 17 ≤ b.length) : ∀ (i : Nat), (∀ j, j < i → tkO (cN b j) = true) → pN b i ≤ b.length
  | 0, _ => h17
  | i + 1, h => by
    have ih := pN_le h17 i (fun j hj => h j (by omega))
    have hd := cN_drop i (fun j hj => h j (by omega))
    have hs := (tkO_spec (h i (by omega))).2
    rw [hd, List.length_drop, ← hd] at hs
    show pN b i + 2 + 33 * tkM (cN b i) ≤ _
    omega
/-- A key's sum, as far as it is read. -/
def kz (s : List UInt8) (j : Nat) : List UInt8 := s.take j ++ List.replicate (32 - j) 0
theorem kz_len {s : List UInt8} (hs : s.length = 32) {j : Nat} (hj : j ≤ 32) : (kz s j).length = 32 := by unfold kz; rw [List.length_append, List.length_take, List.length_replicate]; omega
theorem kz_full {s : List UInt8} (hs : s.length = 32) : kz s 32 = s := by unfold kz; rw [List.take_of_length_le (by omega)]; simp
theorem kz_put {s : List UInt8} {h : Int} (hs : s.length = 32) {j o : Nat} (hj : j < 32) (ho : o = 1 + j) : spl (.i64 h :: bc (kz s j)) o [.u8 (s.getD j 0)] = .i64 h :: bc (kz s (j + 1)) := by
  subst ho
  have e1 : kz s j = s.take j ++ (0 :: List.replicate (32 - (j + 1)) 0) := by
    unfold kz; rw [show 32 - j = (32 - (j + 1)) + 1 by omega, List.replicate_succ]
  have e2 : kz s (j + 1) = s.take j ++ (s.getD j 0 :: List.replicate (32 - (j + 1)) 0) := by
    unfold kz; rw [take_snoc (by omega), List.append_assoc]; rfl
  rw [e1, e2, bc_app, bc_app]
  show spl ((C.i64 h :: bc (s.take j)) ++ ([C.u8 0] ++ bc (List.replicate (32 - (j + 1)) 0))) (1 + j) [.u8 (s.getD j 0)] = (C.i64 h :: bc (s.take j)) ++ ([C.u8 (s.getD j 0)] ++ bc (List.replicate (32 - (j + 1)) 0))
  exact spl_at (by rw [List.length_cons, bc_len, List.length_take]; omega) rfl
theorem three_first {a b c : Blk} {s : Hp} : (a :: b :: c :: s).Perm (b :: c :: a :: s) := (List.Perm.swap b a _).trans (List.Perm.cons b (List.Perm.swap c a _))
theorem rlz_at {v u : Int} {Z : List (Ro × Os)} {p : Ro × Os} {i : Nat} (h : Z.length = i) (hi : i < 3) {o : Nat} (ho : o = 2 + 2 * i) : spl (rlZ v u Z).cs o (rrow p) = (rlZ v u (Z ++ [p])).cs := rlz_put (by omega) (by omega)

set_option maxHeartbeats 2000000 in
theorem decode2_c {w : World} {B : List UInt8} {ba : Ad} {bcap : Nat} (hc : Cells w ba (bc B)) (hl : B.length ≤ 1073741824) (hcap : B.length ≤ bcap) :
    CallsV Try.prog 46 [.c (.slc ba B.length bcap)] w fun en w' => ∃ z : RL, en = .returned (V.t2 (.agg z.cs) (.c (.i64 (decE B)))).den ∧ (z.x = decX B ∧ z.own) ∧ (∀ p ∈ rbs 24 z, ∀ k, p.key = some k → w.heap.size ≤ k) ∧ St w (rbs 24 z) w' := by
  refine calls_in (tb := tb) (fn := Try.f46) Try.func46 rfl rfl rfl [(0, .c (.slc ba B.length bcap))] rfl [] (St.refl _) ?_
  refine wc_seq ?_
  refine wc_region ?_
  refine wl_ef rfl (ef_alloc zero88 rfl rfl (fun o ho => ?_))
  refine wl_q rfl rfl rfl (qt_p tbok rfl) ?_
  refine wl_done ?_
  refine nk_code ?_
  refine wc_seq ?_
  refine wc_seq ?_
  refine wc_region ?_
  refine wl_q rfl rfl rfl (qt_p tbok rfl) ?_
  refine wl_q rfl rfl rfl (qt_len tbok rfl rfl) ?_
  refine wl_q rfl rfl rfl (qt_p tbok rfl) ?_
  refine wl_done ?_
  refine nk_code ?_
  refine wc_cond rfl (fun h20 => ?_) (fun h20 => ?_)
  · refine wc_seq ?_
    refine wc_region ?_
    refine wl_q rfl rfl rfl (qt_build (vs := []) (l := z8) tbok rfl zero88 rfl rfl) ?_
    refine wl_ef rfl (ef_store (cs' := z8) tbok rfl rfl rfl rfl .here rfl (Nat.le_of_ble_eq_true rfl) rfl ?_)
    refine wl_q rfl rfl rfl (qt_p tbok rfl) ?_
    refine wl_done ?_
    refine nk_code ?_
    refine wc_ret ?_
    try dsimp only
    obtain ⟨x1, x2⟩ := dec_no ((fun h => by have := of_decide_eq_true h20; have := h.1; omega) : ¬ Dec B)
    rw [x2]
    exact fin2 rfl (rv_ag (l := z8) tbok rfl rfl rfl rfl (rs_lk .here at0)) (rv_tmp rfl) (fun w' hw => ⟨zeroRL, rfl, ⟨x1.symm, own0⟩, new0, st_none (st_none (st_none (hw.all (new_cons (newKey ho) new_nil))))⟩)
  · have hl17 : 17 ≤ B.length := (by have := of_decide_eq_false h20; omega)
    obtain ⟨br, bo, hba⟩ := cells_nn hc (by rw [bc_len]; omega)
    subst hba
    refine wc_skip ?_
    refine nk_code ?_
    refine wc_seq ?_
    refine wc_region ?_
    refine wl_q rfl rfl rfl (qt_p tbok rfl) ?_
    first | refine wl_q rfl rfl rfl (qt_sl tbok rfl rfl rfl rfl) ?_ | refine wl_q rfl rfl rfl (qt_sa tbok rfl rfl rfl rfl) ?_
    refine wl_as (v' := .c (.slc ((Ad.at br bo).adv 1 bcap 1) ((B.drop 1).take 8).length (bcap - 1))) (by rw [show ((B.drop 1).take 8).length = 8 by rw [List.length_take, List.length_drop]; omega]; rfl) ?_
    refine wl_ef rfl (ef_pure (v := .t2 (.c (.u64 (gv1 B))) (.c (.bool true))) (by kernel_rfl) rfl rfl (fun w1 g1 => get87_c (l := (B.drop 1).take 8) (cells_rd (rd_cells (cells_win hc hcap 1 8) (off_new (newKey ho) off_nil)) g1) (by rw [List.length_take]; omega)) ?_)
    refine wl_q rfl rfl rfl (qt_p tbok rfl) ?_
    refine wl_q rfl rfl rfl (qt_p tbok rfl) ?_
    refine wl_q rfl rfl rfl (qt_p tbok rfl) ?_
    refine wl_q rfl rfl rfl (qt_p tbok rfl) ?_
    refine wl_q rfl rfl rfl (qt_p tbok rfl) ?_
    refine wl_done ?_
    refine nk_code ?_
    refine wc_seq ?_
    refine wc_region ?_
    refine wl_q rfl rfl rfl (qt_p tbok rfl) ?_
    first | refine wl_q rfl rfl rfl (qt_sl tbok rfl rfl rfl rfl) ?_ | refine wl_q rfl rfl rfl (qt_sa tbok rfl rfl rfl rfl) ?_
    refine wl_as (v' := .c (.slc ((Ad.at br bo).adv 9 bcap 1) ((B.drop 9).take 8).length (bcap - 9))) (by rw [show ((B.drop 9).take 8).length = 8 by rw [List.length_take, List.length_drop]; omega]; rfl) ?_
    refine wl_ef rfl (ef_pure (v := .t2 (.c (.u64 (gv2 B))) (.c (.bool true))) (by kernel_rfl) rfl rfl (fun w1 g1 => get87_c (l := (B.drop 9).take 8) (cells_rd (rd_cells (cells_win hc hcap 9 8) (off_new (newKey ho) off_nil)) g1) (by rw [List.length_take]; omega)) ?_)
    refine wl_q rfl rfl rfl (qt_p tbok rfl) ?_
    refine wl_q rfl rfl rfl (qt_p tbok rfl) ?_
    refine wl_q rfl rfl rfl (qt_p tbok rfl) ?_
    refine wl_q rfl rfl rfl (qt_p tbok rfl) ?_
    refine wl_q rfl rfl rfl (qt_p tbok rfl) ?_
    refine wl_done ?_
    refine nk_code ?_
    refine wc_seq ?_
    refine wc_seq ?_
    refine wc_region ?_
    refine wl_q rfl rfl rfl (qt_p tbok rfl) ?_
    refine wl_q rfl rfl rfl (qt_p tbok rfl) ?_
    refine wl_bool (fun h3 => ?_) (fun h3 => ?_)
    · refine wl_q rfl rfl rfl (qt_p tbok rfl) ?_
      first | refine wl_g rfl rfl rfl rfl (qt_p tbok rfl) ?_ | refine wl_skip rfl rfl rfl rfl rfl ?_
      first | refine wl_g rfl rfl rfl rfl (qt_p tbok rfl) ?_ | refine wl_skip rfl rfl rfl rfl rfl ?_
      refine wl_q rfl rfl rfl (qt_p tbok rfl) ?_
      refine wl_done ?_
      refine nk_code ?_
      refine wc_yes rfl ?_
      refine wc_seq ?_
      refine wc_region ?_
      refine wl_q rfl rfl rfl (qt_build (vs := []) (l := z8) tbok rfl zero88 rfl rfl) ?_
      refine wl_ef rfl (ef_store (cs' := z8) tbok rfl rfl rfl rfl .here rfl (Nat.le_of_ble_eq_true rfl) rfl ?_)
      refine wl_q rfl rfl rfl (qt_p tbok rfl) ?_
      refine wl_done ?_
      refine nk_code ?_
      refine wc_ret ?_
      try dsimp only
      obtain ⟨x1, x2⟩ := dec_no ((fun h => h.2.2.1 (of_decide_eq_true h3)) : ¬ Dec B)
      rw [x2]
      exact fin2 rfl (rv_ag (l := z8) tbok rfl rfl rfl rfl (rs_lk .here at0)) (rv_tmp rfl) (fun w' hw => ⟨zeroRL, rfl, ⟨x1.symm, own0⟩, new0, st_none (st_none (st_none (hw.all (new_cons (newKey ho) new_nil))))⟩)
    · refine wl_q rfl rfl rfl (qt_p tbok rfl) ?_
      first | refine wl_g rfl rfl rfl rfl (qt_p tbok rfl) ?_ | refine wl_skip rfl rfl rfl rfl rfl ?_
      first | refine wl_g rfl rfl rfl rfl (qt_p tbok rfl) ?_ | refine wl_skip rfl rfl rfl rfl rfl ?_
      refine wl_bool (fun h4 => ?_) (fun h4 => ?_)
      · refine wl_q rfl rfl rfl (qt_p tbok rfl) ?_
        refine wl_done ?_
        refine nk_code ?_
        refine wc_yes rfl ?_
        refine wc_seq ?_
        refine wc_region ?_
        refine wl_q rfl rfl rfl (qt_build (vs := []) (l := z8) tbok rfl zero88 rfl rfl) ?_
        refine wl_ef rfl (ef_store (cs' := z8) tbok rfl rfl rfl rfl .here rfl (Nat.le_of_ble_eq_true rfl) rfl ?_)
        refine wl_q rfl rfl rfl (qt_p tbok rfl) ?_
        refine wl_done ?_
        refine nk_code ?_
        refine wc_ret ?_
        try dsimp only
        obtain ⟨x1, x2⟩ := dec_no ((fun h => h.2.2.2.1 (of_decide_eq_true h4)) : ¬ Dec B)
        rw [x2]
        exact fin2 rfl (rv_ag (l := z8) tbok rfl rfl rfl rfl (rs_lk .here at0)) (rv_tmp rfl) (fun w' hw => ⟨zeroRL, rfl, ⟨x1.symm, own0⟩, new0, st_none (st_none (st_none (hw.all (new_cons (newKey ho) new_nil))))⟩)
      · refine wl_q rfl rfl rfl (qt_p tbok rfl) ?_
        refine wl_done ?_
        refine nk_code ?_
        refine wc_no rfl ?_
        refine wc_skip ?_
        refine nk_code ?_
        refine wc_seq ?_
        refine wc_region ?_
        refine wl_q rfl rfl rfl (qt_p tbok rfl) ?_
        have m1 := maxT_le (of_decide_eq_false h3)
        have m2 := maxT_le (of_decide_eq_false h4)
        refine wl_q rfl rfl rfl (qt_pure tbok rfl (by omega)) ?_
        refine wl_q rfl rfl rfl (qt_p tbok rfl) ?_
        refine wl_q rfl rfl rfl (qt_pure tbok rfl (by omega)) ?_
        refine wl_q rfl rfl rfl (qt_build (vs := [(0, .c (.i64 ((gv1 B).toNat : Int))), (1, .c (.i64 ((gv2 B).toNat : Int)))]) (l := (rlZ ((gv1 B).toNat : Int) ((gv2 B).toNat : Int) []).cs) tbok rfl zero88 rfl rfl) ?_
        refine wl_ef rfl (ef_alloc zero88 rfl rfl (fun x8 h8 => ?_))
        refine wl_ef rfl (ef_store (cs' := (rlZ ((gv1 B).toNat : Int) ((gv2 B).toNat : Int) []).cs) tbok rfl rfl rfl rfl .here rfl (Nat.le_of_ble_eq_true rfl) rfl ?_)
        refine wl_done ?_
        refine nk_code ?_
        refine wc_seq ?_
        refine wc_region ?_
        refine wl_q rfl rfl rfl (qt_p tbok rfl) ?_
        refine wl_done ?_
        refine nk_code ?_
        refine wc_seq ?_
        refine wc_seq ?_
        refine wc_region ?_
        refine wl_q rfl rfl rfl (qt_p tbok rfl) ?_
        refine wl_done ?_
        refine nk_code ?_
        refine wc_block ?_
        refine wc_loop (ι := List (Ro × Os)) (fun Z => ZI B Z ∧ (∀ p ∈ Z, ∀ k, p.2.1.key = some k → w.heap.size ≤ k)) (fun Z => [(10, .c (.i64 (Z.length : Int))), (9, .c (.i64 (pN B Z.length : Int))), (8, .c (.ptr (.at x8 0))), (0, .c (.slc (.at br bo) B.length bcap)), (2, .c (.ptr (.at o 0)))]) (fun Z => ⟨.at x8 0, (rlZ ((gv1 B).toNat : Int) ((gv2 B).toNat : Int) Z).cs, 88, (0, 0), []⟩ :: ⟨.at o 0, z8, 88, (0, 0), []⟩ :: zbs 24 Z) (fun Z => 3 - Z.length) [] ⟨zi_nil B, fun p h => (by cases h)⟩ (nk_start ⟨rfl, rfl, rfl, rfl, rfl, trivial⟩ (fun w hw => hw)) (fun Z ⟨hZ, hZn⟩ => ?_)
        have hZk := zbs_new (T := 24) hZn
        have hZ3 := hZ.1
        have hcd := cN_drop Z.length hZ.2.2.2
        have hple := pN_le hl17 Z.length hZ.2.2.2
        obtain ⟨p, hp⟩ : ∃ p, p = pN B Z.length := ⟨_, rfl⟩
        obtain ⟨cc, hcc⟩ : ∃ cc, cc = cN B Z.length := ⟨_, rfl⟩
        rw [← hp, ← hcc] at hcd
        rw [← hp] at hple
        have hccl : cc.length = B.length - p := (by rw [hcd, List.length_drop])
        have hget : ∀ j, j < cc.length → (bc B)[p + j]? = some (.u8 (cc.getD j 0)) := (fun j hj => by rw [bc_getD (by omega), hcd, List.getD_eq_getElem?_getD, List.getD_eq_getElem?_getD, List.getElem?_drop])
        rw [← hp]
        refine wc_seq ?_
        refine wc_seq ?_
        refine wc_region ?_
        refine wl_q rfl rfl rfl (qt_p tbok rfl) ?_
        refine wl_q rfl rfl rfl (qt_p tbok rfl) ?_
        refine wl_done ?_
        refine nk_code ?_
        refine wc_cond rfl (fun h47 => ?_) (fun h47 => ?_)
        · have hi' : Z.length < 3 := (by have h0 := of_decide_eq_true h47; omega)
          refine wc_skip ?_
          refine nk_code ?_
          refine wc_seq ?_
          refine wc_block ?_
          refine wc_seq ?_
          refine wc_seq ?_
          refine wc_region ?_
          refine wl_q rfl rfl rfl (qt_p tbok rfl) ?_
          refine wl_q rfl rfl rfl (qt_len tbok rfl rfl) ?_
          refine wl_q rfl rfl rfl (qt_p tbok rfl) ?_
          refine wl_q rfl rfl rfl (qt_p tbok rfl) ?_
          refine wl_q rfl rfl rfl (qt_p tbok rfl) ?_
          refine wl_done ?_
          refine nk_code ?_
          refine wc_cond rfl (fun h54 => ?_) (fun h54 => ?_)
          · have hno : ¬ tkO (cN B Z.length) = true := (fun h => by have h9 := (tkO_spec h).1; rw [← hcc] at h9; have := of_decide_eq_true h54; omega)
            refine wc_seq ?_
            refine wc_region ?_
            refine wl_q rfl rfl rfl (qt_build (vs := []) (l := z8) tbok rfl zero88 rfl rfl) ?_
            refine wl_ef rfl (ef_store (cs' := z8) tbok rfl rfl rfl rfl (.there .here) rfl (Nat.le_of_ble_eq_true rfl) rfl ?_)
            refine wl_q rfl rfl rfl (qt_p tbok rfl) ?_
            refine wl_done ?_
            refine nk_code ?_
            refine wc_ret ?_
            try dsimp only
            obtain ⟨x1, x2⟩ := dec_no ((fun h => hno (by have h9 := h.2.2.2.2.1; rcases (by omega : Z.length = 0 ∨ Z.length = 1 ∨ Z.length = 2) with e | e | e <;> rw [e]; exact h9.1; exact h9.2.1; exact h9.2.2)) : ¬ Dec B)
            rw [x2]
            exact fin2 rfl (rv_ag (l := z8) tbok rfl rfl rfl rfl (rs_lk (.there .here) at0)) (rv_tmp rfl) (fun w' hw => ⟨zeroRL, rfl, ⟨x1.symm, own0⟩, new0, st_none (st_none (st_none (hw.all (new_cons (newKey h8) (new_cons (newKey ho) hZk)))))⟩)
          · have hc2 : 2 ≤ cc.length := (by have := of_decide_eq_false h54; omega)
            refine wc_skip ?_
            refine nk_code ?_
            refine wc_seq ?_
            refine wc_region ?_
            refine wl_q rfl rfl rfl (qt_p tbok rfl) ?_
            refine wl_q rfl rfl rfl (qt_p tbok rfl) ?_
            refine wl_q rfl rfl rfl (qt_p tbok rfl) ?_
            refine wl_q rfl rfl rfl (qt_load (c := .u8 (cc.getD 0 0)) tbok rfl rfl rfl ((rs_cells hc (off_new (newKey h8) (off_new (newKey ho) (off_all hZk)))).rc (hget (0) (by omega)) (by omega))) ?_
            refine wl_q rfl rfl rfl (qt_p tbok rfl) ?_
            obtain ⟨n0, hn0⟩ : ∃ n : Int, n = ((cc.getD 0 0).toNat : Int) := ⟨_, rfl⟩
            rw [← hn0]
            refine wl_q rfl rfl rfl (qt_build (vs := [(0, .c (.i64 n0))]) (l := [.i64 n0, .slc .nil 0 0]) tbok rfl zero68 rfl rfl) ?_
            refine wl_ef rfl (ef_alloc zero68 rfl rfl (fun x11 h11 => ?_))
            refine wl_ef rfl (ef_store (cs' := [.i64 n0, .slc .nil 0 0]) tbok rfl rfl rfl rfl .here rfl (Nat.le_of_ble_eq_true rfl) rfl ?_)
            refine wl_done ?_
            refine nk_code ?_
            refine wc_seq ?_
            refine wc_region ?_
            refine wl_q rfl rfl rfl (qt_p tbok rfl) ?_
            refine wl_q rfl rfl rfl (qt_p tbok rfl) ?_
            refine wl_q rfl rfl rfl (qt_p tbok rfl) ?_
            refine wl_q rfl rfl rfl (qt_p tbok rfl) ?_
            refine wl_q rfl rfl rfl (qt_load (c := .u8 (cc.getD 1 0)) tbok rfl rfl rfl ((rs_cells hc (off_new (newKey h11) (off_new (newKey h8) (off_new (newKey ho) (off_all hZk))))).rc (hget (1) (by omega)) (by omega))) ?_
            refine wl_q rfl rfl rfl (qt_p tbok rfl) ?_
            have hm256 := tkM_lt cc
            obtain ⟨m, hm⟩ : ∃ m, m = tkM cc := ⟨_, rfl⟩
            rw [← hm] at hm256
            rw [show ((cc.getD 1 0).toNat : Int) = (m : Int) by rw [hm]; rfl]
            refine wl_q rfl rfl rfl (qt_p tbok rfl) ?_
            refine wl_done ?_
            refine nk_code ?_
            refine wc_seq ?_
            refine wc_region ?_
            refine wl_q rfl rfl rfl (qt_p tbok rfl) ?_
            refine wl_q rfl rfl rfl (qt_p tbok rfl) ?_
            refine wl_as (v' := .c (.i64 ((p + 2 : Nat) : Int))) (rfl) ?_
            refine wl_q rfl rfl rfl (qt_p tbok rfl) ?_
            refine wl_done ?_
            refine nk_code ?_
            refine wc_seq ?_
            refine wc_seq ?_
            refine wc_region ?_
            refine wl_q rfl rfl rfl (qt_p tbok rfl) ?_
            refine wl_q rfl rfl rfl (qt_len tbok rfl rfl) ?_
            refine wl_q rfl rfl rfl (qt_p tbok rfl) ?_
            refine wl_q rfl rfl rfl (qt_p tbok rfl) ?_
            refine wl_q rfl rfl rfl (qt_p tbok rfl) ?_
            refine wl_q rfl rfl rfl (qt_p tbok rfl) ?_
            refine wl_q rfl rfl rfl (qt_p tbok rfl) ?_
            refine wl_done ?_
            refine nk_code ?_
            refine wc_cond rfl (fun h76 => ?_) (fun h76 => ?_)
            · have hno : ¬ tkO (cN B Z.length) = true := (fun h => by have h9 := (tkO_spec h).2; rw [← hcc, ← hm] at h9; have := of_decide_eq_true h76; omega)
              refine wc_seq ?_
              refine wc_region ?_
              refine wl_q rfl rfl rfl (qt_build (vs := []) (l := z8) tbok rfl zero88 rfl rfl) ?_
              refine wl_ef rfl (ef_store (cs' := z8) tbok rfl rfl rfl rfl (.there (.there .here)) rfl (Nat.le_of_ble_eq_true rfl) rfl ?_)
              refine wl_q rfl rfl rfl (qt_p tbok rfl) ?_
              refine wl_done ?_
              refine nk_code ?_
              refine wc_ret ?_
              try dsimp only
              obtain ⟨x1, x2⟩ := dec_no ((fun h => hno (by have h9 := h.2.2.2.2.1; rcases (by omega : Z.length = 0 ∨ Z.length = 1 ∨ Z.length = 2) with e | e | e <;> rw [e]; exact h9.1; exact h9.2.1; exact h9.2.2)) : ¬ Dec B)
              rw [x2]
              exact fin2 rfl (rv_ag (l := z8) tbok rfl rfl rfl rfl (rs_lk (.there (.there .here)) at0)) (rv_tmp rfl) (fun w' hw => ⟨zeroRL, rfl, ⟨x1.symm, own0⟩, new0, st_none (st_none (st_none (hw.all (new_cons (newKey h11) (new_cons (newKey h8) (new_cons (newKey ho) hZk))))))⟩)
            · have hle : 2 + 33 * m ≤ cc.length := (by have := of_decide_eq_false h76; omega)
              have hO : tkO cc = true := (by unfold tkO; rw [← hm, decide_eq_true hc2, decide_eq_true hle]; rfl)
              obtain ⟨l, hll⟩ : ∃ l, l = cc.drop 2 := ⟨_, rfl⟩
              have hlen : l.length = cc.length - 2 := (by rw [hll, List.length_drop])
              have hK := keysOf_32 (m := m) (l := l) (by omega)
              obtain ⟨K, hKK⟩ : ∃ K, K = keysOf m l := ⟨_, rfl⟩
              have hKl : K.length = m := (by rw [hKK, keysOf_len])
              rw [← hKK] at hK
              have hR : rN B Z.length = ⟨n0, K⟩ := (by show tkR (cN B Z.length) = _; rw [← hcc]; unfold tkR; rw [if_pos hO, ← hm, ← hll, ← hKK, ← hn0])
              have hpn : pN B (Z.length + 1) = p + 2 + 33 * m := (by show pN B Z.length + 2 + 33 * tkM (cN B Z.length) = _; rw [← hp, ← hcc, ← hm])
              have hg : ∀ j, l.getD j 0 = cc.getD (2 + j) 0 := (fun j => by rw [hll, List.getD_eq_getElem?_getD, List.getElem?_drop, List.getD_eq_getElem?_getD])
              refine wc_skip ?_
              refine nk_code ?_
              refine wc_seq ?_
              refine wc_seq ?_
              refine wc_region ?_
              refine wl_q rfl rfl rfl (qt_p tbok rfl) ?_
              refine wl_done ?_
              refine nk_code ?_
              refine wc_block ?_
              refine wc_loop (ι := Nat × Os) (fun j => j.1 ≤ m ∧ OwnS j.2.1 j.1 j.2.2.1 33 ((K.take j.1).flatMap kr) j.2.2.2 ∧ (∀ k, j.2.1.key = some k → w.heap.size ≤ k)) (fun j => [(13, .c (.i64 (j.1 : Int))), (12, .c (.i64 (m : Int))), (9, .c (.i64 ((p + 2 + 33 * j.1 : Nat) : Int))), (11, .c (.ptr (.at x11 0))), (10, .c (.i64 (Z.length : Int))), (8, .c (.ptr (.at x8 0))), (0, .c (.slc (.at br bo) B.length bcap)), (2, .c (.ptr (.at o 0)))]) (fun j => kob2 (K.take j.1) j.2 :: ⟨.at x11 0, [.i64 n0, .slc j.2.1 j.1 j.2.2.1], 68, (0, 0), []⟩ :: ⟨.at x8 0, (rlZ ((gv1 B).toNat : Int) ((gv2 B).toNat : Int) Z).cs, 88, (0, 0), []⟩ :: ⟨.at o 0, z8, 88, (0, 0), []⟩ :: zbs 24 Z) (fun j => m - j.1) (0, .nil, 0, []) ⟨Nat.zero_le _, ⟨rfl, rfl, rfl, rfl⟩, nil_new⟩ (nk_start ⟨rfl, rfl, rfl, rfl, rfl, rfl, rfl, rfl, trivial⟩ (fun w hw => st_none hw)) (fun ⟨k, y⟩ ⟨hk, hy, hyk⟩ => ?_)
              replace hk : k ≤ m := hk
              replace hy : OwnS y.1 k y.2.1 33 ((K.take k).flatMap kr) y.2.2 := hy
              replace hyk : ∀ k, y.1.key = some k → w.heap.size ≤ k := hyk
              dsimp only
              refine wc_seq ?_
              refine wc_seq ?_
              refine wc_region ?_
              refine wl_q rfl rfl rfl (qt_p tbok rfl) ?_
              refine wl_q rfl rfl rfl (qt_p tbok rfl) ?_
              refine wl_q rfl rfl rfl (qt_p tbok rfl) ?_
              refine wl_done ?_
              refine nk_code ?_
              refine wc_cond rfl (fun h80 => ?_) (fun h80 => ?_)
              · have hk' : k < m := (by have h0 := of_decide_eq_true h80; omega)
                have hki : k < K.length := (by omega)
                have hgl := hK.row _ (el_mem hki)
                have hgk := hK _ (el_mem hki)
                have hel : el K k = (((l.getD (33 * k) 0).toNat : Int), (l.drop (33 * k + 1)).take 32) := (by rw [hKK]; exact keysOf_el l hk')
                have hsj : ∀ j, j < 32 → (el K k).2.getD j 0 = cc.getD (2 + 33 * k + 1 + j) 0 := (fun j hj => by rw [hel]; show ((l.drop (33 * k + 1)).take 32).getD j 0 = _; rw [List.getD_eq_getElem?_getD, List.getElem?_take_of_lt hj, List.getElem?_drop, ← List.getD_eq_getElem?_getD, hg]; congr 1; omega)
                refine wc_skip ?_
                refine nk_code ?_
                refine wc_seq ?_
                refine wc_block ?_
                refine wc_seq ?_
                refine wc_region ?_
                refine wl_q rfl rfl rfl (qt_p tbok rfl) ?_
                refine wl_q rfl rfl rfl (qt_p tbok rfl) ?_
                refine wl_q rfl rfl rfl (qt_p tbok rfl) ?_
                refine wl_q rfl rfl rfl (qt_load (c := .u8 (cc.getD (2 + 33 * k) 0)) tbok rfl rfl rfl ((rs_cells hc (off_new hyk (off_new (newKey h11) (off_new (newKey h8) (off_new (newKey ho) (off_all hZk)))))).rc (hget (2 + 33 * k) (by omega)) (by omega))) ?_
                refine wl_q rfl rfl rfl (qt_p tbok rfl) ?_
                refine wl_as (v' := .c (.i64 (el K k).1)) (by rw [hel, hg]) ?_
                refine wl_q rfl rfl rfl (qt_build (vs := [(0, .c (.i64 (el K k).1))]) (l := .i64 (el K k).1 :: bc (kz (el K k).2 0)) tbok rfl zero24 rfl rfl) ?_
                refine wl_ef rfl (ef_alloc zero24 rfl rfl (fun x14 h14 => ?_))
                refine wl_ef rfl (ef_store (cs' := .i64 (el K k).1 :: bc (kz (el K k).2 0)) tbok rfl rfl rfl rfl .here rfl (Nat.le_of_ble_eq_true rfl) rfl ?_)
                refine wl_done ?_
                refine nk_code ?_
                refine wc_seq ?_
                refine wc_seq ?_
                refine wc_region ?_
                refine wl_q rfl rfl rfl (qt_p tbok rfl) ?_
                refine wl_done ?_
                refine nk_code ?_
                refine wc_block ?_
                refine wc_loop (ι := Nat) (fun j => j ≤ 32) (fun j => [(15, .c (.i64 (j : Int))), (14, .c (.ptr (.at x14 0))), (13, .c (.i64 (k : Int))), (12, .c (.i64 (m : Int))), (9, .c (.i64 ((p + 2 + 33 * k : Nat) : Int))), (11, .c (.ptr (.at x11 0))), (10, .c (.i64 (Z.length : Int))), (8, .c (.ptr (.at x8 0))), (0, .c (.slc (.at br bo) B.length bcap)), (2, .c (.ptr (.at o 0)))]) (fun j => ⟨.at x14 0, .i64 (el K k).1 :: bc (kz (el K k).2 j), 24, (0, 0), []⟩ :: kob2 (K.take k) y :: ⟨.at x11 0, [.i64 n0, .slc y.1 k y.2.1], 68, (0, 0), []⟩ :: ⟨.at x8 0, (rlZ ((gv1 B).toNat : Int) ((gv2 B).toNat : Int) Z).cs, 88, (0, 0), []⟩ :: ⟨.at o 0, z8, 88, (0, 0), []⟩ :: zbs 24 Z) (fun j => 32 - j) 0 (Nat.zero_le _) (nk_start ⟨rfl, rfl, rfl, rfl, rfl, rfl, rfl, rfl, rfl, rfl, trivial⟩ (fun w hw => hw)) (fun j hj => ?_)
                refine wc_seq ?_
                refine wc_seq ?_
                refine wc_region ?_
                refine wl_q rfl rfl rfl (qt_p tbok rfl) ?_
                refine wl_q rfl rfl rfl (qt_p tbok rfl) ?_
                refine wl_done ?_
                refine nk_code ?_
                refine wc_cond rfl (fun h90 => ?_) (fun h90 => ?_)
                · have hj' : j < 32 := (by have h0 := of_decide_eq_true h90; omega)
                  have hzl := kz_len hgk hj
                  refine wc_skip ?_
                  refine nk_code ?_
                  refine wc_seq ?_
                  refine wc_block ?_
                  refine wc_region ?_
                  refine wl_q rfl rfl rfl (qt_p tbok rfl) ?_
                  refine wl_q rfl rfl rfl (qt_p tbok rfl) ?_
                  refine wl_q rfl rfl rfl (qt_p tbok rfl) ?_
                  refine wl_q rfl rfl rfl (qt_p tbok rfl) ?_
                  refine wl_q rfl rfl rfl (qt_p tbok rfl) ?_
                  refine wl_q rfl rfl rfl (qt_p tbok rfl) ?_
                  refine wl_q rfl rfl rfl (qt_p tbok rfl) ?_
                  refine wl_q rfl rfl rfl (qt_load (c := .u8 (cc.getD (2 + 33 * k + 1 + j) 0)) tbok rfl rfl rfl ((rs_cells hc (off_new (newKey h14) (off_new hyk (off_new (newKey h11) (off_new (newKey h8) (off_new (newKey ho) (off_all hZk))))))).rc (hget (2 + 33 * k + 1 + j) (by omega)) (by omega))) ?_
                  refine wl_as (v' := .c (.u8 ((el K k).2.getD j 0))) (by rw [hsj j hj']) ?_
                  refine wl_q rfl rfl rfl (qt_p tbok rfl) ?_
                  refine wl_q rfl rfl rfl (qt_p tbok rfl) ?_
                  refine wl_ef rfl (ef_store (cs' := .i64 (el K k).1 :: bc (kz (el K k).2 (j + 1))) tbok rfl rfl rfl rfl .here rfl (by rw [List.length_cons, bc_len, hzl]; omega) (kz_put hgk hj' (by omega)) ?_)
                  refine wl_done ?_
                  refine nk_code ?_
                  refine wc_region ?_
                  refine wl_q rfl rfl rfl (qt_p tbok rfl) ?_
                  refine wl_q rfl rfl rfl (qt_p tbok rfl) ?_
                  refine wl_q rfl rfl rfl (qt_p tbok rfl) ?_
                  refine wl_done ?_
                  exact nk_round (i := j) (j + 1) hj' (by show 32 - (j + 1) < 32 - j; omega) ⟨rfl, rfl, rfl, rfl, rfl, rfl, rfl, rfl, rfl, rfl, trivial⟩ (fun w hw => hw)
                · have he3 : j = 32 := (by have h0 := of_decide_eq_false h90; omega)
                  subst he3
                  rw [kz_full hgk]
                  refine wc_exit rfl ?_
                  refine nk_code ?_
                  refine wc_seq ?_
                  refine wc_region ?_
                  refine wl_q rfl rfl rfl (qt_p tbok rfl) ?_
                  refine wl_q rfl rfl rfl (qt_load tbok rfl rfl rfl (rc_lk (.there (.there .here)) rfl)) ?_
                  refine wl_q rfl rfl rfl (qt_load_ag (l := kr (el K k)) tbok rfl rfl rfl hgl (rs_lk .here at0)) ?_
                  refine wl_ef rfl (ef_buildSlice (vs := [(0, .agg (kr (el K k)))]) (l := kr (el K k)) tbok rfl zero24 rfl rfl rfl (by decide) (fill_oneN rfl hgl) rfl (fun b2 hb2 => ?_))
                  refine wl_ef rfl (ef_append tbok rfl el24 zero24 rfl rfl rfl (.there (.there .here)) hy hyk (m := 1) (news := kr (el K k)) hgl (rs_lk .here at0) (by omega) (by simp only [maxLen]; omega) (fun a2 c2 t2 ho2 hk2 _ _ => ?_))
                  refine wl_q rfl rfl rfl (qt_p tbok rfl) ?_
                  refine wl_ef rfl (ef_store (cs' := [.i64 n0, .slc a2 (k + 1) c2]) tbok rfl rfl rfl rfl (.there (.there (.there .here))) rfl (Nat.le_of_ble_eq_true rfl) rfl ?_)
                  refine wl_done ?_
                  refine nk_code ?_
                  refine wc_region ?_
                  refine wl_q rfl rfl rfl (qt_p tbok rfl) ?_
                  refine wl_q rfl rfl rfl (qt_p tbok rfl) ?_
                  refine wl_as (v' := .c (.i64 ((p + 2 + 33 * (k + 1) : Nat) : Int))) (congrArg (fun z => V.c (C.i64 z)) (by omega)) ?_
                  refine wl_q rfl rfl rfl (qt_p tbok rfl) ?_
                  refine wl_done ?_
                  refine nk_code ?_
                  refine wc_region ?_
                  refine wl_q rfl rfl rfl (qt_p tbok rfl) ?_
                  refine wl_q rfl rfl rfl (qt_p tbok rfl) ?_
                  refine wl_q rfl rfl rfl (qt_p tbok rfl) ?_
                  refine wl_done ?_
                  exact nk_round (i := (k, y)) (k + 1, a2, c2, t2) ⟨hk', by show OwnS a2 (k + 1) c2 33 ((K.take (k + 1)).flatMap kr) t2; rw [← rows_snoc hki]; exact ho2, hk2⟩ (by show m - (k + 1) < m - k; omega) ⟨rfl, rfl, rfl, rfl, rfl, rfl, rfl, rfl, trivial⟩ (fun w hw => by have h2 := Rm.sub_St (Rm.sub_St hw (.there .here) (newKey hb2)) (.there .here) (newKey h14); rw [rows_snoc hki] at h2; exact h2)
              · have he2 : k = m := (by have h0 := of_decide_eq_false h80; omega)
                rw [he2, ← hKl, List.take_length] at hy ⊢
                rw [hKl] at hy ⊢
                refine wc_exit rfl ?_
                refine nk_code ?_
                refine wc_seq ?_
                refine wc_region ?_
                refine wl_q rfl rfl rfl (qt_p tbok rfl) ?_
                first | refine wl_q rfl rfl rfl (qt_p tbok rfl) ?_ | refine wl_q rfl rfl rfl (qt_eqn tbok rfl rfl rfl) ?_
                refine wl_done ?_
                refine nk_code ?_
                refine wc_cond rfl (fun h112 => ?_) (fun h112 => ?_)
                · have hz0 : Z.length = 0 := (by have := of_decide_eq_true h112; omega)
                  refine wc_region ?_
                  refine wl_q rfl rfl rfl (qt_load_ag (l := rrow (⟨n0, K⟩, y)) tbok rfl rfl rfl rfl (rs_lk (.there .here) (fun a c h => by rw [Nat.zero_add]; rw [← hKl] ; exact h))) ?_
                  refine wl_q rfl rfl rfl (qt_p tbok rfl) ?_
                  refine wl_ef rfl (ef_store (cs' := (rlZ ((gv1 B).toNat : Int) ((gv2 B).toNat : Int) (Z ++ [((⟨n0, K⟩ : Ro), y)])).cs) tbok rfl rfl rfl rfl (.there (.there .here)) rfl (Nat.le_of_ble_eq_true rfl) (rlz_at hz0 (by decide) rfl) ?_)
                  refine wl_done ?_
                  refine nk_code ?_
                  refine wc_region ?_
                  refine wl_q rfl rfl rfl (qt_p tbok rfl) ?_
                  refine wl_q rfl rfl rfl (qt_p tbok rfl) ?_
                  refine wl_q rfl rfl rfl (qt_p tbok rfl) ?_
                  refine wl_done ?_
                  have ez : (Z ++ [((⟨n0, K⟩ : Ro), y)]).length = Z.length + 1 := (by simp)
                  exact nk_round (i := Z) (Z ++ [((⟨n0, K⟩ : Ro), y)]) ⟨hR ▸ zi_snoc hZ hi' (by rw [← hcc]; exact hO) (by rw [hR]; show OwnS y.1 K.length y.2.1 33 (K.flatMap kr) y.2.2; rw [hKl]; exact hy), fun q hq => (by rcases List.mem_append.1 hq with h | h; exact hZn q h; rw [List.mem_singleton.1 h]; exact hyk)⟩ (by rw [ez]; omega) ⟨by rw [ez]; rfl, by rw [ez, hpn, ← he2]; rfl, rfl, rfl, rfl, trivial⟩ (fun w hw => by rw [zbs_snoc]; have h2 := Rm.sub_St hw (.there .here) (newKey h11); exact h2.perm three_first)
                · refine wc_seq ?_
                  refine wc_region ?_
                  refine wl_q rfl rfl rfl (qt_p tbok rfl) ?_
                  first | refine wl_q rfl rfl rfl (qt_p tbok rfl) ?_ | refine wl_q rfl rfl rfl (qt_eqn tbok rfl rfl rfl) ?_
                  refine wl_done ?_
                  refine nk_code ?_
                  refine wc_cond rfl (fun h116 => ?_) (fun h116 => ?_)
                  · have hz0 : Z.length = 1 := (by have := of_decide_eq_true h116; omega)
                    refine wc_region ?_
                    refine wl_q rfl rfl rfl (qt_load_ag (l := rrow (⟨n0, K⟩, y)) tbok rfl rfl rfl rfl (rs_lk (.there .here) (fun a c h => by rw [Nat.zero_add]; rw [← hKl] ; exact h))) ?_
                    refine wl_q rfl rfl rfl (qt_p tbok rfl) ?_
                    refine wl_ef rfl (ef_store (cs' := (rlZ ((gv1 B).toNat : Int) ((gv2 B).toNat : Int) (Z ++ [((⟨n0, K⟩ : Ro), y)])).cs) tbok rfl rfl rfl rfl (.there (.there .here)) rfl (Nat.le_of_ble_eq_true rfl) (rlz_at hz0 (by decide) rfl) ?_)
                    refine wl_done ?_
                    refine nk_code ?_
                    refine wc_region ?_
                    refine wl_q rfl rfl rfl (qt_p tbok rfl) ?_
                    refine wl_q rfl rfl rfl (qt_p tbok rfl) ?_
                    refine wl_q rfl rfl rfl (qt_p tbok rfl) ?_
                    refine wl_done ?_
                    have ez : (Z ++ [((⟨n0, K⟩ : Ro), y)]).length = Z.length + 1 := (by simp)
                    exact nk_round (i := Z) (Z ++ [((⟨n0, K⟩ : Ro), y)]) ⟨hR ▸ zi_snoc hZ hi' (by rw [← hcc]; exact hO) (by rw [hR]; show OwnS y.1 K.length y.2.1 33 (K.flatMap kr) y.2.2; rw [hKl]; exact hy), fun q hq => (by rcases List.mem_append.1 hq with h | h; exact hZn q h; rw [List.mem_singleton.1 h]; exact hyk)⟩ (by rw [ez]; omega) ⟨by rw [ez]; rfl, by rw [ez, hpn, ← he2]; rfl, rfl, rfl, rfl, trivial⟩ (fun w hw => by rw [zbs_snoc]; have h2 := Rm.sub_St hw (.there .here) (newKey h11); exact h2.perm three_first)
                  · have hz0 : Z.length = 2 := (by have := of_decide_eq_false h116; have := of_decide_eq_false h112; omega)
                    refine wc_region ?_
                    refine wl_q rfl rfl rfl (qt_load_ag (l := rrow (⟨n0, K⟩, y)) tbok rfl rfl rfl rfl (rs_lk (.there .here) (fun a c h => by rw [Nat.zero_add]; rw [← hKl] ; exact h))) ?_
                    refine wl_q rfl rfl rfl (qt_p tbok rfl) ?_
                    refine wl_ef rfl (ef_store (cs' := (rlZ ((gv1 B).toNat : Int) ((gv2 B).toNat : Int) (Z ++ [((⟨n0, K⟩ : Ro), y)])).cs) tbok rfl rfl rfl rfl (.there (.there .here)) rfl (Nat.le_of_ble_eq_true rfl) (rlz_at hz0 (by decide) rfl) ?_)
                    refine wl_done ?_
                    refine nk_code ?_
                    refine wc_region ?_
                    refine wl_q rfl rfl rfl (qt_p tbok rfl) ?_
                    refine wl_q rfl rfl rfl (qt_p tbok rfl) ?_
                    refine wl_q rfl rfl rfl (qt_p tbok rfl) ?_
                    refine wl_done ?_
                    have ez : (Z ++ [((⟨n0, K⟩ : Ro), y)]).length = Z.length + 1 := (by simp)
                    exact nk_round (i := Z) (Z ++ [((⟨n0, K⟩ : Ro), y)]) ⟨hR ▸ zi_snoc hZ hi' (by rw [← hcc]; exact hO) (by rw [hR]; show OwnS y.1 K.length y.2.1 33 (K.flatMap kr) y.2.2; rw [hKl]; exact hy), fun q hq => (by rcases List.mem_append.1 hq with h | h; exact hZn q h; rw [List.mem_singleton.1 h]; exact hyk)⟩ (by rw [ez]; omega) ⟨by rw [ez]; rfl, by rw [ez, hpn, ← he2]; rfl, rfl, rfl, rfl, trivial⟩ (fun w hw => by rw [zbs_snoc]; have h2 := Rm.sub_St hw (.there .here) (newKey h11); exact h2.perm three_first)
        · have he : Z.length = 3 := (by have h0 := of_decide_eq_false h47; omega)
          obtain ⟨f1, f2, f3, f4⟩ := zi_full hZ he 24
          refine wc_exit rfl ?_
          refine nk_code ?_
          refine wc_seq ?_
          refine wc_region ?_
          refine wl_q rfl rfl rfl (qt_load_ag (l := (rlZ ((gv1 B).toNat : Int) ((gv2 B).toNat : Int) Z).cs) tbok rfl rfl rfl rfl (rs_lk .here at0)) ?_
          refine wl_ef rfl (ef_fresh (v := fun z : Os => .t2 (.c (.slc z.1 (encR (decR B)).length z.2.1)) (.c (.i64 (encE (decR B))))) (b := fun z : Os => ob (encR (decR B)) z) (I := fun z : Os => Oi (encR (decR B)) z) (by kernel_rfl) rfl rfl (fun w1 g1 => by rw [← f1]; exact encode2_c (y := rlZ ((gv1 B).toNat : Int) ((gv2 B).toNat : Int) Z) (by unfold RL.ok; have f1' := f1; unfold RL.x decR at f1'; simp only [Rx.mk.injEq, true_and] at f1'; rw [f1'.1, f1'.2.1, f1'.2.2]; exact decR_ok B) (RL.lies_own (T := 24) g1 (.there (.there (lk_mem (f3 ▸ (by simp))))) (.there (.there (lk_mem (f3 ▸ (by simp))))) (.there (.there (lk_mem (f3 ▸ (by simp))))))) (fun z9 hz9 hk9 => ?_))
          refine wl_q rfl rfl rfl (qt_p tbok rfl) ?_
          refine wl_q rfl rfl rfl (qt_p tbok rfl) ?_
          refine wl_q rfl rfl rfl (qt_p tbok rfl) ?_
          refine wl_q rfl rfl rfl (qt_p tbok rfl) ?_
          refine wl_q rfl rfl rfl (qt_p tbok rfl) ?_
          refine wl_done ?_
          refine nk_code ?_
          refine wc_seq ?_
          refine wc_seq ?_
          by_cases hr : rootB (decR B) = true
          · refine wc_region ?_
            refine wl_q rfl rfl rfl (qt_p tbok rfl) ?_
            refine wl_as (v' := .c (.i64 0)) (by unfold encE; rw [if_pos hr]) ?_
            first | refine wl_q rfl rfl rfl (qt_p tbok rfl) ?_ | refine wl_q rfl rfl rfl (qt_neqn tbok rfl rfl rfl) ?_
            refine wl_q rfl rfl rfl (qt_p tbok rfl) ?_
            first | refine wl_g rfl rfl rfl rfl (qt_p tbok rfl) ?_ | refine wl_skip rfl rfl rfl rfl rfl ?_
            first | refine wl_g rfl rfl rfl rfl (qt_p tbok rfl) ?_ | refine wl_skip rfl rfl rfl rfl rfl ?_
            refine wl_gd rfl rfl (ef_pure (v := .c (.bool (decide (encB (decR B) = B)))) (by kernel_rfl) rfl rfl (fun w1 g1 => by have e9 : encR (decR B) = encB (decR B) := (by unfold encR; rw [if_pos hr]); rw [e9] at g1 ⊢; exact same_c (cells_own g1 .here) (cells_rd (rd_cells hc (off_new (by rw [e9] at hk9; exact hk9) (off_new (newKey h8) (off_new (newKey ho) (off_all hZk))))) g1) (by have := congrArg List.length (dec_bytes hl17 f4.1 f4.2.1 f4.2.2); have h8 := congrArg List.length (enc_cons (decR B)); rw [List.length_append, List.length_cons] at this; rw [List.length_cons] at h8; omega)) ?_)
            first | refine wl_g rfl rfl rfl rfl (qt_p tbok rfl) ?_ | refine wl_skip rfl rfl rfl rfl rfl ?_
            refine wl_q rfl rfl rfl (qt_p tbok rfl) ?_
            refine wl_done ?_
            refine nk_code ?_
            refine wc_cond rfl (fun h133 => ?_) (fun h133 => ?_)
            · refine wc_seq ?_
              refine wc_region ?_
              refine wl_q rfl rfl rfl (qt_build (vs := []) (l := z8) tbok rfl zero88 rfl rfl) ?_
              refine wl_ef rfl (ef_store (cs' := z8) tbok rfl rfl rfl rfl (.there (.there .here)) rfl (Nat.le_of_ble_eq_true rfl) rfl ?_)
              refine wl_q rfl rfl rfl (qt_p tbok rfl) ?_
              refine wl_done ?_
              refine nk_code ?_
              refine wc_ret ?_
              try dsimp only
              obtain ⟨x1, x2⟩ := dec_no ((fun h => by have h8 := (enc_is hl17 f4.1 f4.2.1 f4.2.2).2 ⟨h.2.1, h.2.2.2.2.2.1⟩; rw [decide_eq_true h8] at h133; exact absurd h133 (by decide)) : ¬ Dec B)
              rw [x2]
              exact fin2 rfl (rv_ag (l := z8) tbok rfl rfl rfl rfl (rs_lk (.there (.there .here)) at0)) (rv_tmp rfl) (fun w' hw => ⟨zeroRL, rfl, ⟨x1.symm, own0⟩, new0, st_none (st_none (st_none (hw.all (new_cons hk9 (new_cons (newKey h8) (new_cons (newKey ho) hZk))))))⟩)
            · refine wc_skip ?_
              refine nk_code ?_
              refine wc_seq ?_
              refine wc_region ?_
              refine wl_q rfl rfl rfl (qt_load_ag (l := (rlZ ((gv1 B).toNat : Int) ((gv2 B).toNat : Int) Z).cs) tbok rfl rfl rfl rfl (rs_lk (.there .here) at0)) ?_
              refine wl_ef rfl (ef_store (cs' := (rlZ ((gv1 B).toNat : Int) ((gv2 B).toNat : Int) Z).cs) tbok rfl rfl rfl rfl (.there (.there .here)) rfl (Nat.le_of_ble_eq_true rfl) rfl ?_)
              refine wl_q rfl rfl rfl (qt_p tbok rfl) ?_
              refine wl_done ?_
              refine nk_code ?_
              refine wc_ret ?_
              try dsimp only
              have hqB : encB (decR B) = B := (by rw [Bool.not_eq_false'] at h133; exact of_decide_eq_true h133)
              have h7 := (enc_is hl17 f4.1 f4.2.1 f4.2.2).1 hqB
              have hD : Dec B := ⟨hl17, h7.1, of_decide_eq_false h3, of_decide_eq_false h4, f4, h7.2, hr⟩
              obtain ⟨x1, x2⟩ := dec_yes hD
              rw [x2]
              exact fin2 rfl (rv_ag (l := (rlZ ((gv1 B).toNat : Int) ((gv2 B).toNat : Int) Z).cs) tbok rfl rfl rfl rfl (rs_lk (.there (.there .here)) at0)) (rv_tmp rfl) (fun w' hw => ⟨rlZ ((gv1 B).toNat : Int) ((gv2 B).toNat : Int) Z, rfl, ⟨by rw [x1, f1], f2⟩, by rw [f3]; exact hZk, by rw [f3]; exact Rm.sub_St (Rm.sub_St (Rm.sub_St hw .here hk9) .here (newKey h8)) .here (newKey ho)⟩)
          · refine wc_region ?_
            refine wl_q rfl rfl rfl (qt_p tbok rfl) ?_
            refine wl_as (v' := .c (.i64 1)) (by unfold encE; rw [if_neg hr]) ?_
            first | refine wl_q rfl rfl rfl (qt_p tbok rfl) ?_ | refine wl_q rfl rfl rfl (qt_neqn tbok rfl rfl rfl) ?_
            refine wl_q rfl rfl rfl (qt_p tbok rfl) ?_
            first | refine wl_g rfl rfl rfl rfl (qt_p tbok rfl) ?_ | refine wl_skip rfl rfl rfl rfl rfl ?_
            first | refine wl_g rfl rfl rfl rfl (qt_p tbok rfl) ?_ | refine wl_skip rfl rfl rfl rfl rfl ?_
            first | refine wl_g rfl rfl rfl rfl (qt_len tbok rfl rfl) ?_ | refine wl_skip rfl rfl rfl rfl rfl ?_
            first | refine wl_g rfl rfl rfl rfl (qt_p tbok rfl) ?_ | refine wl_skip rfl rfl rfl rfl rfl ?_
            refine wl_q rfl rfl rfl (qt_p tbok rfl) ?_
            refine wl_done ?_
            refine nk_code ?_
            refine wc_yes rfl ?_
            refine wc_seq ?_
            refine wc_region ?_
            refine wl_q rfl rfl rfl (qt_build (vs := []) (l := z8) tbok rfl zero88 rfl rfl) ?_
            refine wl_ef rfl (ef_store (cs' := z8) tbok rfl rfl rfl rfl (.there (.there .here)) rfl (Nat.le_of_ble_eq_true rfl) rfl ?_)
            refine wl_q rfl rfl rfl (qt_p tbok rfl) ?_
            refine wl_done ?_
            refine nk_code ?_
            refine wc_ret ?_
            try dsimp only
            obtain ⟨x1, x2⟩ := dec_no ((fun h => hr h.2.2.2.2.2.2) : ¬ Dec B)
            rw [x2]
            exact fin2 rfl (rv_ag (l := z8) tbok rfl rfl rfl rfl (rs_lk (.there (.there .here)) at0)) (rv_tmp rfl) (fun w' hw => ⟨zeroRL, rfl, ⟨x1.symm, own0⟩, new0, st_none (st_none (st_none (hw.all (new_cons hk9 (new_cons (newKey h8) (new_cons (newKey ho) hZk))))))⟩)
end Go.Proofs.Ytjhmcmadleabjaa
