/- role.Right, Count, Meets and those of hallmarkref16 are the same functions of keys and marks; ToRole copies a role. -/
import Derived.Test.YtjhmcmadleabjaaVerify
import Derived.Test.YtjhmcmadleabjaaFrameB
import Derived.Test.YtjhmcmadleabjaaFrameE
set_option linter.unusedVariables false
set_option maxRecDepth 100000
namespace Go.Proofs.Ytjhmcmadleabjaa
open Go Go.Hw Go.Proofs

theorem own_ne {w0 w : World} {s : Hp} {b c : Blk} {r : Nat} (h : St w0 (b :: s) w) (hl : Lk s c) (hr : c.key = some r) : b.key ≠ some r := fun e => by
  have := off_key_ne h hl ⟨r, e⟩
  rw [e, hr] at this; exact this rfl
theorem cells_none {w : World} {a : Ad} : Cells w a [] := by
  cases a with
  | nil => rfl
  | raw _ => rfl
  | mp _ _ => rfl
  | «at» r o => exact fun i c h => by simp at h

/-- What a key of height 0 signed is taken, whatever the message. -/
theorem ver0 (sd : List UInt8) (m : UInt8) : verB ((0 : Nat) : Int) (rootT 0 (lvs sd (pw 0))) [m] ((0 : Nat) : Int) (sgL sd (UInt32.ofInt ((0 : Nat) : Int)) (wordH ((0 : Nat) : Int) (rootT 0 (lvs sd (pw 0))) ((0 : Nat) : Int) [m])) [] = true := by
  unfold verB
  rw [if_neg (by intro h; rcases h with h | h | h | h | h <;> revert h <;> decide)]
  rw [rec_sign]
  exact decide_eq_true rfl

/-! ### Arrays and lists of sums, one by one -/
theorem sfill1 {T U : Nat} {i : Int} : fillS (placeF [(3, 0, 1), (T, 1, 2144), (U, 2145, 1)]) z38 [(0, .c (.i64 i))] = some (scs i (List.replicate 2144 0) .nil 0 0) :=
  fillS_cons (off := 0) (z := 1) (cs' := scs i (List.replicate 2144 0) .nil 0 0) rfl rfl rfl (by rw [z38_len]; decide) (scs_set0 0 i _ _ _ _) rfl
theorem scs_setk {i : Int} {F G : List UInt8} {a : Ad} {n cap off : Nat} {l : List C} (hl : off + l.length ≤ F.length) (h : spl (bc F) off l = bc G) : spl (scs i F a n cap) (1 + off) l = scs i G a n cap := by
  have hb : (bc F).length = F.length := bc_len F
  have e : spl (scs i F a n cap) (1 + off) l = C.i64 i :: (spl (bc F) off l ++ [.slc a n cap]) := by
    unfold spl scs
    rw [Nat.add_comm 1 off, List.take_succ_cons, show off + 1 + l.length = (off + l.length) + 1 by omega, List.drop_succ_cons]
    rw [List.take_append_of_le_length (by omega), List.drop_append_of_le_length (by omega)]
    simp [List.append_assoc]
  rw [e, h]; rfl
/-- Elements of a list, one by one. -/
def gf (L : List (List UInt8)) (i : Nat) : List UInt8 := L.getD i []
theorem gf_map {L : List (List UInt8)} (hl : L.length = 67) : (List.range 67).map (gf L) = L := by
  apply List.ext_getElem
  · simp [hl]
  · intro i h1 h2
    simp [gf, h2]
theorem gf_len {L : List (List UInt8)} (hA : A32 L) {i : Nat} (hi : i < L.length) : (gf L i).length = 32 := by
  unfold gf; rw [List.getD_eq_getElem?_getD, List.getElem?_eq_getElem hi]; exact hA _ (List.getElem_mem hi)
theorem gf_take {L : List (List UInt8)} {i : Nat} (hi : i < L.length) : L.take (i + 1) = L.take i ++ [gf L i] := by
  rw [List.take_add_one]; simp [gf, hi]
theorem flat_mid {L : List (List UInt8)} (hA : A32 L) {i : Nat} (hi : i < L.length) : ((bc L.flatten).drop (i * 32)).take 32 = bc (gf L i) := by
  obtain ⟨_, h2⟩ := flat_take2 i hA (Nat.le_of_lt hi)
  rw [bc_drop, ← h2, bc_take, List.drop_eq_getElem_cons hi, List.flatten_cons, List.take_append_of_le_length (by rw [hA _ (List.getElem_mem hi)]; exact Nat.le_refl _), List.take_of_length_le (by rw [hA _ (List.getElem_mem hi)]; exact Nat.le_refl _)]
  unfold gf; rw [List.getD_eq_getElem?_getD, List.getElem?_eq_getElem hi]; rfl
theorem flat_gf {L : List (List UInt8)} (hA : A32 L) {i : Nat} (hi : i < L.length) : ∀ (j : Nat) c, (bc (gf L i))[j]? = some c → (bc L.flatten)[i * 32 + j]? = some c := fun j c hj => by
  refine flat_at hA hi j c ?_
  unfold gf at hj; rw [List.getD_eq_getElem?_getD, List.getElem?_eq_getElem hi] at hj; exact hj
end Go.Proofs.Ytjhmcmadleabjaa

set_option maxRecDepth 100000
namespace Go.Proofs.Ytjhmcmadleabjaa
open Go Go.Hw Go.Proofs

/-! ### Lists of rows -/
def el {α : Type} [Inhabited α] (A : List α) (i : Nat) : α := A.getD i default
section
variable {α : Type} [Inhabited α] {A : List α} {i : Nat}
theorem el_mem (h : i < A.length) : el A i ∈ A := by
  unfold el; rw [List.getD_eq_getElem?_getD, List.getElem?_eq_getElem h]; exact List.getElem_mem h
theorem el_take (h : i < A.length) : A.take (i + 1) = A.take i ++ [el A i] := by
  rw [List.take_add_one, List.getElem?_eq_getElem h]; unfold el; rw [List.getD_eq_getElem?_getD, List.getElem?_eq_getElem h]; rfl
theorem el_get (h : i < A.length) : A[i]? = some (el A i) := by
  unfold el; rw [List.getD_eq_getElem?_getD, List.getElem?_eq_getElem h]; rfl
omit [Inhabited α] in
theorem rows_len {row : α → List C} {z : Nat} : ∀ {A : List α}, (∀ a ∈ A, (row a).length = z) → (A.flatMap row).length = A.length * z
  | [], _ => by simp
  | a :: A, h => by rw [List.flatMap_cons, List.length_append, h a (.head _), rows_len (fun b hb => h b (.tail _ hb)), List.length_cons, Nat.succ_mul]; omega
theorem rows_at {row : α → List C} {z : Nat} : ∀ {A : List α} {i : Nat}, (∀ a ∈ A, (row a).length = z) → i < A.length → ∀ (j : Nat) c, (row (el A i))[j]? = some c → (A.flatMap row)[i * z + j]? = some c
  | a :: A, 0, h, _, j, c, hj => by
    have hj' : (row a)[j]? = some c := hj
    rw [List.flatMap_cons, Nat.zero_mul, Nat.zero_add, List.getElem?_append_left (List.getElem?_eq_some_iff.1 hj').1]; exact hj'
  | a :: A, i + 1, h, hl, j, c, hj => by
    have hz := h a (.head _)
    have := rows_at (A := A) (i := i) (fun b hb => h b (.tail _ hb)) (by simpa using hl) j c (by simpa [el] using hj)
    rw [List.flatMap_cons, List.getElem?_append_right (by rw [hz, Nat.succ_mul]; omega), hz, ← this]
    congr 1; rw [Nat.succ_mul]; omega
theorem rows_snoc {row : α → List C} (h : i < A.length) : (A.take i).flatMap row ++ row (el A i) = (A.take (i + 1)).flatMap row := by
  rw [el_take h, List.flatMap_append]; simp
end

/-! ### Keys of a role: a height and a sum -/
def kr (k : Int × List UInt8) : List C := .i64 k.1 :: bc k.2
def K32 (K : List (Int × List UInt8)) : Prop := ∀ k ∈ K, k.2.length = 32
theorem kr_len {k : Int × List UInt8} (h : k.2.length = 32) : (kr k).length = 33 := by simp [kr, bc_len, h]
theorem K32.row {K : List (Int × List UInt8)} (h : K32 K) : ∀ k ∈ K, (kr k).length = 33 := fun k hk => kr_len (h k hk)
def kid (k : Int × List UInt8) : List UInt8 := idH k.1 k.2

/-! ### Lists without what stands in them twice -/
def dd (l : List (List UInt8)) : List (List UInt8) := l.foldl (fun acc x => if x ∈ acc then acc else acc ++ [x]) []
theorem dd_snoc (l : List (List UInt8)) (x : List UInt8) : dd (l ++ [x]) = if x ∈ dd l then dd l else dd l ++ [x] := by unfold dd; rw [List.foldl_append]; rfl
theorem snoc_ind {α : Type} {p : List α → Prop} (h0 : p []) (h1 : ∀ l x, p l → p (l ++ [x])) (l : List α) : p l := by
  have : ∀ m : List α, p m.reverse := fun m => by
    induction m with
    | nil => exact h0
    | cons a m ih => rw [List.reverse_cons]; exact h1 _ _ ih
  have h := this l.reverse
  rwa [List.reverse_reverse] at h
theorem dd_mem (l : List (List UInt8)) : ∀ x, x ∈ dd l ↔ x ∈ l := by
  refine snoc_ind (p := fun l => ∀ x, x ∈ dd l ↔ x ∈ l) ?_ (fun l y ih => ?_) l
  · simp [dd]
  · intro x
    rw [dd_snoc]
    split
    · rename_i h
      rw [ih, List.mem_append, List.mem_singleton]
      exact ⟨.inl, fun h2 => h2.elim id fun e => e ▸ (ih y).1 h⟩
    · rw [List.mem_append, List.mem_append, ih]
theorem dd_len (l : List (List UInt8)) : (dd l).length ≤ l.length ∧ ((dd l).length = l.length ↔ l.Nodup) := by
  refine snoc_ind (p := fun l => (dd l).length ≤ l.length ∧ ((dd l).length = l.length ↔ l.Nodup)) ?_ (fun l y ih => ?_) l
  · simp [dd]
  · have hnd : (l ++ [y]).Nodup ↔ l.Nodup ∧ y ∉ l := by
      rw [List.nodup_append]
      simp only [List.nodup_cons, List.not_mem_nil, not_false_eq_true, List.nodup_nil, and_self, List.mem_singleton, true_and, ne_eq]
      exact ⟨fun h => ⟨h.1, fun hy => h.2 y hy y rfl rfl⟩, fun h => ⟨h.1, fun a ha b hb e => h.2 (by rw [← hb, ← e]; exact ha)⟩⟩
    rw [dd_snoc, hnd, List.length_append]
    by_cases h : y ∈ dd l
    · rw [if_pos h]
      have hy := (dd_mem l y).1 h
      refine ⟨by simp; omega, fun e => ?_, fun e => absurd hy e.2⟩
      have := ih.1; simp at e; omega
    · rw [if_neg h, List.length_append]
      have hy : y ∉ l := fun h2 => h ((dd_mem l y).2 h2)
      refine ⟨by simp; omega, fun e => ⟨ih.2.1 (by simpa using e), hy⟩, fun e => ?_⟩
      have := ih.2.2 e.1; simp [this]

/-! ### Which roles may be -/
def Rt (n : Int) (K : List (Int × List UInt8)) : Prop := 1 ≤ n ∧ n ≤ (K.length : Int) ∧ K.length ≤ 16 ∧ (∀ k ∈ K, 0 ≤ k.1 ∧ k.1 ≤ 6) ∧ (K.map kid).Nodup
instance rt_dec (n : Int) (K : List (Int × List UInt8)) : Decidable (Rt n K) := by unfold Rt; infer_instance
def rightB (n : Int) (K : List (Int × List UInt8)) : Bool := decide (Rt n K)

/-! ### The map of Ids -/
def bump (x : List UInt8) (L : List (List UInt8 × Int)) : List (List UInt8 × Int) := putK (stK x L) (atK x L + 1) (insK x L)
theorem findK_in {x : List UInt8} {L : List (List UInt8 × Int)} {i : Nat} {v : Int} (h : findK x L 0 = some (i, v)) : (x, v) ∈ L := by
  obtain ⟨j, _, h2⟩ := findK_some h
  exact List.mem_of_getElem? h2
theorem insK_keys (x : List UInt8) (L : List (List UInt8 × Int)) : (insK x L).map (·.1) = if x ∈ L.map (·.1) then L.map (·.1) else L.map (·.1) ++ [x] := by
  unfold insK
  cases hf : findK x L 0 with
  | none =>
    rw [if_neg]
    · simp
    · intro h
      obtain ⟨p, hp, e⟩ := List.mem_map.1 h
      exact findK_none hf p hp e
  | some p =>
    rw [if_pos]
    exact List.mem_map.2 ⟨_, findK_in (i := p.1) (v := p.2) hf, rfl⟩
theorem bump_keys (x : List UInt8) (L : List (List UInt8 × Int)) : (bump x L).map (·.1) = if x ∈ L.map (·.1) then L.map (·.1) else L.map (·.1) ++ [x] := by
  unfold bump; rw [putK_keys, insK_keys]
theorem atK_le {x : List UInt8} {L : List (List UInt8 × Int)} {m : Int} (h0 : 0 ≤ m) (h : ∀ p ∈ L, 0 ≤ p.2 ∧ p.2 ≤ m) : 0 ≤ atK x L ∧ atK x L ≤ m := by
  unfold atK
  cases hf : findK x L 0 with
  | none => simpa using h0
  | some p => exact h _ (findK_in (i := p.1) (v := p.2) hf)
theorem insK_all {x : List UInt8} {L : List (List UInt8 × Int)} {q : List UInt8 × Int → Prop} (h : ∀ p ∈ L, q p) (h0 : q (x, 0)) : ∀ p ∈ insK x L, q p := by
  unfold insK
  split
  · exact h
  · intro p hp
    rcases List.mem_append.1 hp with hp | hp
    · exact h p hp
    · simp only [List.mem_singleton] at hp; rw [hp]; exact h0
theorem bump_vals {x : List UInt8} {L : List (List UInt8 × Int)} {m : Int} (h0 : 0 ≤ m) (h : ∀ p ∈ L, 0 ≤ p.2 ∧ p.2 ≤ m) : ∀ p ∈ bump x L, 0 ≤ p.2 ∧ p.2 ≤ m + 1 := by
  have ha := atK_le (x := x) h0 h
  have hi := insK_all (x := x) (q := fun p => 0 ≤ p.2 ∧ p.2 ≤ m) h ⟨Int.le_refl 0, h0⟩
  intro p hp
  obtain ⟨j, hj⟩ := List.getElem?_of_mem hp
  unfold bump putK at hj
  rw [List.getElem?_modify] at hj
  cases hg : (insK x L)[j]? with
  | none => rw [hg] at hj; simp at hj
  | some q =>
    rw [hg] at hj
    have hq := hi q (List.mem_of_getElem? hg)
    have hj' := Option.some.inj hj
    rw [← hj']
    dsimp only
    split
    · exact ⟨by show 0 ≤ atK x L + 1; omega, by show atK x L + 1 ≤ m + 1; omega⟩
    · show 0 ≤ q.2 ∧ q.2 ≤ m + 1; exact ⟨hq.1, by omega⟩
theorem bump_lens {x : List UInt8} {L : List (List UInt8 × Int)} (hx : x.length = 32) (h : ∀ p ∈ L, p.1.length = 32) : ∀ p ∈ bump x L, p.1.length = 32 := fun p hp => by
  have h1 : p.1 ∈ (bump x L).map (·.1) := List.mem_map_of_mem hp
  rw [bump_keys] at h1
  split at h1
  · obtain ⟨q, hq, e⟩ := List.mem_map.1 h1; rw [← e]; exact h q hq
  · rcases List.mem_append.1 h1 with h2 | h2
    · obtain ⟨q, hq, e⟩ := List.mem_map.1 h2; rw [← e]; exact h q hq
    · rw [List.mem_singleton.1 h2]; exact hx
theorem atK_ins (x : List UInt8) (L : List (List UInt8 × Int)) : atK x (insK x L) = atK x L := by
  have key : ∀ (L : List (List UInt8 × Int)) (i : Nat), findK x L i = none → findK x (L ++ [(x, 0)]) i = some (i + L.length, 0) := by
    intro L
    induction L with
    | nil => intro i _; simp [findK]
    | cons p L ih =>
      intro i h
      obtain ⟨k, v⟩ := p
      simp only [findK] at h
      split at h
      · cases h
      · rename_i hne
        simp only [List.cons_append, findK, if_neg hne, ih _ h, List.length_cons]
        congr 2; omega
  unfold insK
  cases hf : findK x L 0 with
  | none => simp [atK, hf, key L 0 hf]
  | some p => rfl
theorem stK_lt (x : List UInt8) (L : List (List UInt8 × Int)) : stK x L < (insK x L).length := by
  have := insK_get x L
  exact (List.getElem?_eq_some_iff.1 this).1
end Go.Proofs.Ytjhmcmadleabjaa

set_option maxRecDepth 100000
namespace Go.Proofs.Ytjhmcmadleabjaa
open Go Go.Hw Go.Proofs

theorem zero72 : zeroIs Try.prog 72 (.agg [.i64 0, .slc .nil 0 0]) := by unfold zeroIs; kernel_rfl
theorem el32 : elOk Try.prog 32 33 40 (.agg z33) = true := by kernel_rfl
theorem fill_oneN {z : Nat} {zl l : List C} (hz : zl.length = z) (hl : l.length = z) : fillS (placeA z) ((List.replicate 1 zl).flatten) [(0, .agg l)] = some l := by
  have h3 : (List.replicate 1 zl).flatten = zl := by simp
  rw [h3]
  have h1 : Nat.beq l.length z = true := by rw [hl]; simp
  have h2 : Nat.ble (0 * z + z) zl.length = true := by rw [hz]; simp
  simp only [fillS, placeA, V.flat, V.cs, h1, h2, Bool.and_self]
  simp [spl, hz, hl]
/-- The block of a copied list of keys. -/
abbrev kob (K : List (Int × List UInt8)) (y : Os) : Blk := ⟨y.1, K.flatMap kr, 32, (0, 0), y.2.2⟩

theorem toRole_c {w : World} {n : Int} {K : List (Int × List UInt8)} {pa : Ad} {pc : Nat} (hK : K32 K) (hl : K.length ≤ 1073741824) (hc : Cells w pa (K.flatMap kr)) :
    CallsV Try.prog 34 [.agg [.i64 n, .slc pa K.length pc]] w fun en w' => ∃ y : Os, en = .returned (V.agg [.i64 n, .slc y.1 K.length y.2.1]).den ∧ OwnS y.1 K.length y.2.1 33 (K.flatMap kr) y.2.2 ∧ (∀ k, (kob K y).key = some k → w.heap.size ≤ k) ∧ St w [kob K y] w' := by
  refine calls_in (tb := tb) (fn := Try.f34) Try.func34 rfl rfl rfl [(0, .agg [.i64 n, .slc pa K.length pc])] rfl [] (St.refl _) ?_
  refine wc_seq ?_
  refine wc_region ?_
  refine wl_ef rfl (ef_box rfl rfl rfl (fun b hb => ?_))
  refine wl_ef rfl (ef_alloc zero72 rfl rfl (fun o ho => ?_))
  refine wl_done ?_
  refine nk_code ?_
  refine wc_seq ?_
  refine wc_region ?_
  refine wl_q rfl rfl rfl (qt_p tbok rfl) ?_
  first | refine wl_q rfl rfl rfl (qt_l tbok rfl rfl rfl) ?_ | refine wl_q rfl rfl rfl (qt_la tbok rfl rfl rfl) ?_
  refine wl_q rfl rfl rfl (qt_build (vs := [(0, .c (.i64 n))]) (l := [.i64 n, .slc .nil 0 0]) tbok rfl zero72 rfl rfl) ?_
  refine wl_ef rfl (ef_alloc zero72 rfl rfl (fun r hr => ?_))
  refine wl_ef rfl (ef_store (cs' := [.i64 n, .slc .nil 0 0]) tbok rfl rfl rfl rfl .here rfl (Nat.le_of_ble_eq_true rfl) (spl_all rfl) ?_)
  refine wl_done ?_
  refine nk_code ?_
  refine wc_seq ?_
  refine wc_seq ?_
  refine wc_region ?_
  refine wl_q rfl rfl rfl (qt_p tbok rfl) ?_
  first | refine wl_q rfl rfl rfl (qt_l tbok rfl rfl rfl) ?_ | refine wl_q rfl rfl rfl (qt_la tbok rfl rfl rfl) ?_
  refine wl_q rfl rfl rfl (qt_len tbok rfl rfl) ?_
  refine wl_q rfl rfl rfl (qt_p tbok rfl) ?_
  refine wl_done ?_
  refine nk_code ?_
  refine wc_block ?_
  refine wc_loop (ι := Nat × Os) (fun j => j.1 ≤ K.length ∧ OwnS j.2.1 j.1 j.2.2.1 33 ((K.take j.1).flatMap kr) j.2.2.2 ∧ (∀ k, j.2.1.key = some k → w.heap.size ≤ k)) (fun j => [(12, .c (.i64 (j.1 : Int))), (11, .c (.i64 (K.length : Int))), (10, .c (.slc pa K.length pc)), (1, .c (.ptr (.at b 0))), (2, .c (.ptr (.at o 0))), (3, .c (.ptr (.at r 0)))]) (fun j => [kob (K.take j.1) j.2, ⟨.at r 0, [.i64 n, .slc j.2.1 j.1 j.2.2.1], 72, (0, 0), []⟩, ⟨.at o 0, [.i64 0, .slc .nil 0 0], 72, (0, 0), []⟩, ⟨.at b 0, [.i64 n, .slc pa K.length pc], 68, (0, 0), []⟩]) (fun j => K.length - j.1) (0, .nil, 0, []) ⟨Nat.zero_le _, ⟨rfl, rfl, rfl, rfl⟩, nil_new⟩ (nk_start ⟨rfl, rfl, rfl, rfl, rfl, rfl, trivial⟩ (fun w hw => st_none hw)) (fun ⟨k, y⟩ ⟨hk, hy, hky⟩ => ?_)
  replace hk : k ≤ K.length := hk
  replace hy : OwnS y.1 k y.2.1 33 ((K.take k).flatMap kr) y.2.2 := hy
  replace hky : ∀ k, y.1.key = some k → w.heap.size ≤ k := hky
  dsimp only
  refine wc_seq ?_
  refine wc_region ?_
  refine wl_q rfl rfl rfl (qt_p tbok rfl) ?_
  refine wl_done ?_
  refine nk_code ?_
  refine wc_seq ?_
  refine wc_cond rfl (fun h13 => ?_) (fun h13 => ?_)
  · have hk' : k < K.length := (by have h0 := of_decide_eq_true h13; omega)
    have hgl := hK.row _ (el_mem hk')
    have hgb : (bc (el K k).2).length = 32 := (by rw [bc_len]; exact hK _ (el_mem hk'))
    obtain ⟨pr, po, hpa⟩ := cells_nn hc (by rw [rows_len hK.row]; omega)
    subst hpa
    refine wc_skip ?_
    refine nk_code ?_
    refine wc_seq ?_
    refine wc_block ?_
    refine wc_seq ?_
    refine wc_region ?_
    refine wl_q rfl rfl rfl (qt_p tbok rfl) ?_
    refine wl_q rfl rfl rfl (qt_load_ag (l := kr (el K k)) tbok rfl rfl rfl hgl (rs_cells (hc.sub2 (m := k * 33) (rows_at hK.row hk')) (off_new hky (off_new (newKey hr) (off_new (newKey ho) (off_new (newKey hb) off_nil)))))) ?_
    refine wl_ef rfl (ef_alloc zero24 rfl rfl (fun x hx => ?_))
    refine wl_ef rfl (ef_store (cs' := kr (el K k)) tbok rfl rfl rfl rfl .here hgl (Nat.le_of_ble_eq_true rfl) (spl_all hgl) ?_)
    refine wl_done ?_
    refine nk_code ?_
    refine wc_region ?_
    refine wl_q rfl rfl rfl (qt_p tbok rfl) ?_
    refine wl_q rfl rfl rfl (qt_load tbok rfl rfl rfl (rc_lk (.there (.there .here)) rfl)) ?_
    refine wl_q rfl rfl rfl (qt_p tbok rfl) ?_
    refine wl_q rfl rfl rfl (qt_load tbok rfl rfl rfl (rc_lk .here rfl)) ?_
    refine wl_q rfl rfl rfl (qt_p tbok rfl) ?_
    refine wl_q rfl rfl rfl (qt_load_ag (l := bc (el K k).2) tbok rfl rfl rfl hgb (rs_lk .here (fun j c hj => by show (C.i64 (el K k).1 :: bc (el K k).2)[1 + j]? = some c; rw [Nat.add_comm]; exact hj))) ?_
    refine wl_q rfl rfl rfl (qt_build (vs := [(0, .c (.i64 (el K k).1)), (1, .agg (bc (el K k).2))]) (l := kr (el K k)) tbok rfl zero32 rfl (pfill hgb)) ?_
    refine wl_ef rfl (ef_buildSlice (vs := [(0, .agg (kr (el K k)))]) (l := kr (el K k)) tbok rfl zero32 rfl rfl rfl (by decide) (fill_oneN rfl hgl) rfl (fun br hb2 => ?_))
    refine wl_ef rfl (ef_append tbok rfl el32 zero32 rfl rfl rfl (.there (.there .here)) hy hky (m := 1) (news := kr (el K k)) (by rw [hgl]) (rs_lk .here at0) (by omega) (by simp only [maxLen]; omega) (fun a2 c2 t2 hown2 hk2 hnn _ => ?_))
    refine wl_q rfl rfl rfl (qt_p tbok rfl) ?_
    refine wl_ef rfl (ef_store (cs' := [.i64 n, .slc a2 (k + 1) c2]) tbok rfl rfl rfl rfl (.there (.there (.there .here))) rfl (Nat.le_of_ble_eq_true rfl) rfl ?_)
    refine wl_done ?_
    refine nk_code ?_
    refine wc_region ?_
    refine wl_q rfl rfl rfl (qt_p tbok rfl) ?_
    refine wl_q rfl rfl rfl (qt_p tbok rfl) ?_
    refine wl_done ?_
    exact nk_round (i := (k, y)) (k + 1, a2, c2, t2) ⟨hk', by show OwnS a2 (k + 1) c2 33 ((K.take (k + 1)).flatMap kr) t2; rw [← rows_snoc hk']; exact hown2, hk2⟩ (by show K.length - (k + 1) < K.length - k; omega) ⟨rfl, rfl, rfl, rfl, rfl, rfl, trivial⟩ (fun w hw => by have h2 := Rm.sub_St (Rm.sub_St hw (.there .here) (newKey hb2)) (.there .here) (newKey hx); rw [rows_snoc hk'] at h2; exact h2)
  · have he : k = K.length := (by have h0 := of_decide_eq_false h13; omega)
    subst he
    rw [List.take_length] at hy ⊢
    refine wc_exit rfl ?_
    refine nk_code ?_
    refine wc_seq ?_
    refine wc_region ?_
    refine wl_q rfl rfl rfl (qt_load_ag (l := [.i64 n, .slc y.1 K.length y.2.1]) tbok rfl rfl rfl rfl (rs_lk (.there .here) at0)) ?_
    refine wl_ef rfl (ef_store (cs' := [.i64 n, .slc y.1 K.length y.2.1]) tbok rfl rfl rfl rfl (.there (.there .here)) rfl (Nat.le_of_ble_eq_true rfl) rfl ?_)
    refine wl_done ?_
    refine nk_code ?_
    refine wc_ret ?_
    try dsimp only
    exact fin1 rfl (rv_ag (l := [.i64 n, .slc y.1 K.length y.2.1]) tbok rfl rfl rfl rfl (rs_lk (.there (.there .here)) at0)) (fun w' hw => ⟨y, rfl, hy, hky, Rm.sub_St (Rm.sub_St (Rm.sub_St hw (.there .here) (newKey hr)) (.there .here) (newKey ho)) (.there .here) (newKey hb)⟩)

end Go.Proofs.Ytjhmcmadleabjaa

set_option maxRecDepth 100000
namespace Go.Proofs.Ytjhmcmadleabjaa
open Go Go.Hw Go.Proofs

theorem map145 {n : Nat} {w : World} : MapT ⟨Try.prog, tb, n, w⟩ 145 32 := ⟨30, 5, 32, 1, 3, rfl, rfl, by kernel_rfl, by unfold zeroIs; kernel_rfl⟩
theorem mpKey {w0 : World} {r : Nat} {L : List (List UInt8 × Int)} (h : w0.heap.size ≤ r) : ∀ k, (Ad.mp r L).key = some k → w0.heap.size ≤ k := fun k hk => by simp [Ad.key] at hk; omega
abbrev mpb (r : Nat) (L : List (List UInt8 × Int)) : Blk := ⟨.mp r L, [], 0, (0, 0), []⟩
/-- The map behind some keys. -/
def HadI (K : List (Int × List UInt8)) (i : Nat) (L : List (List UInt8 × Int)) : Prop := L.map (·.1) = dd ((K.take i).map kid) ∧ (∀ k ∈ K.take i, 0 ≤ k.1 ∧ k.1 ≤ 6) ∧ (∀ p ∈ L, 0 ≤ p.2 ∧ p.2 ≤ (i : Int)) ∧ ∀ p ∈ L, p.1.length = 32
theorem had_nil (K : List (Int × List UInt8)) : HadI K 0 [] := by simp [HadI, dd]
theorem had_bump {K : List (Int × List UInt8)} {i : Nat} {L : List (List UInt8 × Int)} (h : HadI K i L) (hi : i < K.length) (hh : 0 ≤ (el K i).1 ∧ (el K i).1 ≤ 6) : HadI K (i + 1) (bump (kid (el K i)) L) := by
  obtain ⟨h1, h2, h3, h4⟩ := h
  refine ⟨?_, ?_, fun p hp => by have := bump_vals (by omega) h3 p hp; exact ⟨this.1, by omega⟩, bump_lens (sha_len _) h4⟩
  · rw [bump_keys, el_take hi, List.map_append, List.map_cons, List.map_nil, dd_snoc, h1]
  · intro k hk
    rw [el_take hi] at hk
    rcases List.mem_append.1 hk with hk | hk
    · exact h2 k hk
    · rw [List.mem_singleton.1 hk]; exact hh
theorem had_all {n : Int} {K : List (Int × List UInt8)} {L : List (List UInt8 × Int)} (h : HadI K K.length L) (h1 : 1 ≤ n) (h2 : n ≤ (K.length : Int)) (h3 : K.length ≤ 16) : decide ((L.length : Int) = (K.length : Int)) = rightB n K := by
  obtain ⟨g1, g2, _, _⟩ := h
  rw [List.take_length] at g1 g2
  have hl : L.length = (dd (K.map kid)).length := by rw [← g1, List.length_map]
  have hd := (dd_len (K.map kid)).2
  rw [List.length_map] at hd
  unfold rightB
  refine decide_eq_decide.2 ⟨fun e => ⟨h1, h2, h3, g2, hd.1 (by omega)⟩, fun e => ?_⟩
  have := hd.2 e.2.2.2.2
  omega
theorem rightB_no {n : Int} {K : List (Int × List UInt8)} (h : ¬ Rt n K) : rightB n K = false := decide_eq_false h
theorem rt_high {n : Int} {K : List (Int × List UInt8)} {i : Nat} (hi : i < K.length) (h : ¬ (0 ≤ (el K i).1 ∧ (el K i).1 ≤ 6)) : ¬ Rt n K := fun hr => h (hr.2.2.2.1 _ (el_mem hi))

theorem right_c {w : World} {n : Int} {K : List (Int × List UInt8)} {pa : Ad} {pc : Nat} (hK : K32 K) (hc : Cells w pa (K.flatMap kr)) :
    CallsV Try.prog 33 [.agg [.i64 n, .slc pa K.length pc]] w fun en w' => en = .returned (V.c (.bool (rightB n K))).den ∧ St w [] w' := by
  refine calls_in (tb := tb) (fn := Try.f33) Try.func33 rfl rfl rfl [(0, .agg [.i64 n, .slc pa K.length pc])] rfl [] (St.refl _) ?_
  refine wc_seq ?_
  refine wc_region ?_
  refine wl_ef rfl (ef_box rfl rfl rfl (fun b hb => ?_))
  refine wl_q rfl rfl rfl (qt_p tbok rfl) ?_
  refine wl_done ?_
  refine nk_code ?_
  refine wc_seq ?_
  refine wc_seq ?_
  refine wc_region ?_
  refine wl_q rfl rfl rfl (qt_p tbok rfl) ?_
  first | refine wl_q rfl rfl rfl (qt_l tbok rfl rfl rfl) ?_ | refine wl_q rfl rfl rfl (qt_la tbok rfl rfl rfl) ?_
  refine wl_q rfl rfl rfl (qt_p tbok rfl) ?_
  refine wl_bool (fun h1 => ?_) (fun h1 => ?_)
  · refine wl_q rfl rfl rfl (qt_p tbok rfl) ?_
    first | refine wl_g rfl rfl rfl rfl (qt_p tbok rfl) ?_ | refine wl_skip rfl rfl rfl rfl rfl ?_
    first | refine wl_g rfl rfl rfl rfl (qt_l tbok rfl rfl rfl) ?_ | refine wl_g rfl rfl rfl rfl (qt_la tbok rfl rfl rfl) ?_ | refine wl_skip rfl rfl rfl rfl rfl ?_
    first | refine wl_g rfl rfl rfl rfl (qt_p tbok rfl) ?_ | refine wl_skip rfl rfl rfl rfl rfl ?_
    first | refine wl_g rfl rfl rfl rfl (qt_l tbok rfl rfl rfl) ?_ | refine wl_g rfl rfl rfl rfl (qt_la tbok rfl rfl rfl) ?_ | refine wl_skip rfl rfl rfl rfl rfl ?_
    first | refine wl_g rfl rfl rfl rfl (qt_len tbok rfl rfl) ?_ | refine wl_skip rfl rfl rfl rfl rfl ?_
    first | refine wl_g rfl rfl rfl rfl (qt_p tbok rfl) ?_ | refine wl_skip rfl rfl rfl rfl rfl ?_
    refine wl_q rfl rfl rfl (qt_p tbok rfl) ?_
    refine wl_q rfl rfl rfl (qt_p tbok rfl) ?_
    first | refine wl_g rfl rfl rfl rfl (qt_p tbok rfl) ?_ | refine wl_skip rfl rfl rfl rfl rfl ?_
    first | refine wl_g rfl rfl rfl rfl (qt_l tbok rfl rfl rfl) ?_ | refine wl_g rfl rfl rfl rfl (qt_la tbok rfl rfl rfl) ?_ | refine wl_skip rfl rfl rfl rfl rfl ?_
    first | refine wl_g rfl rfl rfl rfl (qt_len tbok rfl rfl) ?_ | refine wl_skip rfl rfl rfl rfl rfl ?_
    first | refine wl_g rfl rfl rfl rfl (qt_p tbok rfl) ?_ | refine wl_skip rfl rfl rfl rfl rfl ?_
    refine wl_q rfl rfl rfl (qt_p tbok rfl) ?_
    refine wl_done ?_
    refine nk_code ?_
    refine wc_yes rfl ?_
    refine wc_seq ?_
    refine wc_region ?_
    refine wl_q rfl rfl rfl (qt_p tbok rfl) ?_
    refine wl_done ?_
    refine nk_code ?_
    refine wc_ret ?_
    try dsimp only
    exact fin1 rfl (rv_tmp rfl) (fun w' hw => ⟨by rw [rightB_no (fun h => by have := of_decide_eq_true h1; have := h.1; omega)], hw.all (new_cons (newKey hb) new_nil)⟩)
  · refine wl_q rfl rfl rfl (qt_p tbok rfl) ?_
    first | refine wl_g rfl rfl rfl rfl (qt_p tbok rfl) ?_ | refine wl_skip rfl rfl rfl rfl rfl ?_
    first | refine wl_g rfl rfl rfl rfl (qt_l tbok rfl rfl rfl) ?_ | refine wl_g rfl rfl rfl rfl (qt_la tbok rfl rfl rfl) ?_ | refine wl_skip rfl rfl rfl rfl rfl ?_
    first | refine wl_g rfl rfl rfl rfl (qt_p tbok rfl) ?_ | refine wl_skip rfl rfl rfl rfl rfl ?_
    first | refine wl_g rfl rfl rfl rfl (qt_l tbok rfl rfl rfl) ?_ | refine wl_g rfl rfl rfl rfl (qt_la tbok rfl rfl rfl) ?_ | refine wl_skip rfl rfl rfl rfl rfl ?_
    first | refine wl_g rfl rfl rfl rfl (qt_len tbok rfl rfl) ?_ | refine wl_skip rfl rfl rfl rfl rfl ?_
    first | refine wl_g rfl rfl rfl rfl (qt_p tbok rfl) ?_ | refine wl_skip rfl rfl rfl rfl rfl ?_
    refine wl_bool (fun h2 => ?_) (fun h2 => ?_)
    · refine wl_q rfl rfl rfl (qt_p tbok rfl) ?_
      refine wl_q rfl rfl rfl (qt_p tbok rfl) ?_
      first | refine wl_g rfl rfl rfl rfl (qt_p tbok rfl) ?_ | refine wl_skip rfl rfl rfl rfl rfl ?_
      first | refine wl_g rfl rfl rfl rfl (qt_l tbok rfl rfl rfl) ?_ | refine wl_g rfl rfl rfl rfl (qt_la tbok rfl rfl rfl) ?_ | refine wl_skip rfl rfl rfl rfl rfl ?_
      first | refine wl_g rfl rfl rfl rfl (qt_len tbok rfl rfl) ?_ | refine wl_skip rfl rfl rfl rfl rfl ?_
      first | refine wl_g rfl rfl rfl rfl (qt_p tbok rfl) ?_ | refine wl_skip rfl rfl rfl rfl rfl ?_
      refine wl_q rfl rfl rfl (qt_p tbok rfl) ?_
      refine wl_done ?_
      refine nk_code ?_
      refine wc_yes rfl ?_
      refine wc_seq ?_
      refine wc_region ?_
      refine wl_q rfl rfl rfl (qt_p tbok rfl) ?_
      refine wl_done ?_
      refine nk_code ?_
      refine wc_ret ?_
      try dsimp only
      exact fin1 rfl (rv_tmp rfl) (fun w' hw => ⟨by rw [rightB_no (fun h => by have := of_decide_eq_true h2; have := h.2.1; omega)], hw.all (new_cons (newKey hb) new_nil)⟩)
    · refine wl_q rfl rfl rfl (qt_p tbok rfl) ?_
      refine wl_q rfl rfl rfl (qt_p tbok rfl) ?_
      first | refine wl_g rfl rfl rfl rfl (qt_p tbok rfl) ?_ | refine wl_skip rfl rfl rfl rfl rfl ?_
      first | refine wl_g rfl rfl rfl rfl (qt_l tbok rfl rfl rfl) ?_ | refine wl_g rfl rfl rfl rfl (qt_la tbok rfl rfl rfl) ?_ | refine wl_skip rfl rfl rfl rfl rfl ?_
      first | refine wl_g rfl rfl rfl rfl (qt_len tbok rfl rfl) ?_ | refine wl_skip rfl rfl rfl rfl rfl ?_
      first | refine wl_g rfl rfl rfl rfl (qt_p tbok rfl) ?_ | refine wl_skip rfl rfl rfl rfl rfl ?_
      refine wl_bool (fun h3 => ?_) (fun h3 => ?_)
      · refine wl_q rfl rfl rfl (qt_p tbok rfl) ?_
        refine wl_done ?_
        refine nk_code ?_
        refine wc_yes rfl ?_
        refine wc_seq ?_
        refine wc_region ?_
        refine wl_q rfl rfl rfl (qt_p tbok rfl) ?_
        refine wl_done ?_
        refine nk_code ?_
        refine wc_ret ?_
        try dsimp only
        exact fin1 rfl (rv_tmp rfl) (fun w' hw => ⟨by rw [rightB_no (fun h => by have := of_decide_eq_true h3; have := h.2.2.1; omega)], hw.all (new_cons (newKey hb) new_nil)⟩)
      · refine wl_q rfl rfl rfl (qt_p tbok rfl) ?_
        refine wl_done ?_
        refine nk_code ?_
        refine wc_no rfl ?_
        refine wc_skip ?_
        refine nk_code ?_
        refine wc_seq ?_
        refine wc_region ?_
        refine wl_ef rfl (ef_makeMap rfl (fun r hr => ?_))
        have h1' := of_decide_eq_false h1
        have h2' := of_decide_eq_false h2
        have h3' := of_decide_eq_false h3
        refine wl_q rfl rfl rfl (qt_p tbok rfl) ?_
        refine wl_done ?_
        refine nk_code ?_
        refine wc_seq ?_
        refine wc_seq ?_
        refine wc_region ?_
        refine wl_q rfl rfl rfl (qt_p tbok rfl) ?_
        first | refine wl_q rfl rfl rfl (qt_l tbok rfl rfl rfl) ?_ | refine wl_q rfl rfl rfl (qt_la tbok rfl rfl rfl) ?_
        refine wl_q rfl rfl rfl (qt_len tbok rfl rfl) ?_
        refine wl_q rfl rfl rfl (qt_p tbok rfl) ?_
        refine wl_done ?_
        refine nk_code ?_
        refine wc_block ?_
        refine wc_loop (ι := Nat × List (List UInt8 × Int)) (fun j => j.1 ≤ K.length ∧ HadI K j.1 j.2) (fun j => [(27, .c (.i64 (j.1 : Int))), (26, .c (.i64 (K.length : Int))), (25, .c (.slc pa K.length pc)), (3, .c (.map (some r))), (1, .c (.ptr (.at b 0)))]) (fun j => [mpb r j.2, ⟨.at b 0, [.i64 n, .slc pa K.length pc], 72, (0, 0), []⟩]) (fun j => K.length - j.1) (0, []) ⟨Nat.zero_le _, had_nil K⟩ (nk_start ⟨rfl, rfl, rfl, rfl, rfl, trivial⟩ (fun w hw => hw)) (fun ⟨i, L⟩ ⟨hi, hL⟩ => ?_)
        replace hi : i ≤ K.length := hi
        replace hL : HadI K i L := hL
        dsimp only
        refine wc_seq ?_
        refine wc_region ?_
        refine wl_q rfl rfl rfl (qt_p tbok rfl) ?_
        refine wl_done ?_
        refine nk_code ?_
        refine wc_seq ?_
        refine wc_cond rfl (fun h28 => ?_) (fun h28 => ?_)
        · have hi' : i < K.length := (by have h0 := of_decide_eq_true h28; omega)
          have hgl := hK.row _ (el_mem hi')
          have hgk := hK _ (el_mem hi')
          have hat := atK_le (x := kid (el K i)) (by omega) hL.2.2.1
          obtain ⟨pr, po, hpa⟩ := cells_nn hc (by rw [rows_len hK.row]; omega)
          subst hpa
          refine wc_skip ?_
          refine nk_code ?_
          refine wc_seq ?_
          refine wc_block ?_
          refine wc_seq ?_
          refine wc_region ?_
          refine wl_q rfl rfl rfl (qt_p tbok rfl) ?_
          refine wl_q rfl rfl rfl (qt_load_ag (l := kr (el K i)) tbok rfl rfl rfl hgl (rs_cells (hc.sub2 (m := i * 33) (rows_at hK.row hi')) (off_new (mpKey hr) (off_new (newKey hb) off_nil)))) ?_
          refine wl_ef rfl (ef_alloc zero32 rfl rfl (fun x hx => ?_))
          refine wl_ef rfl (ef_store (cs' := kr (el K i)) tbok rfl rfl rfl rfl .here hgl (Nat.le_of_ble_eq_true rfl) (spl_all hgl) ?_)
          refine wl_done ?_
          refine nk_code ?_
          refine wc_seq ?_
          refine wc_seq ?_
          refine wc_region ?_
          refine wl_q rfl rfl rfl (qt_p tbok rfl) ?_
          refine wl_q rfl rfl rfl (qt_load (c := .i64 (el K i).1) tbok rfl rfl rfl (rc_lk .here rfl)) ?_
          refine wl_q rfl rfl rfl (qt_p tbok rfl) ?_
          refine wl_bool (fun h4 => ?_) (fun h4 => ?_)
          · refine wl_q rfl rfl rfl (qt_p tbok rfl) ?_
            first | refine wl_g rfl rfl rfl rfl (qt_p tbok rfl) ?_ | refine wl_skip rfl rfl rfl rfl rfl ?_
            first | refine wl_g rfl rfl rfl rfl (qt_l tbok rfl rfl rfl) ?_ | refine wl_g rfl rfl rfl rfl (qt_la tbok rfl rfl rfl) ?_ | refine wl_skip rfl rfl rfl rfl rfl ?_
            first | refine wl_g rfl rfl rfl rfl (qt_p tbok rfl) ?_ | refine wl_skip rfl rfl rfl rfl rfl ?_
            refine wl_q rfl rfl rfl (qt_p tbok rfl) ?_
            refine wl_done ?_
            refine nk_code ?_
            refine wc_yes rfl ?_
            refine wc_seq ?_
            refine wc_region ?_
            refine wl_q rfl rfl rfl (qt_p tbok rfl) ?_
            refine wl_done ?_
            refine nk_code ?_
            refine wc_ret ?_
            try dsimp only
            exact fin1 rfl (rv_tmp rfl) (fun w' hw => ⟨by rw [rightB_no (rt_high hi' (by have := of_decide_eq_true h4; omega))], hw.all (new_cons (newKey hx) (new_cons (mpKey hr) (new_cons (newKey hb) new_nil)))⟩)
          · refine wl_q rfl rfl rfl (qt_p tbok rfl) ?_
            first | refine wl_g rfl rfl rfl rfl (qt_p tbok rfl) ?_ | refine wl_skip rfl rfl rfl rfl rfl ?_
            refine wl_g rfl rfl rfl rfl (qt_load (c := .i64 (el K i).1) tbok rfl rfl rfl (rc_lk .here rfl)) ?_
            first | refine wl_g rfl rfl rfl rfl (qt_p tbok rfl) ?_ | refine wl_skip rfl rfl rfl rfl rfl ?_
            refine wl_bool (fun h5 => ?_) (fun h5 => ?_)
            · refine wl_q rfl rfl rfl (qt_p tbok rfl) ?_
              refine wl_done ?_
              refine nk_code ?_
              refine wc_yes rfl ?_
              refine wc_seq ?_
              refine wc_region ?_
              refine wl_q rfl rfl rfl (qt_p tbok rfl) ?_
              refine wl_done ?_
              refine nk_code ?_
              refine wc_ret ?_
              try dsimp only
              exact fin1 rfl (rv_tmp rfl) (fun w' hw => ⟨by rw [rightB_no (rt_high hi' (by have := of_decide_eq_true h5; omega))], hw.all (new_cons (newKey hx) (new_cons (mpKey hr) (new_cons (newKey hb) new_nil)))⟩)
            · refine wl_q rfl rfl rfl (qt_p tbok rfl) ?_
              refine wl_done ?_
              refine nk_code ?_
              refine wc_no rfl ?_
              refine wc_skip ?_
              refine nk_code ?_
              refine wc_draw (s0 := [⟨.at x 0, kr (el K i), 32, (0, 0), []⟩, ⟨.at b 0, [.i64 n, .slc (.at pr po) K.length pc], 72, (0, 0), []⟩]) 8 follows ?_
              refine wh_q 0 rfl (by kernel_rfl) rfl rfl rfl (qt_p tbok rfl) (fun w hw => Rm.sub_St hw (.there .here) (mpKey hr)) ?_
              refine wh_q 1 rfl (by kernel_rfl) rfl rfl rfl (qt_load_ag (l := kr (el K i)) tbok rfl rfl rfl hgl (rs_lk .here at0)) (fun w hw => Rm.sub_St hw (.there .here) (mpKey hr)) ?_
              refine wh_one 2 (by kernel_rfl) (wo_ef rfl rfl (ef_pure (v := .agg (bc (kid (el K i)))) (by kernel_rfl) rfl rfl (fun w1 h1 => id_c hgk) ⟨fun w hw => Rm.sub_St hw (.there .here) (mpKey hr), ?_⟩))
              refine wh_two 3 5 (by kernel_rfl) ?_ ?_
              · refine wo_ef rfl rfl (ef_q rfl rfl (qt_lookup tbok map145 rfl rfl (.there .here) (sha_len _) hL.2.2.2) ⟨fun w hw => Rm.sub_St hw (.there .here) (mpKey hr), ?_⟩)
                refine wh_q 4 rfl (by kernel_rfl) rfl rfl rfl (qt_p tbok rfl) (fun w hw => Rm.sub_St hw (.there .here) (mpKey hr)) ?_
                refine wh_one 5 (by kernel_rfl) (wo_ef rfl rfl (ef_entry tbok map145 rfl rfl (.there .here) (sha_len _) hL.2.2.2 rfl (.there .here) ⟨fun w hw => Rm.sub_St hw (.there .here) (mpKey hr), ?_⟩))
                refine wh_q 6 rfl (by kernel_rfl) rfl rfl rfl (qt_p tbok rfl) (fun w hw => Rm.sub_St hw (.there .here) (mpKey hr)) ?_
                refine wh_one 7 (by kernel_rfl) (wo_ef rfl rfl (ef_entStore rfl rfl rfl (stK_lt _ _) (.there .here) ⟨fun w hw => Rm.sub_St hw (.there .here) (mpKey hr), ?_⟩))
                refine wh_done (by kernel_rfl) ?_
                refine nk_code ?_
                refine wc_region ?_
                refine wl_q rfl rfl rfl (qt_p tbok rfl) ?_
                refine wl_q rfl rfl rfl (qt_p tbok rfl) ?_
                refine wl_done ?_
                have hh : 0 ≤ (el K i).1 ∧ (el K i).1 ≤ 6 := (by have h4' := of_decide_eq_false h4; have h5' := of_decide_eq_false h5; omega)
                exact nk_round (i := (i, L)) (i + 1, bump (kid (el K i)) L) ⟨hi', had_bump hL hi' hh⟩ (by show K.length - (i + 1) < K.length - i; omega) ⟨rfl, rfl, rfl, rfl, rfl, trivial⟩ (fun w hw => hw.tail (newKey hx))
              · refine wo_ef rfl rfl (ef_entry tbok map145 rfl rfl (.there .here) (sha_len _) hL.2.2.2 rfl (.there .here) ⟨fun w hw => Rm.sub_St hw (.there .here) (mpKey hr), ?_⟩)
                refine wh_q 6 rfl (by kernel_rfl) rfl rfl rfl (qt_p tbok rfl) (fun w hw => Rm.sub_St hw (.there .here) (mpKey hr)) ?_
                refine wh_one 3 (by kernel_rfl) (wo_ef rfl rfl (ef_q rfl rfl (qt_lookup tbok map145 rfl rfl (.there .here) (sha_len _) (insK_all hL.2.2.2 (sha_len _))) ⟨fun w hw => Rm.sub_St hw (.there .here) (mpKey hr), ?_⟩))
                refine wh_as (v' := .c (.i64 (atK (kid (el K i)) L))) (congrArg (fun z => V.c (C.i64 z)) (atK_ins _ _)) ?_
                refine wh_q 4 rfl (by kernel_rfl) rfl rfl rfl (qt_p tbok rfl) (fun w hw => Rm.sub_St hw (.there .here) (mpKey hr)) ?_
                refine wh_one 7 (by kernel_rfl) (wo_ef rfl rfl (ef_entStore rfl rfl rfl (stK_lt _ _) (.there .here) ⟨fun w hw => Rm.sub_St hw (.there .here) (mpKey hr), ?_⟩))
                refine wh_done (by kernel_rfl) ?_
                refine nk_code ?_
                refine wc_region ?_
                refine wl_q rfl rfl rfl (qt_p tbok rfl) ?_
                refine wl_q rfl rfl rfl (qt_p tbok rfl) ?_
                refine wl_done ?_
                have hh : 0 ≤ (el K i).1 ∧ (el K i).1 ≤ 6 := (by have h4' := of_decide_eq_false h4; have h5' := of_decide_eq_false h5; omega)
                exact nk_round (i := (i, L)) (i + 1, bump (kid (el K i)) L) ⟨hi', had_bump hL hi' hh⟩ (by show K.length - (i + 1) < K.length - i; omega) ⟨rfl, rfl, rfl, rfl, rfl, trivial⟩ (fun w hw => hw.tail (newKey hx))
        · have he : i = K.length := (by have h0 := of_decide_eq_false h28; omega)
          subst he
          refine wc_exit rfl ?_
          refine nk_code ?_
          refine wc_seq ?_
          refine wc_region ?_
          refine wl_q rfl rfl rfl (qt_p tbok rfl) ?_
          refine wl_q rfl rfl rfl (qt_mlen map145 rfl .here) ?_
          refine wl_q rfl rfl rfl (qt_p tbok rfl) ?_
          first | refine wl_q rfl rfl rfl (qt_l tbok rfl rfl rfl) ?_ | refine wl_q rfl rfl rfl (qt_la tbok rfl rfl rfl) ?_
          refine wl_q rfl rfl rfl (qt_len tbok rfl rfl) ?_
          first | refine wl_q rfl rfl rfl (qt_p tbok rfl) ?_ | refine wl_q rfl rfl rfl (qt_eqn tbok rfl rfl rfl) ?_
          refine wl_q rfl rfl rfl (qt_p tbok rfl) ?_
          refine wl_done ?_
          refine nk_code ?_
          refine wc_ret ?_
          try dsimp only
          exact fin1 rfl (rv_tmp rfl) (fun w' hw => ⟨by rw [had_all (n := n) hL (by omega) (by omega) (by omega)], hw.all (new_cons (mpKey hr) (new_cons (newKey hb) new_nil))⟩)
end Go.Proofs.Ytjhmcmadleabjaa

set_option maxRecDepth 100000
namespace Go.Proofs.Ytjhmcmadleabjaa
open Go Go.Hw Go.Proofs

def Ok2 (K : List (Int × List UInt8)) (i : Nat) : Prop := (∀ k ∈ K.take i, 0 ≤ k.1 ∧ k.1 ≤ 6) ∧ ((K.take i).map kid).Nodup
theorem ok2_nil (K : List (Int × List UInt8)) : Ok2 K 0 := by simp [Ok2]
theorem ok2_next {K : List (Int × List UInt8)} {i : Nat} (h : Ok2 K i) (hi : i < K.length) (hh : 0 ≤ (el K i).1 ∧ (el K i).1 ≤ 6) (hn : ∀ j, j < i → kid (el K j) ≠ kid (el K i)) : Ok2 K (i + 1) := by
  obtain ⟨h1, h2⟩ := h
  refine ⟨fun k hk => ?_, ?_⟩
  · rw [el_take hi] at hk
    rcases List.mem_append.1 hk with hk | hk
    · exact h1 k hk
    · rw [List.mem_singleton.1 hk]; exact hh
  · rw [el_take hi, List.map_append, List.nodup_append]
    refine ⟨h2, by simp, fun a ha b hb e => ?_⟩
    simp only [List.map_cons, List.map_nil, List.mem_singleton] at hb
    subst hb e
    obtain ⟨k, hk, e⟩ := List.mem_map.1 ha
    obtain ⟨j, hj⟩ := List.getElem?_of_mem hk
    have hjl := (List.getElem?_eq_some_iff.1 hj).1
    rw [List.length_take] at hjl
    rw [List.getElem?_take_of_lt (by omega), el_get (by omega)] at hj
    exact hn j (by omega) (by rw [Option.some.inj hj]; exact e)
theorem ok2_all {n : Int} {K : List (Int × List UInt8)} (h : Ok2 K K.length) (h1 : 1 ≤ n) (h2 : n ≤ (K.length : Int)) (h3 : K.length ≤ 16) : rightB n K = true := by
  obtain ⟨g1, g2⟩ := h
  rw [List.take_length] at g1 g2
  exact decide_eq_true ⟨h1, h2, h3, g1, g2⟩
theorem rt_twice {n : Int} {K : List (Int × List UInt8)} {i j : Nat} (hi : i < K.length) (hj : j < i) (h : kid (el K j) = kid (el K i)) : ¬ Rt n K := fun hr => by
  have h1 := List.pairwise_iff_getElem.1 hr.2.2.2.2 j i (by simp; omega) (by simpa using hi) hj
  refine h1 ?_
  have e1 : ∀ m (hm : m < K.length), ((K.map kid)[m]'(by simpa using hm)) = kid (el K m) := fun m hm => by
    rw [List.getElem_map]; congr 1
    have := el_get hm
    rw [List.getElem?_eq_getElem hm] at this
    exact Option.some.inj this
  rw [e1 j (by omega), e1 i hi, h]

theorem right2_c {w : World} {n : Int} {K : List (Int × List UInt8)} {pa : Ad} {pc : Nat} (hK : K32 K) (hc : Cells w pa (K.flatMap kr)) :
    CallsV Try.prog 35 [.agg [.i64 n, .slc pa K.length pc]] w fun en w' => en = .returned (V.c (.bool (rightB n K))).den ∧ St w [] w' := by
  refine calls_in (tb := tb) (fn := Try.f35) Try.func35 rfl rfl rfl [(0, .agg [.i64 n, .slc pa K.length pc])] rfl [] (St.refl _) ?_
  refine wc_seq ?_
  refine wc_region ?_
  refine wl_ef rfl (ef_box rfl rfl rfl (fun b hb => ?_))
  refine wl_q rfl rfl rfl (qt_p tbok rfl) ?_
  refine wl_done ?_
  refine nk_code ?_
  refine wc_seq ?_
  refine wc_seq ?_
  refine wc_region ?_
  refine wl_q rfl rfl rfl (qt_p tbok rfl) ?_
  first | refine wl_q rfl rfl rfl (qt_l tbok rfl rfl rfl) ?_ | refine wl_q rfl rfl rfl (qt_la tbok rfl rfl rfl) ?_
  refine wl_q rfl rfl rfl (qt_p tbok rfl) ?_
  refine wl_bool (fun h1 => ?_) (fun h1 => ?_)
  · refine wl_q rfl rfl rfl (qt_p tbok rfl) ?_
    first | refine wl_g rfl rfl rfl rfl (qt_p tbok rfl) ?_ | refine wl_skip rfl rfl rfl rfl rfl ?_
    first | refine wl_g rfl rfl rfl rfl (qt_l tbok rfl rfl rfl) ?_ | refine wl_g rfl rfl rfl rfl (qt_la tbok rfl rfl rfl) ?_ | refine wl_skip rfl rfl rfl rfl rfl ?_
    first | refine wl_g rfl rfl rfl rfl (qt_p tbok rfl) ?_ | refine wl_skip rfl rfl rfl rfl rfl ?_
    first | refine wl_g rfl rfl rfl rfl (qt_l tbok rfl rfl rfl) ?_ | refine wl_g rfl rfl rfl rfl (qt_la tbok rfl rfl rfl) ?_ | refine wl_skip rfl rfl rfl rfl rfl ?_
    first | refine wl_g rfl rfl rfl rfl (qt_len tbok rfl rfl) ?_ | refine wl_skip rfl rfl rfl rfl rfl ?_
    first | refine wl_g rfl rfl rfl rfl (qt_p tbok rfl) ?_ | refine wl_skip rfl rfl rfl rfl rfl ?_
    refine wl_q rfl rfl rfl (qt_p tbok rfl) ?_
    refine wl_q rfl rfl rfl (qt_p tbok rfl) ?_
    first | refine wl_g rfl rfl rfl rfl (qt_p tbok rfl) ?_ | refine wl_skip rfl rfl rfl rfl rfl ?_
    first | refine wl_g rfl rfl rfl rfl (qt_l tbok rfl rfl rfl) ?_ | refine wl_g rfl rfl rfl rfl (qt_la tbok rfl rfl rfl) ?_ | refine wl_skip rfl rfl rfl rfl rfl ?_
    first | refine wl_g rfl rfl rfl rfl (qt_len tbok rfl rfl) ?_ | refine wl_skip rfl rfl rfl rfl rfl ?_
    first | refine wl_g rfl rfl rfl rfl (qt_p tbok rfl) ?_ | refine wl_skip rfl rfl rfl rfl rfl ?_
    refine wl_q rfl rfl rfl (qt_p tbok rfl) ?_
    refine wl_done ?_
    refine nk_code ?_
    refine wc_yes rfl ?_
    refine wc_seq ?_
    refine wc_region ?_
    refine wl_q rfl rfl rfl (qt_p tbok rfl) ?_
    refine wl_done ?_
    refine nk_code ?_
    refine wc_ret ?_
    try dsimp only
    exact fin1 rfl (rv_tmp rfl) (fun w' hw => ⟨by rw [rightB_no (fun h => by have := of_decide_eq_true h1; have := h.1; omega)], hw.all (new_cons (newKey hb) new_nil)⟩)
  · refine wl_q rfl rfl rfl (qt_p tbok rfl) ?_
    first | refine wl_g rfl rfl rfl rfl (qt_p tbok rfl) ?_ | refine wl_skip rfl rfl rfl rfl rfl ?_
    first | refine wl_g rfl rfl rfl rfl (qt_l tbok rfl rfl rfl) ?_ | refine wl_g rfl rfl rfl rfl (qt_la tbok rfl rfl rfl) ?_ | refine wl_skip rfl rfl rfl rfl rfl ?_
    first | refine wl_g rfl rfl rfl rfl (qt_p tbok rfl) ?_ | refine wl_skip rfl rfl rfl rfl rfl ?_
    first | refine wl_g rfl rfl rfl rfl (qt_l tbok rfl rfl rfl) ?_ | refine wl_g rfl rfl rfl rfl (qt_la tbok rfl rfl rfl) ?_ | refine wl_skip rfl rfl rfl rfl rfl ?_
    first | refine wl_g rfl rfl rfl rfl (qt_len tbok rfl rfl) ?_ | refine wl_skip rfl rfl rfl rfl rfl ?_
    first | refine wl_g rfl rfl rfl rfl (qt_p tbok rfl) ?_ | refine wl_skip rfl rfl rfl rfl rfl ?_
    refine wl_bool (fun h2 => ?_) (fun h2 => ?_)
    · refine wl_q rfl rfl rfl (qt_p tbok rfl) ?_
      refine wl_q rfl rfl rfl (qt_p tbok rfl) ?_
      first | refine wl_g rfl rfl rfl rfl (qt_p tbok rfl) ?_ | refine wl_skip rfl rfl rfl rfl rfl ?_
      first | refine wl_g rfl rfl rfl rfl (qt_l tbok rfl rfl rfl) ?_ | refine wl_g rfl rfl rfl rfl (qt_la tbok rfl rfl rfl) ?_ | refine wl_skip rfl rfl rfl rfl rfl ?_
      first | refine wl_g rfl rfl rfl rfl (qt_len tbok rfl rfl) ?_ | refine wl_skip rfl rfl rfl rfl rfl ?_
      first | refine wl_g rfl rfl rfl rfl (qt_p tbok rfl) ?_ | refine wl_skip rfl rfl rfl rfl rfl ?_
      refine wl_q rfl rfl rfl (qt_p tbok rfl) ?_
      refine wl_done ?_
      refine nk_code ?_
      refine wc_yes rfl ?_
      refine wc_seq ?_
      refine wc_region ?_
      refine wl_q rfl rfl rfl (qt_p tbok rfl) ?_
      refine wl_done ?_
      refine nk_code ?_
      refine wc_ret ?_
      try dsimp only
      exact fin1 rfl (rv_tmp rfl) (fun w' hw => ⟨by rw [rightB_no (fun h => by have := of_decide_eq_true h2; have := h.2.1; omega)], hw.all (new_cons (newKey hb) new_nil)⟩)
    · refine wl_q rfl rfl rfl (qt_p tbok rfl) ?_
      refine wl_q rfl rfl rfl (qt_p tbok rfl) ?_
      first | refine wl_g rfl rfl rfl rfl (qt_p tbok rfl) ?_ | refine wl_skip rfl rfl rfl rfl rfl ?_
      first | refine wl_g rfl rfl rfl rfl (qt_l tbok rfl rfl rfl) ?_ | refine wl_g rfl rfl rfl rfl (qt_la tbok rfl rfl rfl) ?_ | refine wl_skip rfl rfl rfl rfl rfl ?_
      first | refine wl_g rfl rfl rfl rfl (qt_len tbok rfl rfl) ?_ | refine wl_skip rfl rfl rfl rfl rfl ?_
      first | refine wl_g rfl rfl rfl rfl (qt_p tbok rfl) ?_ | refine wl_skip rfl rfl rfl rfl rfl ?_
      refine wl_bool (fun h3 => ?_) (fun h3 => ?_)
      · refine wl_q rfl rfl rfl (qt_p tbok rfl) ?_
        refine wl_done ?_
        refine nk_code ?_
        refine wc_yes rfl ?_
        refine wc_seq ?_
        refine wc_region ?_
        refine wl_q rfl rfl rfl (qt_p tbok rfl) ?_
        refine wl_done ?_
        refine nk_code ?_
        refine wc_ret ?_
        try dsimp only
        exact fin1 rfl (rv_tmp rfl) (fun w' hw => ⟨by rw [rightB_no (fun h => by have := of_decide_eq_true h3; have := h.2.2.1; omega)], hw.all (new_cons (newKey hb) new_nil)⟩)
      · refine wl_q rfl rfl rfl (qt_p tbok rfl) ?_
        refine wl_done ?_
        refine nk_code ?_
        refine wc_no rfl ?_
        refine wc_skip ?_
        refine nk_code ?_
        refine wc_seq ?_
        refine wc_seq ?_
        refine wc_region ?_
        refine wl_q rfl rfl rfl (qt_p tbok rfl) ?_
        refine wl_done ?_
        refine nk_code ?_
        refine wc_block ?_
        refine wc_loop (ι := Nat) (fun i => i ≤ K.length ∧ Ok2 K i) (fun i => [(3, .c (.i64 (i : Int))), (1, .c (.ptr (.at b 0)))]) (fun i => [⟨.at b 0, [.i64 n, .slc pa K.length pc], 68, (0, 0), []⟩]) (fun i => K.length - i) 0 ⟨Nat.zero_le _, ok2_nil K⟩ (nk_start ⟨rfl, rfl, trivial⟩ (fun w hw => hw)) (fun i ⟨hi, hL⟩ => ?_)
        have h1' := of_decide_eq_false h1
        have h2' := of_decide_eq_false h2
        have h3' := of_decide_eq_false h3
        refine wc_seq ?_
        refine wc_seq ?_
        refine wc_region ?_
        refine wl_q rfl rfl rfl (qt_p tbok rfl) ?_
        refine wl_q rfl rfl rfl (qt_p tbok rfl) ?_
        first | refine wl_q rfl rfl rfl (qt_l tbok rfl rfl rfl) ?_ | refine wl_q rfl rfl rfl (qt_la tbok rfl rfl rfl) ?_
        refine wl_q rfl rfl rfl (qt_len tbok rfl rfl) ?_
        refine wl_q rfl rfl rfl (qt_p tbok rfl) ?_
        refine wl_done ?_
        refine nk_code ?_
        refine wc_cond rfl (fun h26 => ?_) (fun h26 => ?_)
        · have hi' : i < K.length := (by have h0 := of_decide_eq_true h26; omega)
          have hgl := hK.row _ (el_mem hi')
          have hgk := hK _ (el_mem hi')
          obtain ⟨pr, po, hpa⟩ := cells_nn hc (by rw [rows_len hK.row]; omega)
          subst hpa
          have hrs := rs_cells hc (off_new (newKey hb) off_nil : Off w _ [⟨.at b 0, [.i64 n, .slc (.at pr po) K.length pc], 68, (0, 0), []⟩])
          refine wc_skip ?_
          refine nk_code ?_
          refine wc_seq ?_
          refine wc_block ?_
          refine wc_seq ?_
          refine wc_seq ?_
          refine wc_region ?_
          refine wl_q rfl rfl rfl (qt_p tbok rfl) ?_
          first | refine wl_q rfl rfl rfl (qt_l tbok rfl rfl rfl) ?_ | refine wl_q rfl rfl rfl (qt_la tbok rfl rfl rfl) ?_
          refine wl_q rfl rfl rfl (qt_p tbok rfl) ?_
          refine wl_q rfl rfl rfl (qt_p tbok rfl) ?_
          refine wl_q rfl rfl rfl (qt_p tbok rfl) ?_
          refine wl_q rfl rfl rfl (qt_load (c := .i64 (el K i).1) tbok rfl rfl rfl (hrs.rc (rows_at hK.row hi' 0 _ rfl) (by omega))) ?_
          refine wl_q rfl rfl rfl (qt_p tbok rfl) ?_
          refine wl_bool (fun h4 => ?_) (fun h4 => ?_)
          · refine wl_q rfl rfl rfl (qt_p tbok rfl) ?_
            first | refine wl_g rfl rfl rfl rfl (qt_p tbok rfl) ?_ | refine wl_skip rfl rfl rfl rfl rfl ?_
            first | refine wl_g rfl rfl rfl rfl (qt_l tbok rfl rfl rfl) ?_ | refine wl_g rfl rfl rfl rfl (qt_la tbok rfl rfl rfl) ?_ | refine wl_skip rfl rfl rfl rfl rfl ?_
            first | refine wl_g rfl rfl rfl rfl (qt_p tbok rfl) ?_ | refine wl_skip rfl rfl rfl rfl rfl ?_
            first | refine wl_g rfl rfl rfl rfl (qt_p tbok rfl) ?_ | refine wl_skip rfl rfl rfl rfl rfl ?_
            first | refine wl_g rfl rfl rfl rfl (qt_p tbok rfl) ?_ | refine wl_skip rfl rfl rfl rfl rfl ?_
            refine wl_skip rfl rfl rfl rfl rfl ?_
            first | refine wl_g rfl rfl rfl rfl (qt_p tbok rfl) ?_ | refine wl_skip rfl rfl rfl rfl rfl ?_
            refine wl_q rfl rfl rfl (qt_p tbok rfl) ?_
            refine wl_done ?_
            refine nk_code ?_
            refine wc_yes rfl ?_
            refine wc_seq ?_
            refine wc_region ?_
            refine wl_q rfl rfl rfl (qt_p tbok rfl) ?_
            refine wl_done ?_
            refine nk_code ?_
            refine wc_ret ?_
            try dsimp only
            exact fin1 rfl (rv_tmp rfl) (fun w' hw => ⟨by rw [rightB_no (rt_high hi' (by have := of_decide_eq_true h4; omega))], hw.all (new_cons (newKey hb) new_nil)⟩)
          · refine wl_q rfl rfl rfl (qt_p tbok rfl) ?_
            first | refine wl_g rfl rfl rfl rfl (qt_p tbok rfl) ?_ | refine wl_skip rfl rfl rfl rfl rfl ?_
            first | refine wl_g rfl rfl rfl rfl (qt_l tbok rfl rfl rfl) ?_ | refine wl_g rfl rfl rfl rfl (qt_la tbok rfl rfl rfl) ?_ | refine wl_skip rfl rfl rfl rfl rfl ?_
            first | refine wl_g rfl rfl rfl rfl (qt_p tbok rfl) ?_ | refine wl_skip rfl rfl rfl rfl rfl ?_
            first | refine wl_g rfl rfl rfl rfl (qt_p tbok rfl) ?_ | refine wl_skip rfl rfl rfl rfl rfl ?_
            first | refine wl_g rfl rfl rfl rfl (qt_p tbok rfl) ?_ | refine wl_skip rfl rfl rfl rfl rfl ?_
            refine wl_g rfl rfl rfl rfl (qt_load (c := .i64 (el K i).1) tbok rfl rfl rfl (hrs.rc (rows_at hK.row hi' 0 _ rfl) (by omega))) ?_
            first | refine wl_g rfl rfl rfl rfl (qt_p tbok rfl) ?_ | refine wl_skip rfl rfl rfl rfl rfl ?_
            refine wl_bool (fun h5 => ?_) (fun h5 => ?_)
            · refine wl_q rfl rfl rfl (qt_p tbok rfl) ?_
              refine wl_done ?_
              refine nk_code ?_
              refine wc_yes rfl ?_
              refine wc_seq ?_
              refine wc_region ?_
              refine wl_q rfl rfl rfl (qt_p tbok rfl) ?_
              refine wl_done ?_
              refine nk_code ?_
              refine wc_ret ?_
              try dsimp only
              exact fin1 rfl (rv_tmp rfl) (fun w' hw => ⟨by rw [rightB_no (rt_high hi' (by have := of_decide_eq_true h5; omega))], hw.all (new_cons (newKey hb) new_nil)⟩)
            · refine wl_q rfl rfl rfl (qt_p tbok rfl) ?_
              refine wl_done ?_
              refine nk_code ?_
              refine wc_no rfl ?_
              refine wc_skip ?_
              refine nk_code ?_
              refine wc_seq ?_
              refine wc_region ?_
              refine wl_q rfl rfl rfl (qt_p tbok rfl) ?_
              refine wl_done ?_
              refine nk_code ?_
              refine wc_block ?_
              refine wc_loop (ι := Nat) (fun j => j ≤ i ∧ ∀ m, m < j → kid (el K m) ≠ kid (el K i)) (fun j => [(4, .c (.i64 (j : Int))), (3, .c (.i64 (i : Int))), (1, .c (.ptr (.at b 0)))]) (fun j => [⟨.at b 0, [.i64 n, .slc (.at pr po) K.length pc], 68, (0, 0), []⟩]) (fun j => i - j) 0 ⟨Nat.zero_le _, fun m hm => absurd hm (Nat.not_lt_zero _)⟩ (nk_start ⟨rfl, rfl, rfl, trivial⟩ (fun w hw => hw)) (fun j ⟨hj, hN⟩ => ?_)
              refine wc_seq ?_
              refine wc_seq ?_
              refine wc_region ?_
              refine wl_q rfl rfl rfl (qt_p tbok rfl) ?_
              refine wl_q rfl rfl rfl (qt_p tbok rfl) ?_
              refine wl_q rfl rfl rfl (qt_p tbok rfl) ?_
              refine wl_done ?_
              refine nk_code ?_
              refine wc_cond rfl (fun h47 => ?_) (fun h47 => ?_)
              · have hj' : j < i := (by have h0 := of_decide_eq_true h47; omega)
                have hjl : j < K.length := Nat.lt_trans hj' hi'
                refine wc_skip ?_
                refine nk_code ?_
                refine wc_seq ?_
                refine wc_block ?_
                refine wc_seq ?_
                refine wc_quiet follows (by kernel_rfl) ?_
                refine wq_q rfl rfl rfl (qt_p tbok rfl) ?_
                first | refine wq_q rfl rfl rfl (qt_l tbok rfl rfl rfl) ?_ | refine wq_q rfl rfl rfl (qt_la tbok rfl rfl rfl) ?_
                refine wq_q rfl rfl rfl (qt_p tbok rfl) ?_
                refine wq_q rfl rfl rfl (qt_p tbok rfl) ?_
                refine wq_q rfl rfl rfl (qt_load_ag (l := kr (el K j)) tbok rfl rfl rfl (hK.row _ (el_mem hjl)) (hrs.part (k := j * 33) (rows_at hK.row hjl) (by omega))) ?_
                refine wq_call (.agg (bc (kid (el K j)))) (by kernel_rfl) rfl rfl (fun w1 h1 => id2_c (hK _ (el_mem hjl))) ?_
                refine wq_q rfl rfl rfl (qt_p tbok rfl) ?_
                first | refine wq_q rfl rfl rfl (qt_l tbok rfl rfl rfl) ?_ | refine wq_q rfl rfl rfl (qt_la tbok rfl rfl rfl) ?_
                refine wq_q rfl rfl rfl (qt_p tbok rfl) ?_
                refine wq_q rfl rfl rfl (qt_p tbok rfl) ?_
                refine wq_q rfl rfl rfl (qt_load_ag (l := kr (el K i)) tbok rfl rfl rfl hgl (hrs.part (k := i * 33) (rows_at hK.row hi') (by omega))) ?_
                refine wq_call (.agg (bc (kid (el K i)))) (by kernel_rfl) rfl rfl (fun w1 h1 => id2_c hgk) ?_
                refine wq_q rfl rfl rfl (qt_eq_bytes eq22 ng22 rfl rfl (sha_len _) (sha_len _)) ?_
                refine wq_done ?_
                refine wl_done ?_
                refine nk_code ?_
                refine wc_cond rfl (fun h62 => ?_) (fun h62 => ?_)
                · refine wc_seq ?_
                  refine wc_region ?_
                  refine wl_q rfl rfl rfl (qt_p tbok rfl) ?_
                  refine wl_done ?_
                  refine nk_code ?_
                  refine wc_ret ?_
                  try dsimp only
                  exact fin1 rfl (rv_tmp rfl) (fun w' hw => ⟨by rw [rightB_no (rt_twice hi' hj' (of_decide_eq_true h62))], hw.all (new_cons (newKey hb) new_nil)⟩)
                · refine wc_skip ?_
                  refine nk_code ?_
                  refine wc_region ?_
                  refine wl_q rfl rfl rfl (qt_p tbok rfl) ?_
                  refine wl_q rfl rfl rfl (qt_p tbok rfl) ?_
                  refine wl_q rfl rfl rfl (qt_p tbok rfl) ?_
                  refine wl_done ?_
                  exact nk_round (i := j) (j + 1) ⟨hj', fun m hm => (by by_cases e : m = j; (subst e; exact of_decide_eq_false h62); exact hN m (by omega))⟩ (by show i - (j + 1) < i - j; omega) ⟨rfl, rfl, rfl, trivial⟩ (fun w hw => hw)
              · have he : j = i := (by have h0 := of_decide_eq_false h47; omega)
                subst he
                refine wc_exit rfl ?_
                refine nk_code ?_
                refine wc_region ?_
                refine wl_q rfl rfl rfl (qt_p tbok rfl) ?_
                refine wl_q rfl rfl rfl (qt_p tbok rfl) ?_
                refine wl_q rfl rfl rfl (qt_p tbok rfl) ?_
                refine wl_done ?_
                exact nk_round (i := j) (j + 1) ⟨hi', ok2_next hL hi' (by have h4' := of_decide_eq_false h4; have h5' := of_decide_eq_false h5; omega) hN⟩ (by show K.length - (j + 1) < K.length - j; omega) ⟨rfl, rfl, trivial⟩ (fun w hw => hw)
        · have he : i = K.length := (by have h0 := of_decide_eq_false h26; omega)
          subst he
          refine wc_exit rfl ?_
          refine nk_code ?_
          refine wc_seq ?_
          refine wc_region ?_
          refine wl_q rfl rfl rfl (qt_p tbok rfl) ?_
          refine wl_done ?_
          refine nk_code ?_
          refine wc_ret ?_
          try dsimp only
          exact fin1 rfl (rv_tmp rfl) (fun w' hw => ⟨by rw [ok2_all (n := n) hL (by omega) (by omega) (by omega)], hw.all (new_cons (newKey hb) new_nil)⟩)
end Go.Proofs.Ytjhmcmadleabjaa

set_option maxRecDepth 100000
namespace Go.Proofs.Ytjhmcmadleabjaa
open Go Go.Hw Go.Proofs

/-! ### Marks -/
structure Mk where
  id : List UInt8
  ix : Int
  ch : List (List UInt8)
  pt : List (List UInt8)
instance mk_inh : Inhabited Mk := ⟨⟨[], 0, [], []⟩⟩
instance ad_inh : Inhabited Ad := ⟨.nil⟩
def Mk.ok (m : Mk) : Prop := m.id.length = 32 ∧ A32 m.ch ∧ m.ch.length = 67 ∧ A32 m.pt ∧ m.pt.length ≤ 1073741824
/-- A mark's cells, its path elsewhere. -/
def mrow (p : Mk × Os) : List C := bc p.1.id ++ scs p.1.ix p.1.ch.flatten p.2.1 p.1.pt.length p.2.2.1
def Mk.lies (w : World) (p : Mk × Os) : Prop := Cells w p.2.1 (bc p.1.pt.flatten) ∧ p.1.pt.length ≤ p.2.2.1
theorem Mk.ok.fl {m : Mk} (h : m.ok) : m.ch.flatten.length = 2144 := by rw [flat_len h.2.1, h.2.2.1]
theorem mrow_len {p : Mk × Os} (h : p.1.ok) : (mrow p).length = 2178 := by
  unfold mrow; rw [List.length_append, bc_len, scs_len h.fl, h.1]
theorem mrow_sig {p : Mk × Os} (h : p.1.ok) : ∀ (j : Nat) c, (scs p.1.ix p.1.ch.flatten p.2.1 p.1.pt.length p.2.2.1)[j]? = some c → (mrow p)[32 + j]? = some c := fun j c hj => by
  unfold mrow
  rw [List.getElem?_append_right (by rw [bc_len, h.1]; omega), bc_len, h.1, Nat.add_sub_cancel_left]; exact hj
theorem mrow_id {p : Mk × Os} : ∀ (j : Nat) c, (bc p.1.id)[j]? = some c → (mrow p)[0 + j]? = some c := fun j c hj => by
  unfold mrow
  rw [Nat.zero_add, List.getElem?_append_left (List.getElem?_eq_some_iff.1 hj).1]; exact hj
theorem mrows_len {M : List (Mk × Os)} (h : ∀ p ∈ M, p.1.ok) : ∀ p ∈ M, (mrow p).length = 2178 := fun p hp => mrow_len (h p hp)
def z2178 : List C := bc (List.replicate 32 0) ++ z38
theorem zero84 : zeroIs Try.prog 84 (.agg z2178) := by unfold zeroIs; kernel_rfl
theorem zero147 : zeroIs Try.prog 147 (.agg z2178) := by unfold zeroIs; kernel_rfl
theorem z2178_len : z2178.length = 2178 := by unfold z2178; rw [List.length_append, z38_len, bc_len, List.length_replicate]

theorem mfill {id : List UInt8} {s : List C} (hi : id.length = 32) (hs : s.length = 2146) : fillS (placeF [(30, 0, 32), (38, 32, 2146)]) z2178 [(0, .agg (bc id)), (1, .agg s)] = some (bc id ++ s) := by
  have h1 : (bc id).length = 32 := by rw [bc_len, hi]
  refine fillS_cons (off := 0) (z := 32) (cs' := bc id ++ z38) rfl rfl h1 (by rw [z2178_len]; decide) (spl_at (A := []) (B := bc (List.replicate 32 0)) (D := z38) rfl (by show (bc id).length = _; rw [h1]; rfl)) ?_
  refine fillS_cons (off := 32) (z := 2146) (cs' := bc id ++ s) rfl rfl hs (by rw [List.length_append, h1, z38_len]; decide) ?_ rfl
  have := spl_at (A := bc id) (B := z38) (D := []) (l := s) (off := 32) h1.symm (by rw [hs, z38_len])
  rw [List.append_nil, List.append_nil] at this
  exact this

/-! ### How many keys signed -/
def Mk.sg (k : Int × List UInt8) (msg : List UInt8) (m : Mk) : Bool := decide (m.id = kid k) && verB k.1 k.2 msg m.ix m.ch m.pt
def sgd (k : Int × List UInt8) (msg : List UInt8) (M : List Mk) : Bool := M.any (Mk.sg k msg)
def cntK (K : List (Int × List UInt8)) (msg : List UInt8) (M : List Mk) : Nat := (K.filter fun k => sgd k msg M).length
theorem cntK_le (K : List (Int × List UInt8)) (msg : List UInt8) (M : List Mk) : cntK K msg M ≤ K.length := List.length_filter_le _ _
theorem cntK_nil (msg : List UInt8) (M : List Mk) : cntK [] msg M = 0 := rfl
theorem cntK_snoc {K : List (Int × List UInt8)} {i : Nat} (h : i < K.length) (msg : List UInt8) (M : List Mk) : cntK (K.take (i + 1)) msg M = cntK (K.take i) msg M + if sgd (el K i) msg M then 1 else 0 := by
  unfold cntK
  rw [el_take h, List.filter_append, List.length_append]
  by_cases h2 : sgd (el K i) msg M = true
  · simp [h2]
  · simp [h2]
theorem sgd_yes {M : List (Mk × Os)} {j : Nat} {k : Int × List UInt8} {msg : List UInt8} (hj : j < M.length) (h : (el M j).1.sg k msg = true) : sgd k msg (M.map (·.1)) = true :=
  List.any_eq_true.2 ⟨_, List.mem_map_of_mem (f := fun p : Mk × Os => p.1) (el_mem hj), h⟩
theorem sgd_no {M : List (Mk × Os)} {k : Int × List UInt8} {msg : List UInt8} (h : ∀ j, j < M.length → (el M j).1.sg k msg = false) : sgd k msg (M.map (·.1)) = false := by
  rw [Bool.eq_false_iff]
  intro h2
  obtain ⟨m, hm, hs⟩ := List.any_eq_true.1 h2
  obtain ⟨p, hp, rfl⟩ := List.mem_map.1 hm
  obtain ⟨j, hj⟩ := List.getElem?_of_mem hp
  have hjl := (List.getElem?_eq_some_iff.1 hj).1
  rw [el_get hjl] at hj
  have := h j hjl
  rw [Option.some.inj hj] at this
  rw [this] at hs; cases hs
theorem sg_yes {k : Int × List UInt8} {msg : List UInt8} {m : Mk} (h1 : decide (m.id = kid k) = true) (h2 : verB k.1 k.2 msg m.ix m.ch m.pt = true) : m.sg k msg = true := by unfold Mk.sg; rw [h1, h2]; rfl
theorem sg_no {k : Int × List UInt8} {msg : List UInt8} {m : Mk} (h1 : decide (m.id = kid k) = true) (h2 : verB k.1 k.2 msg m.ix m.ch m.pt = false) : m.sg k msg = false := by unfold Mk.sg; rw [h1, h2]; rfl
theorem sg_no' {k : Int × List UInt8} {msg : List UInt8} {m : Mk} (h1 : decide (m.id = kid k) = false) : m.sg k msg = false := by unfold Mk.sg; rw [h1]; rfl
theorem cnt_eq {a b : Nat} (h : b = a + 1) : some (V.c (C.i64 ((a : Int) + 1))) = some (V.c (C.i64 (b : Nat))) := by rw [h]; rfl
theorem cnt_eq0 {a b : Nat} (h : b = a) : some (V.c (C.i64 (a : Nat))) = some (V.c (C.i64 (b : Nat))) := by rw [h]
def meetsB (n : Int) (K : List (Int × List UInt8)) (msg : List UInt8) (M : List Mk) : Bool := rightB n K && decide (n ≤ (cntK K msg M : Int))

theorem count_c {w : World} {n : Int} {K : List (Int × List UInt8)} {M : List (Mk × Os)} {msg : List UInt8} {pa ma la : Ad} {pc mc lc : Nat} (hK : K32 K) (hKl : K.length ≤ 1073741824) (hc : Cells w pa (K.flatMap kr)) (hm : Cells w ma (bc msg)) (hmax : msg.length ≤ 1073741000)
    (hM : ∀ p ∈ M, p.1.ok) (hMl : M.length ≤ 1073741824) (hl : Cells w la (M.flatMap mrow)) (hp : ∀ p ∈ M, Mk.lies w p) :
    CallsV Try.prog 36 [.agg [.i64 n, .slc pa K.length pc], .c (.slc ma msg.length mc), .c (.slc la M.length lc)] w fun en w' => en = .returned (V.c (.i64 (cntK K msg (M.map (·.1)) : Nat))).den ∧ St w [] w' := by
  refine calls_in (tb := tb) (fn := Try.f36) Try.func36 rfl rfl rfl [(0, .agg [.i64 n, .slc pa K.length pc]), (1, .c (.slc ma msg.length mc)), (2, .c (.slc la M.length lc))] rfl [] (St.refl _) ?_
  refine wc_seq ?_
  refine wc_region ?_
  refine wl_ef rfl (ef_box rfl rfl rfl (fun b hb => ?_))
  refine wl_q rfl rfl rfl (qt_p tbok rfl) ?_
  refine wl_done ?_
  refine nk_code ?_
  refine wc_seq ?_
  refine wc_region ?_
  refine wl_q rfl rfl rfl (qt_p tbok rfl) ?_
  refine wl_done ?_
  refine nk_code ?_
  refine wc_seq ?_
  refine wc_seq ?_
  refine wc_region ?_
  refine wl_q rfl rfl rfl (qt_p tbok rfl) ?_
  first | refine wl_q rfl rfl rfl (qt_l tbok rfl rfl rfl) ?_ | refine wl_q rfl rfl rfl (qt_la tbok rfl rfl rfl) ?_
  refine wl_q rfl rfl rfl (qt_len tbok rfl rfl) ?_
  refine wl_q rfl rfl rfl (qt_p tbok rfl) ?_
  refine wl_done ?_
  refine nk_code ?_
  refine wc_block ?_
  refine wc_loop (ι := Nat) (fun i => i ≤ K.length) (fun i => [(16, .c (.i64 (i : Int))), (15, .c (.i64 (K.length : Int))), (14, .c (.slc pa K.length pc)), (7, .c (.i64 (cntK (K.take i) msg (M.map (·.1)) : Nat))), (1, .c (.slc ma msg.length mc)), (2, .c (.slc la M.length lc)), (3, .c (.ptr (.at b 0)))]) (fun i => [⟨.at b 0, [.i64 n, .slc pa K.length pc], 72, (0, 0), []⟩]) (fun i => K.length - i) 0 (Nat.zero_le _) (nk_start ⟨rfl, rfl, rfl, rfl, rfl, rfl, rfl, trivial⟩ (fun w hw => hw)) (fun i hi => ?_)
  refine wc_seq ?_
  refine wc_region ?_
  refine wl_q rfl rfl rfl (qt_p tbok rfl) ?_
  refine wl_done ?_
  refine nk_code ?_
  refine wc_seq ?_
  refine wc_cond rfl (fun h17 => ?_) (fun h17 => ?_)
  · have hi' : i < K.length := (by have h0 := of_decide_eq_true h17; omega)
    have hgl := hK.row _ (el_mem hi')
    have hgk := hK _ (el_mem hi')
    have hcl := cntK_le (K.take i) msg (M.map (·.1))
    rw [List.length_take] at hcl
    obtain ⟨pr, po, hpa⟩ := cells_nn hc (by rw [rows_len hK.row]; omega)
    subst hpa
    refine wc_skip ?_
    refine nk_code ?_
    refine wc_seq ?_
    refine wc_block ?_
    refine wc_seq ?_
    refine wc_region ?_
    refine wl_q rfl rfl rfl (qt_p tbok rfl) ?_
    refine wl_q rfl rfl rfl (qt_load_ag (l := kr (el K i)) tbok rfl rfl rfl hgl (rs_cells (hc.sub2 (m := i * 33) (rows_at hK.row hi')) (off_new (newKey hb) off_nil))) ?_
    refine wl_ef rfl (ef_alloc zero32 rfl rfl (fun x9 h9 => ?_))
    refine wl_ef rfl (ef_store (cs' := kr (el K i)) tbok rfl rfl rfl rfl .here hgl (Nat.le_of_ble_eq_true rfl) (spl_all hgl) ?_)
    refine wl_done ?_
    refine nk_code ?_
    refine wc_seq ?_
    refine wc_region ?_
    refine wl_q rfl rfl rfl (qt_load_ag (l := kr (el K i)) tbok rfl rfl rfl hgl (rs_lk .here at0)) ?_
    refine wl_ef rfl (ef_pure (v := .agg (bc (kid (el K i)))) (by kernel_rfl) rfl rfl (fun w1 h1 => id_c hgk) ?_)
    refine wl_ef rfl (ef_alloc zero30 rfl rfl (fun x10 h10 => ?_))
    refine wl_ef rfl (ef_store (cs' := bc (kid (el K i))) tbok rfl rfl rfl rfl .here rfl (Nat.le_of_ble_eq_true rfl) (spl_all rfl) ?_)
    refine wl_done ?_
    refine nk_code ?_
    refine wc_seq ?_
    refine wc_region ?_
    refine wl_q rfl rfl rfl (qt_p tbok rfl) ?_
    refine wl_q rfl rfl rfl (qt_len tbok rfl rfl) ?_
    refine wl_q rfl rfl rfl (qt_p tbok rfl) ?_
    refine wl_done ?_
    refine nk_code ?_
    refine wc_block ?_
    refine wc_loop (ι := Nat) (fun j => j ≤ M.length ∧ ∀ m, m < j → (el M m).1.sg (el K i) msg = false) (fun j => [(24, .c (.i64 (j : Int))), (23, .c (.i64 (M.length : Int))), (22, .c (.slc la M.length lc)), (10, .c (.ptr (.at x10 0))), (9, .c (.ptr (.at x9 0))), (16, .c (.i64 (i : Int))), (15, .c (.i64 (K.length : Int))), (14, .c (.slc (.at pr po) K.length pc)), (7, .c (.i64 (cntK (K.take i) msg (M.map (·.1)) : Nat))), (1, .c (.slc ma msg.length mc)), (2, .c (.slc la M.length lc)), (3, .c (.ptr (.at b 0)))]) (fun j => [⟨.at x10 0, bc (kid (el K i)), 30, (0, 0), []⟩, ⟨.at x9 0, kr (el K i), 32, (0, 0), []⟩, ⟨.at b 0, [.i64 n, .slc (.at pr po) K.length pc], 72, (0, 0), []⟩]) (fun j => M.length - j) 0 ⟨Nat.zero_le _, fun m hm => absurd hm (Nat.not_lt_zero _)⟩ (nk_start ⟨rfl, rfl, rfl, rfl, rfl, rfl, rfl, rfl, rfl, rfl, rfl, rfl, trivial⟩ (fun w hw => hw)) (fun j ⟨hj, hN⟩ => ?_)
    refine wc_seq ?_
    refine wc_region ?_
    refine wl_q rfl rfl rfl (qt_p tbok rfl) ?_
    refine wl_done ?_
    refine nk_code ?_
    refine wc_seq ?_
    refine wc_cond rfl (fun h25 => ?_) (fun h25 => ?_)
    · have hj' : j < M.length := (by have h0 := of_decide_eq_true h25; omega)
      have hok := hM _ (el_mem hj')
      have hml := mrow_len hok
      have hfl := hok.fl
      have hpl := hp _ (el_mem hj')
      obtain ⟨lr, lo, hla⟩ := cells_nn hl (by rw [rows_len (mrows_len hM)]; omega)
      subst hla
      refine wc_skip ?_
      refine nk_code ?_
      refine wc_seq ?_
      refine wc_block ?_
      refine wc_seq ?_
      refine wc_region ?_
      refine wl_q rfl rfl rfl (qt_p tbok rfl) ?_
      refine wl_q rfl rfl rfl (qt_load_ag (l := mrow (el M j)) tbok rfl rfl rfl hml (rs_cells (hl.sub2 (m := j * 2178) (rows_at (mrows_len hM) hj')) (off_new (newKey h10) (off_new (newKey h9) (off_new (newKey hb) off_nil))))) ?_
      refine wl_ef rfl (ef_alloc zero84 rfl rfl (fun x12 h12 => ?_))
      refine wl_ef rfl (ef_store (cs' := mrow (el M j)) tbok rfl rfl rfl rfl .here hml (by show 0 + 2178 ≤ z2178.length; rw [z2178_len]; decide) (spl_all (by show (mrow _).length = z2178.length; rw [hml, z2178_len])) ?_)
      refine wl_done ?_
      refine nk_code ?_
      refine wc_seq ?_
      refine wc_region ?_
      refine wl_q rfl rfl rfl (qt_p tbok rfl) ?_
      refine wl_q rfl rfl rfl (qt_load_ag (l := bc (el M j).1.id) tbok rfl rfl rfl (by rw [bc_len]; exact hok.1) (rs_lk .here mrow_id)) ?_
      refine wl_q rfl rfl rfl (qt_load_ag (l := bc (kid (el K i))) tbok rfl rfl rfl rfl (rs_lk (.there .here) at0)) ?_
      refine wl_q rfl rfl rfl (qt_eq_bytes eq30 ng30 rfl rfl hok.1 (sha_len _)) ?_
      refine wl_bool (fun hq => ?_) (fun hq => ?_)
      · refine wl_q rfl rfl rfl (qt_p tbok rfl) ?_
        refine wl_g rfl rfl rfl rfl (qt_load_ag (l := kr (el K i)) tbok rfl rfl rfl hgl (rs_lk (.there (.there .here)) at0)) ?_
        first | refine wl_g rfl rfl rfl rfl (qt_p tbok rfl) ?_ | refine wl_skip rfl rfl rfl rfl rfl ?_
        first | refine wl_g rfl rfl rfl rfl (qt_p tbok rfl) ?_ | refine wl_skip rfl rfl rfl rfl rfl ?_
        refine wl_g rfl rfl rfl rfl (qt_load_ag (l := scs (el M j).1.ix (el M j).1.ch.flatten (el M j).2.1 (el M j).1.pt.length (el M j).2.2.1) tbok rfl rfl rfl (scs_len hfl) (rs_lk .here (mrow_sig hok))) ?_
        refine wl_gd rfl rfl (ef_pure (v := .c (.bool (verB (el K i).1 (el K i).2 msg (el M j).1.ix (el M j).1.ch (el M j).1.pt))) (by kernel_rfl) rfl rfl (fun w1 h1 => ver16_c hgk hok.2.1 hok.2.2.1 hok.2.2.2.1 hpl.2 (cells_rd (rd_cells hpl.1 (off_new (newKey h12) (off_new (newKey h10) (off_new (newKey h9) (off_new (newKey hb) off_nil))))) h1) (cells_rd (rd_cells hm (off_new (newKey h12) (off_new (newKey h10) (off_new (newKey h9) (off_new (newKey hb) off_nil))))) h1) hmax) ?_)
        refine wl_q rfl rfl rfl (qt_p tbok rfl) ?_
        refine wl_done ?_
        refine nk_code ?_
        refine wc_cond rfl (fun h38 => ?_) (fun h38 => ?_)
        · refine wc_seq ?_
          refine wc_region ?_
          refine wl_q rfl rfl rfl (qt_p tbok rfl) ?_
          refine wl_q rfl rfl rfl (qt_p tbok rfl) ?_
          refine wl_q rfl rfl rfl (qt_p tbok rfl) ?_
          refine wl_done ?_
          refine nk_code ?_
          refine wc_exit rfl ?_
          refine nk_code ?_
          refine wc_region ?_
          refine wl_q rfl rfl rfl (qt_p tbok rfl) ?_
          refine wl_q rfl rfl rfl (qt_p tbok rfl) ?_
          refine wl_done ?_
          exact nk_round (i := i) (i + 1) hi' (by show K.length - (i + 1) < K.length - i; omega) ⟨rfl, rfl, rfl, cnt_eq (by rw [cntK_snoc hi', sgd_yes hj' (sg_yes hq h38), if_pos rfl]), rfl, rfl, rfl, trivial⟩ (fun w hw => Rm.sub_St (Rm.sub_St (Rm.sub_St hw .here (newKey h12)) .here (newKey h10)) .here (newKey h9))
        · refine wc_skip ?_
          refine nk_code ?_
          refine wc_region ?_
          refine wl_q rfl rfl rfl (qt_p tbok rfl) ?_
          refine wl_q rfl rfl rfl (qt_p tbok rfl) ?_
          refine wl_done ?_
          exact nk_round (i := j) (j + 1) ⟨hj', fun m hm => (by by_cases e : m = j; (subst e; exact sg_no hq h38); exact hN m (by omega))⟩ (by show M.length - (j + 1) < M.length - j; omega) ⟨rfl, rfl, rfl, rfl, rfl, rfl, rfl, rfl, rfl, rfl, rfl, rfl, trivial⟩ (fun w hw => hw.tail (newKey h12))
      · refine wl_q rfl rfl rfl (qt_p tbok rfl) ?_
        first | refine wl_g rfl rfl rfl rfl (qt_l tbok rfl rfl rfl) ?_ | refine wl_g rfl rfl rfl rfl (qt_la tbok rfl rfl rfl) ?_ | refine wl_skip rfl rfl rfl rfl rfl ?_
        first | refine wl_g rfl rfl rfl rfl (qt_p tbok rfl) ?_ | refine wl_skip rfl rfl rfl rfl rfl ?_
        first | refine wl_g rfl rfl rfl rfl (qt_p tbok rfl) ?_ | refine wl_skip rfl rfl rfl rfl rfl ?_
        first | refine wl_g rfl rfl rfl rfl (qt_l tbok rfl rfl rfl) ?_ | refine wl_g rfl rfl rfl rfl (qt_la tbok rfl rfl rfl) ?_ | refine wl_skip rfl rfl rfl rfl rfl ?_
        first | refine wl_g rfl rfl rfl rfl (qt_len tbok rfl rfl) ?_ | refine wl_skip rfl rfl rfl rfl rfl ?_
        refine wl_q rfl rfl rfl (qt_p tbok rfl) ?_
        refine wl_done ?_
        refine nk_code ?_
        refine wc_no rfl ?_
        refine wc_skip ?_
        refine nk_code ?_
        refine wc_region ?_
        refine wl_q rfl rfl rfl (qt_p tbok rfl) ?_
        refine wl_q rfl rfl rfl (qt_p tbok rfl) ?_
        refine wl_done ?_
        exact nk_round (i := j) (j + 1) ⟨hj', fun m hm => (by by_cases e : m = j; (subst e; exact sg_no' hq); exact hN m (by omega))⟩ (by show M.length - (j + 1) < M.length - j; omega) ⟨rfl, rfl, rfl, rfl, rfl, rfl, rfl, rfl, rfl, rfl, rfl, rfl, trivial⟩ (fun w hw => hw.tail (newKey h12))
    · have he : j = M.length := (by have h0 := of_decide_eq_false h25; omega)
      subst he
      refine wc_exit rfl ?_
      refine nk_code ?_
      refine wc_region ?_
      refine wl_q rfl rfl rfl (qt_p tbok rfl) ?_
      refine wl_q rfl rfl rfl (qt_p tbok rfl) ?_
      refine wl_done ?_
      exact nk_round (i := i) (i + 1) hi' (by show K.length - (i + 1) < K.length - i; omega) ⟨rfl, rfl, rfl, cnt_eq0 (by rw [cntK_snoc hi', sgd_no hN, if_neg (by decide)]; rfl), rfl, rfl, rfl, trivial⟩ (fun w hw => Rm.sub_St (Rm.sub_St hw .here (newKey h10)) .here (newKey h9))
  · have he : i = K.length := (by have h0 := of_decide_eq_false h17; omega)
    subst he
    rw [List.take_length]
    refine wc_exit rfl ?_
    refine nk_code ?_
    refine wc_seq ?_
    refine wc_region ?_
    refine wl_q rfl rfl rfl (qt_p tbok rfl) ?_
    refine wl_q rfl rfl rfl (qt_p tbok rfl) ?_
    refine wl_done ?_
    refine nk_code ?_
    refine wc_ret ?_
    try dsimp only
    exact fin1 rfl (rv_tmp rfl) (fun w' hw => ⟨rfl, hw.all (new_cons (newKey hb) new_nil)⟩)
end Go.Proofs.Ytjhmcmadleabjaa

set_option maxRecDepth 100000
namespace Go.Proofs.Ytjhmcmadleabjaa
open Go Go.Hw Go.Proofs

theorem signed_c {w : World} {k : Int × List UInt8} {M : List (Mk × Os)} {msg : List UInt8} {ma la : Ad} {mc lc : Nat} (hk : k.2.length = 32) (hm : Cells w ma (bc msg)) (hmax : msg.length ≤ 1073741000)
    (hM : ∀ p ∈ M, p.1.ok) (hMl : M.length ≤ 1073741824) (hl : Cells w la (M.flatMap mrow)) (hp : ∀ p ∈ M, Mk.lies w p) :
    CallsV Try.prog 80 [.agg (kr k), .c (.slc ma msg.length mc), .c (.slc la M.length lc)] w fun en w' => en = .returned (V.c (.bool (sgd k msg (M.map (·.1))))).den ∧ St w [] w' := by
  have hgl := kr_len hk
  refine calls_in (tb := tb) (fn := Try.f80) Try.func80 rfl rfl rfl [(0, .agg (kr k)), (1, .c (.slc ma msg.length mc)), (2, .c (.slc la M.length lc))] rfl [] (St.refl _) ?_
  refine wc_seq ?_
  refine wc_region ?_
  refine wl_ef rfl (ef_box rfl rfl rfl (fun b hb => ?_))
  refine wl_q rfl rfl rfl (qt_p tbok rfl) ?_
  refine wl_done ?_
  refine nk_code ?_
  refine wc_seq ?_
  refine wc_seq ?_
  refine wc_region ?_
  refine wl_q rfl rfl rfl (qt_p tbok rfl) ?_
  refine wl_done ?_
  refine nk_code ?_
  refine wc_block ?_
  refine wc_loop (ι := Nat) (fun j => j ≤ M.length ∧ ∀ m, m < j → (el M m).1.sg k msg = false) (fun j => [(7, .c (.i64 (j : Int))), (1, .c (.slc ma msg.length mc)), (2, .c (.slc la M.length lc)), (3, .c (.ptr (.at b 0)))]) (fun j => [⟨.at b 0, kr k, 24, (0, 0), []⟩]) (fun j => M.length - j) 0 ⟨Nat.zero_le _, fun m hm => absurd hm (Nat.not_lt_zero _)⟩ (nk_start ⟨rfl, rfl, rfl, rfl, trivial⟩ (fun w hw => hw)) (fun j ⟨hj, hN⟩ => ?_)
  refine wc_seq ?_
  refine wc_seq ?_
  refine wc_region ?_
  refine wl_q rfl rfl rfl (qt_p tbok rfl) ?_
  refine wl_q rfl rfl rfl (qt_p tbok rfl) ?_
  refine wl_q rfl rfl rfl (qt_len tbok rfl rfl) ?_
  refine wl_q rfl rfl rfl (qt_p tbok rfl) ?_
  refine wl_done ?_
  refine nk_code ?_
  refine wc_cond rfl (fun h11 => ?_) (fun h11 => ?_)
  · have hj' : j < M.length := (by have h0 := of_decide_eq_true h11; omega)
    have hok := hM _ (el_mem hj')
    have hfl := hok.fl
    have hpl := hp _ (el_mem hj')
    have hra := rows_at (mrows_len hM) hj'
    obtain ⟨lr, lo, hla⟩ := cells_nn hl (by rw [rows_len (mrows_len hM)]; omega)
    subst hla
    have hrs := rs_cells hl (off_new (newKey hb) off_nil : Off w _ [⟨.at b 0, kr k, 24, (0, 0), []⟩])
    refine wc_skip ?_
    refine nk_code ?_
    refine wc_seq ?_
    refine wc_block ?_
    refine wc_seq ?_
    refine wc_quiet follows (by kernel_rfl) ?_
    refine wq_q rfl rfl rfl (qt_p tbok rfl) ?_
    refine wq_q rfl rfl rfl (qt_p tbok rfl) ?_
    refine wq_q rfl rfl rfl (qt_p tbok rfl) ?_
    refine wq_q rfl rfl rfl (qt_p tbok rfl) ?_
    refine wq_q rfl rfl rfl (qt_load_ag (l := bc (el M j).1.id) tbok rfl rfl rfl (by rw [bc_len]; exact hok.1) (hrs.part (k := j * 2178) (fun a c h => hra a c (by have := mrow_id a c h; rwa [Nat.zero_add] at this)) (by omega))) ?_
    refine wq_q rfl rfl rfl (qt_load_ag (l := kr k) tbok rfl rfl rfl hgl (rs_lk .here at0)) ?_
    refine wq_call (.agg (bc (kid k))) (by kernel_rfl) rfl rfl (fun w1 h1 => id2_c hk) ?_
    refine wq_q rfl rfl rfl (qt_eq_bytes eq22 ng22 rfl rfl hok.1 (sha_len _)) ?_
    refine wq_bool (fun hq => ?_) (fun hq => ?_)
    · refine wq_q rfl rfl rfl (qt_p tbok rfl) ?_
      refine wq_gd rfl rfl rfl rfl (qt_load_ag (l := kr k) tbok rfl rfl rfl hgl (rs_lk .here at0)) ?_
      first | refine wq_gd rfl rfl rfl rfl (qt_p tbok rfl) ?_ | refine wq_skip rfl rfl rfl rfl rfl ?_
      first | refine wq_gd rfl rfl rfl rfl (qt_p tbok rfl) ?_ | refine wq_skip rfl rfl rfl rfl rfl ?_
      first | refine wq_gd rfl rfl rfl rfl (qt_p tbok rfl) ?_ | refine wq_skip rfl rfl rfl rfl rfl ?_
      first | refine wq_gd rfl rfl rfl rfl (qt_p tbok rfl) ?_ | refine wq_skip rfl rfl rfl rfl rfl ?_
      first | refine wq_gd rfl rfl rfl rfl (qt_p tbok rfl) ?_ | refine wq_skip rfl rfl rfl rfl rfl ?_
      refine wq_gd rfl rfl rfl rfl (qt_load_ag (l := scs (el M j).1.ix (el M j).1.ch.flatten (el M j).2.1 (el M j).1.pt.length (el M j).2.2.1) tbok rfl rfl rfl (scs_len hfl) (hrs.part (k := j * 2178 + 32) (fun a c h => by have := hra (32 + a) c (mrow_sig hok a c h); rwa [← Nat.add_assoc] at this) (by omega))) ?_
      refine wq_callg (.c (.bool (verB k.1 k.2 msg (el M j).1.ix (el M j).1.ch (el M j).1.pt))) rfl (by kernel_rfl) rfl rfl (fun w1 h1 => ver18_c hk hok.2.1 hok.2.2.1 hok.2.2.2.1 hpl.2 (cells_rd (rd_cells hpl.1 (off_new (newKey hb) off_nil)) h1) (cells_rd (rd_cells hm (off_new (newKey hb) off_nil)) h1) hmax) ?_
      refine wq_q rfl rfl rfl (qt_p tbok rfl) ?_
      refine wq_done ?_
      refine wl_done ?_
      refine nk_code ?_
      refine wc_cond rfl (fun h31 => ?_) (fun h31 => ?_)
      · refine wc_seq ?_
        refine wc_region ?_
        refine wl_q rfl rfl rfl (qt_p tbok rfl) ?_
        refine wl_done ?_
        refine nk_code ?_
        refine wc_ret ?_
        try dsimp only
        exact fin1 rfl (rv_tmp rfl) (fun w' hw => ⟨by rw [sgd_yes hj' (sg_yes hq h31)], hw.all (new_cons (newKey hb) new_nil)⟩)
      · refine wc_skip ?_
        refine nk_code ?_
        refine wc_region ?_
        refine wl_q rfl rfl rfl (qt_p tbok rfl) ?_
        refine wl_q rfl rfl rfl (qt_p tbok rfl) ?_
        refine wl_q rfl rfl rfl (qt_p tbok rfl) ?_
        refine wl_done ?_
        exact nk_round (i := j) (j + 1) ⟨hj', fun m hm => (by by_cases e : m = j; (subst e; exact sg_no hq h31); exact hN m (by omega))⟩ (by show M.length - (j + 1) < M.length - j; omega) ⟨rfl, rfl, rfl, rfl, trivial⟩ (fun w hw => hw)
    · refine wq_q rfl rfl rfl (qt_p tbok rfl) ?_
      first | refine wq_gd rfl rfl rfl rfl (qt_l tbok rfl rfl rfl) ?_ | refine wq_gd rfl rfl rfl rfl (qt_la tbok rfl rfl rfl) ?_ | refine wq_skip rfl rfl rfl rfl rfl ?_
      first | refine wq_gd rfl rfl rfl rfl (qt_p tbok rfl) ?_ | refine wq_skip rfl rfl rfl rfl rfl ?_
      first | refine wq_gd rfl rfl rfl rfl (qt_p tbok rfl) ?_ | refine wq_skip rfl rfl rfl rfl rfl ?_
      first | refine wq_gd rfl rfl rfl rfl (qt_p tbok rfl) ?_ | refine wq_skip rfl rfl rfl rfl rfl ?_
      first | refine wq_gd rfl rfl rfl rfl (qt_p tbok rfl) ?_ | refine wq_skip rfl rfl rfl rfl rfl ?_
      first | refine wq_gd rfl rfl rfl rfl (qt_p tbok rfl) ?_ | refine wq_skip rfl rfl rfl rfl rfl ?_
      first | refine wq_gd rfl rfl rfl rfl (qt_l tbok rfl rfl rfl) ?_ | refine wq_gd rfl rfl rfl rfl (qt_la tbok rfl rfl rfl) ?_ | refine wq_skip rfl rfl rfl rfl rfl ?_
      first | refine wq_gd rfl rfl rfl rfl (qt_len tbok rfl rfl) ?_ | refine wq_skip rfl rfl rfl rfl rfl ?_
      refine wq_q rfl rfl rfl (qt_p tbok rfl) ?_
      refine wq_done ?_
      refine wl_done ?_
      refine nk_code ?_
      refine wc_no rfl ?_
      refine wc_skip ?_
      refine nk_code ?_
      refine wc_region ?_
      refine wl_q rfl rfl rfl (qt_p tbok rfl) ?_
      refine wl_q rfl rfl rfl (qt_p tbok rfl) ?_
      refine wl_q rfl rfl rfl (qt_p tbok rfl) ?_
      refine wl_done ?_
      exact nk_round (i := j) (j + 1) ⟨hj', fun m hm => (by by_cases e : m = j; (subst e; exact sg_no' hq); exact hN m (by omega))⟩ (by show M.length - (j + 1) < M.length - j; omega) ⟨rfl, rfl, rfl, rfl, trivial⟩ (fun w hw => hw)
  · have he : j = M.length := (by have h0 := of_decide_eq_false h11; omega)
    subst he
    refine wc_exit rfl ?_
    refine nk_code ?_
    refine wc_seq ?_
    refine wc_region ?_
    refine wl_q rfl rfl rfl (qt_p tbok rfl) ?_
    refine wl_done ?_
    refine nk_code ?_
    refine wc_ret ?_
    try dsimp only
    exact fin1 rfl (rv_tmp rfl) (fun w' hw => ⟨by rw [sgd_no hN], hw.all (new_cons (newKey hb) new_nil)⟩)

theorem count2_c {w : World} {n : Int} {K : List (Int × List UInt8)} {M : List (Mk × Os)} {msg : List UInt8} {pa ma la : Ad} {pc mc lc : Nat} (hK : K32 K) (hKl : K.length ≤ 1073741824) (hc : Cells w pa (K.flatMap kr)) (hm : Cells w ma (bc msg)) (hmax : msg.length ≤ 1073741000)
    (hM : ∀ p ∈ M, p.1.ok) (hMl : M.length ≤ 1073741824) (hl : Cells w la (M.flatMap mrow)) (hp : ∀ p ∈ M, Mk.lies w p) :
    CallsV Try.prog 38 [.agg [.i64 n, .slc pa K.length pc], .c (.slc ma msg.length mc), .c (.slc la M.length lc)] w fun en w' => en = .returned (V.c (.i64 (cntK K msg (M.map (·.1)) : Nat))).den ∧ St w [] w' := by
  refine calls_in (tb := tb) (fn := Try.f38) Try.func38 rfl rfl rfl [(0, .agg [.i64 n, .slc pa K.length pc]), (1, .c (.slc ma msg.length mc)), (2, .c (.slc la M.length lc))] rfl [] (St.refl _) ?_
  refine wc_seq ?_
  refine wc_region ?_
  refine wl_ef rfl (ef_box rfl rfl rfl (fun b hb => ?_))
  refine wl_q rfl rfl rfl (qt_p tbok rfl) ?_
  refine wl_done ?_
  refine nk_code ?_
  refine wc_seq ?_
  refine wc_region ?_
  refine wl_q rfl rfl rfl (qt_p tbok rfl) ?_
  refine wl_done ?_
  refine nk_code ?_
  refine wc_seq ?_
  refine wc_seq ?_
  refine wc_region ?_
  refine wl_q rfl rfl rfl (qt_p tbok rfl) ?_
  refine wl_done ?_
  refine nk_code ?_
  refine wc_block ?_
  refine wc_loop (ι := Nat) (fun i => i ≤ K.length) (fun i => [(8, .c (.i64 (i : Int))), (7, .c (.i64 (cntK (K.take i) msg (M.map (·.1)) : Nat))), (1, .c (.slc ma msg.length mc)), (2, .c (.slc la M.length lc)), (3, .c (.ptr (.at b 0)))]) (fun i => [⟨.at b 0, [.i64 n, .slc pa K.length pc], 68, (0, 0), []⟩]) (fun i => K.length - i) 0 (Nat.zero_le _) (nk_start ⟨rfl, rfl, rfl, rfl, rfl, trivial⟩ (fun w hw => hw)) (fun i hi => ?_)
  refine wc_seq ?_
  refine wc_seq ?_
  refine wc_region ?_
  refine wl_q rfl rfl rfl (qt_p tbok rfl) ?_
  refine wl_q rfl rfl rfl (qt_p tbok rfl) ?_
  first | refine wl_q rfl rfl rfl (qt_l tbok rfl rfl rfl) ?_ | refine wl_q rfl rfl rfl (qt_la tbok rfl rfl rfl) ?_
  refine wl_q rfl rfl rfl (qt_len tbok rfl rfl) ?_
  refine wl_q rfl rfl rfl (qt_p tbok rfl) ?_
  refine wl_done ?_
  refine nk_code ?_
  refine wc_cond rfl (fun h13 => ?_) (fun h13 => ?_)
  · have hi' : i < K.length := (by have h0 := of_decide_eq_true h13; omega)
    have hgl := hK.row _ (el_mem hi')
    have hgk := hK _ (el_mem hi')
    have hcl := cntK_le (K.take i) msg (M.map (·.1))
    rw [List.length_take] at hcl
    obtain ⟨pr, po, hpa⟩ := cells_nn hc (by rw [rows_len hK.row]; omega)
    subst hpa
    refine wc_skip ?_
    refine nk_code ?_
    refine wc_seq ?_
    refine wc_block ?_
    refine wc_seq ?_
    refine wc_region ?_
    refine wl_q rfl rfl rfl (qt_p tbok rfl) ?_
    first | refine wl_q rfl rfl rfl (qt_l tbok rfl rfl rfl) ?_ | refine wl_q rfl rfl rfl (qt_la tbok rfl rfl rfl) ?_
    refine wl_q rfl rfl rfl (qt_p tbok rfl) ?_
    refine wl_q rfl rfl rfl (qt_p tbok rfl) ?_
    refine wl_q rfl rfl rfl (qt_load_ag (l := kr (el K i)) tbok rfl rfl rfl hgl (rs_cells (hc.sub2 (m := i * 33) (rows_at hK.row hi')) (off_new (newKey hb) off_nil))) ?_
    refine wl_q rfl rfl rfl (qt_p tbok rfl) ?_
    refine wl_q rfl rfl rfl (qt_p tbok rfl) ?_
    refine wl_ef rfl (ef_pure (v := .c (.bool (sgd (el K i) msg (M.map (·.1))))) (by kernel_rfl) rfl rfl (fun w1 h1 => signed_c hgk (cells_rd (rd_cells hm (off_new (newKey hb) off_nil)) h1) hmax hM hMl (cells_rd (rd_cells hl (off_new (newKey hb) off_nil)) h1) (fun p hpm => ⟨cells_rd (rd_cells (hp p hpm).1 (off_new (newKey hb) off_nil)) h1, (hp p hpm).2⟩)) ?_)
    refine wl_done ?_
    refine nk_code ?_
    refine wc_cond rfl (fun h23 => ?_) (fun h23 => ?_)
    · refine wc_region ?_
      refine wl_q rfl rfl rfl (qt_p tbok rfl) ?_
      refine wl_q rfl rfl rfl (qt_p tbok rfl) ?_
      refine wl_q rfl rfl rfl (qt_p tbok rfl) ?_
      refine wl_done ?_
      refine nk_code ?_
      refine wc_region ?_
      refine wl_q rfl rfl rfl (qt_p tbok rfl) ?_
      refine wl_q rfl rfl rfl (qt_p tbok rfl) ?_
      refine wl_q rfl rfl rfl (qt_p tbok rfl) ?_
      refine wl_done ?_
      exact nk_round (i := i) (i + 1) hi' (by show K.length - (i + 1) < K.length - i; omega) ⟨rfl, cnt_eq (by rw [cntK_snoc hi', h23, if_pos rfl]), rfl, rfl, rfl, trivial⟩ (fun w hw => hw)
    · refine wc_skip ?_
      refine nk_code ?_
      refine wc_region ?_
      refine wl_q rfl rfl rfl (qt_p tbok rfl) ?_
      refine wl_q rfl rfl rfl (qt_p tbok rfl) ?_
      refine wl_q rfl rfl rfl (qt_p tbok rfl) ?_
      refine wl_done ?_
      exact nk_round (i := i) (i + 1) hi' (by show K.length - (i + 1) < K.length - i; omega) ⟨rfl, cnt_eq0 (by rw [cntK_snoc hi', h23, if_neg (by decide)]; rfl), rfl, rfl, rfl, trivial⟩ (fun w hw => hw)
  · have he : i = K.length := (by have h0 := of_decide_eq_false h13; omega)
    subst he
    rw [List.take_length]
    refine wc_exit rfl ?_
    refine nk_code ?_
    refine wc_seq ?_
    refine wc_region ?_
    refine wl_q rfl rfl rfl (qt_p tbok rfl) ?_
    refine wl_q rfl rfl rfl (qt_p tbok rfl) ?_
    refine wl_done ?_
    refine nk_code ?_
    refine wc_ret ?_
    try dsimp only
    exact fin1 rfl (rv_tmp rfl) (fun w' hw => ⟨rfl, hw.all (new_cons (newKey hb) new_nil)⟩)

theorem meets_c {w : World} {n : Int} {K : List (Int × List UInt8)} {M : List (Mk × Os)} {msg : List UInt8} {pa ma la : Ad} {pc mc lc : Nat} (hK : K32 K) (hKl : K.length ≤ 1073741824) (hc : Cells w pa (K.flatMap kr)) (hm : Cells w ma (bc msg)) (hmax : msg.length ≤ 1073741000)
    (hM : ∀ p ∈ M, p.1.ok) (hMl : M.length ≤ 1073741824) (hl : Cells w la (M.flatMap mrow)) (hp : ∀ p ∈ M, Mk.lies w p) :
    CallsV Try.prog 39 [.agg [.i64 n, .slc pa K.length pc], .c (.slc ma msg.length mc), .c (.slc la M.length lc)] w fun en w' => en = .returned (V.c (.bool (meetsB n K msg (M.map (·.1))))).den ∧ St w [] w' := by
  refine calls_in (tb := tb) (fn := Try.f39) Try.func39 rfl rfl rfl [(0, .agg [.i64 n, .slc pa K.length pc]), (1, .c (.slc ma msg.length mc)), (2, .c (.slc la M.length lc))] rfl [] (St.refl _) ?_
  refine wc_seq ?_
  refine wc_region ?_
  refine wl_ef rfl (ef_box rfl rfl rfl (fun b hb => ?_))
  refine wl_q rfl rfl rfl (qt_p tbok rfl) ?_
  refine wl_done ?_
  refine nk_code ?_
  refine wc_seq ?_
  refine wc_quiet follows (by kernel_rfl) ?_
  refine wq_q rfl rfl rfl (qt_load_ag (l := [.i64 n, .slc pa K.length pc]) tbok rfl rfl rfl rfl (rs_lk .here at0)) ?_
  refine wq_call (.c (.bool (rightB n K))) (by kernel_rfl) rfl rfl (fun w1 h1 => right_c hK (cells_rd (rd_cells hc (off_new (newKey hb) off_nil)) h1)) ?_
  refine wq_bool (fun hq => ?_) (fun hq => ?_)
  · refine wq_q rfl rfl rfl (qt_p tbok rfl) ?_
    refine wq_gd rfl rfl rfl rfl (qt_load_ag (l := [.i64 n, .slc pa K.length pc]) tbok rfl rfl rfl rfl (rs_lk .here at0)) ?_
    first | refine wq_gd rfl rfl rfl rfl (qt_p tbok rfl) ?_ | refine wq_skip rfl rfl rfl rfl rfl ?_
    first | refine wq_gd rfl rfl rfl rfl (qt_p tbok rfl) ?_ | refine wq_skip rfl rfl rfl rfl rfl ?_
    refine wq_callg (.c (.i64 (cntK K msg (M.map (·.1)) : Nat))) rfl (by kernel_rfl) rfl rfl (fun w1 h1 => count_c hK hKl (cells_rd (rd_cells hc (off_new (newKey hb) off_nil)) h1) (cells_rd (rd_cells hm (off_new (newKey hb) off_nil)) h1) hmax hM hMl (cells_rd (rd_cells hl (off_new (newKey hb) off_nil)) h1) (fun p hpm => ⟨cells_rd (rd_cells (hp p hpm).1 (off_new (newKey hb) off_nil)) h1, (hp p hpm).2⟩)) ?_
    first | refine wq_gd rfl rfl rfl rfl (qt_p tbok rfl) ?_ | refine wq_skip rfl rfl rfl rfl rfl ?_
    first | refine wq_gd rfl rfl rfl rfl (qt_l tbok rfl rfl rfl) ?_ | refine wq_gd rfl rfl rfl rfl (qt_la tbok rfl rfl rfl) ?_ | refine wq_skip rfl rfl rfl rfl rfl ?_
    first | refine wq_gd rfl rfl rfl rfl (qt_p tbok rfl) ?_ | refine wq_skip rfl rfl rfl rfl rfl ?_
    refine wq_q rfl rfl rfl (qt_p tbok rfl) ?_
    refine wq_q rfl rfl rfl (qt_p tbok rfl) ?_
    refine wq_done ?_
    refine wl_done ?_
    refine nk_code ?_
    refine wc_ret ?_
    try dsimp only
    exact fin1 rfl (rv_tmp rfl) (fun w' hw => ⟨by unfold meetsB; rw [hq]; rfl, hw.all (new_cons (newKey hb) new_nil)⟩)
  · refine wq_q rfl rfl rfl (qt_p tbok rfl) ?_
    first | refine wq_gd rfl rfl rfl rfl (qt_l tbok rfl rfl rfl) ?_ | refine wq_gd rfl rfl rfl rfl (qt_la tbok rfl rfl rfl) ?_ | refine wq_skip rfl rfl rfl rfl rfl ?_
    first | refine wq_gd rfl rfl rfl rfl (qt_p tbok rfl) ?_ | refine wq_skip rfl rfl rfl rfl rfl ?_
    first | refine wq_gd rfl rfl rfl rfl (qt_p tbok rfl) ?_ | refine wq_skip rfl rfl rfl rfl rfl ?_
    first | refine wq_gd rfl rfl rfl rfl (qt_len tbok rfl rfl) ?_ | refine wq_skip rfl rfl rfl rfl rfl ?_
    first | refine wq_gd rfl rfl rfl rfl (qt_p tbok rfl) ?_ | refine wq_skip rfl rfl rfl rfl rfl ?_
    first | refine wq_gd rfl rfl rfl rfl (qt_l tbok rfl rfl rfl) ?_ | refine wq_gd rfl rfl rfl rfl (qt_la tbok rfl rfl rfl) ?_ | refine wq_skip rfl rfl rfl rfl rfl ?_
    first | refine wq_gd rfl rfl rfl rfl (qt_p tbok rfl) ?_ | refine wq_skip rfl rfl rfl rfl rfl ?_
    refine wq_q rfl rfl rfl (qt_p tbok rfl) ?_
    refine wq_q rfl rfl rfl (qt_p tbok rfl) ?_
    refine wq_done ?_
    refine wl_done ?_
    refine nk_code ?_
    refine wc_ret ?_
    try dsimp only
    exact fin1 rfl (rv_tmp rfl) (fun w' hw => ⟨by unfold meetsB; rw [hq]; rfl, hw.all (new_cons (newKey hb) new_nil)⟩)
theorem meets2_c {w : World} {n : Int} {K : List (Int × List UInt8)} {M : List (Mk × Os)} {msg : List UInt8} {pa ma la : Ad} {pc mc lc : Nat} (hK : K32 K) (hKl : K.length ≤ 1073741824) (hc : Cells w pa (K.flatMap kr)) (hm : Cells w ma (bc msg)) (hmax : msg.length ≤ 1073741000)
    (hM : ∀ p ∈ M, p.1.ok) (hMl : M.length ≤ 1073741824) (hl : Cells w la (M.flatMap mrow)) (hp : ∀ p ∈ M, Mk.lies w p) :
    CallsV Try.prog 40 [.agg [.i64 n, .slc pa K.length pc], .c (.slc ma msg.length mc), .c (.slc la M.length lc)] w fun en w' => en = .returned (V.c (.bool (meetsB n K msg (M.map (·.1))))).den ∧ St w [] w' := by
  refine calls_in (tb := tb) (fn := Try.f40) Try.func40 rfl rfl rfl [(0, .agg [.i64 n, .slc pa K.length pc]), (1, .c (.slc ma msg.length mc)), (2, .c (.slc la M.length lc))] rfl [] (St.refl _) ?_
  refine wc_seq ?_
  refine wc_region ?_
  refine wl_ef rfl (ef_box rfl rfl rfl (fun b hb => ?_))
  refine wl_q rfl rfl rfl (qt_p tbok rfl) ?_
  refine wl_done ?_
  refine nk_code ?_
  refine wc_seq ?_
  refine wc_quiet follows (by kernel_rfl) ?_
  refine wq_q rfl rfl rfl (qt_load_ag (l := [.i64 n, .slc pa K.length pc]) tbok rfl rfl rfl rfl (rs_lk .here at0)) ?_
  refine wq_call (.c (.bool (rightB n K))) (by kernel_rfl) rfl rfl (fun w1 h1 => right2_c hK (cells_rd (rd_cells hc (off_new (newKey hb) off_nil)) h1)) ?_
  refine wq_bool (fun hq => ?_) (fun hq => ?_)
  · refine wq_q rfl rfl rfl (qt_p tbok rfl) ?_
    refine wq_gd rfl rfl rfl rfl (qt_load_ag (l := [.i64 n, .slc pa K.length pc]) tbok rfl rfl rfl rfl (rs_lk .here at0)) ?_
    first | refine wq_gd rfl rfl rfl rfl (qt_p tbok rfl) ?_ | refine wq_skip rfl rfl rfl rfl rfl ?_
    first | refine wq_gd rfl rfl rfl rfl (qt_p tbok rfl) ?_ | refine wq_skip rfl rfl rfl rfl rfl ?_
    refine wq_callg (.c (.i64 (cntK K msg (M.map (·.1)) : Nat))) rfl (by kernel_rfl) rfl rfl (fun w1 h1 => count2_c hK hKl (cells_rd (rd_cells hc (off_new (newKey hb) off_nil)) h1) (cells_rd (rd_cells hm (off_new (newKey hb) off_nil)) h1) hmax hM hMl (cells_rd (rd_cells hl (off_new (newKey hb) off_nil)) h1) (fun p hpm => ⟨cells_rd (rd_cells (hp p hpm).1 (off_new (newKey hb) off_nil)) h1, (hp p hpm).2⟩)) ?_
    first | refine wq_gd rfl rfl rfl rfl (qt_p tbok rfl) ?_ | refine wq_skip rfl rfl rfl rfl rfl ?_
    first | refine wq_gd rfl rfl rfl rfl (qt_l tbok rfl rfl rfl) ?_ | refine wq_gd rfl rfl rfl rfl (qt_la tbok rfl rfl rfl) ?_ | refine wq_skip rfl rfl rfl rfl rfl ?_
    first | refine wq_gd rfl rfl rfl rfl (qt_p tbok rfl) ?_ | refine wq_skip rfl rfl rfl rfl rfl ?_
    refine wq_q rfl rfl rfl (qt_p tbok rfl) ?_
    refine wq_q rfl rfl rfl (qt_p tbok rfl) ?_
    refine wq_done ?_
    refine wl_done ?_
    refine nk_code ?_
    refine wc_ret ?_
    try dsimp only
    exact fin1 rfl (rv_tmp rfl) (fun w' hw => ⟨by unfold meetsB; rw [hq]; rfl, hw.all (new_cons (newKey hb) new_nil)⟩)
  · refine wq_q rfl rfl rfl (qt_p tbok rfl) ?_
    first | refine wq_gd rfl rfl rfl rfl (qt_l tbok rfl rfl rfl) ?_ | refine wq_gd rfl rfl rfl rfl (qt_la tbok rfl rfl rfl) ?_ | refine wq_skip rfl rfl rfl rfl rfl ?_
    first | refine wq_gd rfl rfl rfl rfl (qt_p tbok rfl) ?_ | refine wq_skip rfl rfl rfl rfl rfl ?_
    first | refine wq_gd rfl rfl rfl rfl (qt_p tbok rfl) ?_ | refine wq_skip rfl rfl rfl rfl rfl ?_
    first | refine wq_gd rfl rfl rfl rfl (qt_len tbok rfl rfl) ?_ | refine wq_skip rfl rfl rfl rfl rfl ?_
    first | refine wq_gd rfl rfl rfl rfl (qt_p tbok rfl) ?_ | refine wq_skip rfl rfl rfl rfl rfl ?_
    first | refine wq_gd rfl rfl rfl rfl (qt_l tbok rfl rfl rfl) ?_ | refine wq_gd rfl rfl rfl rfl (qt_la tbok rfl rfl rfl) ?_ | refine wq_skip rfl rfl rfl rfl rfl ?_
    first | refine wq_gd rfl rfl rfl rfl (qt_p tbok rfl) ?_ | refine wq_skip rfl rfl rfl rfl rfl ?_
    refine wq_q rfl rfl rfl (qt_p tbok rfl) ?_
    refine wq_q rfl rfl rfl (qt_p tbok rfl) ?_
    refine wq_done ?_
    refine wl_done ?_
    refine nk_code ?_
    refine wc_ret ?_
    try dsimp only
    exact fin1 rfl (rv_tmp rfl) (fun w' hw => ⟨by unfold meetsB; rw [hq]; rfl, hw.all (new_cons (newKey hb) new_nil)⟩)
end Go.Proofs.Ytjhmcmadleabjaa
