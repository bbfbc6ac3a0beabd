/- digest.Sum is SHA-256 of any bytes (up to 2^59 of them), and leaves what was there. -/
import Derived.Test.YtjhmcmadleabjaaFrameB
import Derived.Test.YtjhmcmadleabjaaProg
set_option linter.unusedVariables false
namespace Go.Proofs.Ytjhmcmadleabjaa
open Go Go.Hw Go.Proofs
def tb : Tb := [
  (3, .int .i64, 1),
  (4, .bool, 1),
  (5, .int .u8, 1),
  (9, .str, 1),
  (22, .arr 32 5 1, 32),
  (24, .struct [(3, 0, 1), (22, 1, 32)], 33),
  (25, .slice 5 1, 1),
  (26, .arr 67 22 32, 2144),
  (27, .slice 22 32, 1),
  (29, .struct [(3, 0, 1), (26, 1, 2144), (27, 2145, 1)], 2146),
  (30, .arr 32 5 1, 32),
  (32, .struct [(3, 0, 1), (30, 1, 32)], 33),
  (35, .arr 67 30 32, 2144),
  (36, .slice 30 32, 1),
  (38, .struct [(3, 0, 1), (35, 1, 2144), (36, 2145, 1)], 2146),
  (44, .slice 53 2, 1),
  (45, .int .u64, 1),
  (46, .ptr 135, 1),
  (47, .int .i64, 1),
  (53, .struct [(3, 0, 1), (25, 1, 1)], 2),
  (66, .slice 24 33, 1),
  (68, .struct [(3, 0, 1), (66, 1, 1)], 2),
  (70, .slice 32 33, 1),
  (72, .struct [(3, 0, 1), (70, 1, 1)], 2),
  (75, .slice 147 2178, 1),
  (77, .slice 84 2178, 1),
  (82, .slice 3 1, 1),
  (84, .struct [(30, 0, 32), (38, 32, 2146)], 2178),
  (88, .struct [(3, 0, 1), (3, 1, 1), (68, 2, 2), (68, 4, 2), (68, 6, 2)], 8),
  (92, .struct [(3, 0, 1), (3, 1, 1), (72, 2, 2), (72, 4, 2), (72, 6, 2)], 8),
  (105, .slice 109 9, 1),
  (107, .ptr 164, 1),
  (109, .struct [(88, 0, 8), (75, 8, 1)], 9),
  (114, .slice 118 4, 1),
  (118, .struct [(25, 0, 1), (75, 1, 1), (3, 2, 1), (4, 3, 1)], 4),
  (124, .int .u32, 1),
  (135, .struct [(30, 0, 32), (3, 32, 1), (36, 33, 1), (3, 34, 1)], 35),
  (147, .struct [(22, 0, 32), (29, 32, 2146)], 2178),
  (150, .int .u64, 1),
  (151, .slice 72 2, 1),
  (156, .ptr 72, 1),
  (157, .slice 156 1, 1),
  (164, .struct [(92, 0, 8)], 8),
  (167, .arr 67 5 1, 67),
  (179, .ptr 205, 1),
  (184, .arr 8 124 1, 8),
  (186, .struct [(184, 0, 8), (150, 8, 1), (25, 9, 1)], 10),
  (201, .struct [(124, 0, 1), (5, 1, 1), (5, 2, 1)], 3),
  (203, .arr 64 5 1, 64),
  (205, .struct [(184, 0, 8), (150, 8, 1), (203, 9, 64)], 73),
  (206, .arr 64 124 1, 64),
  (216, .slice 124 1, 1)]
theorem tbok : TbOk Try.prog tb := ⟨by kernel_rfl⟩
theorem follows : Try.prog.follows .mixedOrders = true := by kernel_rfl
end Go.Proofs.Ytjhmcmadleabjaa

set_option maxRecDepth 100000
namespace Go.Proofs.Ytjhmcmadleabjaa
open Go Go.Hw Go.Proofs

theorem and31 : ∀ n : Fin 32, 0 < n.val → UInt64.ofInt (0 - (n.val : Int)) &&& UInt64.ofNat (Int.toNat 31) = UInt64.ofNat (32 - n.val) := by decide

def rotr (x : UInt32) (n : Nat) : UInt32 := (x <<< UInt32.ofNat (32 - n)) ||| (x >>> UInt32.ofNat n)

theorem rotl_c (x : UInt32) (n : Nat) (w : World) (h1 : 1 ≤ n) (h2 : n ≤ 31) : CallsV Try.prog 135 [.c (.u32 x), .c (.i64 (0 - (n : Int)))] w fun en w' => en = .returned (V.c (.u32 (rotr x n))).den ∧ St w [] w' := by
  have ha := and31 ⟨n, by omega⟩ h1
  simp only at ha
  have n1 : (UInt64.ofNat (32 - n)).toNat = 32 - n := by simp; omega
  have n2 : (UInt64.ofNat (Int.toNat 32) - UInt64.ofNat (32 - n)).toNat = n := by
    rw [UInt64.toNat_sub, n1]
    have : (UInt64.ofNat (Int.toNat 32)).toNat = 32 := rfl
    rw [this]; omega
  refine calls_in (tb := tb) (fn := Try.f135) Try.func135 rfl rfl rfl [(0, .c (.u32 x)), (1, .c (.i64 (0 - (n : Int))))] rfl [] (St.refl _) ?_
  repeat (first | refine wl_ef rfl (ef_q rfl rfl (qt_pure tbok rfl trivial) ?_) | refine wl_done (nk_code ?_) | refine wc_seq (wc_region ?_) | refine wl_gd rfl rfl (ef_q rfl rfl (qt_pure tbok rfl trivial) ?_) | refine wl_skip rfl rfl rfl rfl rfl ?_ | refine wc_seq (wc_yes rfl ?_) | refine wc_seq (wc_no rfl ?_) | refine wc_yes rfl ?_ | refine wc_no rfl ?_ | refine wc_seq (wc_block ?_) | refine wc_block ?_ | refine wc_region ?_ | refine wc_skip (nk_code ?_) | refine wc_exit rfl (nk_code ?_) | refine wc_seq ?_ | refine wl_ef rfl (ef_q rfl rfl (qt_load tbok rfl rfl rfl (rc_lk .here rfl)) ?_) | refine wl_ef rfl (ef_q rfl rfl (qt_load tbok rfl rfl rfl (rc_lk (.there .here) rfl)) ?_) | refine wl_ef rfl (ef_q rfl rfl (qt_load tbok rfl rfl rfl (rc_lk (.there (.there .here)) rfl)) ?_) | refine wl_ef rfl (ef_q rfl rfl (qt_pure tbok rfl (by first | omega | (refine ⟨?_, ?_⟩ <;> omega) | (refine ⟨?_, ?_, ?_⟩ <;> omega))) ?_) | refine wl_gd rfl rfl (ef_q rfl rfl (qt_pure tbok rfl (by first | omega | (refine ⟨?_, ?_⟩ <;> omega) | (refine ⟨?_, ?_, ?_⟩ <;> omega))) ?_) | refine wl_ef rfl (ef_q rfl rfl (qt_len tbok rfl rfl) ?_))
  rw [ha]
  repeat (first | refine wl_ef rfl (ef_q rfl rfl (qt_pure tbok rfl trivial) ?_) | refine wl_done (nk_code ?_) | refine wc_seq (wc_region ?_) | refine wl_gd rfl rfl (ef_q rfl rfl (qt_pure tbok rfl trivial) ?_) | refine wl_skip rfl rfl rfl rfl rfl ?_ | refine wc_seq (wc_yes rfl ?_) | refine wc_seq (wc_no rfl ?_) | refine wc_yes rfl ?_ | refine wc_no rfl ?_ | refine wc_seq (wc_block ?_) | refine wc_block ?_ | refine wc_region ?_ | refine wc_skip (nk_code ?_) | refine wc_exit rfl (nk_code ?_) | refine wc_seq ?_ | refine wl_ef rfl (ef_q rfl rfl (qt_load tbok rfl rfl rfl (rc_lk .here rfl)) ?_) | refine wl_ef rfl (ef_q rfl rfl (qt_load tbok rfl rfl rfl (rc_lk (.there .here) rfl)) ?_) | refine wl_ef rfl (ef_q rfl rfl (qt_load tbok rfl rfl rfl (rc_lk (.there (.there .here)) rfl)) ?_) | refine wl_ef rfl (ef_q rfl rfl (qt_pure tbok rfl (by first | omega | (refine ⟨?_, ?_⟩ <;> omega) | (refine ⟨?_, ?_, ?_⟩ <;> omega))) ?_) | refine wl_gd rfl rfl (ef_q rfl rfl (qt_pure tbok rfl (by first | omega | (refine ⟨?_, ?_⟩ <;> omega) | (refine ⟨?_, ?_, ?_⟩ <;> omega))) ?_) | refine wl_ef rfl (ef_q rfl rfl (qt_len tbok rfl rfl) ?_))
  simp only [n1, n2, Int.toNat_natCast]
  refine wc_ret (fin1 rfl (rv_tmp rfl) (fun w' hw => ⟨rfl, hw⟩))

theorem rot_c (x : UInt32) (n : Nat) (w : World) (h1 : 1 ≤ n) (h2 : n ≤ 31) : CallsV Try.prog 129 [.c (.u32 x), .c (.i64 (n : Int))] w fun en w' => en = .returned (V.c (.u32 (rotr x n))).den ∧ St w [] w' := by
  have ha : ((((n : Int).toNat &&& (31 : Int).toNat : Nat)) : Int) = (n : Int) := by
    have : ∀ n : Fin 32, (n.val &&& 31) = n.val := by decide
    have := this ⟨n, by omega⟩
    simp only [Int.toNat_natCast]
    exact congrArg _ this
  refine calls_in (tb := tb) (fn := Try.f129) Try.func129 rfl rfl rfl [(0, .c (.u32 x)), (1, .c (.i64 (n : Int)))] rfl [] (St.refl _) ?_
  repeat (first | refine wl_ef rfl (ef_q rfl rfl (qt_pure tbok rfl trivial) ?_) | refine wl_done (nk_code ?_) | refine wc_seq (wc_region ?_) | refine wl_gd rfl rfl (ef_q rfl rfl (qt_pure tbok rfl trivial) ?_) | refine wl_skip rfl rfl rfl rfl rfl ?_ | refine wc_seq (wc_yes rfl ?_) | refine wc_seq (wc_no rfl ?_) | refine wc_yes rfl ?_ | refine wc_no rfl ?_ | refine wc_seq (wc_block ?_) | refine wc_block ?_ | refine wc_region ?_ | refine wc_skip (nk_code ?_) | refine wc_exit rfl (nk_code ?_) | refine wc_seq ?_ | refine wl_ef rfl (ef_q rfl rfl (qt_load tbok rfl rfl rfl (rc_lk .here rfl)) ?_) | refine wl_ef rfl (ef_q rfl rfl (qt_load tbok rfl rfl rfl (rc_lk (.there .here) rfl)) ?_) | refine wl_ef rfl (ef_q rfl rfl (qt_load tbok rfl rfl rfl (rc_lk (.there (.there .here)) rfl)) ?_) | refine wl_ef rfl (ef_q rfl rfl (qt_pure tbok rfl (by first | omega | (refine ⟨?_, ?_⟩ <;> omega) | (refine ⟨?_, ?_, ?_⟩ <;> omega))) ?_) | refine wl_gd rfl rfl (ef_q rfl rfl (qt_pure tbok rfl (by first | omega | (refine ⟨?_, ?_⟩ <;> omega) | (refine ⟨?_, ?_, ?_⟩ <;> omega))) ?_) | refine wl_ef rfl (ef_q rfl rfl (qt_len tbok rfl rfl) ?_))
  rw [ha]
  refine wl_ef rfl (ef_pure (by kernel_rfl) rfl rfl (fun w hw => rotl_c x n w h1 h2) ?_)
  repeat (first | refine wl_ef rfl (ef_q rfl rfl (qt_pure tbok rfl trivial) ?_) | refine wl_done (nk_code ?_) | refine wc_seq (wc_region ?_) | refine wl_gd rfl rfl (ef_q rfl rfl (qt_pure tbok rfl trivial) ?_) | refine wl_skip rfl rfl rfl rfl rfl ?_ | refine wc_seq (wc_yes rfl ?_) | refine wc_seq (wc_no rfl ?_) | refine wc_yes rfl ?_ | refine wc_no rfl ?_ | refine wc_seq (wc_block ?_) | refine wc_block ?_ | refine wc_region ?_ | refine wc_skip (nk_code ?_) | refine wc_exit rfl (nk_code ?_) | refine wc_seq ?_ | refine wl_ef rfl (ef_q rfl rfl (qt_load tbok rfl rfl rfl (rc_lk .here rfl)) ?_) | refine wl_ef rfl (ef_q rfl rfl (qt_load tbok rfl rfl rfl (rc_lk (.there .here) rfl)) ?_) | refine wl_ef rfl (ef_q rfl rfl (qt_load tbok rfl rfl rfl (rc_lk (.there (.there .here)) rfl)) ?_) | refine wl_ef rfl (ef_q rfl rfl (qt_pure tbok rfl (by first | omega | (refine ⟨?_, ?_⟩ <;> omega) | (refine ⟨?_, ?_, ?_⟩ <;> omega))) ?_) | refine wl_gd rfl rfl (ef_q rfl rfl (qt_pure tbok rfl (by first | omega | (refine ⟨?_, ?_⟩ <;> omega) | (refine ⟨?_, ?_, ?_⟩ <;> omega))) ?_) | refine wl_ef rfl (ef_q rfl rfl (qt_len tbok rfl rfl) ?_))
  refine wc_ret (fin1 rfl (rv_tmp rfl) (fun w' hw => ⟨rfl, hw⟩))
end Go.Proofs.Ytjhmcmadleabjaa

set_option maxRecDepth 100000
namespace Go.Proofs.Ytjhmcmadleabjaa
open Go Go.Hw Go.Proofs

def K : List UInt32 := [
  1116352408, 1899447441, 3049323471, 3921009573, 961987163, 1508970993, 2453635748, 2870763221,
  3624381080, 310598401, 607225278, 1426881987, 1925078388, 2162078206, 2614888103, 3248222580,
  3835390401, 4022224774, 264347078, 604807628, 770255983, 1249150122, 1555081692, 1996064986,
  2554220882, 2821834349, 2952996808, 3210313671, 3336571891, 3584528711, 113926993, 338241895,
  666307205, 773529912, 1294757372, 1396182291, 1695183700, 1986661051, 2177026350, 2456956037,
  2730485921, 2820302411, 3259730800, 3345764771, 3516065817, 3600352804, 4094571909, 275423344,
  430227734, 506948616, 659060556, 883997877, 958139571, 1322822218, 1537002063, 1747873779,
  1955562222, 2024104815, 2227730452, 2361852424, 2428436474, 2756734187, 3204031479, 3329325298]

def z64 : List C := List.replicate 64 (.u32 0)
theorem zero206 : zeroIs Try.prog 206 (.agg z64) := by unfold zeroIs; kernel_rfl
def kvs : List (Nat × V) := K.zipIdx.map fun x => (x.2, .c (.u32 x.1))
theorem kfill : fillS (placeA 1) z64 kvs = some (K.map C.u32) := by kernel_rfl

theorem kLen : (V.agg (K.map C.u32)).cs.length = 64 := by kernel_rfl
theorem kLen' : (K.map C.u32).length = 64 := by kernel_rfl
theorem kspl : spl z64 0 (V.agg (K.map C.u32)).cs = K.map C.u32 := by kernel_rfl
theorem z64len : 0 + 64 ≤ (V.agg z64).cs.length := Nat.le_of_ble_eq_true (by kernel_rfl)

theorem rounds_c (w : World) : CallsV Try.prog 122 [] w fun en w' => en = .returned (V.agg (K.map C.u32)).den ∧ St w [] w' := by
  refine calls_in (tb := tb) (fn := Try.f122) Try.func122 rfl rfl rfl [] rfl [] (St.refl _) ?_
  refine wc_seq (wc_region ?_)
  refine wl_ef rfl (ef_alloc zero206 rfl rfl (fun r hr => ?_))
  refine wl_done (nk_code ?_)
  refine wc_seq (wc_region ?_)
  refine wl_ef rfl (ef_q rfl rfl (qt_build_arr (vs := kvs) (l := K.map C.u32) tbok rfl zero206 (by kernel_rfl) kfill) ?_)
  refine wl_ef rfl (ef_store (cs' := K.map C.u32) tbok rfl rfl rfl rfl .here kLen z64len kspl ?_)
  refine wl_done (nk_code ?_)
  refine wc_ret (fin1 rfl (rv_ag (l := K.map C.u32) tbok rfl rfl rfl kLen' (rs_lk .here fun i c h => by rw [Nat.zero_add]; exact h)) (fun w' hw => ⟨rfl, hw.tail (newKey hr)⟩))
end Go.Proofs.Ytjhmcmadleabjaa

set_option maxRecDepth 100000
namespace Go.Proofs.Ytjhmcmadleabjaa
open Go Go.Hw Go.Proofs

structure S8 where
  (a b c d e f g h : UInt32)
def S8.at (s : S8) : Nat → UInt32
  | 0 => s.a | 1 => s.b | 2 => s.c | 3 => s.d | 4 => s.e | 5 => s.f | 6 => s.g | _ => s.h
def S8.cs (s : S8) : List C := [.u32 s.a, .u32 s.b, .u32 s.c, .u32 s.d, .u32 s.e, .u32 s.f, .u32 s.g, .u32 s.h]
theorem S8.cs_get (s : S8) (i : Nat) (h : i < 8) : s.cs[i]? = some (.u32 (s.at i)) := by
  match i, h with
  | 0, _ | 1, _ | 2, _ | 3, _ | 4, _ | 5, _ | 6, _ | 7, _ => rfl
def H0 : S8 := ⟨1779033703, 3144134277, 1013904242, 2773480762, 1359893119, 2600822924, 528734635, 1541459225⟩

/-- The words of a block. -/
def wv (p : List UInt8) (i : Nat) : UInt32 :=
  if h : i < 16 then
    ((((p.getD (4 * i) 0).toUInt32 <<< 24) ||| ((p.getD (4 * i + 1) 0).toUInt32 <<< 16)) ||| ((p.getD (4 * i + 2) 0).toUInt32 <<< 8)) ||| (p.getD (4 * i + 3) 0).toUInt32
  else
    wv p (i - 16) + (rotr (wv p (i - 15)) 7 ^^^ rotr (wv p (i - 15)) 18 ^^^ (wv p (i - 15) >>> 3)) + wv p (i - 7) + (rotr (wv p (i - 2)) 17 ^^^ rotr (wv p (i - 2)) 19 ^^^ (wv p (i - 2) >>> 10))
  termination_by i

def rnd (k w : UInt32) (s : S8) : S8 :=
  let x := s.h + (rotr s.e 6 ^^^ rotr s.e 11 ^^^ rotr s.e 25) + ((s.e &&& s.f) ^^^ (s.g &&& ~~~s.e)) + k + w
  let y := (rotr s.a 2 ^^^ rotr s.a 13 ^^^ rotr s.a 22) + ((s.a &&& s.b) ^^^ (s.a &&& s.c) ^^^ (s.b &&& s.c))
  ⟨x + y, s.a, s.b, s.c, s.d + x, s.e, s.f, s.g⟩
def rnds (p : List UInt8) : Nat → S8 → S8
  | 0, s => s
  | n + 1, s => rnd (K.getD n 0) (wv p n) (rnds p n s)
def S8.add (s t : S8) : S8 := ⟨s.a + t.a, s.b + t.b, s.c + t.c, s.d + t.d, s.e + t.e, s.f + t.f, s.g + t.g, s.h + t.h⟩
/-- One block taken in. -/
def comp (s : S8) (p : List UInt8) : S8 := s.add (rnds p 64 s)

def z73 : List C := List.replicate 8 (.u32 0) ++ .u64 0 :: List.replicate 64 (.u8 0)
theorem zero205 : zeroIs Try.prog 205 (.agg z73) := by unfold zeroIs; kernel_rfl
theorem zero184 : zeroIs Try.prog 184 (.agg (List.replicate 8 (.u32 0))) := by unfold zeroIs; kernel_rfl
def st0 : List C := H0.cs ++ .u64 0 :: List.replicate 64 (.u8 0)
theorem h0fill : fillS (placeA 1) (List.replicate 8 (.u32 0)) [(0, .c (.u32 1779033703)), (1, .c (.u32 3144134277)), (2, .c (.u32 1013904242)), (3, .c (.u32 2773480762)), (4, .c (.u32 1359893119)), (5, .c (.u32 2600822924)), (6, .c (.u32 528734635)), (7, .c (.u32 1541459225))] = some H0.cs := by kernel_rfl
theorem st0fill : fillS (placeF [(184, 0, 8), (150, 8, 1), (203, 9, 64)]) z73 [(0, .agg H0.cs)] = some st0 := by kernel_rfl

theorem dnew_c (w : World) : CallsV Try.prog 103 [] w fun en w' => ∃ r : Nat, en = .returned (V.c (.ptr (.at r 0))).den ∧ True ∧ (∀ k, (⟨.at r 0, st0, 205, (0, 0), []⟩ : Blk).key = some k → w.heap.size ≤ k) ∧ St w [⟨.at r 0, st0, 205, (0, 0), []⟩] w' := by
  refine calls_in (tb := tb) (fn := Try.f103) Try.func103 rfl rfl rfl [] rfl [] (St.refl _) ?_
  repeat (first | refine wl_ef rfl (ef_q rfl rfl (qt_pure tbok rfl trivial) ?_) | refine wl_done (nk_code ?_) | refine wc_seq (wc_region ?_) | refine wl_gd rfl rfl (ef_q rfl rfl (qt_pure tbok rfl trivial) ?_) | refine wl_skip rfl rfl rfl rfl rfl ?_ | refine wc_seq (wc_yes rfl ?_) | refine wc_seq (wc_no rfl ?_) | refine wc_yes rfl ?_ | refine wc_no rfl ?_ | refine wc_seq (wc_block ?_) | refine wc_block ?_ | refine wc_region ?_ | refine wc_skip (nk_code ?_) | refine wc_exit rfl (nk_code ?_) | refine wc_seq ?_ | refine wl_ef rfl (ef_q rfl rfl (qt_load tbok rfl rfl rfl (rc_lk .here rfl)) ?_) | refine wl_ef rfl (ef_q rfl rfl (qt_load tbok rfl rfl rfl (rc_lk (.there .here) rfl)) ?_) | refine wl_ef rfl (ef_q rfl rfl (qt_load tbok rfl rfl rfl (rc_lk (.there (.there .here)) rfl)) ?_) | refine wl_ef rfl (ef_q rfl rfl (qt_pure tbok rfl (by first | omega | (refine ⟨?_, ?_⟩ <;> omega) | (refine ⟨?_, ?_, ?_⟩ <;> omega))) ?_) | refine wl_gd rfl rfl (ef_q rfl rfl (qt_pure tbok rfl (by first | omega | (refine ⟨?_, ?_⟩ <;> omega) | (refine ⟨?_, ?_, ?_⟩ <;> omega))) ?_) | refine wl_ef rfl (ef_q rfl rfl (qt_len tbok rfl rfl) ?_))
  refine wl_ef rfl (ef_q rfl rfl (qt_build_arr (l := H0.cs) tbok rfl zero184 rfl h0fill) ?_)
  refine wl_ef rfl (ef_q rfl rfl (qt_build (l := st0) tbok rfl zero205 rfl st0fill) ?_)
  refine wl_ef rfl (ef_box rfl rfl rfl (fun r hr => ?_))
  repeat (first | refine wl_ef rfl (ef_q rfl rfl (qt_pure tbok rfl trivial) ?_) | refine wl_done (nk_code ?_) | refine wc_seq (wc_region ?_) | refine wl_gd rfl rfl (ef_q rfl rfl (qt_pure tbok rfl trivial) ?_) | refine wl_skip rfl rfl rfl rfl rfl ?_ | refine wc_seq (wc_yes rfl ?_) | refine wc_seq (wc_no rfl ?_) | refine wc_yes rfl ?_ | refine wc_no rfl ?_ | refine wc_seq (wc_block ?_) | refine wc_block ?_ | refine wc_region ?_ | refine wc_skip (nk_code ?_) | refine wc_exit rfl (nk_code ?_) | refine wc_seq ?_ | refine wl_ef rfl (ef_q rfl rfl (qt_load tbok rfl rfl rfl (rc_lk .here rfl)) ?_) | refine wl_ef rfl (ef_q rfl rfl (qt_load tbok rfl rfl rfl (rc_lk (.there .here) rfl)) ?_) | refine wl_ef rfl (ef_q rfl rfl (qt_load tbok rfl rfl rfl (rc_lk (.there (.there .here)) rfl)) ?_) | refine wl_ef rfl (ef_q rfl rfl (qt_pure tbok rfl (by first | omega | (refine ⟨?_, ?_⟩ <;> omega) | (refine ⟨?_, ?_, ?_⟩ <;> omega))) ?_) | refine wl_gd rfl rfl (ef_q rfl rfl (qt_pure tbok rfl (by first | omega | (refine ⟨?_, ?_⟩ <;> omega) | (refine ⟨?_, ?_, ?_⟩ <;> omega))) ?_) | refine wl_ef rfl (ef_q rfl rfl (qt_len tbok rfl rfl) ?_))
  refine wc_ret (fin1 rfl (rv_tmp rfl) (fun w' hw => ⟨r, rfl, trivial, newKey hr, hw⟩))
end Go.Proofs.Ytjhmcmadleabjaa

set_option maxRecDepth 100000
namespace Go.Proofs.Ytjhmcmadleabjaa
open Go Go.Hw Go.Proofs

/-- The table of words, the first i of them reckoned. -/
def wl (p : List UInt8) (i : Nat) : List C := (List.range 64).map fun j => C.u32 (if j < i then wv p j else 0)
theorem wl_len (p : List UInt8) (i : Nat) : (wl p i).length = 64 := by simp [wl]
theorem wl_get {p : List UInt8} {i j : Nat} (h : j < i) (h' : j < 64) : (wl p i)[j]? = some (C.u32 (wv p j)) := by simp [wl, h, h']
theorem wl_zero (p : List UInt8) : z64 = wl p 0 := by
  simp only [wl, z64, Nat.not_lt_zero, if_false, List.map_const', List.length_range]
theorem wl_set {p : List UInt8} {i : Nat} (h : i < 64) {x : UInt32} (hx : x = wv p i) : spl (wl p i) i [C.u32 x] = wl p (i + 1) := by
  subst hx
  apply List.ext_getElem?
  intro j
  unfold spl
  rw [List.append_assoc, List.getElem?_append]
  have hl := wl_len p i
  simp only [List.length_take, hl]
  have hm : min i 64 = i := by omega
  rw [hm]
  by_cases hj : j < i
  · rw [if_pos hj, List.getElem?_take_of_lt hj]
    have h64 : j < 64 := by omega
    simp [wl, hj, show j < i + 1 by omega, h64]
  · rw [if_neg hj]
    by_cases hji : j = i
    · subst hji; simp [wl, h]
    · rw [List.getElem?_append_right (by simp; omega), List.getElem?_drop]
      simp only [List.length_singleton]
      rw [show i + 1 + (j - i - 1) = j by omega]
      by_cases h64 : j < 64
      · simp [wl, hj, show ¬ j < i + 1 by omega, h64]
      · rw [List.getElem?_eq_none (by rw [wl_len]; omega), List.getElem?_eq_none (by rw [wl_len]; omega)]
theorem wv_lo {p : List UInt8} {i : Nat} (h : i < 16) : wv p i = ((((p.getD (4 * i) 0).toUInt32 <<< 24) ||| ((p.getD (4 * i + 1) 0).toUInt32 <<< 16)) ||| ((p.getD (4 * i + 2) 0).toUInt32 <<< 8)) ||| (p.getD (4 * i + 3) 0).toUInt32 := by
  rw [wv, dif_pos h]
theorem wv_hi {p : List UInt8} {i : Nat} (h : 16 ≤ i) : wv p i = wv p (i - 16) + (rotr (wv p (i - 15)) 7 ^^^ rotr (wv p (i - 15)) 18 ^^^ (wv p (i - 15) >>> 3)) + wv p (i - 7) + (rotr (wv p (i - 2)) 17 ^^^ rotr (wv p (i - 2)) 19 ^^^ (wv p (i - 2) >>> 10)) := by
  rw [wv, dif_neg (by omega)]
theorem bc_getD {p : List UInt8} {i : Nat} (h : i < p.length) : (bc p)[i]? = some (C.u8 (p.getD i 0)) := by
  simp [bc, h]

theorem rc_w {w0 : World} {s : Hp} {r i : Nat} {p : List UInt8} (j : Nat) (hl : Lk s ⟨.at r 0, wl p i, 206, (0, 0), []⟩) {off : Nat} (ho : off = j) (h : j < i) (h64 : j < 64) : RC w0 s r off (.u32 (wv p j)) := by
  subst ho; exact rc_lk hl (wl_get h h64)
theorem k_get {i : Nat} (h : i < 64) : (K.map C.u32)[i]? = some (.u32 (K.getD i 0)) := by
  have hl : i < K.length := by
    have : K.length = 64 := by kernel_rfl
    omega
  simp [hl]
/-- The sum of two states, its first i words. -/
def ad8 (h t : S8) (i : Nat) : List C := (List.range 8).map fun j => C.u32 (if j < i then h.at j + t.at j else h.at j)
theorem ad8_len (h t : S8) (i : Nat) : (ad8 h t i).length = 8 := by simp [ad8]
theorem ad8_set {h t : S8} {i : Nat} {rest : List C} (hi : i < 8) : spl (ad8 h t i ++ rest) i [C.u32 (h.at i + t.at i)] = ad8 h t (i + 1) ++ rest := by
  match i, hi with
  | 0, _ | 1, _ | 2, _ | 3, _ | 4, _ | 5, _ | 6, _ | 7, _ => rfl
theorem ad8_get {h t : S8} {i : Nat} {rest : List C} (hi : i < 8) : (ad8 h t i ++ rest)[i]? = some (C.u32 (h.at i)) := by
  match i, hi with
  | 0, _ | 1, _ | 2, _ | 3, _ | 4, _ | 5, _ | 6, _ | 7, _ => rfl

theorem head7 (s : S8) : ∀ (j : Nat) (c : C), [C.u32 s.a, C.u32 s.b, C.u32 s.c, C.u32 s.d, C.u32 s.e, C.u32 s.f, C.u32 s.g][j]? = some c → s.cs[0 + j]? = some c := fun j c h => by
  rw [Nat.zero_add]
  match j, h with
  | 0, h | 1, h | 2, h | 3, h | 4, h | 5, h | 6, h => exact h
  | n + 7, h => simp at h

theorem nk_end {X : Cx} {P : Program} {fn : Func} {R : Ending → World → Prop} {e : Env} {s : Hp} (h : NK X (fnKt P fn R).ret e s) : NK X (fnKt P fn R).nrm e s := ⟨h.go⟩

theorem block_c {w : World} {sr pr po plen pcap kr : Nat} {h : S8} {rest : List C} {p : List UInt8} (hs0 : St w [⟨.at sr 0, h.cs ++ rest, 205, (0, 0), []⟩] w) (hp : RS w [⟨.at sr 0, h.cs ++ rest, 205, (0, 0), []⟩] pr po (bc p)) (hk : RS w [⟨.at sr 0, h.cs ++ rest, 205, (0, 0), []⟩] kr 0 (K.map C.u32))
    (hpl : p.length = 64) (hple : 64 ≤ plen) : CallsV Try.prog 123 [.c (.ptr (.at sr 0)), .c (.slc (.at pr po) plen pcap), .c (.ptr (.at kr 0))] w fun en w' => en = .returned (V.t0).den ∧ St w [⟨.at sr 0, (comp h p).cs ++ rest, 205, (0, 0), []⟩] w' := by
  refine calls_in (tb := tb) (fn := Try.f123) Try.func123 rfl rfl rfl [(0, .c (.ptr (.at sr 0))), (1, .c (.slc (.at pr po) plen pcap)), (2, .c (.ptr (.at kr 0)))] rfl _ hs0 ?_
  refine wc_seq ?_
  refine wc_region ?_
  refine wl_ef rfl (ef_alloc zero206 rfl rfl (fun r hr => ?_))
  refine wl_done ?_
  refine nk_code ?_
  refine wc_seq ?_
  refine wc_seq ?_
  refine wc_region ?_
  refine wl_q rfl rfl rfl (qt_p tbok rfl) ?_
  refine wl_done ?_
  refine nk_code ?_
  refine wc_block ?_
  refine wc_loop (ι := Nat) (fun i => i ≤ 16) (fun i => [(16, .c (.i64 (i : Int))), (6, .c (.ptr (.at r 0))), (0, .c (.ptr (.at sr 0))), (1, .c (.slc (.at pr po) plen pcap)), (2, .c (.ptr (.at kr 0)))]) (fun i => [⟨.at r 0, wl p i, 206, (0, 0), []⟩, ⟨.at sr 0, h.cs ++ rest, 205, (0, 0), []⟩]) (fun i => 16 - i) 0 (by omega) (nk_start ⟨rfl, rfl, rfl, rfl, rfl, trivial⟩ (fun w hw => wl_zero p ▸ hw)) (fun i hi => ?_)
  refine wc_seq ?_
  refine wc_region ?_
  refine wl_q rfl rfl rfl (qt_p tbok rfl) ?_
  refine wl_done ?_
  refine nk_code ?_
  refine wc_seq ?_
  refine wc_cond rfl (fun h17 => ?_) (fun h17 => ?_)
  · have hi' : i < 16 := by (have h0 := of_decide_eq_true h17; omega)
    refine wc_skip ?_
    refine nk_code ?_
    refine wc_seq ?_
    refine wc_block ?_
    refine wc_seq ?_
    refine wc_region ?_
    refine wl_q rfl rfl rfl (qt_p tbok rfl) ?_
    refine wl_q rfl rfl rfl (qt_p tbok rfl) ?_
    refine wl_done ?_
    refine nk_code ?_
    refine wc_tail 35 follows (by kernel_rfl) ?_
    refine wq_q rfl rfl rfl (qt_p tbok rfl) ?_
    refine wq_q rfl rfl rfl (qt_p tbok rfl) ?_
    refine wq_q rfl rfl rfl (qt_p tbok rfl) ?_
    refine wq_q rfl rfl rfl (qt_p tbok rfl) ?_
    refine wq_q rfl rfl rfl (qt_p tbok rfl) ?_
    refine wq_q rfl rfl rfl (qt_load tbok rfl rfl rfl ((hp.tail (newKey hr)).rc (bc_getD (i := 4 * i) (by omega)) (by omega))) ?_
    refine wq_q rfl rfl rfl (qt_p tbok rfl) ?_
    refine wq_q rfl rfl rfl (qt_p tbok rfl) ?_
    refine wq_q rfl rfl rfl (qt_p tbok rfl) ?_
    refine wq_q rfl rfl rfl (qt_p tbok rfl) ?_
    refine wq_q rfl rfl rfl (qt_p tbok rfl) ?_
    refine wq_q rfl rfl rfl (qt_p tbok rfl) ?_
    refine wq_q rfl rfl rfl (qt_p tbok rfl) ?_
    refine wq_q rfl rfl rfl (qt_load tbok rfl rfl rfl ((hp.tail (newKey hr)).rc (bc_getD (i := 4 * i + 1) (by omega)) (by omega))) ?_
    refine wq_q rfl rfl rfl (qt_p tbok rfl) ?_
    refine wq_q rfl rfl rfl (qt_p tbok rfl) ?_
    refine wq_q rfl rfl rfl (qt_p tbok rfl) ?_
    refine wq_q rfl rfl rfl (qt_p tbok rfl) ?_
    refine wq_q rfl rfl rfl (qt_p tbok rfl) ?_
    refine wq_q rfl rfl rfl (qt_p tbok rfl) ?_
    refine wq_q rfl rfl rfl (qt_p tbok rfl) ?_
    refine wq_q rfl rfl rfl (qt_p tbok rfl) ?_
    refine wq_q rfl rfl rfl (qt_load tbok rfl rfl rfl ((hp.tail (newKey hr)).rc (bc_getD (i := 4 * i + 2) (by omega)) (by omega))) ?_
    refine wq_q rfl rfl rfl (qt_p tbok rfl) ?_
    refine wq_q rfl rfl rfl (qt_p tbok rfl) ?_
    refine wq_q rfl rfl rfl (qt_p tbok rfl) ?_
    refine wq_q rfl rfl rfl (qt_p tbok rfl) ?_
    refine wq_q rfl rfl rfl (qt_p tbok rfl) ?_
    refine wq_q rfl rfl rfl (qt_p tbok rfl) ?_
    refine wq_q rfl rfl rfl (qt_p tbok rfl) ?_
    refine wq_q rfl rfl rfl (qt_p tbok rfl) ?_
    refine wq_q rfl rfl rfl (qt_load tbok rfl rfl rfl ((hp.tail (newKey hr)).rc (bc_getD (i := 4 * i + 3) (by omega)) (by omega))) ?_
    refine wq_q rfl rfl rfl (qt_p tbok rfl) ?_
    refine wq_q rfl rfl rfl (qt_p tbok rfl) ?_
    refine wq_q rfl rfl rfl (qt_p tbok rfl) ?_
    refine wq_done ?_
    refine wl_ef rfl (ef_store (cs' := wl p (i + 1)) tbok rfl rfl rfl rfl .here rfl (by rw [wl_len]; omega) (by rw [show 0 + (i : Int).toNat * 1 = i by omega]; exact wl_set (by omega) (wv_lo hi').symm) ?_)
    refine wl_done ?_
    refine nk_code ?_
    refine wc_region ?_
    refine wl_q rfl rfl rfl (qt_p tbok rfl) ?_
    refine wl_q rfl rfl rfl (qt_p tbok rfl) ?_
    refine wl_done ?_
    exact nk_round (i + 1) (by omega) (by omega) ⟨rfl, rfl, rfl, rfl, rfl, trivial⟩ (fun _ h => h)
  · refine wc_exit rfl ?_
    refine nk_code ?_
    refine wc_seq ?_
    refine wc_seq ?_
    refine wc_region ?_
    refine wl_q rfl rfl rfl (qt_p tbok rfl) ?_
    refine wl_done ?_
    refine nk_code ?_
    refine wc_block ?_
    refine wc_loop (ι := Nat) (fun i => 16 ≤ i ∧ i ≤ 64) (fun i => [(8, .c (.i64 (i : Int))), (6, .c (.ptr (.at r 0))), (0, .c (.ptr (.at sr 0))), (2, .c (.ptr (.at kr 0)))]) (fun i => [⟨.at r 0, wl p i, 206, (0, 0), []⟩, ⟨.at sr 0, h.cs ++ rest, 205, (0, 0), []⟩]) (fun i => 64 - i) 16 (by omega) (nk_start ⟨rfl, rfl, rfl, rfl, trivial⟩ (fun w hw => by have e : i = 16 := (by have h0 := of_decide_eq_false h17; omega); subst e; exact hw)) (fun i hi => ?_)
    refine wc_seq ?_
    refine wc_seq ?_
    refine wc_region ?_
    refine wl_q rfl rfl rfl (qt_p tbok rfl) ?_
    refine wl_q rfl rfl rfl (qt_p tbok rfl) ?_
    refine wl_done ?_
    refine nk_code ?_
    refine wc_cond rfl (fun h56 => ?_) (fun h56 => ?_)
    · have hi' : i < 64 := by (have h0 := of_decide_eq_true h56; omega)
      refine wc_skip ?_
      refine nk_code ?_
      refine wc_seq ?_
      refine wc_block ?_
      refine wc_seq ?_
      refine wc_quiet follows (by kernel_rfl) ?_
      refine wq_q rfl rfl rfl (qt_p tbok rfl) ?_
      refine wq_q rfl rfl rfl (qt_p tbok rfl) ?_
      refine wq_q rfl rfl rfl (qt_p tbok rfl) ?_
      refine wq_q rfl rfl rfl (qt_load tbok rfl rfl rfl (rc_w (i - 15) .here (by omega) (by omega) (by omega))) ?_
      refine wq_q rfl rfl rfl (qt_p tbok rfl) ?_
      refine wq_q rfl rfl rfl (qt_p tbok rfl) ?_
      refine wq_q rfl rfl rfl (qt_p tbok rfl) ?_
      refine wq_q rfl rfl rfl (qt_load tbok rfl rfl rfl (rc_w (i - 2) .here (by omega) (by omega) (by omega))) ?_
      refine wq_q rfl rfl rfl (qt_p tbok rfl) ?_
      refine wq_q rfl rfl rfl (qt_p tbok rfl) ?_
      refine wq_done ?_
      refine wl_done ?_
      refine nk_code ?_
      refine wc_tail 29 follows (by kernel_rfl) ?_
      refine wq_q rfl rfl rfl (qt_p tbok rfl) ?_
      refine wq_q rfl rfl rfl (qt_p tbok rfl) ?_
      refine wq_q rfl rfl rfl (qt_p tbok rfl) ?_
      refine wq_q rfl rfl rfl (qt_p tbok rfl) ?_
      refine wq_q rfl rfl rfl (qt_load tbok rfl rfl rfl (rc_w (i - 16) .here (by omega) (by omega) (by omega))) ?_
      refine wq_q rfl rfl rfl (qt_p tbok rfl) ?_
      refine wq_call (.c (.u32 (rotr (wv p (i - 15)) 7))) (by kernel_rfl) rfl rfl (fun w _ => rot_c _ 7 w (by omega) (by omega)) ?_
      refine wq_q rfl rfl rfl (qt_p tbok rfl) ?_
      refine wq_call (.c (.u32 (rotr (wv p (i - 15)) 18))) (by kernel_rfl) rfl rfl (fun w _ => rot_c _ 18 w (by omega) (by omega)) ?_
      refine wq_q rfl rfl rfl (qt_p tbok rfl) ?_
      refine wq_q rfl rfl rfl (qt_p tbok rfl) ?_
      refine wq_q rfl rfl rfl (qt_p tbok rfl) ?_
      refine wq_q rfl rfl rfl (qt_p tbok rfl) ?_
      refine wq_q rfl rfl rfl (qt_p tbok rfl) ?_
      refine wq_q rfl rfl rfl (qt_p tbok rfl) ?_
      refine wq_q rfl rfl rfl (qt_p tbok rfl) ?_
      refine wq_q rfl rfl rfl (qt_p tbok rfl) ?_
      refine wq_q rfl rfl rfl (qt_load tbok rfl rfl rfl (rc_w (i - 7) .here (by omega) (by omega) (by omega))) ?_
      refine wq_q rfl rfl rfl (qt_p tbok rfl) ?_
      refine wq_q rfl rfl rfl (qt_p tbok rfl) ?_
      refine wq_call (.c (.u32 (rotr (wv p (i - 2)) 17))) (by kernel_rfl) rfl rfl (fun w _ => rot_c _ 17 w (by omega) (by omega)) ?_
      refine wq_q rfl rfl rfl (qt_p tbok rfl) ?_
      refine wq_call (.c (.u32 (rotr (wv p (i - 2)) 19))) (by kernel_rfl) rfl rfl (fun w _ => rot_c _ 19 w (by omega) (by omega)) ?_
      refine wq_q rfl rfl rfl (qt_p tbok rfl) ?_
      refine wq_q rfl rfl rfl (qt_p tbok rfl) ?_
      refine wq_q rfl rfl rfl (qt_p tbok rfl) ?_
      refine wq_q rfl rfl rfl (qt_p tbok rfl) ?_
      refine wq_q rfl rfl rfl (qt_p tbok rfl) ?_
      refine wq_q rfl rfl rfl (qt_p tbok rfl) ?_
      refine wq_done ?_
      refine wl_ef rfl (ef_store (cs' := wl p (i + 1)) tbok rfl rfl rfl rfl .here rfl (by rw [wl_len]; omega) (by rw [show 0 + (i : Int).toNat * 1 = i by omega]; exact wl_set (by omega) (wv_hi hi.1).symm) ?_)
      refine wl_done ?_
      refine nk_code ?_
      refine wc_region ?_
      refine wl_q rfl rfl rfl (qt_p tbok rfl) ?_
      refine wl_q rfl rfl rfl (qt_p tbok rfl) ?_
      refine wl_q rfl rfl rfl (qt_p tbok rfl) ?_
      refine wl_done ?_
      exact nk_round (i + 1) (by omega) (by omega) ⟨rfl, rfl, rfl, rfl, trivial⟩ (fun _ h => h)
    · refine wc_exit rfl ?_
      refine nk_code ?_
      refine wc_seq ?_
      refine wc_region ?_
      refine wl_q rfl rfl rfl (qt_p tbok rfl) ?_
      refine wl_q rfl rfl rfl (qt_p tbok rfl) ?_
      refine wl_q rfl rfl rfl (qt_p tbok rfl) ?_
      refine wl_q rfl rfl rfl (qt_load_ag (l := h.cs) tbok rfl rfl rfl rfl (rs_lk (.there .here) (fun j c hc => by rw [Nat.zero_add, List.getElem?_append_left (by have := (List.getElem?_eq_some_iff.1 hc).1; simpa using this)]; exact hc))) ?_
      refine wl_ef rfl (ef_alloc zero184 rfl rfl (fun r2 hr2 => ?_))
      refine wl_ef rfl (ef_store (cs' := h.cs) tbok rfl rfl rfl rfl .here rfl (by decide) rfl ?_)
      refine wl_done ?_
      refine nk_code ?_
      refine wc_seq ?_
      refine wc_seq ?_
      refine wc_region ?_
      refine wl_q rfl rfl rfl (qt_p tbok rfl) ?_
      refine wl_done ?_
      refine nk_code ?_
      refine wc_block ?_
      refine wc_loop (ι := Nat) (fun i => i ≤ 64) (fun i => [(100, .c (.i64 (i : Int))), (11, .c (.ptr (.at r2 0))), (6, .c (.ptr (.at r 0))), (0, .c (.ptr (.at sr 0))), (2, .c (.ptr (.at kr 0)))]) (fun i => [⟨.at r2 0, (rnds p i h).cs, 184, (0, 0), []⟩, ⟨.at r 0, wl p 64, 206, (0, 0), []⟩, ⟨.at sr 0, h.cs ++ rest, 205, (0, 0), []⟩]) (fun i => 64 - i) 0 (by omega) (nk_start ⟨rfl, rfl, rfl, rfl, rfl, trivial⟩ (fun w hw => by have e : i = 64 := (by have h0 := of_decide_eq_false h56; omega); subst e; exact hw)) (fun i hi => ?_)
      refine wc_seq ?_
      refine wc_region ?_
      refine wl_q rfl rfl rfl (qt_p tbok rfl) ?_
      refine wl_done ?_
      refine nk_code ?_
      refine wc_seq ?_
      refine wc_cond rfl (fun h101 => ?_) (fun h101 => ?_)
      · have hi' : i < 64 := by (have h0 := of_decide_eq_true h101; omega)
        refine wc_skip ?_
        refine nk_code ?_
        refine wc_seq ?_
        refine wc_block ?_
        refine wc_seq ?_
        refine wc_region ?_
        refine wl_q rfl rfl rfl (qt_p tbok rfl) ?_
        refine wl_q rfl rfl rfl (qt_p tbok rfl) ?_
        refine wl_done ?_
        refine nk_code ?_
        refine wc_seq ?_
        refine wc_quiet follows (by kernel_rfl) ?_
        refine wq_q rfl rfl rfl (qt_p tbok rfl) ?_
        first | refine wq_q rfl rfl rfl (qt_l tbok rfl rfl rfl) ?_ | refine wq_q rfl rfl rfl (qt_la tbok rfl rfl rfl) ?_
        refine wq_q rfl rfl rfl (qt_p tbok rfl) ?_
        first | refine wq_q rfl rfl rfl (qt_l tbok rfl rfl rfl) ?_ | refine wq_q rfl rfl rfl (qt_la tbok rfl rfl rfl) ?_
        refine wq_call (.c (.u32 (rotr (rnds p i h).e 6))) (by kernel_rfl) rfl rfl (fun w _ => rot_c _ 6 w (by omega) (by omega)) ?_
        refine wq_q rfl rfl rfl (qt_p tbok rfl) ?_
        first | refine wq_q rfl rfl rfl (qt_l tbok rfl rfl rfl) ?_ | refine wq_q rfl rfl rfl (qt_la tbok rfl rfl rfl) ?_
        refine wq_call (.c (.u32 (rotr (rnds p i h).e 11))) (by kernel_rfl) rfl rfl (fun w _ => rot_c _ 11 w (by omega) (by omega)) ?_
        refine wq_q rfl rfl rfl (qt_p tbok rfl) ?_
        refine wq_q rfl rfl rfl (qt_p tbok rfl) ?_
        first | refine wq_q rfl rfl rfl (qt_l tbok rfl rfl rfl) ?_ | refine wq_q rfl rfl rfl (qt_la tbok rfl rfl rfl) ?_
        refine wq_call (.c (.u32 (rotr (rnds p i h).e 25))) (by kernel_rfl) rfl rfl (fun w _ => rot_c _ 25 w (by omega) (by omega)) ?_
        refine wq_q rfl rfl rfl (qt_p tbok rfl) ?_
        refine wq_q rfl rfl rfl (qt_p tbok rfl) ?_
        refine wq_q rfl rfl rfl (qt_p tbok rfl) ?_
        first | refine wq_q rfl rfl rfl (qt_l tbok rfl rfl rfl) ?_ | refine wq_q rfl rfl rfl (qt_la tbok rfl rfl rfl) ?_
        refine wq_q rfl rfl rfl (qt_p tbok rfl) ?_
        first | refine wq_q rfl rfl rfl (qt_l tbok rfl rfl rfl) ?_ | refine wq_q rfl rfl rfl (qt_la tbok rfl rfl rfl) ?_
        refine wq_q rfl rfl rfl (qt_p tbok rfl) ?_
        refine wq_q rfl rfl rfl (qt_p tbok rfl) ?_
        first | refine wq_q rfl rfl rfl (qt_l tbok rfl rfl rfl) ?_ | refine wq_q rfl rfl rfl (qt_la tbok rfl rfl rfl) ?_
        refine wq_q rfl rfl rfl (qt_p tbok rfl) ?_
        first | refine wq_q rfl rfl rfl (qt_l tbok rfl rfl rfl) ?_ | refine wq_q rfl rfl rfl (qt_la tbok rfl rfl rfl) ?_
        refine wq_q rfl rfl rfl (qt_p tbok rfl) ?_
        refine wq_q rfl rfl rfl (qt_p tbok rfl) ?_
        refine wq_q rfl rfl rfl (qt_p tbok rfl) ?_
        refine wq_q rfl rfl rfl (qt_p tbok rfl) ?_
        refine wq_q rfl rfl rfl (qt_p tbok rfl) ?_
        refine wq_q rfl rfl rfl (qt_p tbok rfl) ?_
        refine wq_q rfl rfl rfl (qt_p tbok rfl) ?_
        refine wq_q rfl rfl rfl (qt_load tbok rfl rfl rfl (((hk.tail (newKey hr)).tail (newKey hr2)).rc (k_get hi') (by omega))) ?_
        refine wq_q rfl rfl rfl (qt_p tbok rfl) ?_
        refine wq_q rfl rfl rfl (qt_p tbok rfl) ?_
        refine wq_q rfl rfl rfl (qt_p tbok rfl) ?_
        refine wq_q rfl rfl rfl (qt_load tbok rfl rfl rfl (rc_w i (.there .here) (by omega) (by omega) (by omega))) ?_
        refine wq_q rfl rfl rfl (qt_p tbok rfl) ?_
        refine wq_q rfl rfl rfl (qt_p tbok rfl) ?_
        refine wq_done ?_
        refine wl_done ?_
        refine nk_code ?_
        refine wc_seq ?_
        refine wc_quiet follows (by kernel_rfl) ?_
        refine wq_q rfl rfl rfl (qt_p tbok rfl) ?_
        first | refine wq_q rfl rfl rfl (qt_l tbok rfl rfl rfl) ?_ | refine wq_q rfl rfl rfl (qt_la tbok rfl rfl rfl) ?_
        refine wq_call (.c (.u32 (rotr (rnds p i h).a 2))) (by kernel_rfl) rfl rfl (fun w _ => rot_c _ 2 w (by omega) (by omega)) ?_
        refine wq_q rfl rfl rfl (qt_p tbok rfl) ?_
        first | refine wq_q rfl rfl rfl (qt_l tbok rfl rfl rfl) ?_ | refine wq_q rfl rfl rfl (qt_la tbok rfl rfl rfl) ?_
        refine wq_call (.c (.u32 (rotr (rnds p i h).a 13))) (by kernel_rfl) rfl rfl (fun w _ => rot_c _ 13 w (by omega) (by omega)) ?_
        refine wq_q rfl rfl rfl (qt_p tbok rfl) ?_
        refine wq_q rfl rfl rfl (qt_p tbok rfl) ?_
        first | refine wq_q rfl rfl rfl (qt_l tbok rfl rfl rfl) ?_ | refine wq_q rfl rfl rfl (qt_la tbok rfl rfl rfl) ?_
        refine wq_call (.c (.u32 (rotr (rnds p i h).a 22))) (by kernel_rfl) rfl rfl (fun w _ => rot_c _ 22 w (by omega) (by omega)) ?_
        refine wq_q rfl rfl rfl (qt_p tbok rfl) ?_
        refine wq_q rfl rfl rfl (qt_p tbok rfl) ?_
        first | refine wq_q rfl rfl rfl (qt_l tbok rfl rfl rfl) ?_ | refine wq_q rfl rfl rfl (qt_la tbok rfl rfl rfl) ?_
        refine wq_q rfl rfl rfl (qt_p tbok rfl) ?_
        first | refine wq_q rfl rfl rfl (qt_l tbok rfl rfl rfl) ?_ | refine wq_q rfl rfl rfl (qt_la tbok rfl rfl rfl) ?_
        refine wq_q rfl rfl rfl (qt_p tbok rfl) ?_
        refine wq_q rfl rfl rfl (qt_p tbok rfl) ?_
        first | refine wq_q rfl rfl rfl (qt_l tbok rfl rfl rfl) ?_ | refine wq_q rfl rfl rfl (qt_la tbok rfl rfl rfl) ?_
        refine wq_q rfl rfl rfl (qt_p tbok rfl) ?_
        first | refine wq_q rfl rfl rfl (qt_l tbok rfl rfl rfl) ?_ | refine wq_q rfl rfl rfl (qt_la tbok rfl rfl rfl) ?_
        refine wq_q rfl rfl rfl (qt_p tbok rfl) ?_
        refine wq_q rfl rfl rfl (qt_p tbok rfl) ?_
        refine wq_q rfl rfl rfl (qt_p tbok rfl) ?_
        first | refine wq_q rfl rfl rfl (qt_l tbok rfl rfl rfl) ?_ | refine wq_q rfl rfl rfl (qt_la tbok rfl rfl rfl) ?_
        refine wq_q rfl rfl rfl (qt_p tbok rfl) ?_
        first | refine wq_q rfl rfl rfl (qt_l tbok rfl rfl rfl) ?_ | refine wq_q rfl rfl rfl (qt_la tbok rfl rfl rfl) ?_
        refine wq_q rfl rfl rfl (qt_p tbok rfl) ?_
        refine wq_q rfl rfl rfl (qt_p tbok rfl) ?_
        refine wq_q rfl rfl rfl (qt_p tbok rfl) ?_
        refine wq_q rfl rfl rfl (qt_p tbok rfl) ?_
        refine wq_done ?_
        refine wl_done ?_
        refine nk_code ?_
        refine wc_seq ?_
        refine wc_tail 2 follows (by kernel_rfl) ?_
        first | refine wq_q rfl rfl rfl (qt_sl tbok rfl rfl rfl rfl) ?_ | refine wq_q rfl rfl rfl (qt_sa tbok rfl rfl rfl rfl) ?_
        first | refine wq_q rfl rfl rfl (qt_sl tbok rfl rfl rfl rfl) ?_ | refine wq_q rfl rfl rfl (qt_sa tbok rfl rfl rfl rfl) ?_
        refine wq_done ?_
        refine wl_ef rfl (ef_copy (news := [.u32 (rnds p i h).a, .u32 (rnds p i h).b, .u32 (rnds p i h).c, .u32 (rnds p i h).d, .u32 (rnds p i h).e, .u32 (rnds p i h).f, .u32 (rnds p i h).g]) tbok rfl rfl rfl rfl .here rfl (rs_lk .here (head7 _)) (Nat.le_of_ble_eq_true rfl) rfl ?_)
        refine wl_done ?_
        refine nk_code ?_
        refine wc_seq ?_
        refine wc_region ?_
        refine wl_q rfl rfl rfl (qt_p tbok rfl) ?_
        first | refine wl_q rfl rfl rfl (qt_l tbok rfl rfl rfl) ?_ | refine wl_q rfl rfl rfl (qt_la tbok rfl rfl rfl) ?_
        refine wl_q rfl rfl rfl (qt_p tbok rfl) ?_
        refine wl_q rfl rfl rfl (qt_p tbok rfl) ?_
        refine wl_q rfl rfl rfl (qt_p tbok rfl) ?_
        refine wl_ef rfl (ef_store (cs' := [.u32 (rnds p i h).a, .u32 (rnds p i h).a, .u32 (rnds p i h).b, .u32 (rnds p i h).c, .u32 (rnds p (i + 1) h).e, .u32 (rnds p i h).e, .u32 (rnds p i h).f, .u32 (rnds p i h).g]) tbok rfl rfl rfl rfl .here rfl (Nat.le_of_ble_eq_true rfl) rfl ?_)
        refine wl_done ?_
        refine nk_code ?_
        refine wc_region ?_
        refine wl_q rfl rfl rfl (qt_p tbok rfl) ?_
        refine wl_q rfl rfl rfl (qt_p tbok rfl) ?_
        refine wl_q rfl rfl rfl (qt_p tbok rfl) ?_
        refine wl_q rfl rfl rfl (qt_p tbok rfl) ?_
        refine wl_ef rfl (ef_store (cs' := (rnds p (i + 1) h).cs) tbok rfl rfl rfl rfl .here rfl (Nat.le_of_ble_eq_true rfl) rfl ?_)
        refine wl_done ?_
        refine nk_code ?_
        refine wc_region ?_
        refine wl_q rfl rfl rfl (qt_p tbok rfl) ?_
        refine wl_q rfl rfl rfl (qt_p tbok rfl) ?_
        refine wl_done ?_
        exact nk_round (i + 1) (by omega) (by omega) ⟨rfl, rfl, rfl, rfl, rfl, trivial⟩ (fun _ h => h)
      · refine wc_exit rfl ?_
        refine nk_code ?_
        refine wc_seq ?_
        refine wc_region ?_
        refine wl_q rfl rfl rfl (qt_p tbok rfl) ?_
        refine wl_done ?_
        refine nk_code ?_
        refine wc_block ?_
        refine wc_loop (ι := Nat) (fun i => i ≤ 8) (fun i => [(181, .c (.i64 (i : Int))), (11, .c (.ptr (.at r2 0))), (0, .c (.ptr (.at sr 0)))]) (fun i => [⟨.at r2 0, (rnds p 64 h).cs, 184, (0, 0), []⟩, ⟨.at r 0, wl p 64, 206, (0, 0), []⟩, ⟨.at sr 0, ad8 h (rnds p 64 h) i ++ rest, 205, (0, 0), []⟩]) (fun i => 8 - i) 0 (by omega) (nk_start ⟨rfl, rfl, rfl, trivial⟩ (fun w hw => by have e : i = 64 := (by have h0 := of_decide_eq_false h101; omega); subst e; exact hw)) (fun i hi => ?_)
        refine wc_seq ?_
        refine wc_region ?_
        refine wl_q rfl rfl rfl (qt_p tbok rfl) ?_
        refine wl_done ?_
        refine nk_code ?_
        refine wc_seq ?_
        refine wc_cond rfl (fun h182 => ?_) (fun h182 => ?_)
        · have hi' : i < 8 := by (have h0 := of_decide_eq_true h182; omega)
          refine wc_skip ?_
          refine nk_code ?_
          refine wc_seq ?_
          refine wc_block ?_
          refine wc_seq ?_
          refine wc_region ?_
          refine wl_q rfl rfl rfl (qt_p tbok rfl) ?_
          refine wl_q rfl rfl rfl (qt_p tbok rfl) ?_
          refine wl_done ?_
          refine nk_code ?_
          refine wc_tail 13 follows (by kernel_rfl) ?_
          refine wq_q rfl rfl rfl (qt_p tbok rfl) ?_
          refine wq_q rfl rfl rfl (qt_p tbok rfl) ?_
          refine wq_q rfl rfl rfl (qt_p tbok rfl) ?_
          refine wq_q rfl rfl rfl (qt_p tbok rfl) ?_
          refine wq_q rfl rfl rfl (qt_p tbok rfl) ?_
          refine wq_q rfl rfl rfl (qt_load tbok rfl rfl rfl (rc_lk (.there (.there .here)) (by rw [show 0 + 0 + (i : Int).toNat * 1 = i by omega]; exact ad8_get hi'))) ?_
          refine wq_q rfl rfl rfl (qt_p tbok rfl) ?_
          refine wq_q rfl rfl rfl (qt_p tbok rfl) ?_
          refine wq_q rfl rfl rfl (qt_load tbok rfl rfl rfl (rc_lk .here (by rw [show 0 + (i : Int).toNat * 1 = i by omega]; exact S8.cs_get _ i hi'))) ?_
          refine wq_q rfl rfl rfl (qt_p tbok rfl) ?_
          refine wq_q rfl rfl rfl (qt_p tbok rfl) ?_
          refine wq_q rfl rfl rfl (qt_p tbok rfl) ?_
          refine wq_q rfl rfl rfl (qt_p tbok rfl) ?_
          refine wq_done ?_
          refine wl_ef rfl (ef_store (cs' := ad8 h (rnds p 64 h) (i + 1) ++ rest) tbok rfl rfl rfl rfl (.there (.there .here)) rfl (by rw [List.length_append, ad8_len]; omega) (by rw [show 0 + 0 + (i : Int).toNat * 1 = i by omega]; exact ad8_set hi') ?_)
          refine wl_done ?_
          refine nk_code ?_
          refine wc_region ?_
          refine wl_q rfl rfl rfl (qt_p tbok rfl) ?_
          refine wl_q rfl rfl rfl (qt_p tbok rfl) ?_
          refine wl_done ?_
          exact nk_round (i + 1) (by omega) (by omega) ⟨rfl, rfl, rfl, trivial⟩ (fun _ h => h)
        · refine wc_exit rfl ?_
          have e : i = 8 := (by have h0 := of_decide_eq_false h182; omega)
          subst e
          exact nk_end (fin0 rfl (fun w' hw => ⟨rfl, (hw.tail (newKey hr2)).tail (newKey hr)⟩))
end Go.Proofs.Ytjhmcmadleabjaa

set_option maxRecDepth 100000
namespace Go.Proofs.Ytjhmcmadleabjaa
open Go Go.Hw Go.Proofs

/-- Whole blocks taken in. -/
def blks (h : S8) (m : List UInt8) : S8 := if 64 ≤ m.length then blks (comp h (m.take 64)) (m.drop 64) else h
  termination_by m.length
  decreasing_by simp only [List.length_drop]; omega

theorem blks_short {h : S8} {m : List UInt8} (hm : m.length < 64) : blks h m = h := by rw [blks, if_neg (by omega)]
theorem blks_step {h : S8} {m : List UInt8} (hm : 64 ≤ m.length) : blks h m = blks (comp h (m.take 64)) (m.drop 64) := by rw [blks, if_pos hm]
theorem blks_app : ∀ (n : Nat) (h : S8) (a b : List UInt8), a.length = n → n % 64 = 0 → blks h (a ++ b) = blks (blks h a) b := by
  intro n
  induction n using Nat.strongRecOn with
  | _ n ih =>
    intro h a b ha hn
    by_cases h0 : n = 0
    · subst h0
      have : a = [] := List.length_eq_zero_iff.1 ha
      subst this
      rw [blks_short (m := []) (by simp)]; rfl
    · have h64 : 64 ≤ a.length := by omega
      rw [blks_step (m := a ++ b) (by simp; omega), blks_step (m := a) h64, List.take_append_of_le_length h64, List.drop_append_of_le_length h64]
      exact ih (n - 64) (by omega) _ _ _ (by simp [ha]) (by omega)

/-- A state's cells stand for the bytes that were put in. -/
structure Dst (m : List UInt8) (tl : List UInt8) : Prop where
  len : tl.length = 64
  tail : tl.take (m.length % 64) = m.drop (64 * (m.length / 64))
def dcs (m tl : List UInt8) : List C := (blks H0 m).cs ++ .u64 (UInt64.ofNat m.length) :: bc tl

theorem dst_nil : Dst [] (List.replicate 64 0) := ⟨rfl, rfl⟩
theorem dcs_nil : dcs [] (List.replicate 64 0) = st0 := by
  unfold dcs st0
  rw [blks_short (by simp)]
  rfl

theorem Dst.blk {m tl : List UInt8} (h : Dst m tl) : m = m.take (64 * (m.length / 64)) ++ tl.take (m.length % 64) := by rw [h.tail, List.take_append_drop]

theorem u64_mod64 (n : Nat) : (UInt64.ofNat n % 64).toNat = n % 64 := by
  rw [UInt64.toNat_mod]
  simp [UInt64.toNat_ofNat']

theorem blks_part {m q : List UInt8} (hq : m.length % 64 + q.length < 64) : blks H0 (m ++ q) = blks H0 m := by
  have e : m = m.take (64 * (m.length / 64)) ++ m.drop (64 * (m.length / 64)) := (List.take_append_drop _ _).symm
  have hl : (m.take (64 * (m.length / 64))).length = 64 * (m.length / 64) := by simp; omega
  have hd : (m.drop (64 * (m.length / 64))).length = m.length % 64 := by simp; omega
  rw [e, List.append_assoc, blks_app _ _ _ _ hl (by omega), blks_app _ _ _ _ hl (by omega)]
  rw [blks_short (by simp; omega), blks_short (m := List.drop _ _) (by omega)]
theorem blks_full {m q tl : List UInt8} (h : Dst m tl) (hq : m.length % 64 + q.length = 64) : blks H0 (m ++ q) = comp (blks H0 m) (tl.take (m.length % 64) ++ q) := by
  have e : m = m.take (64 * (m.length / 64)) ++ m.drop (64 * (m.length / 64)) := (List.take_append_drop _ _).symm
  have hl : (m.take (64 * (m.length / 64))).length = 64 * (m.length / 64) := by simp; omega
  have hd : (m.drop (64 * (m.length / 64))).length = m.length % 64 := by simp; omega
  rw [h.tail]
  generalize hA : m.take (64 * (m.length / 64)) = A at *
  generalize hB : m.drop (64 * (m.length / 64)) = B at *
  rw [e, List.append_assoc, blks_app _ _ _ _ hl (by omega), blks_app _ _ _ _ hl (by omega)]
  rw [blks_short (m := B) (by omega), blks_step (by simp; omega), blks_short (by simp; omega)]
  rw [List.take_of_length_le (by simp; omega)]

theorem dst_part {m q tl : List UInt8} (h : Dst m tl) (hq : m.length % 64 + q.length < 64) : Dst (m ++ q) (tl.take (m.length % 64) ++ q ++ tl.drop (m.length % 64 + q.length)) := by
  have h1 := h.len
  have hd : (m.drop (64 * (m.length / 64))).length = m.length % 64 := by simp; omega
  have ht : (tl.take (m.length % 64)).length = m.length % 64 := by simp; omega
  refine ⟨by simp; omega, ?_⟩
  have e1 : (m ++ q).length % 64 = m.length % 64 + q.length := by simp; omega
  have e2 : (m ++ q).length / 64 = m.length / 64 := by simp; omega
  rw [e1, e2, List.take_append_of_le_length (by simp; omega), List.take_of_length_le (by simp; omega), h.tail, List.drop_append_of_le_length (by omega)]
theorem u64_ofInt (n : Nat) : UInt64.ofInt (n : Int) = UInt64.ofNat n := by
  apply UInt64.toNat_inj.1
  have h := u64ofInt (n : Int)
  have h2 : (UInt64.ofNat n).toNat = n % 18446744073709551616 := by simp [UInt64.toNat_ofNat']
  omega
theorem u64_add (a b : Nat) : UInt64.ofNat a + UInt64.ofInt (b : Int) = UInt64.ofNat (a + b) := by rw [u64_ofInt, UInt64.ofNat_add]

theorem blks_next {m p : List UInt8} {c : Nat} (h0 : (m.length + c) % 64 = 0) (hc : c + 64 ≤ p.length) : comp (blks H0 (m ++ p.take c)) ((p.drop c).take 64) = blks H0 (m ++ p.take (c + 64)) := by
  rw [List.take_add, ← List.append_assoc, blks_app _ H0 (m ++ p.take c) _ rfl (by simp; rw [Nat.min_eq_left (by omega)]; exact h0)]
  have hl : (List.take 64 (List.drop c p)).length = 64 := by simp; omega
  rw [blks_step (m := List.take 64 (List.drop c p)) (by omega), blks_short (m := List.drop 64 _) (by simp), List.take_take]
  rfl
theorem dst_end {m p tl : List UInt8} {c : Nat} (hl : tl.length = 64) (h0 : (m.length + c) % 64 = 0) (hc : c ≤ p.length) (h64 : p.length - c < 64) : Dst (m ++ p) (p.drop c ++ tl.drop (p.length - c)) ∧ blks H0 (m ++ p.take c) = blks H0 (m ++ p) := by
  have e : p = p.take c ++ p.drop c := (List.take_append_drop _ _).symm
  have hm : (m ++ p.take c).length % 64 = 0 := by simp; rw [Nat.min_eq_left hc]; exact h0
  have e1 : (m ++ p).length % 64 = p.length - c := by simp; omega
  have e2 : 64 * ((m ++ p).length / 64) = m.length + c := by simp; omega
  refine ⟨⟨by simp; omega, ?_⟩, ?_⟩
  · rw [e1, e2, List.take_append_of_le_length (by simp), List.take_of_length_le (by simp), List.drop_append]
    simp
  · have e3 : m ++ p = (m ++ p.take c) ++ p.drop c := by rw [List.append_assoc, List.take_append_drop]
    rw [e3, blks_app _ H0 (m ++ p.take c) _ rfl hm, blks_short (m := p.drop c) (by simp; omega)]
theorem mid_get (A : List C) (x : C) (t : List UInt8) (hA : A.length = 8) (i : Nat) (c : C) (h : (bc t)[i]? = some c) : (A ++ x :: bc t)[9 + i]? = some c := by
  rw [List.getElem?_append_right (by omega), hA, show 9 + i - 8 = i + 1 by omega, List.getElem?_cons_succ]; exact h
/-- The rest's bytes once the first bytes of p came. -/
def tcat (m tl p : List UInt8) : List UInt8 := tl.take (m.length % 64) ++ p.take (64 - m.length % 64) ++ tl.drop (m.length % 64 + (p.take (64 - m.length % 64)).length)
theorem tcat_len {m tl p : List UInt8} (hl : tl.length = 64) : (tcat m tl p).length = 64 := by unfold tcat; simp; omega
theorem tcat_small {m tl p : List UInt8} (hd : Dst m tl) (h : m.length % 64 + p.length < 64) : Dst (m ++ p) (tcat m tl p) := by
  have e : p.take (64 - m.length % 64) = p := List.take_of_length_le (by omega)
  unfold tcat; rw [e]; exact dst_part hd h
theorem tcat_full {m tl p : List UInt8} (hd : Dst m tl) (h : 64 ≤ m.length % 64 + p.length) : comp (blks H0 m) (tcat m tl p) = blks H0 (m ++ p.take (64 - m.length % 64)) := by
  rw [blks_full hd (by simp; omega)]
  unfold tcat
  have := hd.len
  rw [List.drop_of_length_le (by simp; omega), List.append_nil]
theorem spl_mid0 (A : List C) (x : C) (t q : List UInt8) (hA : A.length = 8) : spl (A ++ x :: bc t) 9 (bc q) = A ++ x :: bc (q ++ t.drop q.length) := by
  have := spl_mid A x t q 0 hA (Nat.zero_le _)
  rw [List.take_zero, List.nil_append, Nat.zero_add] at this
  exact this
theorem cells_nn {w : World} {a : Ad} {l : List C} (h : Cells w a l) (hl : 0 < l.length) : ∃ r o, a = .at r o := by
  cases a with
  | nil => rw [show l = [] from h] at hl; simp at hl
  | raw _ => rw [show l = [] from h] at hl; simp at hl
  | mp _ _ => rw [show l = [] from h] at hl; simp at hl
  | «at» r o => exact ⟨r, o, rfl⟩
end Go.Proofs.Ytjhmcmadleabjaa

set_option maxRecDepth 100000
namespace Go.Proofs.Ytjhmcmadleabjaa
open Go Go.Hw Go.Proofs

abbrev sb (sr : Nat) (cs : List C) : Blk := ⟨.at sr 0, cs, 205, (0, 0), []⟩

theorem put_c {w : World} {sr len cap : Nat} {ad : Ad} {m tl p : List UInt8} (hd : Dst m tl) (hs0 : St w [sb sr (dcs m tl)] w) (hp : Cells w ad (bc p)) (hne : ad.key ≠ some sr) (hlen : p.length = len) (hcap : len ≤ cap) (hmax : p.length < 9223372036854775808) :
    CallsV Try.prog 104 [.c (.ptr (.at sr 0)), .c (.slc ad len cap)] w fun en w' => en = .returned (V.t0).den ∧ ∃ tl', Dst (m ++ p) tl' ∧ St w [sb sr (dcs (m ++ p) tl')] w' := by
  subst hlen
  have htl := hd.len
  refine calls_in (tb := tb) (fn := Try.f104) Try.func104 rfl rfl rfl [(0, .c (.ptr (.at sr 0))), (1, .c (.slc ad p.length cap))] rfl _ hs0 ?_
  refine wc_seq ?_
  refine wc_region ?_
  refine wl_ef rfl (ef_pure (v := .agg (K.map C.u32)) (by kernel_rfl) rfl rfl (fun w _ => rounds_c w) ?_)
  refine wl_ef rfl (ef_alloc zero206 rfl rfl (fun r hr => ?_))
  refine wl_ef rfl (ef_store (cs' := K.map C.u32) tbok rfl rfl rfl rfl .here kLen z64len kspl ?_)
  refine wl_done ?_
  refine nk_code ?_
  refine wc_seq ?_
  refine wc_region ?_
  refine wl_q rfl rfl rfl (qt_p tbok rfl) ?_
  refine wl_q rfl rfl rfl (qt_p tbok rfl) ?_
  refine wl_q rfl rfl rfl (qt_p tbok rfl) ?_
  first | refine wl_q rfl rfl rfl (qt_l tbok rfl rfl rfl) ?_ | refine wl_q rfl rfl rfl (qt_la tbok rfl rfl rfl) ?_
  refine wl_q rfl rfl rfl (qt_pure tbok rfl (by decide)) ?_
  refine wl_q rfl rfl rfl (qt_pure tbok rfl (Nat.lt_of_le_of_lt (Nat.le_of_eq (u64_mod64 m.length)) (by omega))) ?_
  refine wl_as (v' := .c (.i64 ((m.length % 64 : Nat) : Int))) (congrArg (fun x : Nat => V.c (C.i64 (x : Int))) (u64_mod64 m.length)) ?_
  refine wl_q rfl rfl rfl (qt_p tbok rfl) ?_
  refine wl_done ?_
  refine nk_code ?_
  refine wc_seq ?_
  refine wc_region ?_
  refine wl_q rfl rfl rfl (qt_p tbok rfl) ?_
  refine wl_q rfl rfl rfl (qt_p tbok rfl) ?_
  refine wl_q rfl rfl rfl (qt_p tbok rfl) ?_
  first | refine wl_q rfl rfl rfl (qt_l tbok rfl rfl rfl) ?_ | refine wl_q rfl rfl rfl (qt_la tbok rfl rfl rfl) ?_
  refine wl_q rfl rfl rfl (qt_p tbok rfl) ?_
  refine wl_q rfl rfl rfl (qt_len tbok rfl rfl) ?_
  refine wl_q rfl rfl rfl (qt_p tbok rfl) ?_
  refine wl_q rfl rfl rfl (qt_p tbok rfl) ?_
  refine wl_as (v' := .c (.u64 (UInt64.ofNat (m ++ p).length))) (by rw [List.length_append]; exact congrArg (fun x => V.c (C.u64 x)) (u64_add m.length p.length)) ?_
  refine wl_q rfl rfl rfl (qt_p tbok rfl) ?_
  refine wl_q rfl rfl rfl (qt_p tbok rfl) ?_
  refine wl_ef rfl (ef_store (cs' := (blks H0 m).cs ++ .u64 (UInt64.ofNat (m ++ p).length) :: bc tl) tbok rfl rfl rfl rfl (.there .here) rfl (by simp [dcs, S8.cs]) rfl ?_)
  refine wl_done ?_
  refine nk_code ?_
  refine wc_seq ?_
  refine wc_seq ?_
  refine wc_region ?_
  refine wl_q rfl rfl rfl (qt_p tbok rfl) ?_
  refine wl_q rfl rfl rfl (qt_p tbok rfl) ?_
  refine wl_done ?_
  refine nk_code ?_
  refine wc_cond rfl (fun h25 => ?_) (fun h25 => ?_)
  · have hu : 0 < m.length % 64 := (by have h0 := of_decide_eq_true h25; omega)
    refine wc_seq ?_
    refine wc_region ?_
    refine wl_q rfl rfl rfl (qt_p tbok rfl) ?_
    refine wl_q rfl rfl rfl (qt_p tbok rfl) ?_
    refine wl_q rfl rfl rfl (qt_p tbok rfl) ?_
    refine wl_q rfl rfl rfl (qt_p tbok rfl) ?_
    first | refine wl_q rfl rfl rfl (qt_sl tbok rfl rfl rfl rfl) ?_ | refine wl_q rfl rfl rfl (qt_sa tbok rfl rfl rfl rfl) ?_
    refine wl_q rfl rfl rfl (qt_p tbok rfl) ?_
    refine wl_ef rfl (ef_copy (news := bc (p.take (64 - m.length % 64))) (cs' := (blks H0 m).cs ++ .u64 (UInt64.ofNat (m ++ p).length) :: bc (tcat m tl p)) tbok rfl rfl rfl rfl (.there .here) (by rw [bc_len, List.length_take, Nat.min_comm]; rfl) (rd_cells (by rw [← bc_take]; exact hp.take _) (off_new (newKey hr) (off_ne hne off_nil))) (by rw [if_neg (by omega)]; simp [S8.cs, bc_len]; omega) (by rw [if_neg (by omega)]; simp only [Nat.mul_one]; exact spl_mid _ _ _ _ _ rfl (by omega)) ?_)
    refine wl_as (v' := .c (.i64 ((min p.length (64 - m.length % 64) : Nat) : Int))) (by rw [bc_len, List.length_take, Nat.min_comm]) ?_
    refine wl_q rfl rfl rfl (qt_p tbok rfl) ?_
    refine wl_done ?_
    refine nk_code ?_
    refine wc_seq ?_
    refine wc_region ?_
    refine wl_q rfl rfl rfl (qt_p tbok rfl) ?_
    refine wl_q rfl rfl rfl (qt_p tbok rfl) ?_
    first | refine wl_q rfl rfl rfl (qt_sl tbok rfl rfl rfl rfl) ?_ | refine wl_q rfl rfl rfl (qt_sa tbok rfl rfl rfl rfl) ?_
    refine wl_as (v' := .c (.slc (ad.adv (min p.length (64 - m.length % 64)) cap 1) (p.length - min p.length (64 - m.length % 64)) (cap - min p.length (64 - m.length % 64)))) (rfl) ?_
    refine wl_q rfl rfl rfl (qt_p tbok rfl) ?_
    refine wl_done ?_
    refine nk_code ?_
    refine wc_seq ?_
    refine wc_seq ?_
    refine wc_region ?_
    refine wl_q rfl rfl rfl (qt_p tbok rfl) ?_
    refine wl_q rfl rfl rfl (qt_p tbok rfl) ?_
    refine wl_q rfl rfl rfl (qt_p tbok rfl) ?_
    refine wl_q rfl rfl rfl (qt_p tbok rfl) ?_
    refine wl_done ?_
    refine nk_code ?_
    refine wc_cond rfl (fun h39 => ?_) (fun h39 => ?_)
    · refine wc_ret ?_
      try dsimp only
      have h0 := of_decide_eq_true h39
      exact fin0 rfl (fun w' hw => ⟨rfl, _, tcat_small hd (by omega), by (have h2 := hw.tail (newKey hr)); unfold sb dcs; rw [blks_part (by omega)]; exact h2⟩)
    · have hK : 64 ≤ m.length % 64 + p.length := (by have h0 := of_decide_eq_false h39; omega)
      refine wc_skip ?_
      refine nk_code ?_
      refine wc_region ?_
      refine wl_q rfl rfl rfl (qt_p tbok rfl) ?_
      refine wl_q rfl rfl rfl (qt_p tbok rfl) ?_
      refine wl_q rfl rfl rfl (qt_p tbok rfl) ?_
      refine wl_q rfl rfl rfl (qt_p tbok rfl) ?_
      first | refine wl_q rfl rfl rfl (qt_sl tbok rfl rfl rfl rfl) ?_ | refine wl_q rfl rfl rfl (qt_sa tbok rfl rfl rfl rfl) ?_
      refine wl_ef rfl (ef_turn (b := sb sr ((blks H0 m).cs ++ .u64 (UInt64.ofNat (m ++ p).length) :: bc (tcat m tl p))) (b' := sb sr ((comp (blks H0 m) (tcat m tl p)).cs ++ .u64 (UInt64.ofNat (m ++ p).length) :: bc (tcat m tl p))) (by kernel_rfl) rfl rfl (.there .here) rfl (fun w1 h1 => block_c (lk_st h1 (.there .here)) (rs_lk .here (mid_get _ _ _ rfl)) (rs_cells (cells_lk h1 .here (fun i c h => by rw [Nat.zero_add]; exact h)) (off_one (off_key_ne h1 .here ⟨r, rfl⟩))) (tcat_len htl) (Nat.le_refl 64)) ?_)
      refine wl_done ?_
      refine nk_code ?_
      refine wc_seq ?_
      refine wc_block ?_
      refine wc_loop (ι := Nat × Ad × Nat) (fun i => i.1 ≤ p.length ∧ (m.length + i.1) % 64 = 0 ∧ Cells w i.2.1 (bc (p.drop i.1)) ∧ i.2.1.key = ad.key ∧ p.length - i.1 ≤ i.2.2) (fun i => [(1, .c (.slc i.2.1 (p.length - i.1) i.2.2)), (0, .c (.ptr (.at sr 0))), (4, .c (.ptr (.at r 0)))]) (fun i => [⟨.at r 0, K.map C.u32, 206, (0, 0), []⟩, sb sr ((blks H0 (m ++ p.take i.1)).cs ++ .u64 (UInt64.ofNat (m ++ p).length) :: bc (tcat m tl p))]) (fun i => p.length - i.1) ((min p.length (64 - m.length % 64)), ad.adv (min p.length (64 - m.length % 64)) cap 1, cap - (min p.length (64 - m.length % 64))) (⟨by show min _ _ ≤ p.length; omega, by show (m.length + min _ _) % 64 = 0; omega, by show Cells w _ (bc _); rw [← bc_drop]; exact hp.adv (by rw [bc_len]; omega), adv_key _ _ _ _, by show p.length - min _ _ ≤ cap - min _ _; omega⟩) (nk_start ⟨rfl, rfl, rfl, trivial⟩ (fun w hw => by rw [tcat_full hd hK] at hw; simp only [show min p.length (64 - m.length % 64) = 64 - m.length % 64 by omega]; exact hw)) (fun ⟨c, a, cp⟩ ⟨hc, hm, hcl, hky, hcp⟩ => ?_)
      replace hc : c ≤ p.length := hc
      replace hm : (m.length + c) % 64 = 0 := hm
      replace hcl : Cells w a (bc (p.drop c)) := hcl
      replace hky : a.key = ad.key := hky
      replace hcp : p.length - c ≤ cp := hcp
      refine wc_seq ?_
      refine wc_seq ?_
      refine wc_region ?_
      refine wl_q rfl rfl rfl (qt_p tbok rfl) ?_
      refine wl_q rfl rfl rfl (qt_len tbok rfl rfl) ?_
      refine wl_q rfl rfl rfl (qt_p tbok rfl) ?_
      refine wl_done ?_
      refine nk_code ?_
      refine wc_cond rfl (fun h48 => ?_) (fun h48 => ?_)
      · have h64 : 64 ≤ p.length - c := (by have h0 := of_decide_eq_true h48; omega)
        obtain ⟨pr, po, rfl⟩ := cells_nn hcl (by rw [bc_len, List.length_drop]; omega)
        have hkr : (Ad.at pr po).key ≠ some sr := fun e => hne (hky.symm.trans e)
        refine wc_skip ?_
        refine nk_code ?_
        refine wc_block ?_
        refine wc_seq ?_
        refine wc_region ?_
        refine wl_q rfl rfl rfl (qt_p tbok rfl) ?_
        refine wl_q rfl rfl rfl (qt_p tbok rfl) ?_
        first | refine wl_q rfl rfl rfl (qt_sl tbok rfl rfl rfl rfl) ?_ | refine wl_q rfl rfl rfl (qt_sa tbok rfl rfl rfl rfl) ?_
        refine wl_ef rfl (ef_turn (b := sb sr ((blks H0 (m ++ p.take c)).cs ++ .u64 (UInt64.ofNat (m ++ p).length) :: bc (tcat m tl p))) (b' := sb sr ((comp (blks H0 (m ++ p.take c)) ((p.drop c).take 64)).cs ++ .u64 (UInt64.ofNat (m ++ p).length) :: bc (tcat m tl p))) (by kernel_rfl) rfl rfl (.there .here) rfl (fun w1 h1 => block_c (lk_st h1 (.there .here)) (rs_cells (cells_rd (rd_cells (by rw [← bc_take]; exact (hcl.adv (k := 0) (m := cp) (by rw [bc_len, List.length_drop]; omega)).take 64) (off_new (newKey hr) (off_one hkr))) h1) (off_one hkr)) (rs_cells (cells_lk h1 .here (fun i c h => by rw [Nat.zero_add]; exact h)) (off_one (off_key_ne h1 .here ⟨r, rfl⟩))) (by simp; omega) (Nat.le_refl 64)) ?_)
        refine wl_done ?_
        refine nk_code ?_
        refine wc_region ?_
        refine wl_q rfl rfl rfl (qt_p tbok rfl) ?_
        first | refine wl_q rfl rfl rfl (qt_sl tbok rfl rfl rfl rfl) ?_ | refine wl_q rfl rfl rfl (qt_sa tbok rfl rfl rfl rfl) ?_
        refine wl_as (v' := .c (.slc ((Ad.at pr po).adv 64 cp 1) (p.length - (c + 64)) (cp - 64))) (by rw [Nat.sub_add_eq]; rfl) ?_
        refine wl_q rfl rfl rfl (qt_p tbok rfl) ?_
        refine wl_done ?_
        exact nk_round (c + 64, (Ad.at pr po).adv 64 cp 1, cp - 64) ⟨by show c + 64 ≤ p.length; omega, by show (m.length + (c + 64)) % 64 = 0; omega, by (have h2 := hcl.adv (k := 64) (m := cp) (by rw [bc_len, List.length_drop]; omega)); rw [bc_drop, List.drop_drop] at h2; exact h2, hky, by show p.length - (c + 64) ≤ cp - 64; omega⟩ (by show p.length - (c + 64) < p.length - c; omega) ⟨rfl, rfl, rfl, trivial⟩ (fun w hw => by rw [blks_next hm (by omega)] at hw; exact hw)
      · have hTl : (tcat m tl p).length = 64 := (tcat_len htl)
        have h64 : p.length - c < 64 := (by have h0 := of_decide_eq_false h48; omega)
        refine wc_exit rfl ?_
        refine nk_code ?_
        refine wc_region ?_
        refine wl_q rfl rfl rfl (qt_p tbok rfl) ?_
        refine wl_q rfl rfl rfl (qt_p tbok rfl) ?_
        refine wl_q rfl rfl rfl (qt_p tbok rfl) ?_
        first | refine wl_q rfl rfl rfl (qt_sl tbok rfl rfl rfl rfl) ?_ | refine wl_q rfl rfl rfl (qt_sa tbok rfl rfl rfl rfl) ?_
        refine wl_q rfl rfl rfl (qt_p tbok rfl) ?_
        refine wl_ef rfl (ef_copy (news := bc (p.drop c)) (cs' := (blks H0 (m ++ p.take c)).cs ++ .u64 (UInt64.ofNat (m ++ p).length) :: bc (p.drop c ++ (tcat m tl p).drop (p.drop c).length)) tbok rfl rfl rfl rfl (.there .here) (by rw [bc_len, List.length_drop]; exact (Nat.min_eq_left (Nat.le_of_lt h64)).symm) (rd_cells hcl (off_new (newKey hr) (off_ne (fun e => hne (hky.symm.trans e)) off_nil))) (by simp [S8.cs, bc_len]; omega) (spl_mid0 _ _ _ _ rfl) ?_)
        refine wl_done ?_
        exact nk_end (fin0 rfl (fun w' hw => ⟨rfl, _, (dst_end hTl hm hc h64).1, by (have h2 := hw.tail (newKey hr)); rw [(dst_end hTl hm hc h64).2, List.length_drop] at h2; exact h2⟩))
  · have hu : m.length % 64 = 0 := (by have h0 := of_decide_eq_false h25; omega)
    refine wc_skip ?_
    refine nk_code ?_
    refine wc_seq ?_
    refine wc_block ?_
    refine wc_loop (ι := Nat × Ad × Nat) (fun i => i.1 ≤ p.length ∧ (m.length + i.1) % 64 = 0 ∧ Cells w i.2.1 (bc (p.drop i.1)) ∧ i.2.1.key = ad.key ∧ p.length - i.1 ≤ i.2.2) (fun i => [(1, .c (.slc i.2.1 (p.length - i.1) i.2.2)), (0, .c (.ptr (.at sr 0))), (4, .c (.ptr (.at r 0)))]) (fun i => [⟨.at r 0, K.map C.u32, 206, (0, 0), []⟩, sb sr ((blks H0 (m ++ p.take i.1)).cs ++ .u64 (UInt64.ofNat (m ++ p).length) :: bc tl)]) (fun i => p.length - i.1) (0, ad, cap) (⟨Nat.zero_le _, hu, hp, rfl, hcap⟩) (nk_start ⟨rfl, rfl, rfl, trivial⟩ (fun w hw => by simp only [List.take_zero, List.append_nil]; exact hw)) (fun ⟨c, a, cp⟩ ⟨hc, hm, hcl, hky, hcp⟩ => ?_)
    replace hc : c ≤ p.length := hc
    replace hm : (m.length + c) % 64 = 0 := hm
    replace hcl : Cells w a (bc (p.drop c)) := hcl
    replace hky : a.key = ad.key := hky
    replace hcp : p.length - c ≤ cp := hcp
    refine wc_seq ?_
    refine wc_seq ?_
    refine wc_region ?_
    refine wl_q rfl rfl rfl (qt_p tbok rfl) ?_
    refine wl_q rfl rfl rfl (qt_len tbok rfl rfl) ?_
    refine wl_q rfl rfl rfl (qt_p tbok rfl) ?_
    refine wl_done ?_
    refine nk_code ?_
    refine wc_cond rfl (fun h48 => ?_) (fun h48 => ?_)
    · have h64 : 64 ≤ p.length - c := (by have h0 := of_decide_eq_true h48; omega)
      obtain ⟨pr, po, rfl⟩ := cells_nn hcl (by rw [bc_len, List.length_drop]; omega)
      have hkr : (Ad.at pr po).key ≠ some sr := fun e => hne (hky.symm.trans e)
      refine wc_skip ?_
      refine nk_code ?_
      refine wc_block ?_
      refine wc_seq ?_
      refine wc_region ?_
      refine wl_q rfl rfl rfl (qt_p tbok rfl) ?_
      refine wl_q rfl rfl rfl (qt_p tbok rfl) ?_
      first | refine wl_q rfl rfl rfl (qt_sl tbok rfl rfl rfl rfl) ?_ | refine wl_q rfl rfl rfl (qt_sa tbok rfl rfl rfl rfl) ?_
      refine wl_ef rfl (ef_turn (b := sb sr ((blks H0 (m ++ p.take c)).cs ++ .u64 (UInt64.ofNat (m ++ p).length) :: bc tl)) (b' := sb sr ((comp (blks H0 (m ++ p.take c)) ((p.drop c).take 64)).cs ++ .u64 (UInt64.ofNat (m ++ p).length) :: bc tl)) (by kernel_rfl) rfl rfl (.there .here) rfl (fun w1 h1 => block_c (lk_st h1 (.there .here)) (rs_cells (cells_rd (rd_cells (by rw [← bc_take]; exact (hcl.adv (k := 0) (m := cp) (by rw [bc_len, List.length_drop]; omega)).take 64) (off_new (newKey hr) (off_one hkr))) h1) (off_one hkr)) (rs_cells (cells_lk h1 .here (fun i c h => by rw [Nat.zero_add]; exact h)) (off_one (off_key_ne h1 .here ⟨r, rfl⟩))) (by simp; omega) (Nat.le_refl 64)) ?_)
      refine wl_done ?_
      refine nk_code ?_
      refine wc_region ?_
      refine wl_q rfl rfl rfl (qt_p tbok rfl) ?_
      first | refine wl_q rfl rfl rfl (qt_sl tbok rfl rfl rfl rfl) ?_ | refine wl_q rfl rfl rfl (qt_sa tbok rfl rfl rfl rfl) ?_
      refine wl_as (v' := .c (.slc ((Ad.at pr po).adv 64 cp 1) (p.length - (c + 64)) (cp - 64))) (by rw [Nat.sub_add_eq]; rfl) ?_
      refine wl_q rfl rfl rfl (qt_p tbok rfl) ?_
      refine wl_done ?_
      exact nk_round (c + 64, (Ad.at pr po).adv 64 cp 1, cp - 64) ⟨by show c + 64 ≤ p.length; omega, by show (m.length + (c + 64)) % 64 = 0; omega, by (have h2 := hcl.adv (k := 64) (m := cp) (by rw [bc_len, List.length_drop]; omega)); rw [bc_drop, List.drop_drop] at h2; exact h2, hky, by show p.length - (c + 64) ≤ cp - 64; omega⟩ (by show p.length - (c + 64) < p.length - c; omega) ⟨rfl, rfl, rfl, trivial⟩ (fun w hw => by rw [blks_next hm (by omega)] at hw; exact hw)
    · have hTl : tl.length = 64 := htl
      have h64 : p.length - c < 64 := (by have h0 := of_decide_eq_false h48; omega)
      refine wc_exit rfl ?_
      refine nk_code ?_
      refine wc_region ?_
      refine wl_q rfl rfl rfl (qt_p tbok rfl) ?_
      refine wl_q rfl rfl rfl (qt_p tbok rfl) ?_
      refine wl_q rfl rfl rfl (qt_p tbok rfl) ?_
      first | refine wl_q rfl rfl rfl (qt_sl tbok rfl rfl rfl rfl) ?_ | refine wl_q rfl rfl rfl (qt_sa tbok rfl rfl rfl rfl) ?_
      refine wl_q rfl rfl rfl (qt_p tbok rfl) ?_
      refine wl_ef rfl (ef_copy (news := bc (p.drop c)) (cs' := (blks H0 (m ++ p.take c)).cs ++ .u64 (UInt64.ofNat (m ++ p).length) :: bc (p.drop c ++ tl.drop (p.drop c).length)) tbok rfl rfl rfl rfl (.there .here) (by rw [bc_len, List.length_drop]; exact (Nat.min_eq_left (Nat.le_of_lt h64)).symm) (rd_cells hcl (off_new (newKey hr) (off_ne (fun e => hne (hky.symm.trans e)) off_nil))) (by simp [S8.cs, bc_len]; omega) (spl_mid0 _ _ _ _ rfl) ?_)
      refine wl_done ?_
      exact nk_end (fin0 rfl (fun w' hw => ⟨rfl, _, (dst_end hTl hm hc h64).1, by (have h2 := hw.tail (newKey hr)); rw [(dst_end hTl hm hc h64).2, List.length_drop] at h2; exact h2⟩))
end Go.Proofs.Ytjhmcmadleabjaa

set_option maxRecDepth 100000
namespace Go.Proofs.Ytjhmcmadleabjaa
open Go Go.Hw Go.Proofs

/-- A number's lowest n bytes, the highest first. -/
def be (x : UInt64) (n : Nat) : List UInt8 := (List.range n).map fun j => (x >>> UInt64.ofNat (8 * (n - 1 - j))).toUInt8
theorem be_len (x : UInt64) (n : Nat) : (be x n).length = n := by simp [be]
def bep (x : UInt64) (n i : Nat) (j : Nat) : C := .u8 (if n - i ≤ j then (x >>> UInt64.ofNat (8 * (n - 1 - j))).toUInt8 else 0)
theorem bep_upd {x : UInt64} {n i : Nat} (hi : i < n) {y : UInt8} (hy : y = (x >>> UInt64.ofNat (8 * i)).toUInt8) : spl ((List.range n).map (bep x n i)) (n - 1 - i) [C.u8 y] = (List.range n).map (bep x n (i + 1)) := by
  refine spl_upd (bep x n i) (bep x n (i + 1)) (n - 1 - i) (by omega) (fun j hj hne => ?_) ?_
  · simp only [bep]
    congr 1
    by_cases h : n - i ≤ j
    · rw [if_pos h, if_pos (by omega)]
    · rw [if_neg h, if_neg (by omega)]
  · simp only [bep]
    rw [if_pos (by omega), show 8 * (n - 1 - (n - 1 - i)) = 8 * i by omega, hy]
theorem bep_zero (x : UInt64) (n : Nat) : List.replicate n (C.u8 0) = (List.range n).map (bep x n 0) := by
  rw [map_rep]
  exact List.map_congr_left fun j hj => by
    have := List.mem_range.1 hj
    simp only [bep]; rw [if_neg (by omega)]
theorem bep_full (x : UInt64) (n : Nat) : (List.range n).map (bep x n n) = bc (be x n) := by
  simp only [bc, be, List.map_map]
  exact List.map_congr_left fun j hj => by
    simp only [bep, Function.comp]; rw [if_pos (by omega)]
theorem el5 : elOk Try.prog 5 1 1 (.c (.u8 0)) = true := by kernel_rfl
theorem zero5 : zeroIs Try.prog 5 (.c (.u8 0)) := by unfold zeroIs; kernel_rfl

theorem put81_c (x : UInt64) (n : Nat) (h1 : 1 ≤ n) (h8 : n ≤ 8) (w : World) : CallsV Try.prog 81 [.c (.u64 x), .c (.i64 (n : Int))] w fun en w' => ∃ r : Nat, en = .returned (V.c (.slc (.at r 0) n n)).den ∧ True ∧ (∀ k, (⟨.at r 0, bc (be x n), 5, (0, 0), []⟩ : Blk).key = some k → w.heap.size ≤ k) ∧ St w [⟨.at r 0, bc (be x n), 5, (0, 0), []⟩] w' := by
  refine calls_in (tb := tb) (fn := Try.f81) Try.func81 rfl rfl rfl [(0, .c (.u64 x)), (1, .c (.i64 (n : Int)))] rfl [] (St.refl _) ?_
  refine wc_seq ?_
  refine wc_region ?_
  refine wl_q rfl rfl rfl (qt_p tbok rfl) ?_
  refine wl_done ?_
  refine nk_code ?_
  refine wc_seq ?_
  refine wc_seq ?_
  refine wc_region ?_
  refine wl_q rfl rfl rfl (qt_p tbok rfl) ?_
  refine wl_q rfl rfl rfl (qt_p tbok rfl) ?_
  refine wl_as (v' := .c (.bool false)) (congrArg (fun b => V.c (C.bool b)) (decide_eq_false (by omega))) ?_
  refine wl_q rfl rfl rfl (qt_p tbok rfl) ?_
  first | refine wl_g rfl rfl rfl rfl (qt_p tbok rfl) ?_ | refine wl_skip rfl rfl rfl rfl rfl ?_
  first | refine wl_g rfl rfl rfl rfl (qt_p tbok rfl) ?_ | refine wl_skip rfl rfl rfl rfl rfl ?_
  refine wl_as (v' := .c (.bool false)) (congrArg (fun b => V.c (C.bool b)) (decide_eq_false (by omega))) ?_
  refine wl_q rfl rfl rfl (qt_p tbok rfl) ?_
  refine wl_done ?_
  refine nk_code ?_
  refine wc_no rfl ?_
  refine wc_skip ?_
  refine nk_code ?_
  refine wc_seq ?_
  refine wc_region ?_
  refine wl_q rfl rfl rfl (qt_p tbok rfl) ?_
  refine wl_ef rfl (ef_make tbok rfl el5 zero5 rfl rfl rfl (Nat.le_refl n) (by omega) (by simp only [maxLen]; omega) (fun r hr => ?_))
  refine wl_q rfl rfl rfl (qt_p tbok rfl) ?_
  refine wl_done ?_
  refine nk_code ?_
  refine wc_seq ?_
  refine wc_seq ?_
  refine wc_region ?_
  refine wl_q rfl rfl rfl (qt_p tbok rfl) ?_
  refine wl_q rfl rfl rfl (qt_p tbok rfl) ?_
  refine wl_done ?_
  refine nk_code ?_
  refine wc_block ?_
  refine wc_loop (ι := Nat) (fun i => i ≤ n) (fun i => [(16, .c (.i64 (i : Int))), (15, .c (.i64 (n : Int))), (0, .c (.u64 x)), (1, .c (.i64 (n : Int))), (5, .c (.slc (.at r 0) n n))]) (fun i => [⟨.at r 0, (List.range n).map (bep x n i), 5, (0, 0), []⟩]) (fun i => n - i) 0 (Nat.zero_le _) (nk_start ⟨rfl, rfl, rfl, rfl, rfl, trivial⟩ (fun w hw => by rw [Nat.sub_self, bep_zero x] at hw; exact hw)) (fun i hi => ?_)
  refine wc_seq ?_
  refine wc_region ?_
  refine wl_q rfl rfl rfl (qt_p tbok rfl) ?_
  refine wl_done ?_
  refine nk_code ?_
  refine wc_seq ?_
  refine wc_cond rfl (fun h17 => ?_) (fun h17 => ?_)
  · have hi' : i < n := (by have h0 := of_decide_eq_true h17; omega)
    refine wc_skip ?_
    refine nk_code ?_
    refine wc_seq ?_
    refine wc_block ?_
    refine wc_seq ?_
    refine wc_region ?_
    refine wl_q rfl rfl rfl (qt_p tbok rfl) ?_
    refine wl_q rfl rfl rfl (qt_p tbok rfl) ?_
    refine wl_done ?_
    refine nk_code ?_
    refine wc_region ?_
    refine wl_q rfl rfl rfl (qt_p tbok rfl) ?_
    refine wl_q rfl rfl rfl (qt_p tbok rfl) ?_
    refine wl_q rfl rfl rfl (qt_p tbok rfl) ?_
    refine wl_q rfl rfl rfl (qt_p tbok rfl) ?_
    refine wl_q rfl rfl rfl (qt_p tbok rfl) ?_
    refine wl_q rfl rfl rfl (qt_p tbok rfl) ?_
    refine wl_q rfl rfl rfl (qt_p tbok rfl) ?_
    refine wl_q rfl rfl rfl (qt_p tbok rfl) ?_
    refine wl_q rfl rfl rfl (qt_p tbok rfl) ?_
    refine wl_q rfl rfl rfl (qt_p tbok rfl) ?_
    refine wl_q rfl rfl rfl (qt_p tbok rfl) ?_
    refine wl_ef rfl (ef_store (cs' := (List.range n).map (bep x n (i + 1))) tbok rfl rfl rfl rfl .here rfl (by simp; omega) (by rw [show 0 + ((n : Int) - 1 - (i : Int)).toNat * 1 = n - 1 - i by omega]; exact bep_upd hi' (by show _ = (x >>> UInt64.ofNat (8 * i)).toUInt8; congr 3)) ?_)
    refine wl_done ?_
    refine nk_code ?_
    refine wc_region ?_
    refine wl_q rfl rfl rfl (qt_p tbok rfl) ?_
    refine wl_q rfl rfl rfl (qt_p tbok rfl) ?_
    refine wl_done ?_
    exact nk_round (i + 1) (by omega) (by omega) ⟨rfl, rfl, rfl, rfl, rfl, trivial⟩ (fun _ h => h)
  · refine wc_exit rfl ?_
    refine nk_code ?_
    refine wc_seq ?_
    refine wc_region ?_
    refine wl_q rfl rfl rfl (qt_p tbok rfl) ?_
    refine wl_q rfl rfl rfl (qt_p tbok rfl) ?_
    refine wl_done ?_
    refine nk_code ?_
    refine wc_ret ?_
    try dsimp only
    exact fin1 rfl (rv_tmp rfl) (fun w' hw => ⟨r, rfl, trivial, newKey hr, by have e : i = n := (by have h0 := of_decide_eq_false h17; omega); subst e; rw [bep_full] at hw; exact hw⟩)
end Go.Proofs.Ytjhmcmadleabjaa

set_option maxRecDepth 100000
namespace Go.Proofs.Ytjhmcmadleabjaa
open Go Go.Hw Go.Proofs

/-- How many zeros stand in the padding. -/
def zn (n : Nat) : Nat := (119 - n % 64) % 64
def pd (i : Nat) : List UInt8 := 128 :: List.replicate i 0
def padf (m : List UInt8) : List UInt8 := pd (zn m.length) ++ be (UInt64.ofNat m.length <<< 3) 8
/-- The bytes of the words. -/
def outS (h : S8) : List UInt8 := (List.range 8).flatMap fun i => be (h.at i).toUInt64 4
/-- The digest. -/
def sha (m : List UInt8) : List UInt8 := outS (blks H0 (m ++ padf m))

theorem be4 (x : UInt64) : ∃ a b c d, be x 4 = [a, b, c, d] := ⟨_, _, _, _, rfl⟩
theorem outS_len (h : S8) : (outS h).length = 32 := rfl
theorem sha_len (m : List UInt8) : (sha m).length = 32 := rfl
theorem padf_len (m : List UInt8) : (padf m).length ≤ 72 := by
  unfold padf pd zn; simp [be_len]; omega

/-- The output, its first i words. -/
def outP (h : S8) (i : Nat) : List UInt8 := ((List.range i).flatMap fun j => be (h.at j).toUInt64 4) ++ List.replicate (32 - 4 * i) 0
theorem outP_zero (h : S8) : outP h 0 = List.replicate 32 0 := rfl
theorem outP_full (h : S8) : outP h 8 = outS h := by unfold outP outS; simp
theorem outP_set (h : S8) {i : Nat} (hi : i < 8) : spl (bc (outP h i)) (4 * i) (bc (be (h.at i).toUInt64 4)) = bc (outP h (i + 1)) := by
  match i, hi with
  | 0, _ | 1, _ | 2, _ | 3, _ | 4, _ | 5, _ | 6, _ | 7, _ => rfl
theorem outP_len (h : S8) {i : Nat} (hi : i ≤ 8) : (outP h i).length = 32 := by
  match i, hi with
  | 0, _ | 1, _ | 2, _ | 3, _ | 4, _ | 5, _ | 6, _ | 7, _ | 8, _ => rfl

theorem zero30 : zeroIs Try.prog 30 (.agg (bc (List.replicate 32 0))) := by unfold zeroIs; kernel_rfl
theorem u64_ne56 (n : Nat) : (!decide (UInt64.ofNat n % 64 = 56)) = !decide (n % 64 = 56) := by
  have h := u64_mod64 n
  congr 1
  refine decide_eq_decide.2 ⟨fun e => ?_, fun e => UInt64.toNat_inj.1 ?_⟩
  · rw [e] at h; exact h.symm
  · rw [h]; exact e
theorem dcs_len {m tl : List UInt8} (h : Dst m tl) : (dcs m tl).length = 73 := by
  have := h.len
  simp [dcs, S8.cs, bc_len, this]
theorem pd_app (i : Nat) : bc (pd i) ++ [C.u8 0] = bc (pd (i + 1)) := by
  simp [pd, bc, List.replicate_succ', -List.map_replicate, -List.replicate_append_replicate]
theorem OwnS.le {ad : Ad} {n cap z : Nat} {cs : List C} {tl : List Value} (h : OwnS ad n cap z cs tl) : n ≤ cap := by
  cases ad with
  | nil => obtain ⟨h1, h2, _⟩ := h; omega
  | raw _ => exact h.elim
  | mp _ _ => exact h.elim
  | «at» r o => exact h.2.1
theorem nn_key {ad : Ad} (h : ad.key ≠ none) : ∃ k, ad.key = some k := by
  cases hk : ad.key with
  | none => exact absurd hk h
  | some k => exact ⟨k, rfl⟩
theorem dcs_h {m tl : List UInt8} : ∀ (j : Nat) (c : C), (blks H0 m).cs[j]? = some c → (dcs m tl)[0 + j]? = some c := fun j c hc => by
  rw [Nat.zero_add, dcs, List.getElem?_append_left (by have := (List.getElem?_eq_some_iff.1 hc).1; simpa using this)]; exact hc
theorem at0 {l : List C} : ∀ (j : Nat) (c : C), l[j]? = some c → l[0 + j]? = some c := fun j c h => by rw [Nat.zero_add]; exact h

theorem sum105_c {w : World} {sr : Nat} {m tl : List UInt8} (hd : Dst m tl) (hcs : Cells w (.at sr 0) (dcs m tl)) (hmax : m.length < 1152921504606846976) :
    CallsV Try.prog 105 [.c (.ptr (.at sr 0))] w fun en w' => en = .returned (V.agg (bc (sha m))).den ∧ St w [] w' := by
  refine calls_in (tb := tb) (fn := Try.f105) Try.func105 rfl rfl rfl [(0, .c (.ptr (.at sr 0)))] rfl [] (St.refl _) ?_
  refine wc_seq ?_
  refine wc_region ?_
  refine wl_ef rfl (ef_alloc zero30 rfl rfl (fun o ho => ?_))
  refine wl_done ?_
  refine nk_code ?_
  refine wc_seq ?_
  refine wc_seq ?_
  refine wc_region ?_
  refine wl_q rfl rfl rfl (qt_p tbok rfl) ?_
  first | refine wl_q rfl rfl rfl (qt_p tbok rfl) ?_ | refine wl_q rfl rfl rfl (qt_eqn tbok rfl rfl rfl) ?_
  refine wl_done ?_
  refine nk_code ?_
  refine wc_no rfl ?_
  refine wc_skip ?_
  refine nk_code ?_
  refine wc_seq ?_
  refine wc_region ?_
  refine wl_q rfl rfl rfl (qt_p tbok rfl) ?_
  refine wl_q rfl rfl rfl (qt_p tbok rfl) ?_
  refine wl_q rfl rfl rfl (qt_load_ag (l := dcs m tl) tbok rfl rfl rfl (dcs_len hd) (rs_cells hcs (off_new (newKey ho) off_nil))) ?_
  refine wl_ef rfl (ef_alloc zero205 rfl rfl (fun d hdn => ?_))
  refine wl_ef rfl (ef_store (cs' := dcs m tl) tbok rfl rfl rfl rfl .here (dcs_len hd) (Nat.le_of_ble_eq_true rfl) (spl_all (dcs_len hd)) ?_)
  refine wl_done ?_
  refine nk_code ?_
  refine wc_seq ?_
  refine wc_region ?_
  refine wl_ef rfl (ef_make tbok rfl el5 zero5 (l := 1) (c := 72) rfl rfl rfl (by omega) (by omega) (by simp only [maxLen]; omega) (fun pr hp => ?_))
  refine wl_q rfl rfl rfl (qt_p tbok rfl) ?_
  refine wl_done ?_
  refine nk_code ?_
  refine wc_seq ?_
  refine wc_region ?_
  refine wl_q rfl rfl rfl (qt_p tbok rfl) ?_
  refine wl_q rfl rfl rfl (qt_p tbok rfl) ?_
  refine wl_ef rfl (ef_store (cs' := bc (pd 0)) tbok rfl rfl rfl rfl .here rfl (Nat.le_of_ble_eq_true rfl) rfl ?_)
  refine wl_done ?_
  refine nk_code ?_
  refine wc_seq ?_
  refine wc_block ?_
  refine wc_loop (ι := Nat × Ad × Nat × List Value) (fun x => x.1 ≤ zn m.length ∧ OwnS x.2.1 (1 + x.1) x.2.2.1 1 (bc (pd x.1)) x.2.2.2 ∧ (∀ k, x.2.1.key = some k → w.heap.size ≤ k)) (fun x => [(4, .c (.slc x.2.1 (1 + x.1) x.2.2.1)), (3, .c (.ptr (.at d 0))), (0, .c (.ptr (.at sr 0))), (2, .c (.ptr (.at o 0)))]) (fun x => [⟨x.2.1, bc (pd x.1), 5, (0, 0), x.2.2.2⟩, ⟨.at d 0, dcs m tl, 205, (0, 0), []⟩, ⟨.at o 0, bc (List.replicate 32 0), 30, (0, 0), []⟩]) (fun x => 64 - x.1) (0, .at pr 0, 72, (List.replicate 71 (C.u8 0)).map C.den) ⟨Nat.zero_le _, ⟨rfl, Nat.le_of_ble_eq_true rfl, Nat.le_of_ble_eq_true rfl, rfl, rfl⟩, newKey hp⟩ (nk_start ⟨rfl, rfl, rfl, rfl, trivial⟩ (fun w h => h)) (fun ⟨i, pa, pc, ptl⟩ ⟨hi, hown, hpk⟩ => ?_)
  replace hi : i ≤ zn m.length := hi
  replace hown : OwnS pa (1 + i) pc 1 (bc (pd i)) ptl := hown
  replace hpk : ∀ k, pa.key = some k → w.heap.size ≤ k := hpk
  have hz : zn m.length < 64 := Nat.mod_lt _ (by omega)
  refine wc_seq ?_
  refine wc_seq ?_
  refine wc_region ?_
  refine wl_q rfl rfl rfl (qt_p tbok rfl) ?_
  first | refine wl_q rfl rfl rfl (qt_l tbok rfl rfl rfl) ?_ | refine wl_q rfl rfl rfl (qt_la tbok rfl rfl rfl) ?_
  refine wl_q rfl rfl rfl (qt_p tbok rfl) ?_
  refine wl_q rfl rfl rfl (qt_len tbok rfl rfl) ?_
  refine wl_q rfl rfl rfl (qt_p tbok rfl) ?_
  refine wl_q rfl rfl rfl (qt_p tbok rfl) ?_
  refine wl_q rfl rfl rfl (qt_pure tbok rfl (by decide)) ?_
  first | refine wl_q rfl rfl rfl (qt_p tbok rfl) ?_ | refine wl_q rfl rfl rfl (qt_neqn tbok rfl rfl rfl) ?_
  refine wl_as (v' := .c (.bool (!decide ((m.length + (1 + i)) % 64 = 56)))) (congrArg (fun b => V.c (C.bool b)) (by rw [← u64_ne56]; rw [← u64_add]; rfl)) ?_
  refine wl_done ?_
  refine nk_code ?_
  refine wc_cond rfl (fun h24 => ?_) (fun h24 => ?_)
  · have hne : ¬ (m.length + (1 + i)) % 64 = 56 := (by simpa using h24)
    have hlt : i < zn m.length := (by unfold zn at hi ⊢; omega)
    refine wc_skip ?_
    refine nk_code ?_
    refine wc_block ?_
    refine wc_region ?_
    refine wl_q rfl rfl rfl (qt_p tbok rfl) ?_
    refine wl_ef rfl (ef_buildSlice (vs := [(0, .c (.u8 0))]) (l := [.u8 0]) tbok rfl zero5 rfl rfl rfl (by decide) rfl rfl (fun br hb => ?_))
    refine wl_ef rfl (ef_append tbok rfl el5 zero5 rfl rfl rfl (.there .here) hown hpk (m := 1) (news := [.u8 0]) rfl (rs_lk .here (fun i c h => by rw [Nat.zero_add]; exact h)) (by omega) (by simp only [maxLen]; omega) (fun pa2 pc2 ptl2 hown2 hpk2 hnn _ => ?_))
    refine wl_q rfl rfl rfl (qt_p tbok rfl) ?_
    refine wl_done ?_
    exact nk_round (i + 1, pa2, pc2, ptl2) ⟨hlt, by rw [pd_app] at hown2; exact hown2, hpk2⟩ (by show 64 - (i + 1) < 64 - i; omega) ⟨rfl, rfl, rfl, rfl, trivial⟩ (fun w hw => by have h2 := Rm.sub_St hw (.there .here) (newKey hb); rw [pd_app] at h2; exact h2)
  · have heq : (m.length + (1 + i)) % 64 = 56 := (by simpa using h24)
    have hiz : i = zn m.length := (by unfold zn at hi ⊢; omega)
    refine wc_exit rfl ?_
    refine nk_code ?_
    refine wc_seq ?_
    refine wc_region ?_
    refine wl_q rfl rfl rfl (qt_p tbok rfl) ?_
    refine wl_q rfl rfl rfl (qt_p tbok rfl) ?_
    refine wl_q rfl rfl rfl (qt_p tbok rfl) ?_
    refine wl_q rfl rfl rfl (qt_p tbok rfl) ?_
    refine wl_q rfl rfl rfl (qt_load tbok rfl rfl rfl ((rs_cells hcs (off_new hpk (off_new (newKey hdn) (off_new (newKey ho) off_nil)))).rc (i := 8) (c := .u64 (UInt64.ofNat m.length)) rfl (by omega))) ?_
    refine wl_q rfl rfl rfl (qt_p tbok rfl) ?_
    refine wl_as (v' := .c (.u64 (UInt64.ofNat m.length <<< 3))) (rfl) ?_
    refine wl_ef rfl (ef_fresh (by kernel_rfl) rfl rfl (fun w1 h1 => put81_c _ 8 (by omega) (by omega) w1) (fun qr _ hq => ?_))
    refine wl_ef rfl (ef_append tbok rfl el5 zero5 rfl rfl rfl (.there .here) hown hpk (m := 8) (news := bc (be (UInt64.ofNat m.length <<< 3) 8)) rfl (rs_lk .here at0) (by omega) (by simp only [maxLen]; omega) (fun pa3 pc3 ptl3 hown3 hpk3 hnn _ => ?_))
    refine wl_ef rfl (ef_turnx (I := fun x => Dst (m ++ padf m) x) (b' := fun x => sb d (dcs (m ++ padf m) x)) (by kernel_rfl) rfl rfl (fun x => .there (.there .here)) (fun _ => rfl) (fun w1 h1 => put_c (p := padf m) hd (lk_st h1 (.there (.there .here))) (by have h2 := cells_own h1 .here; rw [← bc_app] at h2; rw [padf, ← hiz]; exact h2) (off_key_ne h1 (.there .here) (nn_key (hnn (by omega)))) (by simp only [padf, pd, List.length_append, be_len, List.length_cons, List.length_replicate, hiz]; omega) (OwnS.le hown3) (by have := padf_len m; omega)) (fun tl2 hd2 => ?_))
    refine wl_done ?_
    refine nk_code ?_
    refine wc_seq ?_
    refine wc_region ?_
    refine wl_ef rfl (ef_alloc zero30 rfl rfl (fun rr hrr => ?_))
    refine wl_done ?_
    refine nk_code ?_
    refine wc_seq ?_
    refine wc_seq ?_
    refine wc_region ?_
    refine wl_q rfl rfl rfl (qt_p tbok rfl) ?_
    refine wl_q rfl rfl rfl (qt_load_ag (l := (blks H0 (m ++ padf m)).cs) tbok rfl rfl rfl rfl (rs_lk (.there (.there (.there .here))) dcs_h)) ?_
    refine wl_q rfl rfl rfl (qt_p tbok rfl) ?_
    refine wl_done ?_
    refine nk_code ?_
    refine wc_block ?_
    refine wc_loop (ι := Nat) (fun i => i ≤ 8) (fun i => [(39, .c (.i64 (i : Int))), (38, .agg (blks H0 (m ++ padf m)).cs), (5, .c (.ptr (.at rr 0))), (2, .c (.ptr (.at o 0)))]) (fun i => [⟨.at rr 0, bc (outP (blks H0 (m ++ padf m)) i), 30, (0, 0), []⟩, ⟨.at o 0, bc (List.replicate 32 0), 30, (0, 0), []⟩]) (fun i => 8 - i) 0 (by omega) (nk_start ⟨rfl, rfl, rfl, rfl, trivial⟩ (fun w hw => Rm.sub_St (Rm.sub_St (Rm.sub_St hw (.there .here) hpk3) (.there .here) hq) (.there .here) (newKey hdn))) (fun i hi => ?_)
    refine wc_seq ?_
    refine wc_region ?_
    refine wl_q rfl rfl rfl (qt_p tbok rfl) ?_
    refine wl_done ?_
    refine nk_code ?_
    refine wc_seq ?_
    refine wc_cond rfl (fun h40 => ?_) (fun h40 => ?_)
    · have hi' : i < 8 := (by have h0 := of_decide_eq_true h40; omega)
      refine wc_skip ?_
      refine nk_code ?_
      refine wc_seq ?_
      refine wc_block ?_
      refine wc_seq ?_
      refine wc_region ?_
      refine wl_q rfl rfl rfl (qt_p tbok rfl) ?_
      refine wl_q rfl rfl rfl (qt_index_sc tbok rfl rfl rfl rfl rfl ⟨by omega, by omega⟩ (S8.cs_get _ i hi')) ?_
      refine wl_q rfl rfl rfl (qt_p tbok rfl) ?_
      refine wl_q rfl rfl rfl (qt_p tbok rfl) ?_
      refine wl_done ?_
      refine nk_code ?_
      refine wc_draw (s0 := []) 7 follows ?_
      refine wh_q 0 rfl (by kernel_rfl) rfl rfl rfl (qt_p tbok rfl) (fun w hw => hw.all (new_cons (newKey hrr) (new_cons (newKey ho) new_nil))) ?_
      refine wh_q 1 rfl (by kernel_rfl) rfl rfl rfl (qt_p tbok rfl) (fun w hw => hw.all (new_cons (newKey hrr) (new_cons (newKey ho) new_nil))) ?_
      first | refine wh_q 2 rfl (by kernel_rfl) rfl rfl rfl (qt_sl tbok rfl rfl rfl rfl) (fun w hw => hw.all (new_cons (newKey hrr) (new_cons (newKey ho) new_nil))) ?_ | refine wh_q 2 rfl (by kernel_rfl) rfl rfl rfl (qt_sa tbok rfl rfl rfl rfl) (fun w hw => hw.all (new_cons (newKey hrr) (new_cons (newKey ho) new_nil))) ?_
      refine wh_q 3 rfl (by kernel_rfl) rfl rfl rfl (qt_p tbok rfl) (fun w hw => hw.all (new_cons (newKey hrr) (new_cons (newKey ho) new_nil))) ?_
      refine wh_q 4 rfl (by kernel_rfl) rfl rfl rfl (qt_p tbok rfl) (fun w hw => hw.all (new_cons (newKey hrr) (new_cons (newKey ho) new_nil))) ?_
      refine wh_one 5 (by kernel_rfl) (wo_ef rfl rfl (ef_fresh (by kernel_rfl) rfl rfl (fun w1 h1 => put81_c _ 4 (by omega) (by omega) w1) (fun q2 _ hq2 => ⟨fun w hw => hw.all (new_cons hq2 (new_cons (newKey hrr) (new_cons (newKey ho) new_nil))), ?_⟩)))
      refine wh_one 6 (by kernel_rfl) (wo_ef rfl rfl (ef_copy (news := bc (be ((blks H0 (m ++ padf m)).at i).toUInt64 4)) (cs' := bc (outP (blks H0 (m ++ padf m)) (i + 1))) tbok rfl rfl rfl rfl (.there .here) (by rw [bc_len, be_len]; omega) (rs_lk .here at0) (by rw [if_neg (by omega), bc_len, bc_len, be_len, outP_len _ hi]; omega) (by rw [if_neg (by omega), show 0 + ((4 : Int) * (i : Int)).toNat * 1 = 4 * i by omega]; exact outP_set _ hi') ⟨fun w hw => hw.all (new_cons hq2 (new_cons (newKey hrr) (new_cons (newKey ho) new_nil))), ?_⟩))
      refine wh_done (by kernel_rfl) ?_
      refine nk_code ?_
      refine wc_region ?_
      refine wl_q rfl rfl rfl (qt_p tbok rfl) ?_
      refine wl_q rfl rfl rfl (qt_p tbok rfl) ?_
      refine wl_done ?_
      exact nk_round (i + 1) (by omega) (by omega) ⟨rfl, rfl, rfl, rfl, trivial⟩ (fun w hw => hw.tail hq2)
    · have he : i = 8 := (by have h0 := of_decide_eq_false h40; omega)
      subst he
      refine wc_exit rfl ?_
      refine nk_code ?_
      refine wc_seq ?_
      refine wc_region ?_
      refine wl_q rfl rfl rfl (qt_load_ag (l := bc (sha m)) tbok rfl rfl rfl rfl (rs_lk .here (by rw [outP_full]; exact at0))) ?_
      refine wl_ef rfl (ef_store (cs' := bc (sha m)) tbok rfl rfl rfl rfl (.there .here) rfl (Nat.le_of_ble_eq_true rfl) (spl_all rfl) ?_)
      refine wl_done ?_
      refine nk_code ?_
      refine wc_ret ?_
      try dsimp only
      exact fin1 rfl (rv_ag (l := bc (sha m)) tbok rfl rfl rfl rfl (rs_lk (.there .here) at0)) (fun w' hw => ⟨rfl, hw.all (new_cons (newKey hrr) (new_cons (newKey ho) new_nil))⟩)

theorem sum_c {w : World} {ad : Ad} {len cap : Nat} {p : List UInt8} (hp : Cells w ad (bc p)) (hlv : Lives w ad) (hlen : p.length = len) (hcap : len ≤ cap) (hmax : p.length < 1152921504606846976) :
    CallsV Try.prog 70 [.c (.slc ad len cap)] w fun en w' => en = .returned (V.agg (bc (sha p))).den ∧ St w [] w' := by
  subst hlen
  refine calls_in (tb := tb) (fn := Try.f70) Try.func70 rfl rfl rfl [(0, .c (.slc ad p.length cap))] rfl [] (St.refl _) ?_
  refine wc_seq ?_
  refine wc_region ?_
  refine wl_ef rfl (ef_alloc zero30 rfl rfl (fun o ho => ?_))
  refine wl_done ?_
  refine nk_code ?_
  refine wc_seq ?_
  refine wc_region ?_
  refine wl_ef rfl (ef_fresh (by kernel_rfl) rfl rfl (fun w1 h1 => dnew_c w1) (fun d _ hd => ?_))
  refine wl_q rfl rfl rfl (qt_p tbok rfl) ?_
  refine wl_done ?_
  refine nk_code ?_
  refine wc_seq ?_
  refine wc_region ?_
  refine wl_q rfl rfl rfl (qt_p tbok rfl) ?_
  refine wl_q rfl rfl rfl (qt_p tbok rfl) ?_
  refine wl_ef rfl (ef_turnx (I := fun x => Dst p x) (b' := fun x => sb d (dcs p x)) (by kernel_rfl) rfl rfl (fun x => .here) (fun _ => rfl) (fun w1 h1 => put_c (m := []) (p := p) dst_nil (by rw [dcs_nil]; exact lk_st h1 .here) (cells_rd (rd_cells hp (off_new hd (off_new (newKey ho) off_nil))) h1) (hlv.ne (hd d rfl)) rfl hcap (by omega)) (fun tl2 hd2 => ?_))
  refine wl_done ?_
  refine nk_code ?_
  refine wc_seq ?_
  refine wc_region ?_
  refine wl_q rfl rfl rfl (qt_p tbok rfl) ?_
  refine wl_ef rfl (ef_pure (v := .agg (bc (sha p))) (by kernel_rfl) rfl rfl (fun w1 h1 => sum105_c hd2 (cells_own h1 .here) hmax) ?_)
  refine wl_ef rfl (ef_store (cs' := bc (sha p)) tbok rfl rfl rfl rfl (.there .here) rfl (Nat.le_of_ble_eq_true rfl) (spl_all rfl) ?_)
  refine wl_done ?_
  refine nk_code ?_
  refine wc_ret ?_
  try dsimp only
  exact fin1 rfl (rv_ag (l := bc (sha p)) tbok rfl rfl rfl rfl (rs_lk (.there .here) at0)) (fun w' hw => ⟨rfl, hw.all (new_cons hd (new_cons (newKey ho) new_nil))⟩)
end Go.Proofs.Ytjhmcmadleabjaa
