/- What the laws' arguments are, read as data: keys, bytes, signatures; and what the bound says of them. -/
import Derived.Test.YtjhmcmadleabjaaRole
import Derived.Test.YtjhmcmadleabjaaFrameC
import Derived.Test.YtjhmcmadleabjaaRows
set_option linter.unusedVariables false
set_option maxRecDepth 100000
namespace Go.Proofs.Ytjhmcmadleabjaa
open Go Go.Hw Go.Proofs Go.ChangeShapes Go.WideShapes Go.RowKit

theorem Try.own : ownKnob Try.prog.godebug = none := by kernel_rfl
theorem Try.laidOut : laidOutB Try.prog = true := by kernel_rfl

section
variable {H : Type} {enc : TypeId × Value → H} {w : World} {base : Nat} {sp : Nat → Bool} {held : Bool} {t fuel : Nat} {cs : List Value} {x : DataW H × List MemPlace}

theorem agg_of {v : Value} {cs0 : Array Value} {l : List C} (hv : v = .agg cs0) (h : cs0.toList = l.map C.den) : v = (V.agg l).den := by
  subst hv
  show Value.agg cs0 = Value.agg (l.map C.den).toArray
  congr 1
  exact Array.ext' (by simpa using h)
/-- A struct of a number and a sum. -/
theorem cut_pub {T z : Nat} (h : tb.get t = some (.struct [(3, 0, 1), (T, 1, 32)], z)) (hT : tb.get T = some (.arr 32 5 1, 32)) (hz : z = 33) (hr : DataW.trod enc Try.prog w base sp held fuel t cs = some x) :
    ∃ (n : Int) (r : List UInt8), r.length = 32 ∧ inI n ∧ cs = (C.i64 n :: bc r).map C.den := by
  obtain ⟨hl, xs, _, m, hx⟩ := trod_field tbok h hr
  obtain ⟨y0, _, h0⟩ := hx 0 3 0 1 rfl
  obtain ⟨y1, _, h1⟩ := hx 1 T 1 32 rfl
  obtain ⟨n, e0, hn⟩ := trod_i64 tbok (z := 1) rfl h0
  obtain ⟨r, hr2, e1⟩ := trod_arr_u8 tbok hT (s1 := 1) rfl h1
  refine ⟨n, r, hr2, hn, ?_⟩
  rw [List.drop_zero] at e0
  rw [List.take_of_length_le (by simp; omega)] at e1
  rw [← List.take_append_drop 1 cs, e0, e1]
  rfl
theorem open_pub {v : Value} {d : DataW H} {ps : List MemPlace} {T b0 : Nat} {rc : Reach} (h : tb.get t = some (.struct [(3, 0, 1), (T, 1, 32)], 33)) (hT : tb.get T = some (.arr 32 5 1, 32)) (hval : Value.okWide Try.prog w rc b0 t v) (hd : DataW.Trod enc Try.prog w base sp held t v d ps) :
    ∃ (n : Int) (r : List UInt8), r.length = 32 ∧ inI n ∧ v = (V.agg (C.i64 n :: bc r)).den := by
  obtain ⟨F, hF, _⟩ := und_struct tbok h
  obtain ⟨fuel, hf⟩ := hd
  simp only [Value.okWide, hF] at hval
  obtain ⟨cs0, hv, _, _⟩ := hval
  obtain ⟨n, r, h1, h2, h3⟩ := cut_pub h hT rfl (cs := v.cells.toList) hf
  exact ⟨n, r, h1, h2, agg_of hv (by rw [hv] at h3; exact h3)⟩

theorem open_bytes {v : Value} {d : DataW H} {ps : List MemPlace} {b0 : Nat} {rc : Reach} (hval : Value.okWide Try.prog w rc b0 25 v) (hd : DataW.Trod enc Try.prog w base sp held 25 v d ps) :
    ∃ (ad : Ad) (l : List UInt8) (cap : Nat), v = (V.c (.slc ad l.length cap)).den ∧ l.length ≤ cap ∧ cap ≤ maxLen ∧ Cells w ad (bc l) ∧ (l = [] ∨ ∃ es rest, d = .slice es rest ∧ es.length = l.length) ∧ Lives w ad := by
  obtain ⟨fuel, hf⟩ := hd
  obtain ⟨hu, _⟩ := und_slice tbok (t := 25) (e := 5) (z := 1) (s := 1) rfl
  obtain ⟨a, len, c2, rfl⟩ := okWide_slice hu hval
  obtain ⟨ad, l, cap, h1, h2, h3, h4, hlv, h5⟩ := trod_slc_u8 tbok (t := 25) (el := 5) rfl rfl hf
  have e2 : (Value.slice a len c2).cells.toList = [(C.slc ad l.length cap).den] := h1
  simp [Value.cells] at e2
  exact ⟨ad, l, cap, e2, h2, h3, h4, h5, hlv⟩

theorem open_dig {v : Value} {d : DataW H} {ps : List MemPlace} {b0 : Nat} {rc : Reach} (h : tb.get t = some (.arr 32 5 1, 32)) (hval : Value.okWide Try.prog w rc b0 t v) (hd : DataW.Trod enc Try.prog w base sp held t v d ps) :
    ∃ (r : List UInt8), r.length = 32 ∧ v = (V.agg (bc r)).den := by
  obtain ⟨hu, _⟩ := und_arr tbok h
  obtain ⟨fuel, hf⟩ := hd
  simp only [Value.okWide, hu] at hval
  obtain ⟨cs0, hv, _, _⟩ := hval
  obtain ⟨r, h1, h2⟩ := trod_arr_u8 tbok h (s1 := 1) rfl (cs := v.cells.toList) hf
  exact ⟨r, h1, agg_of hv (by rw [hv] at h2; exact h2)⟩
/-- A struct of a number, 67 sums and a list of sums. -/
theorem cut_sig {T A E L : Nat} (h : tb.get T = some (.struct [(3, 0, 1), (A, 1, 2144), (L, 2145, 1)], 2146)) (hA : tb.get A = some (.arr 67 E 32, 2144)) (hE : tb.get E = some (.arr 32 5 1, 32)) (hL : tb.get L = some (.slice E 32, 1))
    (hr : DataW.trod enc Try.prog w base sp held fuel T cs = some x) :
    ∃ (n : Int) (CH P : List (List UInt8)) (pa : Ad) (pc : Nat), A32 CH ∧ CH.length = 67 ∧ A32 P ∧ P.length ≤ pc ∧ pc ≤ maxLen ∧ inI n ∧ Cells w pa (bc P.flatten) ∧ cs = (scs n CH.flatten pa P.length pc).map C.den ∧ (P = [] ∨ ∃ d0 d1 es rest, x.1 = .agg [d0, d1, .slice es rest] ∧ es.length = P.length) := by
  obtain ⟨hl, xs, hxe, m, hx⟩ := trod_field tbok h hr
  obtain ⟨y0, hy0, h0⟩ := hx 0 3 0 1 rfl
  obtain ⟨y1, hy1, h1⟩ := hx 1 A 1 2144 rfl
  obtain ⟨y2, hy2, h2⟩ := hx 2 L 2145 1 rfl
  obtain ⟨n, e0, hn⟩ := trod_i64 tbok (z := 1) rfl h0
  obtain ⟨CH, hC, hCl, e1⟩ := trod_arr_arr tbok hA hE (s1 := 1) rfl h1
  have hd : (cs.drop 2145).take 1 = cs.drop 2145 := List.take_of_length_le (by simp; omega)
  rw [hd] at h2
  obtain ⟨pa, P, pc, e2, g2, g3, g4, g5, _, g6⟩ := trod_slc_arr tbok hL (by omega) hE (s2 := 1) rfl h2
  refine ⟨n, CH, P, pa, pc, hC, hCl, g4, g2, g3, hn, g5, ?_, ?_⟩
  · rw [List.drop_zero] at e0
    have s1 : cs = cs.take 1 ++ ((cs.drop 1).take 2144 ++ cs.drop 2145) := by
      conv => lhs; rw [← List.take_append_drop 1 cs, ← List.take_append_drop 2144 (cs.drop 1), List.drop_drop]
    rw [s1, e0, e1, e2]
    simp [scs]
  · rcases g6 with h6 | ⟨es, rest, h6, h7⟩
    · exact .inl h6
    · refine .inr ⟨y0.1, y1.1, es, rest, ?_, h7⟩
      have hxl : xs = [y0, y1, y2] := by
        obtain ⟨F, hF, hFl, _⟩ := und_struct' tbok h
        obtain ⟨xs', _, _, hxe', _, hxl', _⟩ := DataW.trod_struct hF hr
        have : xs.length = 3 := by
          have h8 : (xs.map (·.1)).length = (xs'.map (·.1)).length := by
            rw [hxe] at hxe'
            simp only [Prod.mk.injEq, DataW.agg.injEq] at hxe'
            rw [hxe'.1]
          simp only [List.length_map] at h8
          rw [h8, hxl', ← Array.length_toList, ← hFl]; rfl
        match xs, this, hy0, hy1, hy2 with
        | [a, b, c], _, h0, h1, h2 => simp at h0 h1 h2; rw [h0, h1, h2]
      rw [hxe, hxl, ← h6]; rfl
theorem open_sig {v : Value} {d : DataW H} {ps : List MemPlace} {b0 : Nat} {rc : Reach} (hval : Value.okWide Try.prog w rc b0 29 v) (hd : DataW.Trod enc Try.prog w base sp held 29 v d ps) :
    ∃ (n : Int) (CH P : List (List UInt8)) (pa : Ad) (pc : Nat), A32 CH ∧ CH.length = 67 ∧ A32 P ∧ P.length ≤ pc ∧ pc ≤ maxLen ∧ inI n ∧ Cells w pa (bc P.flatten) ∧ v = (V.agg (scs n CH.flatten pa P.length pc)).den ∧ (P = [] ∨ ∃ d0 d1 es rest, d = .agg [d0, d1, .slice es rest] ∧ es.length = P.length) := by
  obtain ⟨F, hF, _⟩ := und_struct tbok (t := 29) (fs := [(3, 0, 1), (26, 1, 2144), (27, 2145, 1)]) (s := 2146) rfl
  obtain ⟨fuel, hf⟩ := hd
  simp only [Value.okWide, hF] at hval
  obtain ⟨cs0, hv, _, _⟩ := hval
  obtain ⟨n, CH, P, pa, pc, h1, h2, h3, h4, h5, h6, h7, h8, h9⟩ := cut_sig (T := 29) rfl rfl rfl rfl (cs := v.cells.toList) hf
  exact ⟨n, CH, P, pa, pc, h1, h2, h3, h4, h5, h6, h7, agg_of hv (by rw [hv] at h8; exact h8), h9⟩
end

theorem cells29 : Try.prog.cellTypes Try.prog.depth 29 = some (3 :: (List.replicate 2144 5 ++ [27])) := by kernel_rfl
theorem cellsOf29 : Try.prog.cellsOf 29 = 2146 := by kernel_rfl
theorem okWide_sig (W : World) (base : Nat) : Value.okWide Try.prog W .any base 29 (V.agg z38).den := by
  obtain ⟨F, hF, _⟩ := und_struct tbok (t := 29) (fs := [(3, 0, 1), (26, 1, 2144), (27, 2145, 1)]) (s := 2146) rfl
  have hsz : (z38.map C.den).toArray.size = 2146 := by simp [z38_len]
  have hl : (3 :: (List.replicate 2144 5 ++ [27]) : List Nat).length = 2146 := by simp
  simp only [Value.okWide, hF]
  refine ⟨(z38.map C.den).toArray, rfl, by rw [hsz, cellsOf29], _, cells29, ⟨1, by rw [hsz, hl]⟩, fun i v hv => ?_⟩
  have hi : i < 2146 := by rw [← hsz]; exact (Array.getElem?_eq_some_iff.1 hv).1
  rw [hl, Nat.mod_eq_of_lt hi]
  rw [List.getElem?_toArray, List.getElem?_map] at hv
  by_cases h0 : i = 0
  · subst h0
    obtain rfl : (C.i64 0).den = v := by simpa [z38, scs] using hv
    exact ⟨3, rfl, Cell.okWide_of_okWideB (by kernel_rfl)⟩
  by_cases h1 : i = 2145
  · subst h1
    have h2 := (scs_get (i := 0) (F := List.replicate 2144 0) (a := .nil) (n := 0) (cap := 0) (by simp)).2.2
    rw [show z38 = scs 0 (List.replicate 2144 0) .nil 0 0 from rfl, h2] at hv
    obtain rfl := Option.some.inj hv
    refine ⟨27, by rw [List.getElem?_cons_succ, List.getElem?_append_right (by simp)]; simp, Cell.okWide_of_okWideB (by kernel_rfl)⟩
  obtain ⟨j, rfl⟩ : ∃ j, i = j + 1 := ⟨i - 1, by omega⟩
  have hj : (bc (List.replicate 2144 0))[j]? = some (C.u8 0) := by
    have hj2 : j < 2144 := by omega
    rw [bc_getD (by rw [List.length_replicate]; exact hj2), List.getD_eq_getElem?_getD, List.getElem?_replicate, if_pos hj2]
    rfl
  have h2 := (scs_get (i := 0) (F := List.replicate 2144 0) (a := .nil) (n := 0) (cap := 0) (by simp)).2.1 j _ hj
  rw [show z38 = scs 0 (List.replicate 2144 0) .nil 0 0 from rfl, Nat.add_comm j 1, h2] at hv
  obtain rfl := Option.some.inj hv
  refine ⟨5, by rw [List.getElem?_cons_succ, List.getElem?_append_left (by rw [List.length_replicate]; omega), List.getElem?_replicate, if_pos (by omega)], Cell.okWide_of_okWideB (by kernel_rfl)⟩

/-! ### The bound -/
theorem bulk_one {H : Type} (d : DataW H) : 1 ≤ Rows.uptoBulk d := by
  cases d with
  | lit l => cases l <;> simp [Rows.uptoBulk]
  | nil => simp [Rows.uptoBulk]
  | ptr d => simp [Rows.uptoBulk]
  | slice elems spare => simp [Rows.uptoBulk]
  | agg parts => simp [Rows.uptoBulk]
  | iface t d => simp [Rows.uptoBulk]
  | map entries => simp [Rows.uptoBulk]
  | held h => simp [Rows.uptoBulk]
theorem bulk_part {H : Type} {d : DataW H} {l : List (DataW H)} (h : d ∈ l) : Rows.uptoBulk d ≤ Rows.uptoBulkAll l := by
  induction l with
  | nil => cases h
  | cons x r ih =>
    simp only [Rows.uptoBulkAll]
    cases List.mem_cons.1 h with
    | inl e => subst e; omega
    | inr e => have := ih e; omega
theorem bulk_len {H : Type} (l : List (DataW H)) : l.length ≤ Rows.uptoBulkAll l := by
  induction l with
  | nil => simp [Rows.uptoBulkAll]
  | cons x r ih => have := bulk_one x; simp only [Rows.uptoBulkAll, List.length_cons]; omega
theorem bulk_slice {H : Type} {α : Type} {l : List α} {d : DataW H} (h : l = [] ∨ ∃ es rest, d = .slice es rest ∧ es.length = l.length) : l.length ≤ Rows.uptoBulk d := by
  rcases h with rfl | ⟨es, rest, rfl, h2⟩
  · simp
  · have := bulk_len es
    simp only [Rows.uptoBulk]; omega
theorem bulk_sig {H : Type} {α : Type} {l : List α} {d : DataW H} (h : l = [] ∨ ∃ d0 d1 es rest, d = .agg [d0, d1, .slice es rest] ∧ es.length = l.length) : l.length ≤ Rows.uptoBulk d := by
  rcases h with rfl | ⟨d0, d1, es, rest, rfl, h2⟩
  · simp
  · have := bulk_len es
    simp only [Rows.uptoBulk, Rows.uptoBulkAll]; omega
theorem bulk_bound {H : Type} {l : List (DataW H)} (hk : Rows.uptoSmall H l = true) : Rows.uptoBulkAll l ≤ 1048576 := of_decide_eq_true hk
end Go.Proofs.Ytjhmcmadleabjaa
