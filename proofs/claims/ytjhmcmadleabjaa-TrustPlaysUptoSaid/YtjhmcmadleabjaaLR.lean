/- What the laws' arguments are, read as data: roles, marks. -/
import Derived.Test.YtjhmcmadleabjaaL0
import Derived.Test.YtjhmcmadleabjaaRole
set_option linter.unusedVariables false
set_option maxRecDepth 100000
namespace Go.Proofs.Ytjhmcmadleabjaa
open Go Go.Hw Go.Proofs Go.ChangeShapes Go.WideShapes Go.RowKit Go.ChangeAt

section
variable {H : Type} {enc : TypeId × Value → H} {w : World} {base : Nat} {sp : Nat → Bool} {held : Bool} {t fuel : Nat} {cs : List Value} {x : DataW H × List MemPlace}
/-- A number and a list of keys. -/
theorem cut_role (hr : DataW.trod enc Try.prog w base sp held fuel 68 cs = some x) :
    ∃ (n : Int) (K : List (Int × List UInt8)) (pa : Ad) (pc : Nat), K32 K ∧ inI n ∧ K.length ≤ pc ∧ Cells w pa (K.flatMap kr) ∧ Lives w pa ∧ cs = [C.i64 n, .slc pa K.length pc].map C.den ∧ K.length ≤ Rows.uptoBulk x.1 := by
  obtain ⟨hl, xs, hxe, m, hx⟩ := trod_field tbok (t := 68) (fs := [(3, 0, 1), (66, 1, 1)]) (z := 2) rfl hr
  obtain ⟨y0, hy0, h0⟩ := hx 0 3 0 1 rfl
  obtain ⟨y1, hy1, h1⟩ := hx 1 66 1 1 rfl
  obtain ⟨n, e0, hn⟩ := trod_i64 tbok (z := 1) rfl h0
  obtain ⟨ad, K, cap, e1, g2, g3, g4, g5, hlv, g6⟩ := trod_slc (row := kr) (p := fun r => r.2.length = 32) (q := fun _ _ => True) tbok (t := 66) (el := 24) rfl (by omega) (fun n cs' y hy => by
    obtain ⟨a, r, h2, _, h3⟩ := cut_pub (T := 22) (z := 33) rfl rfl rfl hy
    exact ⟨(a, r), h2, kr_len h2, h3, trivial⟩) h1
  refine ⟨n, K, ad, cap, g4, hn, g2, g5, hlv, ?_, ?_⟩
  · rw [List.drop_zero] at e0
    rw [List.take_of_length_le (by simp; omega)] at e1
    rw [← List.take_append_drop 1 cs, e0, e1]
    rfl
  · have hb := bulk_slice (g6.imp id fun ⟨es, rest, a, b, _⟩ => ⟨es, rest, a, b⟩)
    have hm : y1 ∈ xs := List.mem_of_getElem? hy1
    have h2 := bulk_part (List.mem_map_of_mem (f := fun z : DataW H × List MemPlace => z.1) hm)
    rw [hxe]
    simp only [Rows.uptoBulk]
    omega
theorem open_role {v : Value} {d : DataW H} {ps : List MemPlace} {b0 : Nat} {rc : Reach} (hval : Value.okWide Try.prog w rc b0 68 v) (hd : DataW.Trod enc Try.prog w base sp held 68 v d ps) :
    ∃ (n : Int) (K : List (Int × List UInt8)) (pa : Ad) (pc : Nat), K32 K ∧ inI n ∧ K.length ≤ pc ∧ Cells w pa (K.flatMap kr) ∧ Lives w pa ∧ v = (V.agg [C.i64 n, .slc pa K.length pc]).den ∧ K.length ≤ Rows.uptoBulk d := by
  obtain ⟨F, hF, _⟩ := und_struct tbok (t := 68) (fs := [(3, 0, 1), (66, 1, 1)]) (s := 2) rfl
  obtain ⟨fuel, hf⟩ := hd
  simp only [Value.okWide, hF] at hval
  obtain ⟨cs0, hv, _, _⟩ := hval
  obtain ⟨n, K, pa, pc, h1, h2, h3, h4, h5, h6, h7⟩ := cut_role (cs := v.cells.toList) hf
  exact ⟨n, K, pa, pc, h1, h2, h3, h4, h5, agg_of hv (by rw [hv] at h6; exact h6), h7⟩
/-- A mark: a sum and a signature. -/
theorem cut_mark {n : Nat} {cs' : List Value} {y : DataW H × List MemPlace} (hr : DataW.trod enc Try.prog w base sp held n 147 cs' = some y) :
    ∃ r : Mk × Os, (r.1.id.length = 32 ∧ A32 r.1.ch ∧ r.1.ch.length = 67 ∧ A32 r.1.pt ∧ Mk.lies w r) ∧ (mrow r).length = 2178 ∧ cs' = (mrow r).map C.den ∧ r.1.pt.length ≤ Rows.uptoBulk y.1 := by
  obtain ⟨hl, xs, hxe, m, hx⟩ := trod_field tbok (t := 147) (fs := [(22, 0, 32), (29, 32, 2146)]) (z := 2178) rfl hr
  obtain ⟨y0, hy0, h0⟩ := hx 0 22 0 32 rfl
  obtain ⟨y1, hy1, h1⟩ := hx 1 29 32 2146 rfl
  obtain ⟨id, hid, e0⟩ := trod_arr_u8 tbok (t := 22) (el := 5) rfl (s1 := 1) rfl h0
  obtain ⟨ix, CH, P, pa, pc, g1, g2, g3, g4, _, _, g7, e1, g9⟩ := cut_sig (T := 29) rfl rfl rfl rfl h1
  refine ⟨(⟨id, ix, CH, P⟩, pa, pc, []), ⟨hid, g1, g2, g3, g7, g4⟩, ?_, ?_, ?_⟩
  · unfold mrow; rw [List.length_append, bc_len, scs_len (by show CH.flatten.length = 2144; rw [flat_len g1, g2]), hid]
  · rw [List.drop_zero] at e0
    rw [List.take_of_length_le (by simp; omega)] at e1
    rw [← List.take_append_drop 32 cs', e0, e1]
    unfold mrow
    rw [List.map_append]
  · have hb := bulk_sig g9
    have hm : y1 ∈ xs := List.mem_of_getElem? hy1
    have h2 := bulk_part (List.mem_map_of_mem (f := fun z : DataW H × List MemPlace => z.1) hm)
    rw [hxe]
    simp only [Rows.uptoBulk]
    show P.length ≤ _
    omega
theorem open_marks {v : Value} {d : DataW H} {ps : List MemPlace} {b0 : Nat} {rc : Reach} (hval : Value.okWide Try.prog w rc b0 75 v) (hd : DataW.Trod enc Try.prog w base sp held 75 v d ps) :
    ∃ (ad : Ad) (M : List (Mk × Os)) (cap : Nat), v = (V.c (.slc ad M.length cap)).den ∧ Cells w ad (M.flatMap mrow) ∧ Lives w ad ∧ M.length ≤ Rows.uptoBulk d ∧ (Rows.uptoBulk d ≤ 1048576 → ∀ p ∈ M, p.1.ok) ∧ ∀ p ∈ M, Mk.lies w p := by
  obtain ⟨fuel, hf⟩ := hd
  obtain ⟨hu, _⟩ := und_slice tbok (t := 75) (e := 147) (z := 2178) (s := 1) rfl
  obtain ⟨a, len, c2, rfl⟩ := okWide_slice hu hval
  obtain ⟨ad, M, cap, h1, h2, h3, h4, h5, hlv, h6⟩ := trod_slc (row := mrow) (p := fun r => r.1.id.length = 32 ∧ A32 r.1.ch ∧ r.1.ch.length = 67 ∧ A32 r.1.pt ∧ Mk.lies w r) (q := fun r y => r.1.pt.length ≤ Rows.uptoBulk y) tbok (t := 75) (el := 147) rfl (by omega) (fun n cs' y hy => cut_mark hy) hf
  have e2 : (Value.slice a len c2).cells.toList = [(C.slc ad M.length cap).den] := h1
  simp [Value.cells] at e2
  refine ⟨ad, M, cap, e2, h5, hlv, bulk_slice (h6.imp id fun ⟨es, rest, g1, g2, _⟩ => ⟨es, rest, g1, g2⟩), fun hb r hr => ?_, fun r hr => (h4 r hr).2.2.2.2⟩
  obtain ⟨g1, g2, g3, g4, _⟩ := h4 r hr
  refine ⟨g1, g2, g3, g4, ?_⟩
  rcases h6 with rfl | ⟨es, rest, k1, k2, k3⟩
  · cases hr
  · obtain ⟨y, hy, h7⟩ := k3 r hr
    have h8 := bulk_part hy
    have k1' : d = .slice es rest := k1
    rw [k1'] at hb
    simp only [Rows.uptoBulk] at hb
    omega
end
end Go.Proofs.Ytjhmcmadleabjaa
