/- What the laws' arguments are, read as data: offers. -/
import Derived.Test.YtjhmcmadleabjaaLX
import Derived.Test.YtjhmcmadleabjaaTrustMore
set_option linter.unusedVariables false
set_option maxRecDepth 100000
namespace Go.Proofs.Ytjhmcmadleabjaa
open Go Go.Hw Go.Proofs Go.ChangeShapes Go.WideShapes Go.RowKit Go.ChangeAt

section
variable {H : Type} {enc : TypeId × Value → H} {w : World} {base : Nat} {sp : Nat → Bool} {held : Bool} {t fuel : Nat} {cs : List Value} {x : DataW H × List MemPlace}
theorem cut_marks (hr : DataW.trod enc Try.prog w base sp held fuel 75 cs = some x) :
    ∃ (ad : Ad) (M : List (Mk × Os)) (cap : Nat), cs = [(C.slc ad M.length cap).den] ∧ Cells w ad (M.flatMap mrow) ∧ M.length ≤ Rows.uptoBulk x.1 ∧ (Rows.uptoBulk x.1 ≤ 1048576 → ∀ p ∈ M, p.1.ok) ∧ ∀ p ∈ M, Mk.lies w p := by
  obtain ⟨ad, M, cap, h1, h2, h3, h4, h5, hlv, h6⟩ := trod_slc (row := mrow) (p := fun r => r.1.id.length = 32 ∧ A32 r.1.ch ∧ r.1.ch.length = 67 ∧ A32 r.1.pt ∧ Mk.lies w r) (q := fun r y => r.1.pt.length ≤ Rows.uptoBulk y) tbok (t := 75) (el := 147) rfl (by omega) (fun n cs' y hy => cut_mark hy) hr
  refine ⟨ad, M, cap, h1, h5, bulk_slice (h6.imp id fun ⟨es, rest, g1, g2, _⟩ => ⟨es, rest, g1, g2⟩), fun hb r hr => ?_, fun r hr => (h4 r hr).2.2.2.2⟩
  obtain ⟨g1, g2, g3, g4, _⟩ := h4 r hr
  refine ⟨g1, g2, g3, g4, ?_⟩
  rcases h6 with rfl | ⟨es, rest, k1, k2, k3⟩
  · cases hr
  · obtain ⟨y, hy, h7⟩ := k3 r hr
    have h8 := bulk_part hy
    rw [k1] at hb
    simp only [Rows.uptoBulk] at hb
    omega
theorem cut_off {n : Nat} {cs' : List Value} {y : DataW H × List MemPlace} (hr : DataW.trod enc Try.prog w base sp held n 109 cs' = some y) :
    ∃ r : Of, r.lies w ∧ r.row.length = 9 ∧ cs' = r.row.map C.den ∧ (Rows.uptoBulk y.1 ≤ 1048576 → r.ok) := by
  obtain ⟨hl, xs, hxe, m, hx⟩ := trod_field tbok (t := 109) (fs := [(88, 0, 8), (75, 8, 1)]) (z := 9) rfl hr
  obtain ⟨y0, hy0, h0⟩ := hx 0 88 0 8 rfl
  obtain ⟨y1, hy1, h1⟩ := hx 1 75 8 1 rfl
  obtain ⟨z, ⟨k1, k2, k3⟩, lz, e0, ⟨b1, b2, b3⟩, _⟩ := cut_root h0
  obtain ⟨ad, M, cap, e1, hc, bm, okM, hp⟩ := cut_marks h1
  have bp : ∀ {i : Nat} {q : DataW H × List MemPlace} {n : Nat}, xs[i]? = some q → n ≤ Rows.uptoBulk q.1 → n ≤ Rows.uptoBulk y.1 := fun hq hn => by
    have hb := bulk_part (List.mem_map_of_mem (f := fun z : DataW H × List MemPlace => z.1) (List.mem_of_getElem? hq))
    rw [hxe]
    simp only [Rows.uptoBulk]
    omega
  refine ⟨⟨z, M, ad, cap⟩, ⟨lz, hc, hp⟩, rfl, ?_, fun hb => ?_⟩
  · rw [List.drop_zero] at e0
    rw [List.take_of_length_le (by simp; omega)] at e1
    rw [← List.take_append_drop 8 cs', e0, e1]
    rfl
  · have d0 := bp hy1 (Nat.le_refl (Rows.uptoBulk y1.1))
    have d1 : z.r.1.K.length ≤ Rows.uptoBulk y.1 := bp hy0 b1
    have g1 : z.r.1.K.length ≤ 1073741824 := by omega
    have d2 : z.t.1.K.length ≤ Rows.uptoBulk y.1 := bp hy0 b2
    have g2 : z.t.1.K.length ≤ 1073741824 := by omega
    have d3 : z.l.1.K.length ≤ Rows.uptoBulk y.1 := bp hy0 b3
    have g3 : z.l.1.K.length ≤ 1073741824 := by omega
    exact ⟨⟨⟨k1, g1⟩, ⟨k2, g2⟩, ⟨k3, g3⟩⟩, okM (by omega), by show M.length ≤ _; omega⟩
theorem open_offs {v : Value} {d : DataW H} {ps : List MemPlace} {b0 : Nat} {rc : Reach} (hval : Value.okWide Try.prog w rc b0 105 v) (hd : DataW.Trod enc Try.prog w base sp held 105 v d ps) :
    ∃ (ad : Ad) (O : List Of) (cap : Nat), v = (V.c (.slc ad O.length cap)).den ∧ Cells w ad (O.flatMap Of.row) ∧ O.length ≤ Rows.uptoBulk d ∧ (Rows.uptoBulk d ≤ 1048576 → ∀ o ∈ O, o.ok) ∧ ∀ o ∈ O, o.lies w := by
  obtain ⟨fuel, hf⟩ := hd
  obtain ⟨hu, _⟩ := und_slice tbok (t := 105) (e := 109) (z := 9) (s := 1) rfl
  obtain ⟨a, len, c2, rfl⟩ := okWide_slice hu hval
  obtain ⟨ad, O, cap, h1, h2, h3, h4, h5, hlv, h6⟩ := trod_slc (row := Of.row) (p := fun r => r.lies w) (q := fun r y => Rows.uptoBulk y ≤ 1048576 → r.ok) tbok (t := 105) (el := 109) rfl (by omega) (fun n cs' y hy => cut_off hy) hf
  have e2 : (Value.slice a len c2).cells.toList = [(C.slc ad O.length cap).den] := h1
  simp [Value.cells] at e2
  refine ⟨ad, O, cap, e2, h5, bulk_slice (h6.imp id fun ⟨es, rest, g1, g2, _⟩ => ⟨es, rest, g1, g2⟩), fun hb r hr => ?_, h4⟩
  rcases h6 with rfl | ⟨es, rest, k1, k2, k3⟩
  · cases hr
  · obtain ⟨y, hy, h7⟩ := k3 r hr
    have h8 := bulk_part hy
    have k1' : d = .slice es rest := k1
    rw [k1'] at hb
    simp only [Rows.uptoBulk] at hb
    exact h7 (by omega)
end
end Go.Proofs.Ytjhmcmadleabjaa
