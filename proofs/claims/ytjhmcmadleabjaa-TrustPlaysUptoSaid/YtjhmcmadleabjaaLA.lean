/- What the laws' arguments are, read as data: what is asked of a trust. -/
import Derived.Test.YtjhmcmadleabjaaLT
import Derived.Test.YtjhmcmadleabjaaTrustRef
set_option linter.unusedVariables false
set_option maxRecDepth 100000
namespace Go.Proofs.Ytjhmcmadleabjaa
open Go Go.Hw Go.Proofs Go.ChangeShapes Go.WideShapes Go.RowKit Go.ChangeAt

section
variable {H : Type} {enc : TypeId × Value → H} {w : World} {base : Nat} {sp : Nat → Bool} {held : Bool} {t fuel : Nat} {cs : List Value} {x : DataW H × List MemPlace}
theorem cut_ask {n : Nat} {cs' : List Value} {y : DataW H × List MemPlace} (hr : DataW.trod enc Try.prog w base sp held n 118 cs' = some y) :
    ∃ r : Ask, r.lies w ∧ r.row.length = 4 ∧ cs' = r.row.map C.den ∧ (Rows.uptoBulk y.1 ≤ 1048576 → r.ok) := by
  obtain ⟨hl, xs, hxe, m, hx⟩ := trod_field tbok (t := 118) (fs := [(25, 0, 1), (75, 1, 1), (3, 2, 1), (4, 3, 1)]) (z := 4) rfl hr
  obtain ⟨y0, hy0, h0⟩ := hx 0 25 0 1 rfl
  obtain ⟨y1, hy1, h1⟩ := hx 1 75 1 1 rfl
  obtain ⟨y2, hy2, h2⟩ := hx 2 3 2 1 rfl
  obtain ⟨y3, hy3, h3⟩ := hx 3 4 3 1 rfl
  obtain ⟨ma, l, mc, e0, _, _, hm, _, hml⟩ := trod_slc_u8 tbok (t := 25) (el := 5) rfl rfl h0
  obtain ⟨ad, M, cap, e1, hc, bm, okM, hp⟩ := cut_marks h1
  obtain ⟨now, e2, _⟩ := trod_i64 tbok (z := 1) rfl h2
  obtain ⟨hd, e3⟩ := trod_bool tbok (z := 1) rfl h3
  have bp : ∀ {i : Nat} {q : DataW H × List MemPlace} {n : Nat}, xs[i]? = some q → n ≤ Rows.uptoBulk q.1 → n ≤ Rows.uptoBulk y.1 := fun hq hn => by
    have hb := bulk_part (List.mem_map_of_mem (f := fun z : DataW H × List MemPlace => z.1) (List.mem_of_getElem? hq))
    rw [hxe]
    simp only [Rows.uptoBulk]
    omega
  refine ⟨⟨l, ma, mc, M, ad, cap, now, hd⟩, ⟨hm, hc, hp⟩, rfl, ?_, fun hb => ?_⟩
  · match cs', hl with
    | [q0, q1, q2, q3], _ =>
      simp only [List.drop_zero, List.take_succ_cons, List.take_zero, List.drop_succ_cons, List.cons.injEq, and_true] at e0 e1 e2 e3
      subst e0 e1 e2 e3
      rfl
  · have d0 : l.length ≤ Rows.uptoBulk y.1 := bp hy0 (bulk_slice hml)
    have d1 := bp hy1 (Nat.le_refl (Rows.uptoBulk y1.1))
    exact ⟨by show l.length ≤ _; omega, okM (by omega), by show M.length ≤ _; omega⟩
theorem open_asks {v : Value} {d : DataW H} {ps : List MemPlace} {b0 : Nat} {rc : Reach} (hval : Value.okWide Try.prog w rc b0 114 v) (hd : DataW.Trod enc Try.prog w base sp held 114 v d ps) :
    ∃ (ad : Ad) (A : List Ask) (cap : Nat), v = (V.c (.slc ad A.length cap)).den ∧ Cells w ad (A.flatMap Ask.row) ∧ A.length ≤ Rows.uptoBulk d ∧ (Rows.uptoBulk d ≤ 1048576 → ∀ k ∈ A, k.ok) ∧ ∀ k ∈ A, k.lies w := by
  obtain ⟨fuel, hf⟩ := hd
  obtain ⟨hu, _⟩ := und_slice tbok (t := 114) (e := 118) (z := 4) (s := 1) rfl
  obtain ⟨a, len, c2, rfl⟩ := okWide_slice hu hval
  obtain ⟨ad, A, cap, h1, h2, h3, h4, h5, hlv, h6⟩ := trod_slc (row := Ask.row) (p := fun r => r.lies w) (q := fun r y => Rows.uptoBulk y ≤ 1048576 → r.ok) tbok (t := 114) (el := 118) rfl (by omega) (fun n cs' y hy => cut_ask hy) hf
  have e2 : (Value.slice a len c2).cells.toList = [(C.slc ad A.length cap).den] := h1
  simp [Value.cells] at e2
  refine ⟨ad, A, cap, e2, h5, bulk_slice (h6.imp id fun ⟨es, rest, g1, g2, _⟩ => ⟨es, rest, g1, g2⟩), fun hb r hr => ?_, h4⟩
  rcases h6 with rfl | ⟨es, rest, k1, k2, k3⟩
  · cases hr
  · obtain ⟨y, hy, h7⟩ := k3 r hr
    have h8 := bulk_part hy
    have k1' : d = .slice es rest := k1
    rw [k1'] at hb
    simp only [Rows.uptoBulk] at hb
    exact h7 (by omega)
end
end Go.Proofs.Ytjhmcmadleabjaa
