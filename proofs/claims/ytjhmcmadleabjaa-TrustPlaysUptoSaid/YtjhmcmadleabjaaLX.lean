/- What the laws' arguments are, read as data: roots. -/
import Derived.Test.YtjhmcmadleabjaaLR
import Derived.Test.YtjhmcmadleabjaaRoots
set_option linter.unusedVariables false
set_option maxRecDepth 100000
namespace Go.Proofs.Ytjhmcmadleabjaa
open Go Go.Hw Go.Proofs Go.ChangeShapes Go.WideShapes Go.RowKit Go.ChangeAt

section
variable {H : Type} {enc : TypeId × Value → H} {w : World} {base : Nat} {sp : Nat → Bool} {held : Bool} {t fuel : Nat} {cs : List Value} {x : DataW H × List MemPlace}
theorem cut_root (hr : DataW.trod enc Try.prog w base sp held fuel 88 cs = some x) :
    ∃ y : RL, (K32 y.r.1.K ∧ K32 y.t.1.K ∧ K32 y.l.1.K) ∧ y.lies w ∧ cs = y.cs.map C.den ∧ (y.r.1.K.length ≤ Rows.uptoBulk x.1 ∧ y.t.1.K.length ≤ Rows.uptoBulk x.1 ∧ y.l.1.K.length ≤ Rows.uptoBulk x.1) ∧ (inI y.v ∧ inI y.u) := by
  obtain ⟨hl, xs, hxe, m, hx⟩ := trod_field tbok (t := 88) (fs := [(3, 0, 1), (3, 1, 1), (68, 2, 2), (68, 4, 2), (68, 6, 2)]) (z := 8) rfl hr
  obtain ⟨y0, hy0, h0⟩ := hx 0 3 0 1 rfl
  obtain ⟨y1, hy1, h1⟩ := hx 1 3 1 1 rfl
  obtain ⟨y2, hy2, h2⟩ := hx 2 68 2 2 rfl
  obtain ⟨y3, hy3, h3⟩ := hx 3 68 4 2 rfl
  obtain ⟨y4, hy4, h4⟩ := hx 4 68 6 2 rfl
  obtain ⟨v, e0, i0⟩ := trod_i64 tbok (z := 1) rfl h0
  obtain ⟨u, e1, i1⟩ := trod_i64 tbok (z := 1) rfl h1
  obtain ⟨n2, K2, a2, c2, k2, _, _, l2, _, e2, b2⟩ := cut_role h2
  obtain ⟨n3, K3, a3, c3, k3, _, _, l3, _, e3, b3⟩ := cut_role h3
  obtain ⟨n4, K4, a4, c4, k4, _, _, l4, _, e4, b4⟩ := cut_role h4
  have bp : ∀ {i : Nat} {q : DataW H × List MemPlace} {n : Nat}, xs[i]? = some q → n ≤ Rows.uptoBulk q.1 → n ≤ Rows.uptoBulk x.1 := fun hq hn => by
    have hb := bulk_part (List.mem_map_of_mem (f := fun z : DataW H × List MemPlace => z.1) (List.mem_of_getElem? hq))
    rw [hxe]
    simp only [Rows.uptoBulk]
    omega
  refine ⟨⟨v, u, (⟨n2, K2⟩, a2, c2, []), (⟨n3, K3⟩, a3, c3, []), (⟨n4, K4⟩, a4, c4, [])⟩, ⟨k2, k3, k4⟩, ⟨l2, l3, l4⟩, ?_, ⟨bp hy2 b2, bp hy3 b3, bp hy4 b4⟩, i0, i1⟩
  match cs, hl with
  | [q0, q1, q2, q3, q4, q5, q6, q7], _ =>
    simp only [List.drop_zero, List.take_succ_cons, List.take_zero, List.drop_succ_cons, List.cons.injEq, and_true, List.map_cons, List.map_nil] at e0 e1 e2 e3 e4
    obtain ⟨e2a, e2b⟩ := e2
    obtain ⟨e3a, e3b⟩ := e3
    obtain ⟨e4a, e4b⟩ := e4
    subst e0 e1 e2a e2b e3a e3b e4a e4b
    rfl
theorem open_root {v : Value} {d : DataW H} {ps : List MemPlace} {b0 : Nat} {rc : Reach} (hval : Value.okWide Try.prog w rc b0 88 v) (hd : DataW.Trod enc Try.prog w base sp held 88 v d ps) :
    ∃ y : RL, (Rows.uptoBulk d ≤ 1048576 → y.ok) ∧ y.lies w ∧ v = (V.agg y.cs).den := by
  obtain ⟨F, hF, _⟩ := und_struct tbok (t := 88) (fs := [(3, 0, 1), (3, 1, 1), (68, 2, 2), (68, 4, 2), (68, 6, 2)]) (s := 8) rfl
  obtain ⟨fuel, hf⟩ := hd
  simp only [Value.okWide, hF] at hval
  obtain ⟨cs0, hv, _, _⟩ := hval
  obtain ⟨y, ⟨k1, k2, k3⟩, hl, h3, ⟨b1, b2, b3⟩, _⟩ := cut_root (cs := v.cells.toList) hf
  have d1 : y.r.1.K.length ≤ Rows.uptoBulk d := b1
  have d2 : y.t.1.K.length ≤ Rows.uptoBulk d := b2
  have d3 : y.l.1.K.length ≤ Rows.uptoBulk d := b3
  exact ⟨y, fun hb => ⟨⟨k1, by omega⟩, ⟨k2, by omega⟩, ⟨k3, by omega⟩⟩, hl, agg_of hv (by rw [hv] at h3; exact h3)⟩
end
end Go.Proofs.Ytjhmcmadleabjaa
