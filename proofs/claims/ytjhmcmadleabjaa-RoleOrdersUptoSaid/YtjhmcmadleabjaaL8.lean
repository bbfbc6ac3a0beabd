/- Marks that stand twice, marks with another Id, and the order of marks turn nothing of how many keys signed; fewer marks than keys that must sign are never enough. Condition: the arguments are together of bulk at most 1048576. -/
import Derived.Test.YtjhmcmadleabjaaLR
import Derived.Test.YtjhmcmadleabjaaRoleWalkC
set_option linter.unusedVariables false
set_option maxRecDepth 100000
namespace Go.Proofs.Ytjhmcmadleabjaa
open Go Go.Hw Go.Proofs Go.ChangeShapes Go.WideShapes Go.RowKit Go.ChangeAt

section
variable {H : Type} {enc : TypeId × Value → H} {w : World} {base : Nat} {sp : Nat → Bool} {held : Bool} {t fuel : Nat} {cs : List Value} {x : DataW H × List MemPlace}
theorem ints_map (O : List Int) : O.flatMap (fun z => [C.i64 z]) = O.map C.i64 := by
  induction O with
  | nil => rfl
  | cons a O ih => rw [List.flatMap_cons, ih]; rfl
theorem open_ints {v : Value} {d : DataW H} {ps : List MemPlace} {b0 : Nat} {rc : Reach} (hval : Value.okWide Try.prog w rc b0 82 v) (hd : DataW.Trod enc Try.prog w base sp held 82 v d ps) :
    ∃ (ad : Ad) (O : List Int) (cap : Nat), v = (V.c (.slc ad O.length cap)).den ∧ Cells w ad (O.map C.i64) := by
  obtain ⟨fuel, hf⟩ := hd
  obtain ⟨hu, _⟩ := und_slice tbok (t := 82) (e := 3) (z := 1) (s := 1) rfl
  obtain ⟨a, len, c2, rfl⟩ := okWide_slice hu hval
  obtain ⟨ad, O, cap, h1, h2, h3, h4, h5, hlv, h6⟩ := trod_slc (row := fun z : Int => [C.i64 z]) (p := fun _ => True) (q := fun _ _ => True) tbok (t := 82) (el := 3) rfl (by omega) (fun n cs' y hy => by
    obtain ⟨z, g1, _⟩ := trod_i64 tbok (z := 1) rfl hy
    exact ⟨z, trivial, rfl, g1, trivial⟩) hf
  have e2 : (Value.slice a len c2).cells.toList = [(C.slc ad O.length cap).den] := h1
  simp [Value.cells] at e2
  exact ⟨ad, O, cap, e2, by rw [← ints_map]; exact h5⟩
end

theorem roleOrders_contract (H : Type) (enc : TypeId × Value → H) (W : World) (base : Nat) (args : Array Value) (ds gs : List (DataW H)) (before : List MemPlace)
    (hval : ∀ (j : Nat) t v, Try.f10.params[j]? = some t → args[j]? = some v → Value.okWide Try.prog W .any base t v)
    (hW : DataW.Whole enc Try.prog Try.f10.params.toList Rows.roleOrdersSpec.vars false W args.toList ds gs before) (hk : Rows.uptoSmall H (ds ++ gs) = true) :
    Calls Try.prog 10 args W fun e W' => ∃ v, e = .returned v ∧ Rows.roleOrdersSpec.post enc Try.prog Try.f10 false true false false W args v W' := by
  have hW' := hW
  obtain ⟨p, q, hA0, hV, _, _, _⟩ := hW'
  have hA : DataW.TrodAll enc Try.prog W 0 (fun _ => true) true Try.f10.params.toList args.toList ds p := hA0
  rw [Try.params10] at hA hval
  obtain ⟨v0, vs0, d0, ds0, p0, q0, hargs, rfl, _, h0, r0⟩ := trodAll_cons hA
  obtain ⟨v1, vs1, d1, ds1, p1, q1, rfl, rfl, _, h1, r1⟩ := trodAll_cons r0
  obtain ⟨v2, vs2, d2, ds2, p2, q2, rfl, rfl, _, h2, r2⟩ := trodAll_cons r1
  obtain ⟨v3, vs3, d3, ds3, p3, q3, rfl, rfl, _, h3, r3⟩ := trodAll_cons r2
  obtain ⟨rfl, rfl, _⟩ := trodAll_nil r3
  obtain ⟨rfl, _⟩ := trodVars_none hV
  obtain rfl : args = #[v0, v1, v2, v3] := by cases args; simp_all
  refine law_post (rt := 4) Try.laidOut (by kernel_rfl) rfl rfl Try.underlying4 rfl hW ?_
  obtain ⟨n, K, pa, pc, hK, _, _, hc, _, rfl, hl⟩ := open_role (hval 0 68 v0 rfl rfl) h0
  obtain ⟨ma, msg, mc, rfl, _, _, hm, hml, _⟩ := open_bytes (hval 1 25 v1 rfl rfl) h1
  obtain ⟨la, M, lc, rfl, hlm, _, _, hM, hp⟩ := open_marks (hval 2 75 v2 rfl rfl) h2
  obtain ⟨oa, O, oc, rfl, ho⟩ := open_ints (hval 3 82 v3 rfl rfl) h3
  have hmb := bulk_slice hml
  have hb := bulk_bound hk
  simp only [List.append_nil, Rows.uptoBulkAll] at hb
  exact roleOrders_c hK hc hm (by omega) (hM (by omega)) hlm hp ho

set_option maxRecDepth 100000 in
theorem roleOrders_lifted (os : Go.Os) (started : os.Started) (H : Type) (enc : TypeId × Value → H) (F : Stop.Interp) :
    ReturnsInHanded {} Try.checked os 10 .any ((Rows.OpenSpec.upto Rows.roleOrdersSpec).pre6 enc Try.prog Try.f10 Rows.roleOrdersUptoRow.domain false) (((Rows.OpenSpec.upto Rows.roleOrdersSpec).at F).post enc Try.prog Try.f10 false true false false) := by
  refine returnsInHanded_of_cond (C := Try.checked) (s := Rows.OpenSpec.upto Rows.roleOrdersSpec) (k := Rows.uptoSmall) rfl Try.own started (by kernel_rfl) Try.func10
    (OpenSpec.witness (enc := enc) (C := Try.checked) (s := Rows.OpenSpec.upto Rows.roleOrdersSpec) (k := Rows.uptoSmall) rfl false ⟨#[], #[.agg #[.int .i64 0, .slice none 0 0], .slice none 0 0, .slice none 0 0, .slice none 0 0], []⟩ 8 (by kernel_rfl) (by kernel_rfl) (by kernel_rfl)
      (x := ([.agg [.lit (.int .i64 0), .nil], .nil, .nil, .nil], [], [])) (by kernel_rfl) rfl (by kernel_rfl)) ?_
  intro W base args ds gs before hval hW _ hk _
  exact roleOrders_contract H enc W base args ds gs before hval hW hk

/-- Marks that stand twice, marks with another Id, and the order of marks turn nothing of how many keys signed; fewer marks than keys that must sign are never enough; the arguments together of bulk at most 1048576. -/
theorem roleOrders_holds : Rows.RoleOrdersUptoSaid :=
  OpenClaim.holds_of_cond 10 Try.f10 rfl rfl rfl rfl rfl rfl rfl ⟨rfl, rfl, rfl, rfl, rfl⟩ rfl rfl rfl rfl rfl (by kernel_rfl) Try.func10 (by kernel_rfl)
    (of_decide_eq_true (by kernel_rfl)) (by unfold Func.isWrapper; first | (rw [if_pos (by decide +kernel)]; kernel_rfl) | (rw [if_neg (by decide +kernel)]; exact ⟨rfl, rfl⟩))
    (fun os started H enc _ F => roleOrders_lifted os started H enc F)
end Go.Proofs.Ytjhmcmadleabjaa
#print axioms Go.Proofs.Ytjhmcmadleabjaa.roleOrders_holds
