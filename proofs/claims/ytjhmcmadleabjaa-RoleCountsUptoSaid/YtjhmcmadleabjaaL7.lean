/- How many keys of any role signed any message, by any marks, and whether they are enough, is the document's answer. Condition: the arguments are together of bulk at most 1048576. -/
import Derived.Test.YtjhmcmadleabjaaLR
import Derived.Test.YtjhmcmadleabjaaRoleWalkB
set_option linter.unusedVariables false
set_option maxRecDepth 100000
namespace Go.Proofs.Ytjhmcmadleabjaa
open Go Go.Hw Go.Proofs Go.ChangeShapes Go.WideShapes Go.RowKit Go.ChangeAt

theorem roleCounts_contract (H : Type) (enc : TypeId × Value → H) (W : World) (base : Nat) (args : Array Value) (ds gs : List (DataW H)) (before : List MemPlace)
    (hval : ∀ (j : Nat) t v, Try.f9.params[j]? = some t → args[j]? = some v → Value.okWide Try.prog W .any base t v)
    (hW : DataW.Whole enc Try.prog Try.f9.params.toList Rows.roleCountsSpec.vars false W args.toList ds gs before) (hk : Rows.uptoSmall H (ds ++ gs) = true) :
    Calls Try.prog 9 args W fun e W' => ∃ v, e = .returned v ∧ Rows.roleCountsSpec.post enc Try.prog Try.f9 false true false false W args v W' := by
  have hW' := hW
  obtain ⟨p, q, hA0, hV, _, _, _⟩ := hW'
  have hA : DataW.TrodAll enc Try.prog W 0 (fun _ => true) true Try.f9.params.toList args.toList ds p := hA0
  rw [Try.params9] at hA hval
  obtain ⟨v0, vs0, d0, ds0, p0, q0, hargs, rfl, _, h0, r0⟩ := trodAll_cons hA
  obtain ⟨v1, vs1, d1, ds1, p1, q1, rfl, rfl, _, h1, r1⟩ := trodAll_cons r0
  obtain ⟨v2, vs2, d2, ds2, p2, q2, rfl, rfl, _, h2, r2⟩ := trodAll_cons r1
  obtain ⟨rfl, rfl, _⟩ := trodAll_nil r2
  obtain ⟨rfl, _⟩ := trodVars_none hV
  obtain rfl : args = #[v0, v1, v2] := by cases args; simp_all
  refine law_post (rt := 4) Try.laidOut (by kernel_rfl) rfl rfl Try.underlying4 rfl hW ?_
  obtain ⟨n, K, pa, pc, hK, _, _, hc, _, rfl, hl⟩ := open_role (hval 0 68 v0 rfl rfl) h0
  obtain ⟨ma, msg, mc, rfl, _, _, hm, hml, _⟩ := open_bytes (hval 1 25 v1 rfl rfl) h1
  obtain ⟨la, M, lc, rfl, hlm, _, _, hM, hp⟩ := open_marks (hval 2 75 v2 rfl rfl) h2
  have hmb := bulk_slice hml
  have hb := bulk_bound hk
  simp only [List.append_nil, Rows.uptoBulkAll] at hb
  exact roleCounts_c hK hc hm (by omega) (hM (by omega)) hlm hp

set_option maxRecDepth 100000 in
theorem roleCounts_lifted (os : Go.Os) (started : os.Started) (H : Type) (enc : TypeId × Value → H) (F : Stop.Interp) :
    ReturnsInHanded {} Try.checked os 9 .any ((Rows.OpenSpec.upto Rows.roleCountsSpec).pre6 enc Try.prog Try.f9 Rows.roleCountsUptoRow.domain false) (((Rows.OpenSpec.upto Rows.roleCountsSpec).at F).post enc Try.prog Try.f9 false true false false) := by
  refine returnsInHanded_of_cond (C := Try.checked) (s := Rows.OpenSpec.upto Rows.roleCountsSpec) (k := Rows.uptoSmall) rfl Try.own started (by kernel_rfl) Try.func9
    (OpenSpec.witness (enc := enc) (C := Try.checked) (s := Rows.OpenSpec.upto Rows.roleCountsSpec) (k := Rows.uptoSmall) rfl false ⟨#[], #[.agg #[.int .i64 0, .slice none 0 0], .slice none 0 0, .slice none 0 0], []⟩ 8 (by kernel_rfl) (by kernel_rfl) (by kernel_rfl)
      (x := ([.agg [.lit (.int .i64 0), .nil], .nil, .nil], [], [])) (by kernel_rfl) rfl (by kernel_rfl)) ?_
  intro W base args ds gs before hval hW _ hk _
  exact roleCounts_contract H enc W base args ds gs before hval hW hk

/-- How many keys of any role signed any message, by any marks, and whether they are enough, is the document's answer; the arguments together of bulk at most 1048576. -/
theorem roleCounts_holds : Rows.RoleCountsUptoSaid :=
  OpenClaim.holds_of_cond 9 Try.f9 rfl rfl rfl rfl rfl rfl rfl ⟨rfl, rfl, rfl, rfl, rfl⟩ rfl rfl rfl rfl rfl (by kernel_rfl) Try.func9 (by kernel_rfl)
    (of_decide_eq_true (by kernel_rfl)) (by unfold Func.isWrapper; first | (rw [if_pos (by decide +kernel)]; kernel_rfl) | (rw [if_neg (by decide +kernel)]; exact ⟨rfl, rfl⟩))
    (fun os started H enc _ F => roleCounts_lifted os started H enc F)
end Go.Proofs.Ytjhmcmadleabjaa
#print axioms Go.Proofs.Ytjhmcmadleabjaa.roleCounts_holds
