/- The sum by which any key is named is the document's: for every key, with no condition. -/
import Derived.Test.YtjhmcmadleabjaaL0
set_option linter.unusedVariables false
set_option maxRecDepth 100000
namespace Go.Proofs.Ytjhmcmadleabjaa
open Go Go.Hw Go.Proofs Go.ChangeShapes Go.WideShapes Go.RowKit Go.ChangeAt

set_option maxRecDepth 100000 in
theorem keysIds_lifted (os : Go.Os) (started : os.Started) (H : Type) (enc : TypeId × Value → H) :
    ReturnsInHanded {} Try.checked os 4 .any (Rows.keysIdsSpec.pre6 enc Try.prog Try.f4 Rows.keysIdsRow.domain false) (Rows.keysIdsSpec.post enc Try.prog Try.f4 false true false false) := by
  refine returnsInHanded_of_change (C := Try.checked) Try.own started (by kernel_rfl) Try.func4
    (ChangeSpec.witness6 (enc := enc) (C := Try.checked) false ⟨#[], #[(V.agg (C.i64 0 :: bc (List.replicate 32 0))).den], []⟩ 8 (by kernel_rfl) (by kernel_rfl) (by kernel_rfl) (by kernel_rfl)) ?_
  intro W base args ds gs before hval0 hW hcnd _
  have hval : ∀ (j : Nat) t v, Try.f4.params[j]? = some t → args[j]? = some v → Value.okWide Try.prog W .any base t v := hval0
  refine law_post (rt := 4) Try.laidOut (by kernel_rfl) rfl rfl Try.underlying4 ?_ hW ?_
  · obtain ⟨p, q, hA0, hV, _, _, _⟩ := hW
    have hA : DataW.TrodAll enc Try.prog W 0 (fun _ => true) true Try.f4.params.toList args.toList ds p := hA0
    rw [Try.params4] at hA
    obtain ⟨v0, vs0, d0, ds0, p0, q0, _, rfl, _, h0, r0⟩ := trodAll_cons hA
    obtain ⟨_, rfl, _⟩ := trodAll_nil r0
    obtain ⟨rfl, _⟩ := trodVars_none hV
    rfl
  · obtain ⟨p, q, hA0, hV, _, _, _⟩ := hW
    have hA : DataW.TrodAll enc Try.prog W 0 (fun _ => true) true Try.f4.params.toList args.toList ds p := hA0
    rw [Try.params4] at hA hval
    obtain ⟨v0, vs0, d0, ds0, p0, q0, hargs, _, _, h0, r0⟩ := trodAll_cons hA
    obtain ⟨rfl, _, _⟩ := trodAll_nil r0
    obtain rfl : args = #[v0] := by cases args; simp_all
    obtain ⟨n, r, hr, _, rfl⟩ := open_pub rfl rfl (hval 0 24 v0 rfl rfl) h0
    exact keysIds_c hr

/-- The sum by which any key is named is the document's: for every key, with no condition. -/
theorem keysIds_holds : Rows.KeysIdsSaid :=
  OpenClaim.holds_of_wide 4 Try.f4 rfl rfl rfl rfl rfl rfl rfl ⟨rfl, rfl, rfl, rfl, rfl⟩ rfl rfl rfl rfl rfl (by kernel_rfl) Try.func4 (by kernel_rfl)
    (of_decide_eq_true (by kernel_rfl)) (by unfold Func.isWrapper; first | (rw [if_pos (by decide +kernel)]; kernel_rfl) | (rw [if_neg (by decide +kernel)]; exact ⟨rfl, rfl⟩))
    (fun os started H enc _ => keysIds_lifted os started H enc)
end Go.Proofs.Ytjhmcmadleabjaa
#print axioms Go.Proofs.Ytjhmcmadleabjaa.keysIds_holds
