/- Of any key, message and signature Verify says what the document does. Condition: the arguments are together of bulk at most 1048576. -/
import Derived.Test.YtjhmcmadleabjaaL0
set_option linter.unusedVariables false
set_option maxRecDepth 100000
namespace Go.Proofs.Ytjhmcmadleabjaa
open Go Go.Hw Go.Proofs Go.ChangeShapes Go.WideShapes Go.RowKit Go.ChangeAt

theorem keysVerifies_contract (H : Type) (enc : TypeId × Value → H) (W : World) (base : Nat) (args : Array Value) (ds gs : List (DataW H)) (before : List MemPlace)
    (hval : ∀ (j : Nat) t v, Try.f3.params[j]? = some t → args[j]? = some v → Value.okWide Try.prog W .any base t v)
    (hW : DataW.Whole enc Try.prog Try.f3.params.toList Rows.keysVerifiesSpec.vars false W args.toList ds gs before) (hk : Rows.uptoSmall H (ds ++ gs) = true) :
    Calls Try.prog 3 args W fun e W' => ∃ v, e = .returned v ∧ Rows.keysVerifiesSpec.post enc Try.prog Try.f3 false true false false W args v W' := by
  have hW' := hW
  obtain ⟨p, q, hA0, hV, _, _, _⟩ := hW'
  have hA : DataW.TrodAll enc Try.prog W 0 (fun _ => true) true Try.f3.params.toList args.toList ds p := hA0
  rw [Try.params3] at hA hval
  obtain ⟨v0, vs0, d0, ds0, p0, q0, hargs, rfl, _, h0, r0⟩ := trodAll_cons hA
  obtain ⟨v1, vs1, d1, ds1, p1, q1, rfl, rfl, _, h1, r1⟩ := trodAll_cons r0
  obtain ⟨v2, vs2, d2, ds2, p2, q2, rfl, rfl, _, h2, r2⟩ := trodAll_cons r1
  obtain ⟨rfl, rfl, _⟩ := trodAll_nil r2
  obtain ⟨rfl, _⟩ := trodVars_none hV
  obtain rfl : args = #[v0, v1, v2] := by cases args; simp_all
  refine law_post (rt := 4) Try.laidOut (by kernel_rfl) rfl rfl Try.underlying4 rfl hW ?_
  obtain ⟨n, r, hr, _, rfl⟩ := open_pub rfl rfl (hval 0 24 v0 rfl rfl) h0
  obtain ⟨ma, msg, mc, rfl, _, _, hm, hbm⟩ := open_bytes (hval 1 25 v1 rfl rfl) h1
  obtain ⟨i, CH, P, pa, pc, hC, hCl, hP, hcap, _, _, hc, rfl, hbp⟩ := open_sig (hval 2 29 v2 rfl rfl) h2
  have hb := bulk_bound hk
  have b1 := bulk_slice hbm
  have b2 := bulk_sig hbp
  simp only [List.append_nil, Rows.uptoBulkAll] at hb
  exact keysVerifies_c hr hC hCl hP (by omega) hcap hc hm (by omega)

set_option maxRecDepth 100000 in
theorem keysVerifies_lifted (os : Go.Os) (started : os.Started) (H : Type) (enc : TypeId × Value → H) (F : Stop.Interp) :
    ReturnsInHanded {} Try.checked os 3 .any ((Rows.OpenSpec.upto Rows.keysVerifiesSpec).pre6 enc Try.prog Try.f3 Rows.keysVerifiesUptoRow.domain false) (((Rows.OpenSpec.upto Rows.keysVerifiesSpec).at F).post enc Try.prog Try.f3 false true false false) := by
  refine returnsInHanded_of_cond (C := Try.checked) (s := Rows.OpenSpec.upto Rows.keysVerifiesSpec) (k := Rows.uptoSmall) rfl Try.own started (by kernel_rfl) Try.func3
    (witness_own (enc := enc) (C := Try.checked) (s := Rows.OpenSpec.upto Rows.keysVerifiesSpec) (k := Rows.uptoSmall) rfl false #[(V.agg (C.i64 0 :: bc (List.replicate 32 0))).den, .slice none 0 0, (V.agg z38).den] 8 (by kernel_rfl) (by kernel_rfl) (by kernel_rfl) Try.func3 (by kernel_rfl) (fun W base j t v h1 h2 => by
        match j with
        | 0 => obtain rfl := Option.some.inj h1; obtain rfl := Option.some.inj h2; exact Value.okWide_of_okWideB (by kernel_rfl)
        | 1 => obtain rfl := Option.some.inj h1; obtain rfl := Option.some.inj h2; exact Value.okWide_of_okWideB (by kernel_rfl)
        | 2 => obtain rfl := Option.some.inj h1; obtain rfl := Option.some.inj h2; exact okWide_sig W base
        | n + 3 => simp at h2)
      (x := ([.agg [.lit (.int .i64 0), .agg (List.replicate 32 (.lit (.int .u8 0)))], .nil, .agg [.lit (.int .i64 0), .agg (List.replicate 67 (.agg (List.replicate 32 (.lit (.int .u8 0))))), .nil]], [], [])) (by kernel_rfl) rfl (by kernel_rfl)) ?_
  intro W base args ds gs before hval hW _ hk _
  exact keysVerifies_contract H enc W base args ds gs before hval hW hk

/-- Of any key, message and signature Verify says what the document does; the arguments together of bulk at most 1048576. -/
theorem keysVerifies_holds : Rows.KeysVerifiesUptoSaid :=
  OpenClaim.holds_of_cond 3 Try.f3 rfl rfl rfl rfl rfl rfl rfl ⟨rfl, rfl, rfl, rfl, rfl⟩ rfl rfl rfl rfl rfl (by kernel_rfl) Try.func3 (by kernel_rfl)
    (of_decide_eq_true (by kernel_rfl)) (by unfold Func.isWrapper; first | (rw [if_pos (by decide +kernel)]; kernel_rfl) | (rw [if_neg (by decide +kernel)]; exact ⟨rfl, rfl⟩))
    (fun os started H enc _ F => keysVerifies_lifted os started H enc F)
end Go.Proofs.Ytjhmcmadleabjaa
#print axioms Go.Proofs.Ytjhmcmadleabjaa.keysVerifies_holds
