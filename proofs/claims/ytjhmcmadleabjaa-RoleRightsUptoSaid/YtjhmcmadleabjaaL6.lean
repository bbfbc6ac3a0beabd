/- Whether any role may be is the document's answer. Condition: the argument is of bulk at most 1048576. -/
import Derived.Test.YtjhmcmadleabjaaL0
import Derived.Test.YtjhmcmadleabjaaRoleWalkA
set_option linter.unusedVariables false
set_option maxRecDepth 100000
namespace Go.Proofs.Ytjhmcmadleabjaa
open Go Go.Hw Go.Proofs Go.ChangeShapes Go.WideShapes Go.RowKit Go.ChangeAt

section
variable {H : Type} {enc : TypeId × Value → H} {w : World} {base : Nat} {sp : Nat → Bool} {held : Bool} {t fuel : Nat} {cs : List Value} {x : DataW H × List MemPlace}
/-- A number and a list of keys. -/
theorem cut_role (hr : DataW.trod enc Try.prog w base sp held fuel 68 cs = some x) :
    ∃ (n : Int) (K : List (Int × List UInt8)) (pa : Ad) (pc : Nat), K32 K ∧ inI n ∧ K.length ≤ pc ∧ Cells w pa (K.flatMap kr) ∧ Lives w pa ∧ cs = [C.i64 n, .slc pa K.length pc].map C.den ∧ K.length ≤ Rows.uptoBulk x.1 := by
  obtain ⟨hl, xs, hxe, m, hx⟩ := trod_field tbok (t := 68) (fs := [(3, 0, 1), (66, 1, 1)]) (z := 2) rfl hr
  obtain ⟨y0, hy0, h0⟩ := hx 0 3 0 1 rfl
  obtain ⟨y1, hy1, h1⟩ := hx 1 66 1 1 rfl
  obtain ⟨n, e0, hn⟩ := trod_i64 tbok (z := 1) rfl h0
  obtain ⟨ad, K, cap, e1, g2, g3, g4, g5, hlv, g6⟩ := trod_slc (row := kr) (p := fun r => r.2.length = 32) (q := fun _ _ => True) tbok (t := 66) (el := 24) rfl (by omega) (fun n cs' y hy => by
    obtain ⟨a, r, h2, _, h3⟩ := cut_pub (T := 22) (z := 33) rfl rfl rfl hy
    exact ⟨(a, r), h2, kr_len h2, h3, trivial⟩) h1
  refine ⟨n, K, ad, cap, g4, hn, g2, g5, hlv, ?_, ?_⟩
  · rw [List.drop_zero] at e0
    rw [List.take_of_length_le (by simp; omega)] at e1
    rw [← List.take_append_drop 1 cs, e0, e1]
    rfl
  · have hb := bulk_slice (g6.imp id fun ⟨es, rest, a, b, _⟩ => ⟨es, rest, a, b⟩)
    have hm : y1 ∈ xs := List.mem_of_getElem? hy1
    have h2 := bulk_part (List.mem_map_of_mem (f := fun z : DataW H × List MemPlace => z.1) hm)
    rw [hxe]
    simp only [Rows.uptoBulk]
    omega
theorem open_role {v : Value} {d : DataW H} {ps : List MemPlace} {b0 : Nat} {rc : Reach} (hval : Value.okWide Try.prog w rc b0 68 v) (hd : DataW.Trod enc Try.prog w base sp held 68 v d ps) :
    ∃ (n : Int) (K : List (Int × List UInt8)) (pa : Ad) (pc : Nat), K32 K ∧ inI n ∧ K.length ≤ pc ∧ Cells w pa (K.flatMap kr) ∧ Lives w pa ∧ v = (V.agg [C.i64 n, .slc pa K.length pc]).den ∧ K.length ≤ Rows.uptoBulk d := by
  obtain ⟨F, hF, _⟩ := und_struct tbok (t := 68) (fs := [(3, 0, 1), (66, 1, 1)]) (s := 2) rfl
  obtain ⟨fuel, hf⟩ := hd
  simp only [Value.okWide, hF] at hval
  obtain ⟨cs0, hv, _, _⟩ := hval
  obtain ⟨n, K, pa, pc, h1, h2, h3, h4, h5, h6, h7⟩ := cut_role (cs := v.cells.toList) hf
  exact ⟨n, K, pa, pc, h1, h2, h3, h4, h5, agg_of hv (by rw [hv] at h6; exact h6), h7⟩
end

theorem roleRights_contract (H : Type) (enc : TypeId × Value → H) (W : World) (base : Nat) (args : Array Value) (ds gs : List (DataW H)) (before : List MemPlace)
    (hval : ∀ (j : Nat) t v, Try.f8.params[j]? = some t → args[j]? = some v → Value.okWide Try.prog W .any base t v)
    (hW : DataW.Whole enc Try.prog Try.f8.params.toList Rows.roleRightsSpec.vars false W args.toList ds gs before) (hk : Rows.uptoSmall H (ds ++ gs) = true) :
    Calls Try.prog 8 args W fun e W' => ∃ v, e = .returned v ∧ Rows.roleRightsSpec.post enc Try.prog Try.f8 false true false false W args v W' := by
  have hW' := hW
  obtain ⟨p, q, hA0, hV, _, _, _⟩ := hW'
  have hA : DataW.TrodAll enc Try.prog W 0 (fun _ => true) true Try.f8.params.toList args.toList ds p := hA0
  rw [Try.params8] at hA hval
  obtain ⟨v0, vs0, d0, ds0, p0, q0, hargs, rfl, _, h0, r0⟩ := trodAll_cons hA
  obtain ⟨rfl, rfl, _⟩ := trodAll_nil r0
  obtain ⟨rfl, _⟩ := trodVars_none hV
  obtain rfl : args = #[v0] := by cases args; simp_all
  refine law_post (rt := 4) Try.laidOut (by kernel_rfl) rfl rfl Try.underlying4 rfl hW ?_
  obtain ⟨n, K, pa, pc, hK, _, _, hc, _, rfl, hl⟩ := open_role (hval 0 68 v0 rfl rfl) h0
  have hb := bulk_bound hk
  simp only [List.append_nil, Rows.uptoBulkAll] at hb
  exact roleRights_c hK (by omega) hc

set_option maxRecDepth 100000 in
theorem roleRights_lifted (os : Go.Os) (started : os.Started) (H : Type) (enc : TypeId × Value → H) (F : Stop.Interp) :
    ReturnsInHanded {} Try.checked os 8 .any ((Rows.OpenSpec.upto Rows.roleRightsSpec).pre6 enc Try.prog Try.f8 Rows.roleRightsUptoRow.domain false) (((Rows.OpenSpec.upto Rows.roleRightsSpec).at F).post enc Try.prog Try.f8 false true false false) := by
  refine returnsInHanded_of_cond (C := Try.checked) (s := Rows.OpenSpec.upto Rows.roleRightsSpec) (k := Rows.uptoSmall) rfl Try.own started (by kernel_rfl) Try.func8
    (OpenSpec.witness (enc := enc) (C := Try.checked) (s := Rows.OpenSpec.upto Rows.roleRightsSpec) (k := Rows.uptoSmall) rfl false ⟨#[], #[.agg #[.int .i64 0, .slice none 0 0]], []⟩ 8 (by kernel_rfl) (by kernel_rfl) (by kernel_rfl)
      (x := ([.agg [.lit (.int .i64 0), .nil]], [], [])) (by kernel_rfl) rfl (by kernel_rfl)) ?_
  intro W base args ds gs before hval hW _ hk _
  exact roleRights_contract H enc W base args ds gs before hval hW hk

/-- Whether any role may be is the document's answer; the argument of bulk at most 1048576. -/
theorem roleRights_holds : Rows.RoleRightsUptoSaid :=
  OpenClaim.holds_of_cond 8 Try.f8 rfl rfl rfl rfl rfl rfl rfl ⟨rfl, rfl, rfl, rfl, rfl⟩ rfl rfl rfl rfl rfl (by kernel_rfl) Try.func8 (by kernel_rfl)
    (of_decide_eq_true (by kernel_rfl)) (by unfold Func.isWrapper; first | (rw [if_pos (by decide +kernel)]; kernel_rfl) | (rw [if_neg (by decide +kernel)]; exact ⟨rfl, rfl⟩))
    (fun os started H enc _ F => roleRights_lifted os started H enc F)
end Go.Proofs.Ytjhmcmadleabjaa
#print axioms Go.Proofs.Ytjhmcmadleabjaa.roleRights_holds
