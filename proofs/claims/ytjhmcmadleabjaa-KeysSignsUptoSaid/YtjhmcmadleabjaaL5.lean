/- Signing: a key signs its messages in turn. Condition: the arguments are together of bulk at most 1048576. -/
import Derived.Test.YtjhmcmadleabjaaL0
import Derived.Test.YtjhmcmadleabjaaSigning
set_option linter.unusedVariables false
set_option maxRecDepth 100000
namespace Go.Proofs.Ytjhmcmadleabjaa
open Go Go.Hw Go.Proofs Go.ChangeShapes Go.WideShapes Go.RowKit Go.ChangeAt

instance actV_inhabited : Inhabited ActV := ⟨⟨0, .nil, [], 0⟩⟩
section
variable {H : Type} {enc : TypeId × Value → H} {w : World} {base : Nat} {sp : Nat → Bool} {held : Bool} {t fuel : Nat} {cs : List Value} {x : DataW H × List MemPlace}
theorem cut_act {n : Nat} {cs' : List Value} {y : DataW H × List MemPlace} (hr : DataW.trod enc Try.prog w base sp held n 53 cs' = some y) :
    ∃ r : ActV, (Cells w r.ad (bc r.msg) ∧ Lives w r.ad) ∧ (ActV.row r).length = 2 ∧ cs' = (ActV.row r).map C.den ∧ r.msg.length ≤ Rows.uptoBulk y.1 := by
  obtain ⟨hl, xs, hxe, m, hx⟩ := trod_field tbok (t := 53) (fs := [(3, 0, 1), (25, 1, 1)]) (z := 2) rfl hr
  obtain ⟨y0, hy0, h0⟩ := hx 0 3 0 1 rfl
  obtain ⟨y1, hy1, h1⟩ := hx 1 25 1 1 rfl
  obtain ⟨k, e0, hk⟩ := trod_i64 tbok (z := 1) rfl h0
  obtain ⟨ad, l, cap, e1, g2, g3, g4, hlv, g5⟩ := trod_slc_u8 tbok (t := 25) (el := 5) rfl rfl h1
  have hb := bulk_slice g5
  refine ⟨⟨k, ad, l, cap⟩, ⟨g4, hlv⟩, rfl, ?_, ?_⟩
  · rw [List.drop_zero] at e0
    rw [List.take_of_length_le (by simp; omega)] at e1
    rw [← List.take_append_drop 1 cs', e0, e1]
    rfl
  · have hm : y1 ∈ xs := List.mem_of_getElem? hy1
    have h2 := bulk_part (List.mem_map_of_mem (f := fun z : DataW H × List MemPlace => z.1) hm)
    rw [hxe]
    simp only [Rows.uptoBulk]
    show l.length ≤ _
    omega
theorem open_acts {v : Value} {d : DataW H} {ps : List MemPlace} {b0 : Nat} {rc : Reach} (hval : Value.okWide Try.prog w rc b0 44 v) (hd : DataW.Trod enc Try.prog w base sp held 44 v d ps) :
    ∃ (ad : Ad) (A : List ActV) (cap : Nat), v = (V.c (.slc ad A.length cap)).den ∧ Cells w ad (A.flatMap ActV.row) ∧ A.length ≤ Rows.uptoBulk d ∧ ∀ a ∈ A, Cells w a.ad (bc a.msg) ∧ Lives w a.ad ∧ a.msg.length ≤ Rows.uptoBulk d := by
  obtain ⟨fuel, hf⟩ := hd
  obtain ⟨hu, _⟩ := und_slice tbok (t := 44) (e := 53) (z := 2) (s := 1) rfl
  obtain ⟨a, len, c2, rfl⟩ := okWide_slice hu hval
  obtain ⟨ad, A, cap, h1, h2, h3, h4, h5, hlv, h6⟩ := trod_slc (row := ActV.row) (p := fun r => Cells w r.ad (bc r.msg) ∧ Lives w r.ad) (q := fun r y => r.msg.length ≤ Rows.uptoBulk y) tbok (t := 44) (el := 53) rfl (by omega) (fun n cs' y hy => cut_act hy) hf
  have e2 : (Value.slice a len c2).cells.toList = [(C.slc ad A.length cap).den] := h1
  simp [Value.cells] at e2
  refine ⟨ad, A, cap, e2, h5, bulk_slice (h6.imp id fun ⟨es, rest, g1, g2, _⟩ => ⟨es, rest, g1, g2⟩), fun r hr => ⟨(h4 r hr).1, (h4 r hr).2, ?_⟩⟩
  rcases h6 with rfl | ⟨es, rest, g1, g2, g3⟩
  · cases hr
  · obtain ⟨y, hy, h7⟩ := g3 r hr
    have h8 := bulk_part hy
    have g1' : d = .slice es rest := g1
    rw [g1']
    simp only [Rows.uptoBulk]
    omega
end

theorem keysSigns_contract (H : Type) (enc : TypeId × Value → H) (W : World) (base : Nat) (args : Array Value) (ds gs : List (DataW H)) (before : List MemPlace)
    (hval : ∀ (j : Nat) t v, Try.f5.params[j]? = some t → args[j]? = some v → Value.okWide Try.prog W .any base t v)
    (hW : DataW.Whole enc Try.prog Try.f5.params.toList Rows.keysSignsSpec.vars false W args.toList ds gs before) (hk : Rows.uptoSmall H (ds ++ gs) = true) :
    Calls Try.prog 5 args W fun e W' => ∃ v, e = .returned v ∧ Rows.keysSignsSpec.post enc Try.prog Try.f5 false true false false W args v W' := by
  have hW' := hW
  obtain ⟨p, q, hA0, hV, _, _, _⟩ := hW'
  have hA : DataW.TrodAll enc Try.prog W 0 (fun _ => true) true Try.f5.params.toList args.toList ds p := hA0
  rw [Try.params5] at hA hval
  obtain ⟨v0, vs0, d0, ds0, p0, q0, hargs, rfl, _, h0, r0⟩ := trodAll_cons hA
  obtain ⟨v1, vs1, d1, ds1, p1, q1, rfl, rfl, _, h1, r1⟩ := trodAll_cons r0
  obtain ⟨v2, vs2, d2, ds2, p2, q2, rfl, rfl, _, h2, r2⟩ := trodAll_cons r1
  obtain ⟨rfl, rfl, _⟩ := trodAll_nil r2
  obtain ⟨rfl, _⟩ := trodVars_none hV
  obtain rfl : args = #[v0, v1, v2] := by cases args; simp_all
  refine law_post (rt := 4) Try.laidOut (by kernel_rfl) rfl rfl Try.underlying4 rfl hW ?_
  obtain ⟨sd, hs, rfl⟩ := open_dig rfl (hval 0 22 v0 rfl rfl) h0
  obtain ⟨n, rfl, _, _, _⟩ := open_int Try.underlying3 (hval 1 3 v1 rfl rfl) h1
  obtain ⟨pa, A, pc, rfl, hc, hl, hmsg⟩ := open_acts (hval 2 44 v2 rfl rfl) h2
  have hb := bulk_bound hk
  simp only [List.append_nil, Rows.uptoBulkAll] at hb
  exact keysSigns_c hs hc (by omega) (fun a ha => ⟨(hmsg a ha).1, (hmsg a ha).2.1, by have := (hmsg a ha).2.2; omega⟩)

set_option maxRecDepth 100000 in
theorem keysSigns_lifted (os : Go.Os) (started : os.Started) (H : Type) (enc : TypeId × Value → H) (F : Stop.Interp) :
    ReturnsInHanded {} Try.checked os 5 .any ((Rows.OpenSpec.upto Rows.keysSignsSpec).pre6 enc Try.prog Try.f5 Rows.keysSignsUptoRow.domain false) (((Rows.OpenSpec.upto Rows.keysSignsSpec).at F).post enc Try.prog Try.f5 false true false false) := by
  refine returnsInHanded_of_cond (C := Try.checked) (s := Rows.OpenSpec.upto Rows.keysSignsSpec) (k := Rows.uptoSmall) rfl Try.own started (by kernel_rfl) Try.func5
    (OpenSpec.witness (enc := enc) (C := Try.checked) (s := Rows.OpenSpec.upto Rows.keysSignsSpec) (k := Rows.uptoSmall) rfl false ⟨#[], #[(V.agg (bc (List.replicate 32 0))).den, .int .i64 0, .slice none 0 0], []⟩ 8 (by kernel_rfl) (by kernel_rfl) (by kernel_rfl)
      (x := ([.agg (List.replicate 32 (.lit (.int .u8 0))), .lit (.int .i64 0), .nil], [], [])) (by kernel_rfl) rfl (by kernel_rfl)) ?_
  intro W base args ds gs before hval hW _ hk _
  exact keysSigns_contract H enc W base args ds gs before hval hW hk

/-- Signing: a key signs its messages in turn; the arguments together of bulk at most 1048576. -/
theorem keysSigns_holds : Rows.KeysSignsUptoSaid :=
  OpenClaim.holds_of_cond 5 Try.f5 rfl rfl rfl rfl rfl rfl rfl ⟨rfl, rfl, rfl, rfl, rfl⟩ rfl rfl rfl rfl rfl (by kernel_rfl) Try.func5 (by kernel_rfl)
    (of_decide_eq_true (by kernel_rfl)) (by unfold Func.isWrapper; first | (rw [if_pos (by decide +kernel)]; kernel_rfl) | (rw [if_neg (by decide +kernel)]; exact ⟨rfl, rfl⟩))
    (fun os started H enc _ F => keysSigns_lifted os started H enc F)
end Go.Proofs.Ytjhmcmadleabjaa
#print axioms Go.Proofs.Ytjhmcmadleabjaa.keysSigns_holds
