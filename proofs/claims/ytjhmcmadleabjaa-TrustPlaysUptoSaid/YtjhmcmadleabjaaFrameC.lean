/- What an argument as it is read says of its cells; one input that fits. It proves nothing of a program by itself. -/
import Derived.Test.YtjhmcmadleabjaaFrameB
import Derived.ProofKit
import Derived.OpenShut
import Derived.Deep.Slices
import Derived.JoinedCond
set_option linter.unusedVariables false
/- What an argument's reading says of its cells, in the frame's words. -/
set_option linter.unusedVariables false
namespace Go.Hw
open Go.ChangeShapes Go.WideShapes Go.RowKit Go.Deep
section
variable {H : Type} {enc : TypeId × Value → H} {P : Program} {tb : Tb} {w : World} {base : Nat} {sp : Nat → Bool} {held : Bool} {t fuel : Nat} {cs : List Value} {x : DataW H × List MemPlace}

theorem trod_i64 (ht : TbOk P tb) {z : Nat} (h : tb.get t = some (.int .i64, z)) (hr : DataW.trod enc P w base sp held fuel t cs = some x) : ∃ n : Int, cs = [(C.i64 n).den] ∧ inI n := by
  obtain ⟨n, hcs, _, hw⟩ := DataW.trod_int (und_int ht h) hr
  refine ⟨n, hcs, ?_⟩
  simp [Lit.wf, IntKind.min, IntKind.max, IntKind.signed, IntKind.bits] at hw
  exact hw
theorem trod_u8 (ht : TbOk P tb) {z : Nat} (h : tb.get t = some (.int .u8, z)) (hr : DataW.trod enc P w base sp held fuel t cs = some x) : ∃ b : UInt8, cs = [(C.u8 b).den] := by
  obtain ⟨n, hcs, _, hw⟩ := DataW.trod_int (und_int ht h) hr
  simp [Lit.wf, IntKind.min, IntKind.max, IntKind.signed, IntKind.bits] at hw
  refine ⟨UInt8.ofNat n.toNat, ?_⟩
  rw [hcs]
  have : (UInt8.ofNat n.toNat).toNat = n.toNat := by simp; omega
  simp only [C.den, this]
  congr 2; omega
theorem trod_bool (ht : TbOk P tb) {z : Nat} (h : tb.get t = some (.bool, z)) (hr : DataW.trod enc P w base sp held fuel t cs = some x) : ∃ b : Bool, cs = [(C.bool b).den] := by
  have hu := und_bool ht h
  cases fuel with
  | zero => simp [DataW.trod] at hr
  | succ n =>
    unfold DataW.trod at hr
    rw [hu] at hr
    split at hr <;> simp_all [C.den]

theorem chunk_list {α : Type} {f : Nat → List α} {z : Nat} : ∀ {n : Nat} {cs : List α}, cs.length = n * z → (∀ i, i < n → (cs.drop (i * z)).take z = f i) → cs = (List.range n).flatMap f
  | 0, cs, hl, h => by
    have : cs = [] := List.length_eq_zero_iff.1 (by omega)
    simp [this]
  | n + 1, cs, hl, h => by
    have e1 : (n + 1) * z = n * z + z := Nat.succ_mul n z
    have ih := chunk_list (f := f) (z := z) (n := n) (cs := cs.take (n * z)) (by simp; omega) (fun i hi => by
      have h1 : (i + 1) * z ≤ n * z := Nat.mul_le_mul_right z hi
      have h2 : (i + 1) * z = i * z + z := Nat.succ_mul i z
      rw [List.drop_take, List.take_take, Nat.min_eq_left (by omega)]
      exact h i (by omega))
    rw [List.range_succ, List.flatMap_append, ← ih]
    have h3 := h n (by omega)
    simp only [List.flatMap_cons, List.flatMap_nil, List.append_nil, ← h3]
    rw [List.take_of_length_le (l := cs.drop (n * z)) (by simp; omega), List.take_append_drop]

theorem choose_rows {α : Type} [Inhabited α] {n : Nat} {p : Nat → α → Prop} (h : ∀ i, i < n → ∃ a, p i a) : ∃ f : Nat → α, ∀ i, i < n → p i (f i) :=
  ⟨fun i => if hi : i < n then Classical.choose (h i hi) else default, fun i hi => by simp only [hi, dif_pos]; exact Classical.choose_spec (h i hi)⟩

theorem trod_arr_u8 (ht : TbOk P tb) {n el s1 : Nat} (h : tb.get t = some (.arr n el 1, n)) (hel : tb.get el = some (.int .u8, s1)) (hr : DataW.trod enc P w base sp held fuel t cs = some x) : ∃ l : List UInt8, l.length = n ∧ cs = (bc l).map C.den := by
  obtain ⟨hu, hz⟩ := und_arr ht h
  obtain ⟨xs, m, _, _, hl, hxl, hx⟩ := DataW.trod_array hu hr
  rw [cellsOf_of (tinfo ht h)] at hl
  have hz1 := cellsOf_of hz
  obtain ⟨f, hf⟩ := choose_rows (α := UInt8) (n := n) (p := fun i b => (cs.drop (i * 1)).take 1 = [(C.u8 b).den]) (fun i hi => by
    have h1 := hx i hi
    rw [List.getElem?_eq_getElem (by omega), hz1] at h1
    exact trod_u8 ht hel h1)
  have := chunk_list (f := fun i => [(C.u8 (f i)).den]) (z := 1) (n := n) (cs := cs) (by omega) hf
  refine ⟨(List.range n).map f, by simp, ?_⟩
  rw [this]
  simp only [bc, List.map_map]
  induction (List.range n) with
  | nil => rfl
  | cons a l ih => simp only [List.flatMap_cons, List.map_cons]; rw [ih]; rfl
theorem trod_arr_arr (ht : TbOk P tb) {n z el el2 s1 : Nat} (h : tb.get t = some (.arr n el z, n * z)) (h2 : tb.get el = some (.arr z el2 1, z)) (hel : tb.get el2 = some (.int .u8, s1)) (hr : DataW.trod enc P w base sp held fuel t cs = some x) :
    ∃ L : List (List UInt8), (∀ s ∈ L, s.length = z) ∧ L.length = n ∧ cs = (bc L.flatten).map C.den := by
  obtain ⟨hu, hz⟩ := und_arr ht h
  obtain ⟨xs, m, _, _, hl, hxl, hx⟩ := DataW.trod_array hu hr
  rw [cellsOf_of (tinfo ht h)] at hl
  have hz1 := cellsOf_of hz
  obtain ⟨f, hf⟩ := choose_rows (α := List UInt8) (n := n) (p := fun i b => b.length = z ∧ (cs.drop (i * z)).take z = (bc b).map C.den) (fun i hi => by
    have h1 := hx i hi
    rw [List.getElem?_eq_getElem (by omega), hz1] at h1
    exact trod_arr_u8 ht h2 hel h1)
  have := chunk_list (f := fun i => (bc (f i)).map C.den) (z := z) (n := n) (cs := cs) hl (fun i hi => (hf i hi).2)
  refine ⟨(List.range n).map f, fun s hs => ?_, by simp, ?_⟩
  · obtain ⟨i, hi, rfl⟩ := List.mem_map.1 hs
    exact (hf i (List.mem_range.1 hi)).1
  · rw [this]
    induction (List.range n) with
    | nil => rfl
    | cons a l ih => simp only [List.flatMap_cons, List.map_cons, List.flatten_cons, bc_app, List.map_append]; rw [ih]

/-- A field of a struct. -/
theorem trod_field (ht : TbOk P tb) {fs : List (Nat × Nat × Nat)} {z : Nat} (h : tb.get t = some (.struct fs, z)) (hr : DataW.trod enc P w base sp held fuel t cs = some x) :
    cs.length = z ∧ ∃ xs : List (DataW H × List MemPlace), x = (.agg (xs.map (·.1)), xs.flatMap (·.2)) ∧ ∃ m, ∀ (f ty o s : Nat), fs[f]? = some (ty, o, s) → ∃ y, xs[f]? = some y ∧ DataW.trod enc P w base sp held m ty ((cs.drop o).take s) = some y := by
  obtain ⟨F, hF, hall⟩ := und_struct ht h
  obtain ⟨xs, n, _, hxe, hl, hxl, hx⟩ := DataW.trod_struct hF hr
  rw [cellsOf_of (tinfo ht h)] at hl
  refine ⟨hl, xs, hxe, n, fun f ty o s hf => ?_⟩
  obtain ⟨fd, hfd, h1, h2, h3⟩ := hall f ty o s hf
  have h4 := hx f fd hfd
  rw [h1, h2, cellsOf_of h3] at h4
  have hlt : f < xs.length := by
    have := (Array.getElem?_eq_some_iff.1 hfd).1; omega
  rw [List.getElem?_eq_getElem hlt] at h4
  exact ⟨_, List.getElem?_eq_getElem hlt, h4⟩

theorem lives_none {ad : Ad} (h : ad.key = none) : Lives w ad := fun k hk => by rw [h] at hk; cases hk
theorem lives_at {r o : Nat} (h : r < w.heap.size) : Lives w (.at r o) := fun k hk => by
  have e : r = k := Option.some.inj hk
  rw [← e]; exact h
theorem spot_of_cells {a : Addr} {n : Nat} {l : List Value} (h : w.cells? base a n = some l) (hn : 0 < n) : a.spot = none := by
  obtain ⟨_, hlen, hc⟩ := World.cells?_some h
  have := hc 0 (by omega)
  cases hs : a.spot with
  | none => rfl
  | some s =>
    unfold World.cell? Addr.add at this
    split at this <;> simp_all
theorem cells_chunks {a : Addr} {z len : Nat} {rows : Nat → List C} (hl : ∀ i, i < len → (rows i).length = z) (hz : 0 < z) (hs : a.spot = none) (h : ∀ i, i < len → w.cells? base (a.add (i * z)) z = some ((rows i).map C.den)) :
    Cells w (.at a.block a.off) ((List.range len).flatMap rows) := by
  obtain ⟨r, off, spt⟩ := a
  simp only at hs
  subst hs
  have main : ∀ len, (∀ i, i < len → (rows i).length = z) → (∀ i, i < len → w.cells? base ((⟨r, off, none⟩ : Addr).add (i * z)) z = some ((rows i).map C.den)) → ((List.range len).flatMap rows).length = len * z ∧ Cells w (.at r off) ((List.range len).flatMap rows) := by
    intro len
    induction len with
    | zero => intro _ _; exact ⟨by simp, fun i c hi => by simp at hi⟩
    | succ n ih =>
      intro hl h
      obtain ⟨h1, h2⟩ := ih (fun i hi => hl i (by omega)) (fun i hi => h i (by omega))
      rw [List.range_succ, List.flatMap_append]
      simp only [List.flatMap_cons, List.flatMap_nil, List.append_nil]
      refine ⟨by rw [List.length_append, h1, hl n (by omega), Nat.succ_mul], fun i c hi => ?_⟩
      by_cases hlt : i < n * z
      · rw [List.getElem?_append_left (by omega)] at hi
        exact h2 i c hi
      · rw [List.getElem?_append_right (by omega), h1] at hi
        obtain ⟨_, hlen, hc⟩ := World.cells?_some (h n (by omega))
        have hlt2 : i - n * z < (rows n).length := (List.getElem?_eq_some_iff.1 hi).1
        have h3 := hc (i - n * z) (by have := hl n (by omega); omega)
        rw [add_addr, add_addr, show off + n * z + (i - n * z) = off + i by omega] at h3
        rw [h3, List.getElem?_map, hi]; rfl
  exact (main len hl h).2

theorem trod_slc {α : Type} [Inhabited α] {row : α → List C} {p : α → Prop} {q : α → DataW H → Prop} (ht : TbOk P tb) {el z s1 : Nat} (h : tb.get t = some (.slice el z, s1)) (hz : 0 < z)
    (elem : ∀ (n : Nat) (cs' : List Value) (y : DataW H × List MemPlace), DataW.trod enc P w base sp held n el cs' = some y → ∃ r : α, p r ∧ (row r).length = z ∧ cs' = (row r).map C.den ∧ q r y.1)
    (hr : DataW.trod enc P w base sp held fuel t cs = some x) :
    ∃ (ad : Ad) (rs : List α) (cap : Nat), cs = [(C.slc ad rs.length cap).den] ∧ rs.length ≤ cap ∧ cap ≤ maxLen ∧ (∀ r ∈ rs, p r) ∧ Cells w ad (rs.flatMap row) ∧ Lives w ad ∧ (rs = [] ∨ ∃ es rest, x.1 = .slice es rest ∧ es.length = rs.length ∧ ∀ r ∈ rs, ∃ d ∈ es, q r d) := by
  obtain ⟨hu, hzz⟩ := und_slice ht h
  have hc := cellsOf_of hzz
  rcases open_slice hu hr with ⟨hcs, _⟩ | ⟨a, len, cap, m, n, D, Pl, hcs, _, hl, hm, hmm, hx, hrd⟩
  · exact ⟨.nil, [], 0, by rw [hcs]; rfl, Nat.le_refl _, Nat.zero_le _, by simp, rfl, lives_none rfl, .inl rfl⟩
  · have hlm : len ≤ m := by rw [hmm]; split <;> omega
    rcases Nat.eq_zero_or_pos len with h0 | h0
    · subst h0
      exact ⟨.raw a, [], cap, by rw [hcs]; rfl, Nat.zero_le _, hm, by simp, rfl, lives_none rfl, .inl rfl⟩
    obtain ⟨c0, hc0, _⟩ := hrd 0 (by omega)
    have ha0 : a.add (0 * P.cellsOf el) = a := by rw [Nat.zero_mul]; simp [Addr.add]
    rw [ha0] at hc0
    have hsp := spot_of_cells hc0 (by rw [hc]; exact hz)
    have hlv : a.block < w.heap.size := by
      obtain ⟨_, hlen, hcc⟩ := World.cells?_some hc0
      have h9 := hcc 0 (by rw [hc]; exact hz)
      unfold World.cell? at h9
      have hb : (a.add 0).block = a.block := by simp [Addr.add]
      rw [hb] at h9
      cases hg : w.heap[a.block]? with
      | none =>
        rw [hg] at h9
        rw [List.getElem?_eq_getElem (by rw [hlen, hc]; exact hz)] at h9
        cases h9
      | some o => exact lt_of_get hg
    obtain ⟨f, hf⟩ := choose_rows (α := α) (n := len) (p := fun i r => p r ∧ (row r).length = z ∧ w.cells? base (a.add (i * z)) z = some ((row r).map C.den) ∧ q r (D i)) (fun i hi => by
      obtain ⟨cs', h1, h2⟩ := hrd i (by omega)
      obtain ⟨r, g1, g2, g3, g4⟩ := elem _ _ _ h2
      rw [hc] at h1
      exact ⟨r, g1, g2, by rw [h1, g3], g4⟩)
    refine ⟨.at a.block a.off, (List.range len).map f, cap, ?_, by simpa using hl, hm, fun r hr => ?_, ?_, lives_at hlv, .inr ⟨_, _, by rw [hx], by simp, fun r hr => ?_⟩⟩
    · rw [hcs]
      obtain ⟨r, off, spt⟩ := a
      simp only at hsp
      subst hsp
      simp [C.den, Ad.den]
    · obtain ⟨i, hi, rfl⟩ := List.mem_map.1 hr
      exact (hf i (List.mem_range.1 hi)).1
    · rw [List.flatMap_map]
      exact cells_chunks (fun i hi => (hf i hi).2.1) hz hsp (fun i hi => (hf i hi).2.2.1)
    · obtain ⟨i, hi, rfl⟩ := List.mem_map.1 hr
      exact ⟨_, List.mem_map.2 ⟨i, hi, rfl⟩, (hf i (List.mem_range.1 hi)).2.2.2⟩

theorem trod_slc_u8 (ht : TbOk P tb) {el s1 s2 : Nat} (h : tb.get t = some (.slice el 1, s1)) (hel : tb.get el = some (.int .u8, s2))
    (hr : DataW.trod enc P w base sp held fuel t cs = some x) :
    ∃ (ad : Ad) (l : List UInt8) (cap : Nat), cs = [(C.slc ad l.length cap).den] ∧ l.length ≤ cap ∧ cap ≤ maxLen ∧ Cells w ad (bc l) ∧ Lives w ad ∧ (l = [] ∨ ∃ es rest, x.1 = .slice es rest ∧ es.length = l.length) := by
  obtain ⟨ad, rs, cap, h1, h2, h3, _, h4, hl, h5⟩ := trod_slc (row := fun b : UInt8 => [C.u8 b]) (p := fun _ => True) (q := fun _ _ => True) ht h (by omega) (fun n cs' y hy => by
    obtain ⟨b, hb⟩ := trod_u8 ht hel hy
    exact ⟨b, trivial, rfl, hb, trivial⟩) hr
  refine ⟨ad, rs, cap, h1, h2, h3, ?_, hl, h5.imp id fun ⟨es, rest, g1, g2, _⟩ => ⟨es, rest, g1, g2⟩⟩
  have : rs.flatMap (fun b : UInt8 => [C.u8 b]) = bc rs := by
    unfold bc
    clear h1 h2 h4 h5
    induction rs with
    | nil => rfl
    | cons a l ih => rw [List.flatMap_cons, List.map_cons, ih (fun _ _ => trivial)]; rfl
  rw [← this]; exact h4
theorem trod_slc_arr (ht : TbOk P tb) {el z e2 s1 s2 : Nat} (h : tb.get t = some (.slice el z, s1)) (hz : 0 < z) (hel : tb.get el = some (.arr z e2 1, z)) (he2 : tb.get e2 = some (.int .u8, s2))
    (hr : DataW.trod enc P w base sp held fuel t cs = some x) :
    ∃ (ad : Ad) (L : List (List UInt8)) (cap : Nat), cs = [(C.slc ad L.length cap).den] ∧ L.length ≤ cap ∧ cap ≤ maxLen ∧ (∀ s ∈ L, s.length = z) ∧ Cells w ad (bc L.flatten) ∧ Lives w ad ∧ (L = [] ∨ ∃ es rest, x.1 = .slice es rest ∧ es.length = L.length) := by
  obtain ⟨ad, rs, cap, h1, h2, h3, h6, h4, hl, h5⟩ := trod_slc (row := fun l : List UInt8 => bc l) (p := fun l => l.length = z) (q := fun _ _ => True) ht h hz (fun n cs' y hy => by
    obtain ⟨l, g1, g2⟩ := trod_arr_u8 ht hel he2 hy
    exact ⟨l, g1, by simp [bc, g1], g2, trivial⟩) hr
  refine ⟨ad, rs, cap, h1, h2, h3, h6, ?_, hl, h5.imp id fun ⟨es, rest, g1, g2, _⟩ => ⟨es, rest, g1, g2⟩⟩
  have : rs.flatMap (fun l : List UInt8 => bc l) = bc rs.flatten := by
    clear h1 h2 h3 h6 h4 h5
    induction rs with
    | nil => rfl
    | cons a l ih => rw [List.flatMap_cons, ih, List.flatten_cons, bc_app]
  rw [← this]; exact h4
end

/-! ### A law that answers true and leaves all as it was -/
theorem trodAll_below {H : Type} {enc : TypeId × Value → H} {P : Program} (hl : laidOutB P = true) {W W' : World} (hb : Below W.heap.size W W') :
    ∀ {ts : List TypeId} {vs : List Value} {ds : List (DataW H)} {ps : List MemPlace}, (ts.all fun t => P.readableRec t && decide (t < P.types.size)) = true → DataW.TrodAll enc P W 0 (fun _ => true) true ts vs ds ps → (∀ x ∈ ps, x.block < W.heap.size) →
      DataW.TrodAll enc P W' 0 (fun b => decide (b < W.heap.size)) true ts vs ds ps
  | [], _, _, _, _, h, _ => by
    obtain ⟨rfl, rfl, rfl⟩ := trodAll_nil h
    rfl
  | t :: ts, _, _, _, ht, h, hlt => by
    obtain ⟨v, vs1, d, ds1, a, b, rfl, rfl, rfl, h1, h2⟩ := trodAll_cons h
    simp only [List.all_cons, Bool.and_eq_true, decide_eq_true_eq] at ht
    exact ⟨a, b, Below.trod hl ht.1.1 ht.1.2 h1 hb (fun x hx => hlt x (by simp [hx])), trodAll_below hl hb (by simpa using ht.2) h2 (fun x hx => hlt x (by simp [hx])), rfl⟩

theorem law_post {H : Type} {enc : TypeId × Value → H} {P : Program} {f : Nat} {fn : Func} {s : ChangeSpec} {W : World} {args : Array Value} {ds gs : List (DataW H)} {before : List MemPlace} {rt : Nat}
    (hl : laidOutB P = true) (hts : (fn.params.toList.all fun t => P.readableRec t && decide (t < P.types.size)) = true) (hv : s.vars = []) (hrt : fn.resultTypes = #[rt]) (hb : P.underlying rt = some .bool)
    (hfn : s.fn H (ds ++ gs) = { results := [.lit (.bool true)], args := ds }) (hW : DataW.Whole enc P fn.params.toList s.vars false W args.toList ds gs before)
    (h : Calls P f args W fun e W' => e = .returned (.bool true) ∧ St W [] W') :
    Calls P f args W fun e W' => ∃ v, e = .returned v ∧ s.post enc P fn false true false false W args v W' := by
  have hW' := hW
  obtain ⟨p, q, hA, hV, rfl, _, _⟩ := hW
  rw [hv] at hV
  obtain ⟨rfl, rfl⟩ := trodVars_none hV
  refine h.mono fun e W' ⟨he, hst⟩ => ?_
  have hbel := hst.below
  refine ⟨_, he, ds, [], p ++ [], [], p, [], hW', ?_, ?_, ?_, hbel.frame _, fun h => by cases h⟩
  · rw [hfn, hrt]
    exact trodAll_mk1 (shut_bool hb true)
  · rw [hfn]
    exact trodAll_below hl hbel hts hA (fun x hx => by simpa using hW'.lt x (by simpa using hx))
  · rw [hv, hfn]; rfl

/-- One input that fits; each argument's outer form is shown apart. -/
theorem witness_own {H : Type} {enc : TypeId × Value → H} {C : Checked} {os : Go.Os} {f : FuncId} {fn : Func} {s : OpenSpec} {k : (H : Type) → List (DataW H) → Bool} (hk : s.cond = some k) {conds : List PathCond} {apart : Bool} (modest : Bool) (args : Array Value) (fuel : Nat)
    (hv : (World.plainHolding C.prog os ⟨#[], args, []⟩).variablesB C.prog = true)
    (hr : ((World.plainHolding C.prog os ⟨#[], args, []⟩).heap.toList.drop C.prog.globals.size).take ((begin C.prog (fun _ _ => 0) default).world.heap.size - C.prog.globals.size) =
      (begin C.prog (fun _ _ => 0) default).world.heap.toList.drop C.prog.globals.size)
    (noInit : C.prog.inits.idxOf? f = none) (hfn : C.prog.funcs[f]? = some fn) (hb : (fn.body.isSome && !fn.ours && fn.nfree == 0 && args.size == fn.params.size) = true)
    (hargs : ∀ (W : World) (base j : Nat) t v, fn.params[j]? = some t → args[j]? = some v → Value.okWide C.prog W .any base t v)
    {x : List (DataW H) × List (DataW H) × List MemPlace} (hx : DataW.whole enc C.prog (World.plainHolding C.prog os ⟨#[], args, []⟩).memory fn.params.toList s.vars apart args.toList fuel = some x)
    (hconds : conds.all (PathCond.test C.prog ⟨fn.params.toList, x.1, s.bare.plain.varTypes C.prog, x.2.1⟩) = true) (hkk : k H (x.1 ++ x.2.1) = true)
    (hsz : s.bare.sizedB enc C.prog fn apart (World.plainHolding C.prog os ⟨#[], args, []⟩).memory args fuel = true := by kernel_rfl) :
    ∃ (w : World) (tape : Tape) (i : Input), w.os = os ∧ (w.forCall tape i).Shaped C.prog ∧ i.vars = [] ∧ Input.okWide C.prog (w.forCall tape i) .any w.heap.size f i ∧
      s.pre6 enc C.prog fn conds apart (w.forCall tape i).memory i.args ∧ ({ modest := modest } : Assume).holds C.prog (lone (Frame.enter C.prog f i.args .normal) [] (w.forCall tape i)) := by
  simp only [Bool.and_eq_true, Bool.not_eq_true', beq_iff_eq] at hb
  obtain ⟨⟨⟨h1, h2⟩, h3⟩, h4⟩ := hb
  exact ⟨World.holding C.prog os ⟨#[], args, []⟩, fun _ _ => 0, ⟨#[], args, []⟩, rfl, World.shaped_of_B hv hr, rfl,
    ⟨fun o ho => by simp at ho, by simp, noInit, fn, hfn, h1, h2, h3, h4, fun j t v hj hv => hargs _ _ j t v hj hv⟩,
    ⟨(OpenSpec.pre_some hk conds apart _ _).2 ⟨x.1, x.2.1, x.2.2, DataW.Whole_of_whole hx, hconds, hkk⟩, sizedMet_of_sizedB hsz⟩, by
      simp only [Assume.holds]
      exact ⟨by simp, by simp, fun _ => Modest.zero, by simp, by simp⟩⟩
end Go.Hw
