/- The rules of a proof frame: maps whose keys are arrays of bytes; the world that is counted from, taken anew. It proves nothing of a program by itself. -/
import Derived.Test.YtjhmcmadleabjaaFrameD
import Derived.WideKeyRuns
import Derived.MapKept
set_option linter.unusedVariables false
/- A map whose keys are arrays of bytes, built by entries alone (no key is taken out): as a list of keys and numbers. -/
namespace Go.Hw
open Go Go.ChangeShapes Go.WideShapes Go.RowKit

theorem ents_len : ∀ (L : List (List UInt8 × Int)) (i : Nat), (ents i L).length = L.length
  | [], _ => rfl
  | _ :: L, i => by simp [ents, ents_len L (i + 1)]
/-- Where a key stands. -/
def findK (x : List UInt8) : List (List UInt8 × Int) → Nat → Option (Nat × Int)
  | [], _ => none
  | (k, v) :: L, i => if x = k then some (i, v) else findK x L (i + 1)
theorem run_findK {P : Program} {k n : Nat} (hB : BArr P 10000 k n) (w : World) {x : List UInt8} (hx : x.length = n) : ∀ (L : List (List UInt8 × Int)) (b i : Nat), (∀ p ∈ L, p.1.length = n) →
    (Instr.findAsking k (ba x) (ents b L) i).run P w = .ok ((findK x L i).map fun p => (p.1, .int .i64 p.2)) w
  | [], _, _, _ => by simp [ents, Instr.findAsking, findK]
  | (k', v) :: L, b, i, h => by
    have h1 := hB w x k' hx (h (k', v) (.head _))
    have h2 := run_findK hB w hx L (b + 1) (i + 1) (fun p hp => h p (.tail _ hp))
    by_cases e : x = k'
    · subst e
      simp [ents, Instr.findAsking, findK, Op.equal, Op.maxDepth, h1]
    · simp [ents, Instr.findAsking, findK, Op.equal, Op.maxDepth, h1, e, h2]
theorem run_find {P : Program} {k n el : Nat} (hu : P.underlying k = some (.array n el)) (hB : BArr P 10000 k n) (w : World) {x : List UInt8} (hx : x.length = n) (L : List (List UInt8 × Int)) (h : ∀ p ∈ L, p.1.length = n) :
    (Instr.findKey k (ba x) (ents 0 L)).run P w = .ok ((findK x L 0).map fun p => (p.1, .int .i64 p.2)) w := by
  rw [run_findKey_eq w (by rw [hu])]
  exact run_findK hB w hx L 0 0 h
theorem run_check {P : Program} {tb : Tb} (ht : TbOk P tb) {k el n sz s1 : Nat} (htt : tb.get k = some (.arr n el 1, sz)) (hte : tb.get el = some (.int .u8, s1)) (w : World) (em : Bool) {x : List UInt8} (hx : x.length = n) :
    (Instr.checkKey em 10000 k (ba x)).run P w = .ok () w := by
  obtain ⟨hu, hsz⟩ := und_arr ht htt
  obtain ⟨inf, hi, hz⟩ := szB_spec hsz
  unfold ba Instr.checkKey
  simp only [Sem.run_bind, run_underlying hu, Result.andThen_ok]
  simp only [Std.Legacy.Range.forIn_eq_forIn_range', Std.Legacy.Range.size, Nat.sub_zero, Nat.add_one_sub_one, Nat.div_one]
  have each : ∀ j ∈ List.range' 0 n, j < x.length := fun j hj => by simp at hj; omega
  generalize List.range' 0 n = is at each
  induction is with
  | nil => simp
  | cons j is ih =>
    have jx := each j (.head _)
    have p1 : (part el ((bc x).map C.den).toArray (j * 1)).run P w = .ok (C.u8 x[j]).den w := by rw [Nat.mul_one]; exact run_part_sc ht hte rfl (by simp [bc, jx]) w
    have p2 : (Instr.checkKey em 9999 el (C.u8 x[j]).den).run P w = .ok () w := by
      unfold Instr.checkKey
      simp [run_underlying (und_int ht hte), C.den]
    simp only [List.forIn_cons, Sem.run_bind, run_sizeOf w hi, cellsOf_of hsz, Result.andThen_ok, p1, p2, Sem.run_pure]
    exact ih (fun y hy => each y (.tail _ hy))
theorem ents_get : ∀ (L : List (List UInt8 × Int)) (b i : Nat), (ents b L)[i]? = L[i]?.map fun p => ⟨ba p.1, .int .i64 p.2, b + i⟩
  | [], _, _ => by simp [ents]
  | (k, v) :: L, b, 0 => by simp [ents]
  | (k, v) :: L, b, i + 1 => by simp [ents, ents_get L (b + 1) i, Nat.add_assoc, Nat.add_comm 1 i]
theorem ents_append : ∀ (L : List (List UInt8 × Int)) (b : Nat) (k : List UInt8) (v : Int), ents b (L ++ [(k, v)]) = ents b L ++ [⟨ba k, .int .i64 v, b + L.length⟩]
  | [], _, _, _ => by simp [ents]
  | (k', v') :: L, b, k, v => by simp [ents, ents_append L (b + 1) k v, Nat.add_assoc, Nat.add_comm 1 L.length]
theorem findK_some {x : List UInt8} : ∀ {L : List (List UInt8 × Int)} {b i : Nat} {v : Int}, findK x L b = some (i, v) → ∃ j, i = b + j ∧ L[j]? = some (x, v)
  | (k, v') :: L, b, i, v, h => by
    by_cases e : x = k
    · simp only [findK, e, if_true, Option.some.injEq, Prod.mk.injEq] at h
      exact ⟨0, h.1.symm, by simp [e, h.2]⟩
    · simp only [findK, e, if_false] at h
      obtain ⟨j, h1, h2⟩ := findK_some h
      exact ⟨j + 1, by omega, by simpa using h2⟩
theorem findK_none {x : List UInt8} : ∀ {L : List (List UInt8 × Int)} {b : Nat}, findK x L b = none → ∀ p ∈ L, p.1 ≠ x
  | (k, v') :: L, b, h, p, hp => by
    by_cases e : x = k
    · simp [findK, e] at h
    · simp only [findK, e, if_false] at h
      cases hp with
      | head => exact fun q => e q.symm
      | tail _ hp => exact findK_none h p hp
section
variable {P : Program} {tb : Tb} {k el n sz s1 mt et r : Nat} {w : World} {L : List (List UInt8 × Int)} {x : List UInt8}

/-- A map's value at a key; 0, if there is none. -/
def atK (x : List UInt8) (L : List (List UInt8 × Int)) : Int := ((findK x L 0).map (·.2)).getD 0
theorem run_lookup (ht : TbOk P tb) (htt : tb.get k = some (.arr n el 1, sz)) (hte : tb.get el = some (.int .u8, s1)) (hm : P.underlying mt = some (.map k et)) (hz : (zeroValue et).run P w = .ok (.int .i64 0) w)
    (hb : w.heap[r]? = some (mapObj L)) (hx : x.length = n) (hL : ∀ p ∈ L, p.1.length = n) : (Instr.lookup mt (.map (some r)) (ba x) false).run P w = .ok (.int .i64 (atK x L)) w := by
  obtain ⟨hu, _⟩ := und_arr ht htt
  have h1 := run_find hu (barr_u8 ht htt hte 9998) w hx L hL
  have h2 := fun em => run_check ht htt hte w em hx
  have h3 := MapKept.run_getObj_map (P := P) hb
  cases hf : findK x L 0 with
  | none =>
    rw [hf] at h1
    simp [Instr.lookup, run_underlying hm, h3, h2, h1, hz, Result.andThen, atK, hf]
  | some p =>
    rw [hf] at h1
    simp [Instr.lookup, run_underlying hm, h3, h2, h1, Result.andThen, atK, hf]

theorem all_self : ∀ (l : List Value), (∀ v ∈ l, Instr.sameBits 9999 v v = true) → ((l.zip l).all fun p => Instr.sameBits 9999 p.1 p.2) = true
  | [], _ => rfl
  | v :: l, h => by simp [h v (.head _), all_self l (fun u hu => h u (.tail _ hu))]
theorem same_ba (x : List UInt8) : Instr.sameBits 10000 (ba x) (ba x) = true := by
  unfold ba Instr.sameBits
  simp only [beq_self_eq_true, Bool.true_and]
  refine all_self _ fun v hv => ?_
  obtain ⟨c, hc, rfl⟩ := List.mem_map.1 hv
  obtain ⟨u, _, rfl⟩ := List.mem_map.1 hc
  simp [C.den, Instr.sameBits]
/-- The map's list with an entry for the key. -/
def insK (x : List UInt8) (L : List (List UInt8 × Int)) : List (List UInt8 × Int) := match findK x L 0 with
  | some _ => L
  | none => L ++ [(x, 0)]
/-- The stamp of a key's entry. -/
def stK (x : List UInt8) (L : List (List UInt8 × Int)) : Nat := match findK x L 0 with
  | some p => p.1
  | none => L.length
theorem insK_get (x : List UInt8) (L : List (List UInt8 × Int)) : (insK x L)[stK x L]? = some (x, atK x L) := by
  unfold insK stK atK
  cases hf : findK x L 0 with
  | none => simp
  | some p =>
    obtain ⟨j, h1, h2⟩ := findK_some (i := p.1) (v := p.2) hf
    rw [Nat.zero_add] at h1
    show L[p.1]? = some (x, p.2)
    rw [h1]; exact h2
theorem mod_self {α : Type} (f : α → α) : ∀ (l : List α) (i : Nat), (∀ a, l[i]? = some a → f a = a) → l.modify i f = l
  | [], i, _ => by simp
  | a :: l, 0, h => by simp [h a rfl]
  | a :: l, i + 1, h => by simp [mod_self f l i (fun b hb => h b (by simpa using hb))]
def setW (w : World) (r : Nat) (o : Obj) : World := { w with heap := w.heap.setIfInBounds r o }
theorem run_entry (ht : TbOk P tb) (htt : tb.get k = some (.arr n el 1, sz)) (hte : tb.get el = some (.int .u8, s1)) (hm : P.underlying mt = some (.map k et)) (hz : (zeroValue et).run P w = .ok (.int .i64 0) w)
    (hb : w.heap[r]? = some (mapObj L)) (hx : x.length = n) (hL : ∀ p ∈ L, p.1.length = n) : (Instr.mapEntry mt (.map (some r)) (ba x)).run P w = .ok (.tuple #[.int .i64 (atK x L), goInt (stK x L)]) (setW w r (mapObj (insK x L))) := by
  obtain ⟨hu, _⟩ := und_arr ht htt
  have h1 := run_find hu (barr_u8 ht htt hte 9998) w hx L hL
  have h2 := fun em => run_check ht htt hte w em hx
  have h3 := MapKept.run_getObj_map (P := P) hb
  have h4 := fun o => MapKept.run_setObj_map (P := P) o hb
  cases hf : findK x L 0 with
  | none =>
    rw [hf] at h1
    have e : ents 0 L ++ [⟨ba x, .int .i64 0, L.length⟩] = ents 0 (insK x L) := by simp [insK, hf, ents_append]
    have e2 : (insK x L).length = L.length + 1 := by simp [insK, hf]
    simp [Instr.mapEntry, run_underlying hm, h3, h2, h1, hz, h4, Result.andThen, atK, hf, stK, e, setW, mapObj, e2]
  | some p =>
    rw [hf] at h1
    obtain ⟨j, g1, g2⟩ := findK_some (i := p.1) (v := p.2) hf
    rw [Nat.zero_add] at g1
    have g3 : (ents 0 L)[p.1]? = some ⟨ba x, .int .i64 p.2, p.1⟩ := by rw [ents_get, g1, g2]; simp
    have e : (ents 0 L).modify p.1 (fun e => { e with key := ba x }) = ents 0 (insK x L) := by
      simp only [insK, hf]
      exact mod_self _ _ _ (fun a ha => by rw [g3] at ha; cases ha; rfl)
    have e2 : (insK x L).length = L.length := by simp [insK, hf]
    simp [Instr.mapEntry, run_underlying hm, h3, h2, h1, h4, Result.andThen, atK, hf, stK, g3, Instr.keyThatStays, same_ba, e, setW, mapObj, e2]

/-- The map's list with another number at a place. -/
def putK (i : Nat) (v : Int) (L : List (List UInt8 × Int)) : List (List UInt8 × Int) := L.modify i fun p => (p.1, v)
theorem putK_keys (i : Nat) (v : Int) (L : List (List UInt8 × Int)) : (putK i v L).map (·.1) = L.map (·.1) := by
  unfold putK
  apply List.ext_getElem?
  intro j
  simp only [List.getElem?_map, List.getElem?_modify]
  split
  · cases L[j]? <;> rfl
  · simp
theorem putK_len (i : Nat) (v : Int) (L : List (List UInt8 × Int)) : (putK i v L).length = L.length := by simp [putK]
theorem ents_modify (i : Nat) (v : Int) : ∀ (L : List (List UInt8 × Int)) (b i : Nat), (ents b L).modify i (fun e => { e with val := .int .i64 v }) = ents b (putK i v L)
  | [], _, i => by simp [ents, putK]
  | (k, u) :: L, b, 0 => by simp [ents, putK]
  | (k, u) :: L, b, i + 1 => by
    have := ents_modify i v L (b + 1) i
    simp only [putK] at this
    simp [ents, putK, this]
theorem ents_idx : ∀ (L : List (List UInt8 × Int)) (b i : Nat), i < L.length → (ents b L).findIdx? (fun e => ((e.born : Nat) : Int) == (((b + i : Nat)) : Int)) = some i
  | (k, v) :: L, b, 0, _ => by simp [ents, List.findIdx?_cons]
  | (k, v) :: L, b, i + 1, h => by
    have h1 := ents_idx L (b + 1) i (by simpa using h)
    have hne : (((b : Nat) : Int) == (((b + (i + 1) : Nat)) : Int)) = false := by simp only [beq_eq_false_iff_ne, ne_eq, Int.natCast_inj]; omega
    rw [ents, List.findIdx?_cons, hne]
    rw [show b + 1 + i = b + (i + 1) by omega] at h1
    rw [h1]; rfl
theorem run_entStore {i : Nat} {v : Int} (hb : w.heap[r]? = some (mapObj L)) (hi : i < L.length) : (Instr.entryStore mt (.map (some r)) (goInt i) (.int .i64 v)).run P w = .ok () (setW w r (mapObj (putK i v L))) := by
  have h3 := MapKept.run_getObj_map (P := P) hb
  have h4 := fun o => MapKept.run_setObj_map (P := P) o hb
  have h5 := ents_idx L 0 i hi
  rw [Nat.zero_add] at h5
  have h6 : (ents 0 L).toArray.modify i (fun e => { e with val := .int .i64 v }) = (ents 0 (putK i v L)).toArray := by
    apply Array.ext'; rw [Array.toList_modify]; exact ents_modify i v L 0 i
  simp [Instr.entryStore, h3, h4, asInt, asIntOf, goInt, h5, h6, Result.andThen, setW, mapObj, putK_len]

theorem setW_St {L' : List (List UInt8 × Int)} (hb : w.heap[r]? = some (mapObj L)) : St w [⟨.mp r L', [], 0, (0, 0), []⟩] (setW w r (mapObj L')) := by
  have hlt := lt_of_get hb
  refine ⟨rfl, rfl, rfl, by simp [setW], fun k hk hp => ?_, fun p hp => ?_, by simp⟩
  · have hne : r ≠ k := by
      have := hp _ (List.mem_singleton.2 rfl)
      simpa [Blk.key, Ad.key] using this
    simp [setW, hne]
  · simp only [List.mem_singleton] at hp; subst hp
    exact ⟨rfl, rfl, by simp [setW, hlt]⟩
end

section
variable {X : Cx} {Q : Exit → Act → World → Prop} {ty : Nat} {pos : String} {af : Array Edge} {gd : Option (Nat × Bool)} {e : Env} {s s' : Hp} {KK : Env → Hp → Prop}
/-- What a map type must be: of keys that are arrays of n bytes to ints. -/
structure MapT (X : Cx) (mt n : Nat) : Prop where
  ok : ∃ k el sz s1 et, X.tb.get k = some (.arr n el 1, sz) ∧ X.tb.get el = some (.int .u8, s1) ∧ X.P.underlying mt = some (.map k et) ∧ zeroIs X.P et (.c (.i64 0))

theorem ef_makeMap {d mt : Nat} (hn : Nat.blt d X.n = true) (hk : ∀ r, X.w0.heap.size ≤ r → KK ((d, .c (.map (some r))) :: e) (⟨.mp r [], [], 0, (0, 0), []⟩ :: s)) :
    Ef X Q ⟨some d, .makeMap mt none, ty, pos, af, gd⟩ e s KK := by
  refine ⟨fun K hK a w hf hs => ?_⟩
  unfold Oper.wp
  have hex : (execOp a.eval ⟨some d, .makeMap mt none, ty, pos, af, gd⟩).run X.P w = .ok (.value (.map (some w.heap.size))) (w.alloc (mapObj [])) := by
    simp [execOp, Instr.makeMap, newObj, Sem.run, mapObj, ents]
  rw [hex, Oper.upon_value]
  have hA : St w [⟨.mp w.heap.size [], [], 0, (0, 0), []⟩] (w.alloc (mapObj [])) := by
    refine ⟨rfl, rfl, rfl, by simp, fun k hk _ => Below.heap_alloc _ _ _ hk, fun p hp => ?_, by simp⟩
    simp only [List.mem_singleton] at hp; subst hp
    refine ⟨rfl, rfl, ?_⟩
    show (w.heap.push (mapObj []))[w.heap.size]? = _
    simp
  exact hK _ _ (hk w.heap.size hs.size) _ _ (hf.put (by simpa [Nat.blt_eq] using hn : d < X.n) (.c (.map (some w.heap.size)))) (hs.ext1 hA fun k hk => by simp [Blk.key, Ad.key] at hk; omega)

variable {r mt n : Nat} {L : List (List UInt8 × Int)} {x y : Operand} {key : List UInt8}
theorem St.map {w0 w : World} (h : St w0 s w) (hl : Lk s ⟨.mp r L, [], 0, (0, 0), []⟩) : w.heap[r]? = some (mapObj L) := (h.own _ hl.mem).2.2

theorem ef_entry {d : Nat} (ht : TbOk X.P X.tb) (hm : MapT X mt n) (hx : ev e x = some (.c (.map (some r)))) (hy : ev e y = some (.agg (bc key))) (hl : Lk s ⟨.mp r L, [], 0, (0, 0), []⟩) (hkl : key.length = n) (hL : ∀ p ∈ L, p.1.length = n) (hn : Nat.blt d X.n = true)
    (hu : Up s ⟨.mp r L, [], 0, (0, 0), []⟩ ⟨.mp r (insK key L), [], 0, (0, 0), []⟩ s') (hk : KK ((d, .t2 (.c (.i64 (atK key L))) (.c (.i64 (stK key L : Nat)))) :: e) s') :
    Ef X Q ⟨some d, .mapEntry mt x y, ty, pos, af, gd⟩ e s KK := by
  refine ⟨fun K hK a w hf hs => ?_⟩
  obtain ⟨kt, el, sz, s1, et, h1, h2, h3, h4⟩ := hm.ok
  have hb := hs.map hl
  have hr := run_entry ht h1 h2 h3 (run_zero h4 w) hb hkl hL
  unfold Oper.wp
  have hex : (execOp a.eval ⟨some d, .mapEntry mt x y, ty, pos, af, gd⟩).run X.P w = .ok (.value (V.t2 (.c (.i64 (atK key L))) (.c (.i64 (stK key L : Nat)))).den) (setW w r (mapObj (insK key L))) := by
    simp only [execOp, hf.ev hx, hf.ev hy]
    rw [show (V.c (C.map (some r))).den = .map (some r) from rfl, show (V.agg (bc key)).den = ba key from rfl]
    simp only [Sem.run_bind, hr, Result.andThen_ok]
    rfl
  rw [hex, Oper.upon_value]
  exact hK _ _ hk _ _ (hf.put (by simpa [Nat.blt_eq] using hn : d < X.n) _) (hs.up hu rfl (setW_St hb))

theorem ef_entStore {z u : Operand} {i : Nat} {v : Int} (hx : ev e x = some (.c (.map (some r)))) (hz : ev e z = some (.c (.i64 (i : Int)))) (hv : ev e u = some (.c (.i64 v))) (hi : i < L.length)
    (hu : Up s ⟨.mp r L, [], 0, (0, 0), []⟩ ⟨.mp r (putK i v L), [], 0, (0, 0), []⟩ s') (hk : KK e s') :
    Ef X Q ⟨none, .entryStore mt x z u, ty, pos, af, gd⟩ e s KK := by
  refine ⟨fun K hK a w hf hs => ?_⟩
  have hb := (hs.own _ hu.mem).2.2
  have hr := run_entStore (P := X.P) (mt := mt) (v := v) hb hi
  unfold Oper.wp
  have hex : (execOp a.eval ⟨none, .entryStore mt x z u, ty, pos, af, gd⟩).run X.P w = .ok .skip (setW w r (mapObj (putK i v L))) := by
    simp only [execOp, hf.ev hx, hf.ev hz, hf.ev hv]
    rw [show (V.c (C.map (some r))).den = .map (some r) from rfl, show (V.c (C.i64 (i : Int))).den = goInt i from rfl, show (V.c (C.i64 v)).den = .int .i64 v from rfl]
    simp only [Sem.run_bind, hr, Result.andThen_ok]
    rfl
  rw [hex, Oper.upon_skip]
  exact hK _ _ hk _ _ hf (hs.up hu rfl (setW_St hb))

theorem qt_mlen {d : Option Nat} (hm : MapT X mt n) (hx : ev e x = some (.c (.map (some r)))) (hl : Lk s ⟨.mp r L, [], 0, (0, 0), []⟩) :
    Qt X ⟨d, .call ⟨.builtin .len, #[x], #[mt]⟩, ty, pos, af, gd⟩ e s (.c (.i64 (L.length : Int))) := by
  refine ⟨fun a w hf hs => ?_⟩
  obtain ⟨kt, el, sz, s1, et, h1, h2, h3, h4⟩ := hm.ok
  have h5 := MapKept.run_getObj_map (P := X.P) (hs.map hl)
  have h6 : (ents 0 L).length = L.length := ents_len L 0
  simp [execOp, resolve, invoke, builtin, Builtin.len_, hf.ev hx, V.den, C.den, Sem.run_bind, Result.andThen, run_underlying h3, goInt, h5, h6]

theorem qt_lookup {d : Option Nat} (ht : TbOk X.P X.tb) (hm : MapT X mt n) (hx : ev e x = some (.c (.map (some r)))) (hy : ev e y = some (.agg (bc key))) (hl : Lk s ⟨.mp r L, [], 0, (0, 0), []⟩) (hkl : key.length = n) (hL : ∀ p ∈ L, p.1.length = n) :
    Qt X ⟨d, .lookup mt x y false, ty, pos, af, gd⟩ e s (.c (.i64 (atK key L))) := by
  refine ⟨fun a w hf hs => ?_⟩
  obtain ⟨kt, el, sz, s1, et, h1, h2, h3, h4⟩ := hm.ok
  have hr := run_lookup ht h1 h2 h3 (run_zero h4 w) (hs.map hl) hkl hL
  simp only [execOp, hf.ev hx, hf.ev hy]
  rw [show (V.c (C.map (some r))).den = .map (some r) from rfl, show (V.agg (bc key)).den = ba key from rfl]
  simp only [Sem.run_bind, hr, Result.andThen_ok]
  rfl
end
end Go.Hw

/- The world that is counted from may be taken anew: what came since is old then; loops that do so in each round. -/
set_option linter.unusedVariables false
namespace Go.Hw

theorem St.self {w0 w : World} {σ : Hp} (h : St w0 σ w) : St w σ w := St.of_own h.own h.nodup
theorem St.selfs {w0 w : World} {σ σ' : Hp} (h : St w0 σ w) (hs : σ'.Sublist σ) : St w σ' w := St.of_own (fun p hp => h.own p (hs.subset hp)) (h.nodup.sublist hs)
theorem St.from {w0 w1 w : World} {σ : Hp} (h : St w0 [] w1) (h' : St w1 σ w) : St w0 σ w :=
  ⟨h'.os.trans h.os, h'.tape.trans h.tape, h'.output.trans h.output, Nat.le_trans h.size h'.size, fun k hk hp => (h'.old k (Nat.lt_of_lt_of_le hk h.size) hp).trans (h.old k hk (by simp)), h'.own, h'.nodup⟩
theorem St.fromS {w0 w1 w : World} {σ1 σ : Hp} (h : St w0 σ1 w1) (h' : St w1 σ w) (hs : ∀ p ∈ σ1, ∀ k, p.key = some k → k < w0.heap.size → ∃ q ∈ σ, q.key = some k) : St w0 σ w :=
  ⟨h'.os.trans h.os, h'.tape.trans h.tape, h'.output.trans h.output, Nat.le_trans h.size h'.size, fun k hk hp => (h'.old k (Nat.lt_of_lt_of_le hk h.size) hp).trans (h.old k hk (fun p hp1 e => by
    obtain ⟨q, hq, he⟩ := hs p hp1 k e hk
    exact hp q hq he)), h'.own, h'.nodup⟩

section
variable {X : Cx} {k : Kt} {c : Code} {e e' : Env} {s s1 : Hp}
theorem wc_base (hl : ∀ w1, St X.w0 s w1 → St w1 s1 w1) (h : ∀ w1, St X.w0 s w1 → WC ⟨X.P, X.tb, X.n, w1⟩ k c e s1) : WC X k c e s := ⟨fun a w hf hs => (h w hs).go a w hf (hl w hs)⟩

/-- A loop whose rounds count from the world at their begin. -/
theorem wc_loopB {ι : Type} (I : ι → Prop) (E : ι → Env) (S : ι → Hp) (R : ι → World → Prop) (μ : ι → Nat) (i0 : ι) (hi : I i0) (he : Sub e (E i0)) (h0 : ∀ w1, St X.w0 s w1 → R i0 w1 ∧ St w1 (S i0) w1)
    (round : ∀ i, I i → ∀ w1, R i w1 → WC ⟨X.P, X.tb, X.n, w1⟩ ⟨fun a w => ∃ j, I j ∧ μ j < μ i ∧ Fits X.n (E j) a ∧ R j w ∧ St w (S j) w, k.ext, k.ret⟩ c (E i) (S i)) : WC X k (.loop c) e s := by
  refine ⟨fun a w hf hs b kk cs => ?_⟩
  have h00 := h0 w hs
  have key : ∀ n, ∀ i, μ i = n → I i → ∀ a w, Fits X.n (E i) a → R i w → St w (S i) w →
      ∃ ex a' w', k.q ex a' w' ∧ Arrives X.P (lone (b.at a (.code c :: .inLoop c :: kk)) cs w) b kk cs ex a' w' := by
    intro n
    induction n using Nat.strongRecOn with
    | _ n ih =>
      intro i hn hI a w hf hR hs
      obtain ⟨ex, a1, w1, hq, harr⟩ := (round i hI w hR).go a w hf hs b (.inLoop c :: kk) cs
      cases ex with
      | normal =>
        obtain ⟨j, j1, j2, j3, j4, j5⟩ := hq
        obtain ⟨e2, a2, w2, hq2, harr2⟩ := ih (μ j) (hn ▸ j2) j rfl j1 a1 w1 j3 j4 j5
        exact ⟨e2, a2, w2, hq2, .of_steps (Steps.trans harr (.one step_inLoop)) harr2⟩
      | exit id => exact ⟨.exit id, a1, w1, hq, .pass (x := .inLoop c) rfl (fun _ _ => .inl (by simp)) harr⟩
      | goto l => exact hq.elim
      | ret => exact ⟨.ret, a1, w1, hq, .pass (x := .inLoop c) rfl (fun _ _ => .inl (by simp)) harr⟩
      | panic ch => exact hq.elim
      | outgrown => exact hq.elim
  obtain ⟨ex, a', w', hq, harr⟩ := key _ i0 rfl hi a w (hf.sub he) h00.1 h00.2
  exact ⟨ex, a', w', hq, .of_steps (.one step_loop) harr⟩

theorem nk_roundB {ι : Type} {I : ι → Prop} {E : ι → Env} {S : ι → Hp} {R : ι → World → Prop} {μ : ι → Nat} {i : ι} (j : ι) (hj : I j) (hm : μ j < μ i) (he : Sub e (E j)) (hs : ∀ w, St X.w0 s w → R j w ∧ St w (S j) w) :
    NK X (fun a w => ∃ j, I j ∧ μ j < μ i ∧ Fits X.n (E j) a ∧ R j w ∧ St w (S j) w) e s :=
  ⟨fun a w hf hst => ⟨j, hj, hm, hf.sub he, (hs w hst).1, (hs w hst).2⟩⟩
variable {Q : Exit → Act → World → Prop} {d : Option Nat} {f : Nat} {args : List Operand} {ats : Array TypeId} {ty : Nat} {pos : String} {af : Array Edge} {gd : Option (Nat × Bool)} {KK : Env → Hp → Prop} {vs : List V} {α : Type} {I : α → Prop} {v : α → V}
/-- A call that hands back something new, of which one block and a list of blocks are told; the list is laid behind the others. -/
theorem ef_freshT {b : α → Blk} {T : α → Hp} (hc : callable X.P f = true) (hv : evl e args = some vs) (hd : okDst X.n d = true)
    (h : ∀ w, St X.w0 s w → CallsV X.P f vs w fun en w' => ∃ x, en = .returned (v x).den ∧ I x ∧ (∀ p ∈ b x :: T x, ∀ k, p.key = some k → w.heap.size ≤ k) ∧ St w (b x :: T x) w')
    (hk : ∀ x, I x → (∀ k, (b x).key = some k → X.w0.heap.size ≤ k) → (∀ p ∈ T x, ∀ k, p.key = some k → X.w0.heap.size ≤ k) → KK (Env.put d (v x) e) (b x :: (s ++ T x))) :
    Ef X Q ⟨d, .call ⟨.value (.func f), args.toArray, ats⟩, ty, pos, af, gd⟩ e s KK :=
  ef_call hc hv hd fun w hw => (h w hw).mono fun en w' ⟨x, he, hi, hb, hst⟩ => ⟨v x, b x :: (s ++ T x), he, (hw.extN hst hb).perm (by
    rw [List.cons_append]
    exact List.Perm.cons _ (List.perm_append_comm)), hk x hi (fun k hk' => Nat.le_trans hw.size (hb _ (.head _) k hk')) (fun p hp k hk' => Nat.le_trans hw.size (hb p (.tail _ hp) k hk'))⟩
theorem lk_mem {b : Blk} : ∀ {σ : Hp}, b ∈ σ → Lk σ b
  | a :: σ, h => by
    rcases List.mem_cons.1 h with rfl | h
    · exact .here
    · exact .there (lk_mem h)
theorem new_app {w0 : World} {s t : Hp} (h1 : ∀ p ∈ s, ∀ k, p.key = some k → w0.heap.size ≤ k) (h2 : ∀ p ∈ t, ∀ k, p.key = some k → w0.heap.size ≤ k) : ∀ p ∈ s ++ t, ∀ k, p.key = some k → w0.heap.size ≤ k := fun p hp => by
  rcases List.mem_append.1 hp with h | h
  · exact h1 p h
  · exact h2 p h
theorem off_all {w : World} {ad : Ad} {s : Hp} (h : ∀ p ∈ s, ∀ k, p.key = some k → w.heap.size ≤ k) : Off w ad s := fun p hp => .inl (h p hp)
/-- A function's begin, where the blocks at hand are counted from an earlier world. -/
theorem calls_at {P : Program} {tb : Tb} {f n : Nat} {fn : Func} {c : Code} {vs : List V} {w0 w : World} {R : Ending → World → Prop} (hf : P.funcs[f]? = some fn) (hb : fn.body = some c) (hnt : fn.ntmps = n) (hn : Nat.ble vs.length n = true) (e0 : Env) (he : num 0 vs = e0) (s : Hp) (hs : St w0 s w)
    (h : WC ⟨P, tb, n, w0⟩ (fnKt P fn R) c e0 s) : CallsV P f vs w R :=
  calls_in (tb := tb) hf hb hnt hn e0 he s hs.self ⟨fun a w' hf' hs' => h.go a w' hf' (by
    refine ⟨hs'.os.trans hs.os, hs'.tape.trans hs.tape, hs'.output.trans hs.output, Nat.le_trans hs.size hs'.size, fun k hk hp => (hs'.old k (Nat.lt_of_lt_of_le hk hs.size) hp).trans (hs.old k hk hp), hs'.own, hs'.nodup⟩)⟩
/-- A call that takes one block of the list over, and hands another back. -/
theorem ef_thru {b : Blk} {b' : α → Blk} {s' : Hp} (hc : callable X.P f = true) (hv : evl e args = some vs) (hd : okDst X.n d = true) (hr : Rm s b s')
    (h : ∀ w, St X.w0 (b :: s') w → CallsV X.P f vs w fun en w' => ∃ x, en = .returned (v x).den ∧ I x ∧ St X.w0 (b' x :: s') w')
    (hk : ∀ x, I x → KK (Env.put d (v x) e) (b' x :: s')) :
    Ef X Q ⟨d, .call ⟨.value (.func f), args.toArray, ats⟩, ty, pos, af, gd⟩ e s KK :=
  ef_call hc hv hd fun w hw => (h w (hw.perm (by
    obtain ⟨l, r, rfl, rfl⟩ := hr.split
    exact List.perm_middle))).mono fun en w' ⟨x, he, hi, hst⟩ => ⟨v x, b' x :: s', he, hst, hk x hi⟩
/-- A call that hands back something new, of which a list of blocks is told. -/
theorem ef_freshL {B : α → Hp} (hc : callable X.P f = true) (hv : evl e args = some vs) (hd : okDst X.n d = true)
    (h : ∀ w, St X.w0 s w → CallsV X.P f vs w fun en w' => ∃ x, en = .returned (v x).den ∧ I x ∧ (∀ p ∈ B x, ∀ k, p.key = some k → w.heap.size ≤ k) ∧ St w (B x) w')
    (hk : ∀ x, I x → (∀ p ∈ B x, ∀ k, p.key = some k → X.w0.heap.size ≤ k) → KK (Env.put d (v x) e) (B x ++ s)) :
    Ef X Q ⟨d, .call ⟨.value (.func f), args.toArray, ats⟩, ty, pos, af, gd⟩ e s KK :=
  ef_call hc hv hd fun w hw => (h w hw).mono fun en w' ⟨x, he, hi, hb, hst⟩ => ⟨v x, B x ++ s, he, hw.extN hst hb, hk x hi (fun p hp k hk' => Nat.le_trans hw.size (hb p hp k hk'))⟩
end
end Go.Hw
