/- Structs of a number and a sum, compared; two blocks of the list are two. It proves nothing of a program by itself. -/
import Derived.Test.YtjhmcmadleabjaaFrameB
set_option linter.unusedVariables false
/- Structs of a number and a sum, compared. -/
set_option linter.unusedVariables false
namespace Go.Hw
section
variable {X : Cx} {ty : Nat} {pos : String} {af : Array Edge} {gd : Option (Nat × Bool)} {e : Env} {s : Hp}

/-- What must hold of the type: two fields, none blank. -/
def pairB (P : Program) (t T : Nat) : Bool := match P.underlying t with
  | some (.struct F) => match F.toList with
    | [f, g] => f.type == 3 && f.offset == 0 && g.type == T && g.offset == 1 && !(f.name == "_") && !(g.name == "_") && !P.stoodInHeld t
    | _ => false
  | _ => false
theorem run_eq_pair {P : Program} {tb : Tb} (ht : TbOk P tb) {t T : Nat} (hp : pairB P t T = true) (hi : tb.get 3 = some (.int .i64, 1)) (hT : tb.get T = some (.arr 32 5 1, 32)) (hB : BArr P 9999 T 32) {a b : Int} {x y : List UInt8} (hx : x.length = 32) (hy : y.length = 32) (w : World) :
    (Op.equalIn 10000 t (V.agg (.i64 a :: bc x)).den (V.agg (.i64 b :: bc y)).den).run P w = .ok (decide (a = b) && decide (x = y)) w := by
  unfold pairB at hp
  split at hp
  · rename_i F hu
    split at hp
    · rename_i f g hF
      simp only [Bool.and_eq_true, beq_iff_eq, Bool.not_eq_true', beq_eq_false_iff_ne, ne_eq] at hp
      obtain ⟨⟨⟨⟨⟨⟨h1, h2⟩, h3⟩, h4⟩, h5⟩, h6⟩, h7⟩ := hp
      have hfo : P.fieldsOf t = F := by unfold Program.fieldsOf; rw [hu]
      have e1 := run_equalIn_struct (P := P) w 9999 t ((C.i64 a :: bc x).map C.den).toArray ((C.i64 b :: bc y).map C.den).toArray (by rw [hfo]; exact hu) h7
      show (Op.equalIn (9999 + 1) t _ _).run P w = _
      rw [show (V.agg (C.i64 a :: bc x)).den = .agg ((C.i64 a :: bc x).map C.den).toArray from rfl, show (V.agg (C.i64 b :: bc y)).den = .agg ((C.i64 b :: bc y).map C.den).toArray from rfl, e1, hfo, hF]
      have p1 := fun (z : Int) (l : List UInt8) => run_part_sc ht hi rfl (l := C.i64 z :: bc l) (off := 0) (c := .i64 z) rfl w
      have p2 : ∀ (z : Int) (l : List UInt8), l.length = 32 → (part T ((C.i64 z :: bc l).map C.den).toArray 1).run P w = .ok (ba l) w := fun z l hl => by
        rw [run_part_ag ht hT rfl w, List.drop_succ_cons, List.drop_zero, List.take_of_length_le (by simp [bc, hl])]; rfl
      have p3 : ∀ (z : Int) (l : List UInt8), l.length = 32 → (part T ((C.i64 z).den :: (bc l).map C.den).toArray 1).run P w = .ok (ba l) w := p2
      have q1 : (Op.equalIn 9999 3 (C.i64 a).den (C.i64 b).den).run P w = .ok (a == b) w := run_equalIn_int w 9998 3 .i64 .i64 a b (und_int ht hi)
      simp only [Op.eqFields, ne_eq, h5, h6, not_false_eq_true, if_true, h1, h2, h3, h4, Sem.run_bind, p1, q1, Result.andThen_ok]
      by_cases hab : a = b
      · subst hab
        by_cases hxy : x = y
        · subst hxy; simp [hB w x x hx hx, Sem.run_bind, Result.andThen, p3 _ _ hx]
        · simp [hxy, hB w x y hx hy, Sem.run_bind, Result.andThen, p3 _ _ hx, p3 _ _ hy]
      · simp [hab]
    · cases hp
  · cases hp
variable {d : Option Nat}
theorem qt_eq_pair {t T y2 : Nat} {x y : Operand} {a b : Int} {l m : List UInt8} (ht : TbOk X.P X.tb) (hp : pairB X.P t T = true) (hi : X.tb.get 3 = some (.int .i64, 1)) (hT : X.tb.get T = some (.arr 32 5 1, 32)) (hB : BArr X.P 9999 T 32) (hg : noGuard X.P t = true)
    (hx : ev e x = some (.agg (.i64 a :: bc l))) (hy : ev e y = some (.agg (.i64 b :: bc m))) (hl : l.length = 32) (hm : m.length = 32) :
    Qt X ⟨d, .binOp .eql t x y y2, ty, pos, af, gd⟩ e s (.c (.bool (decide (a = b) && decide (l = m)))) := by
  refine ⟨fun ac w hf hs => ?_⟩
  have h1 := run_eq_pair ht hp hi hT hB (a := a) (b := b) hl hm w
  have hg' : X.P.eqGuardType X.P.depth t = false := by simpa [noGuard] using hg
  obtain ⟨A, hA⟩ : ∃ A, (V.agg (.i64 a :: bc l)).den = .agg A := ⟨_, rfl⟩
  obtain ⟨B, hB2⟩ : ∃ B, (V.agg (.i64 b :: bc m)).den = .agg B := ⟨_, rfl⟩
  simp only [execOp, hf.ev hx, hf.ev hy]
  rw [hA, hB2] at h1 ⊢
  simp [V.den, C.den, eqGuard, program, Sem.run, Sem.run_bind, Result.andThen, hg', binOp, Op.equal, Op.maxDepth, h1]
theorem qt_neq_pair {t T y2 : Nat} {x y : Operand} {a b : Int} {l m : List UInt8} (ht : TbOk X.P X.tb) (hp : pairB X.P t T = true) (hi : X.tb.get 3 = some (.int .i64, 1)) (hT : X.tb.get T = some (.arr 32 5 1, 32)) (hB : BArr X.P 9999 T 32) (hg : noGuard X.P t = true)
    (hx : ev e x = some (.agg (.i64 a :: bc l))) (hy : ev e y = some (.agg (.i64 b :: bc m))) (hl : l.length = 32) (hm : m.length = 32) :
    Qt X ⟨d, .binOp .neq t x y y2, ty, pos, af, gd⟩ e s (.c (.bool (!(decide (a = b) && decide (l = m))))) := by
  refine ⟨fun ac w hf hs => ?_⟩
  have h1 := run_eq_pair ht hp hi hT hB (a := a) (b := b) hl hm w
  have hg' : X.P.eqGuardType X.P.depth t = false := by simpa [noGuard] using hg
  obtain ⟨A, hA⟩ : ∃ A, (V.agg (.i64 a :: bc l)).den = .agg A := ⟨_, rfl⟩
  obtain ⟨B, hB2⟩ : ∃ B, (V.agg (.i64 b :: bc m)).den = .agg B := ⟨_, rfl⟩
  simp only [execOp, hf.ev hx, hf.ev hy]
  rw [hA, hB2] at h1 ⊢
  simp [V.den, C.den, eqGuard, program, Sem.run, Sem.run_bind, Result.andThen, hg', binOp, Op.equal, Op.maxDepth, h1]
end

theorem pair_apart : ∀ {l : Hp} {a b : Blk}, l.Pairwise apart → a ∈ l → b ∈ l → a ≠ b → apart a b
  | [], _, _, _, ha, _, _ => by cases ha
  | x :: l, a, b, h, ha, hb, hne => by
    rw [List.pairwise_cons] at h
    rcases List.mem_cons.1 ha with e1 | h1
    · rcases List.mem_cons.1 hb with e2 | h2
      · exact absurd (e1.trans e2.symm) hne
      · rw [e1]; exact h.1 b h2
    · rcases List.mem_cons.1 hb with e2 | h2
      · rw [e2]; exact apart_symm (h.1 a h1)
      · exact pair_apart h.2 h1 h2 hne
/-- Two blocks of unlike types are two. -/
theorem st_ne2 {w0 w : World} {s : Hp} {b c : Blk} {r : Nat} (h : St w0 s w) (hb : Lk s b) (hc : Lk s c) (hT : b.T ≠ c.T) (hr : c.key = some r) : b.key ≠ some r := fun e => by
  have := pair_apart h.nodup hb.mem hc.mem (fun e2 => hT (by rw [e2]))
  rcases this with h1 | h1
  · rw [e] at h1; cases h1
  · rw [e, hr] at h1; exact h1 rfl
end Go.Hw
