/- The rules of a proof frame: sequences, loops, regions in whatever order, calls, append, copy, comparisons. It proves nothing of a program by itself. -/
import Derived.OrdersHeld
import Derived.Test.YtjhmcmadleabjaaFrameA
import Derived.Laws.MakeOwn
import Derived.ChangeKeysEq
import Derived.Laws.StructEq
import Derived.StillTail
import Derived.Deep.Quiet
set_option linter.unusedVariables false
/- Regions in whatever order: quiet operations may be taken first; what is asked of the world need not hold behind the operation that waits for all others. -/
set_option linter.unusedVariables false
namespace Go.Hw
section
variable {P : Program} {ops : Array Oper} {Q : Exit → Act → World → Prop} {md : Region.Mode} {S : World → Prop} {fin : Nat}

def anyG (P : Program) (md : Region.Mode) (ops : Array Oper) (Q : Exit → Act → World → Prop) (S : World → Prop) (fin : Nat) : Nat → Array Bool → Act → World → Prop
  | 0, listed, a, w => Region.ready md ops listed = [] ∧ Q .normal a w
  | n + 1, listed, a, w =>
    (Region.ready md ops listed = [] → Q .normal a w) ∧
    ∀ i ∈ Region.ready md ops listed, wpOp P ops Q i (fun a' w' => (i ≠ fin → S w') ∧ anyG P md ops Q S fin n (listed.setIfInBounds i true) a' w') a w

theorem any_of_G : ∀ (n : Nat) (listed : Array Bool) (a : Act) (w : World), anyG P md ops Q S fin n listed a w → wpAny P md ops Q n listed a w
  | 0, _, _, _, h => h
  | n + 1, _, _, _, h => ⟨h.1, fun i hi => wpOp_mono (fun a' w' h' => any_of_G n _ a' w' h'.2) (h.2 i hi)⟩

/-- The last operation waits for number i. -/
def waits (md : Region.Mode) (ops : Array Oper) (fin i : Nat) : Bool := match ops[fin]? with
  | none => true
  | some o => o.after.any fun e => Region.binds md e && e.on == i

theorem ready_waits {listed : Array Bool} {i : Nat} (hi : i ∈ Region.ready md ops listed) (hw : waits md ops fin i = true) : fin ∉ Region.ready md ops listed := by
  intro hf
  obtain ⟨_, of, hof, hall⟩ := mem_ready.1 hf
  have h0 := (mem_ready.1 hi).1
  unfold waits at hw
  rw [hof] at hw
  simp only [Array.any_eq_true'] at hw
  obtain ⟨e, he, hb⟩ := hw
  simp only [Bool.and_eq_true, beq_iff_eq] at hb
  have h1 := hall e he hb.1
  rw [hb.2] at h1
  rcases Nat.lt_or_ge i listed.size with h' | h'
  · simp [h'] at h0 h1; rw [h0] at h1; cases h1
  · simp [Array.getElem?_eq_none h'] at h1

theorem anyG_first {i : Nat} {oi : Oper} {v : Value} (hi : ops[i]? = some oi) (hsel : ∀ (j : Nat) (o : Oper) cs b, ops[j]? = some o → o.op ≠ .select cs b)
    (hQ : ∀ c a w, Q (.panic c) (a.put oi.dst v) w → Q (.panic c) a w) (hw : waits md ops fin i = true) :
    ∀ (n : Nat) (listed : Array Bool) (a : Act) (w : World),
      (∀ j oj, ops[j]? = some oj → j ≠ i → listed.getD j true = false → (∀ e ∈ oj.after, Region.binds md e = true → e.on ≠ i) → oi.apart ops oj = true) →
      i ∈ Region.ready md ops listed → YieldsIf P ops S oi v a → S w →
      anyG P md ops Q S fin n (listed.setIfInBounds i true) (a.put oi.dst v) w → anyG P md ops Q S fin (n + 1) listed a w := by
  intro n
  induction n with
  | zero =>
    intro listed a w _ hr hy hS H
    refine ⟨fun h => (by rw [h] at hr; cases hr), fun j hj => ?_⟩
    by_cases hji : j = i
    · subst hji; exact hy.wpOp hi hS ⟨fun _ => hS, H⟩
    · have := ready_mono hj hji
      rw [H.1] at this
      cases this
  | succ n ih =>
    intro listed a w hfree hr hy hS H
    refine ⟨fun h => (by rw [h] at hr; cases hr), fun j hj => ?_⟩
    by_cases hji : j = i
    · subst hji; exact hy.wpOp hi hS ⟨fun _ => hS, H⟩
    · have hjf : j ≠ fin := fun e => ready_waits hr hw (e ▸ hj)
      have h1 := H.2 j (ready_mono hj hji)
      obtain ⟨hjun, oj, hoj, hall⟩ := mem_ready.1 hj
      have hnot : ∀ e ∈ oj.after, Region.binds md e = true → e.on ≠ i := fun e he hb heq => by
        have h1 := hall e he hb
        have h0 := (mem_ready.1 hr).1
        rw [heq] at h1
        rcases Nat.lt_or_ge i listed.size with h' | h'
        · simp [h'] at h0 h1; rw [h0] at h1; cases h1
        · simp [Array.getElem?_eq_none h'] at h1
      have h2 := wpOp_putIf hoj (hfree j oj hoj hji hjun hnot) (fun cs b => hsel i oi cs b hi) (fun cs b => hsel j oj cs b hoj) hQ hy h1
      have hfree' : ∀ k ok, ops[k]? = some ok → k ≠ i → (listed.setIfInBounds j true).getD k true = false →
          (∀ e ∈ ok.after, Region.binds md e = true → e.on ≠ i) → oi.apart ops ok = true := fun k ok hk hki hun hno => by
        refine hfree k ok hk hki ?_ hno
        by_cases hjk : j = k
        · subst hjk; exact hjun
        · rw [getD_set_ne true hjk] at hun; exact hun
      refine wpOp_mono (fun a' w' h3 => ⟨h3.2.1, ih (listed.setIfInBounds j true) a' w' hfree' (ready_mono hr (Ne.symm hji)) h3.1 (h3.2.1 hjf) ?_⟩) h2
      rw [Array.setIfInBounds_comm _ _ hji]
      exact h3.2.2
end
end Go.Hw

/- The rules of code: sequences, branches, loops, regions in whatever order; calls; a function's begin and end. -/
set_option linter.unusedVariables false
namespace Go.Hw
open Go.RowKit

/-- What is to hold at each way out. -/
structure Kt where
  nrm : Act → World → Prop
  ext : List (Nat × (Act → World → Prop))
  ret : Act → World → Prop

def exGet : List (Nat × (Act → World → Prop)) → Nat → Option (Act → World → Prop)
  | [], _ => none
  | (k, f) :: r, t => match Nat.beq k t with
    | true => some f
    | false => exGet r t

def Kt.q (k : Kt) : Exit → Act → World → Prop
  | .normal, a, w => k.nrm a w
  | .exit id, a, w => match exGet k.ext id with
    | some f => f a w
    | none => False
  | .ret, a, w => k.ret a w
  | _, _, _ => False

structure WC (X : Cx) (k : Kt) (c : Code) (e : Env) (s : Hp) : Prop where
  go : ∀ a w, Fits X.n e a → St X.w0 s w → c.wp X.P k.q a w
/-- A way out is reached. -/
structure NK (X : Cx) (K : Act → World → Prop) (e : Env) (s : Hp) : Prop where
  go : ∀ a w, Fits X.n e a → St X.w0 s w → K a w

section
variable {X : Cx} {k : Kt} {c x y : Code} {e e' : Env} {s s' : Hp}

theorem wc_seq (h : WC X ⟨fun a w => y.wp X.P k.q a w, k.ext, k.ret⟩ x e s) : WC X k (.seq x y) e s := by
  refine ⟨fun a w hf hs => ?_⟩
  refine wp_seq (wp_mono (h.go a w hf hs) fun ex a' w' hq => ?_)
  cases ex <;> exact hq

theorem nk_code (h : WC X k y e s) : NK X (fun a w => y.wp X.P k.q a w) e s := ⟨h.go⟩

theorem wc_block {id : Nat} (h : WC X ⟨k.nrm, (id, k.nrm) :: k.ext, k.ret⟩ c e s) : WC X k (.block id c) e s := by
  refine ⟨fun a w hf hs => ?_⟩
  refine wp_block (wp_mono (h.go a w hf hs) fun ex a' w' hq => ?_)
  cases ex with
  | exit id' =>
    simp only [Kt.q, exGet] at hq
    simp only [Exit.inBlock]
    by_cases he : id' = id
    · subst he
      simp at hq
      simp [Kt.q, hq]
    · have : Nat.beq id id' = false := by
        cases hb : Nat.beq id id' with
        | false => rfl
        | true => exact absurd (Nat.eq_of_beq_eq_true hb).symm he
      rw [this] at hq
      simp only [he, if_false]
      exact hq
  | _ => exact hq

theorem wc_exit {id : Nat} {f : Act → World → Prop} (hx : exGet k.ext id = some f) (h : NK X f e s) : WC X k (.exit id) e s := by
  refine ⟨fun a w hf hs => ?_⟩
  refine wp_exit ?_
  simp only [Kt.q, hx]
  exact h.go a w hf hs

theorem wc_skip (h : NK X k.nrm e s) : WC X k .skip e s := ⟨fun a w hf hs => wp_skip (h.go a w hf hs)⟩
theorem wc_ret (h : NK X k.ret e s) : WC X k .ret e s := ⟨fun a w hf hs => wp_ret (h.go a w hf hs)⟩

theorem wc_cond {t : Operand} {b : Bool} (hc : ev e t = some (.c (.bool b))) (ht : b = true → WC X k x e s) (hf : b = false → WC X k y e s) : WC X k (.cond t x y) e s := by
  refine ⟨fun a w hfit hs => ?_⟩
  have := hfit.ev hc
  cases b with
  | true => exact wp_cond_true this ((ht rfl).go a w hfit hs)
  | false => exact wp_cond_false this ((hf rfl).go a w hfit hs)
theorem wc_yes {t : Operand} (hc : ev e t = some (.c (.bool true))) (h : WC X k x e s) : WC X k (.cond t x y) e s :=
  wc_cond hc (fun _ => h) (fun h => by cases h)
theorem wc_no {t : Operand} (hc : ev e t = some (.c (.bool false))) (h : WC X k y e s) : WC X k (.cond t x y) e s :=
  wc_cond hc (fun h => by cases h) (fun _ => h)

theorem wc_sub (he : Sub e e') (hs : ∀ w, St X.w0 s w → St X.w0 s' w) (h : WC X k c e' s') : WC X k c e s :=
  ⟨fun a w hf hst => h.go a w (hf.sub he) (hs w hst)⟩
theorem nk_sub {K : Act → World → Prop} (he : Sub e e') (hs : ∀ w, St X.w0 s w → St X.w0 s' w) (h : NK X K e' s') : NK X K e s :=
  ⟨fun a w hf hst => h.go a w (hf.sub he) (hs w hst)⟩

/-- A loop: a family of frames and blocks; each round leads to one of a lower measure, or out. -/
theorem wc_loop {ι : Type} (I : ι → Prop) (E : ι → Env) (S : ι → Hp) (μ : ι → Nat) (i0 : ι) (hi : I i0) (h0 : NK X (fun a w => Fits X.n (E i0) a ∧ St X.w0 (S i0) w) e s)
    (round : ∀ i, I i → WC X ⟨fun a w => ∃ j, I j ∧ μ j < μ i ∧ Fits X.n (E j) a ∧ St X.w0 (S j) w, k.ext, k.ret⟩ c (E i) (S i)) : WC X k (.loop c) e s := by
  refine ⟨fun a w hf hs b kk cs => ?_⟩
  have h00 := h0.go a w hf hs
  have key : ∀ n, ∀ i, μ i = n → I i → ∀ a w, Fits X.n (E i) a → St X.w0 (S i) w →
      ∃ ex a' w', k.q ex a' w' ∧ Arrives X.P (lone (b.at a (.code c :: .inLoop c :: kk)) cs w) b kk cs ex a' w' := by
    intro n
    induction n using Nat.strongRecOn with
    | _ n ih =>
      intro i hn hI a w hf hs
      obtain ⟨ex, a1, w1, hq, harr⟩ := (round i hI).go a w hf hs b (.inLoop c :: kk) cs
      cases ex with
      | normal =>
        obtain ⟨j, j1, j2, j3, j4⟩ := hq
        obtain ⟨e2, a2, w2, hq2, harr2⟩ := ih (μ j) (hn ▸ j2) j rfl j1 a1 w1 j3 j4
        exact ⟨e2, a2, w2, hq2, .of_steps (Steps.trans harr (.one step_inLoop)) harr2⟩
      | exit id => exact ⟨.exit id, a1, w1, hq, .pass (x := .inLoop c) rfl (fun _ _ => .inl (by simp)) harr⟩
      | goto l => exact hq.elim
      | ret => exact ⟨.ret, a1, w1, hq, .pass (x := .inLoop c) rfl (fun _ _ => .inl (by simp)) harr⟩
      | panic ch => exact hq.elim
      | outgrown => exact hq.elim
  obtain ⟨ex, a', w', hq, harr⟩ := key _ i0 rfl hi a w h00.1 h00.2
  exact ⟨ex, a', w', hq, .of_steps (.one step_loop) harr⟩

theorem nk_round {ι : Type} {I : ι → Prop} {E : ι → Env} {S : ι → Hp} {μ : ι → Nat} {i : ι} (j : ι) (hj : I j) (hm : μ j < μ i) (he : Sub e (E j)) (hs : ∀ w, St X.w0 s w → St X.w0 (S j) w) :
    NK X (fun a w => ∃ j, I j ∧ μ j < μ i ∧ Fits X.n (E j) a ∧ St X.w0 (S j) w) e s :=
  ⟨fun a w hf hst => ⟨j, hj, hm, hf.sub he, hs w hst⟩⟩
theorem nk_start {E : Env} {S : Hp} (he : Sub e E) (hs : ∀ w, St X.w0 s w → St X.w0 S w) : NK X (fun a w => Fits X.n E a ∧ St X.w0 S w) e s :=
  ⟨fun a w hf hst => ⟨hf.sub he, hs w hst⟩⟩

/-! ### Regions -/
theorem wc_region {id : Nat} {l : List Oper} (h : WL X k.q l.toArray l e s) : WC X k (.region id l.toArray false) e s :=
  ⟨fun a w hf hs => wp_region_lit (h.go a w hf hs)⟩

theorem wl_done {ops : Array Oper} (h : NK X k.nrm e s) : WL X k.q ops [] e s := ⟨fun a w hf hs => h.go a w hf hs⟩

structure WH (X : Cx) (k : Kt) (ops : Array Oper) (s0 : Hp) (fin : Nat) (fuel : Nat) (listed : Array Bool) (e : Env) (s : Hp) : Prop where
  go : ∀ a w, Fits X.n e a → St X.w0 s w → anyG X.P .any ops k.q (St X.w0 s0) fin fuel listed a w

theorem wc_draw {id : Nat} {l : List Oper} {s0 : Hp} (fin : Nat) (hm : X.P.follows .mixedOrders = true) (h : WH X k l.toArray s0 fin l.length (Array.replicate l.length false) e s) : WC X k (.region id l.toArray true) e s := by
  refine ⟨fun a w hf hs => ?_⟩
  have := h.go a { w with drawn := w.drawn + 1 } hf (hs.drew _)
  exact wp_region_any hm (any_of_G _ _ _ _ (by simpa using this))

section
variable {ops : Array Oper} {s0 : Hp} {fin : Nat} {fuel : Nat} {listed : Array Bool}

theorem wh_done (hr : (Region.ready .any ops listed).isEmpty = true) (h : NK X k.nrm e s) : WH X k ops s0 fin fuel listed e s := by
  have hr' : Region.ready .any ops listed = [] := by simpa using hr
  refine ⟨fun a w hf hs => ?_⟩
  cases fuel with
  | zero => exact ⟨hr', h.go a w hf hs⟩
  | succ n => exact ⟨fun _ => h.go a w hf hs, by rw [hr']; simp⟩

theorem wh_as {d : Nat} {v v' : V} (h : v = v') (ht : WH X k ops s0 fin fuel listed ((d, v') :: e) s) : WH X k ops s0 fin fuel listed ((d, v) :: e) s := h ▸ ht

/-- What is asked of a number that is taken first. -/
def firstB (ops : Array Oper) (fin : Nat) (listed : Array Bool) (i : Nat) : Bool := Region.noSelect ops && Region.free .any ops listed i && (Region.ready .any ops listed).contains i && waits .any ops fin i

theorem wh_take {o : Oper} {v : Value} {i : Nat} (hi : ops[i]? = some o) (hb : firstB ops fin listed i = true) {a : Act} {w : World} (hy : YieldsIf X.P ops (St X.w0 s0) o v a) (hS : St X.w0 s0 w)
    (h : anyG X.P .any ops k.q (St X.w0 s0) fin fuel (listed.setIfInBounds i true) (a.put o.dst v) w) : anyG X.P .any ops k.q (St X.w0 s0) fin (fuel + 1) listed a w := by
  simp only [firstB, Bool.and_eq_true] at hb
  exact anyG_first hi (Region.noSelect_spec hb.1.1.1) (fun _ _ _ h => h.elim) hb.2 fuel listed a w (Region.free_spec hi hb.1.1.2) (by simpa using hb.1.2) hy hS h

/-- Number i is taken first: a quiet one. -/
theorem wh_q {o : Oper} {v : V} (i : Nat) (hi : ops[i]? = some o) (hb : firstB ops fin listed i = true) (hg : o.guard = none) {d : Nat} (hd : o.dst = some d) (hn : Nat.blt d X.n = true)
    (hq : Qt X o e s0 v) (hs0 : ∀ w, St X.w0 s w → St X.w0 s0 w) (h : WH X k ops s0 fin fuel (listed.setIfInBounds i true) ((d, v) :: e) s) : WH X k ops s0 fin (fuel + 1) listed e s :=
  ⟨fun a w hf hs => wh_take (v := v.den) hi hb (.inl ⟨by simp [Region.wanted, hg], fun w hw => hq.run a w hf hw⟩) (hs0 w hs) (h.go _ _ (by rw [hd]; exact hf.put (by simpa [Nat.blt_eq] using hn) v) hs)⟩
theorem wh_gd {o : Oper} {v : V} (i : Nat) {j : Nat} {b : Bool} (hi : ops[i]? = some o) (hb : firstB ops fin listed i = true) (hg : o.guard = some (j, b)) (hv : gVal ops e j = some b) {d : Nat} (hd : o.dst = some d) (hn : Nat.blt d X.n = true)
    (hq : Qt X o e s0 v) (hs0 : ∀ w, St X.w0 s w → St X.w0 s0 w) (h : WH X k ops s0 fin fuel (listed.setIfInBounds i true) ((d, v) :: e) s) : WH X k ops s0 fin (fuel + 1) listed e s :=
  ⟨fun a w hf hs => wh_take (v := v.den) hi hb (.inl ⟨by simp [Region.wanted, hg, yielded_of hf hv], fun w hw => hq.run a w hf hw⟩) (hs0 w hs) (h.go _ _ (by rw [hd]; exact hf.put (by simpa [Nat.blt_eq] using hn) v) hs)⟩
theorem wh_skip {o : Oper} (i : Nat) {j : Nat} {b b' : Bool} (hi : ops[i]? = some o) (hb : firstB ops fin listed i = true) (hg : o.guard = some (j, b)) (hv : gVal ops e j = some b') (hne : (b' == b) = false) {d : Nat} (hd : o.dst = some d) (hn : Nat.blt d X.n = true)
    (hs0 : ∀ w, St X.w0 s w → St X.w0 s0 w) (h : WH X k ops s0 fin fuel (listed.setIfInBounds i true) ((d, .t0) :: e) s) : WH X k ops s0 fin (fuel + 1) listed e s :=
  ⟨fun a w hf hs => wh_take (v := V.t0.den) hi hb (.inr ⟨by simp [Region.wanted, hg, yielded_of hf hv]; intro h; simp [h] at hne, rfl⟩) (hs0 w hs) (h.go _ _ (by rw [hd]; exact hf.put (by simpa [Nat.blt_eq] using hn) .t0) hs)⟩

/-- One that comes up now. -/
structure WO (X : Cx) (k : Kt) (ops : Array Oper) (s0 : Hp) (fin : Nat) (fuel : Nat) (listed : Array Bool) (i : Nat) (e : Env) (s : Hp) : Prop where
  go : ∀ a w, Fits X.n e a → St X.w0 s w → wpOp X.P ops k.q i (fun a' w' => (i ≠ fin → St X.w0 s0 w') ∧ anyG X.P .any ops k.q (St X.w0 s0) fin fuel (listed.setIfInBounds i true) a' w') a w

theorem wh_all {rs : List Nat} (hr : (Region.ready .any ops listed == rs && !rs.isEmpty) = true) (h : ∀ i ∈ rs, WO X k ops s0 fin fuel listed i e s) : WH X k ops s0 fin (fuel + 1) listed e s := by
  simp only [Bool.and_eq_true, beq_iff_eq, Bool.not_eq_true', List.isEmpty_eq_false_iff] at hr
  exact ⟨fun a w hf hs => ⟨fun h0 => absurd (hr.1 ▸ h0) hr.2, hr.1 ▸ fun i hi => (h i hi).go a w hf hs⟩⟩

theorem wh_one (i : Nat) (hr : (Region.ready .any ops listed == [i]) = true) (h : WO X k ops s0 fin fuel listed i e s) : WH X k ops s0 fin (fuel + 1) listed e s :=
  wh_all (rs := [i]) (by simpa using hr) fun j hj => by simp only [List.mem_singleton] at hj; subst hj; exact h

theorem wo_ef {o : Oper} {i : Nat} (hi : ops[i]? = some o) (hg : o.guard = none)
    (h : Ef X k.q o e s (fun e' s' => (∀ w, St X.w0 s' w → St X.w0 s0 w) ∧ WH X k ops s0 fin fuel (listed.setIfInBounds i true) e' s')) : WO X k ops s0 fin fuel listed i e s := by
  refine ⟨fun a w hf hs => ?_⟩
  unfold wpOp
  simp only [hi]
  rw [if_pos (by simp [Region.wanted, hg])]
  exact .inl (h.go _ (fun e' s' hk a w hf hs => ⟨fun _ => hk.1 w hs, hk.2.go a w hf hs⟩) a w hf hs)
theorem wo_efg {o : Oper} {i j : Nat} {b : Bool} (hi : ops[i]? = some o) (hg : o.guard = some (j, b)) (hv : gVal ops e j = some b)
    (h : Ef X k.q o e s (fun e' s' => (∀ w, St X.w0 s' w → St X.w0 s0 w) ∧ WH X k ops s0 fin fuel (listed.setIfInBounds i true) e' s')) : WO X k ops s0 fin fuel listed i e s := by
  refine ⟨fun a w hf hs => ?_⟩
  unfold wpOp
  simp only [hi]
  rw [if_pos (by simp [Region.wanted, hg, yielded_of hf hv])]
  exact .inl (h.go _ (fun e' s' hk a w hf hs => ⟨fun _ => hk.1 w hs, hk.2.go a w hf hs⟩) a w hf hs)
/-- The one that waits for all. -/
theorem wo_fin {o : Oper} (hi : ops[fin]? = some o) (hg : o.guard = none)
    (h : Ef X k.q o e s (fun e' s' => WH X k ops s0 fin fuel (listed.setIfInBounds fin true) e' s')) : WO X k ops s0 fin fuel listed fin e s := by
  refine ⟨fun a w hf hs => ?_⟩
  unfold wpOp
  simp only [hi]
  rw [if_pos (by simp [Region.wanted, hg])]
  exact .inl (h.go _ (fun e' s' hk a w hf hs => ⟨fun h => absurd rfl h, hk.go a w hf hs⟩) a w hf hs)
end

/-! ### Calls -/
def evl (e : Env) : List Operand → Option (List V)
  | [] => some []
  | x :: r => match ev e x, evl e r with
    | some v, some l => some (v :: l)
    | _, _ => none

theorem evl_map {n : Nat} {a : Act} (hf : Fits n e a) : ∀ {xs : List Operand} {vs : List V}, evl e xs = some vs → xs.map a.eval = vs.map V.den
  | [], vs, h => by simp only [evl, Option.some.injEq] at h; subst h; rfl
  | x :: r, vs, h => by
    simp only [evl] at h
    split at h
    · rename_i v l hv hl
      simp only [Option.some.injEq] at h; subst h
      simp [hf.ev hv, evl_map hf hl]
    · cases h

abbrev CallsV (P : Program) (f : Nat) (vs : List V) (w : World) (R : Ending → World → Prop) : Prop := Calls P f (vs.map V.den).toArray w R

def callable (P : Program) (f : Nat) : Bool := match P.funcs[f]? with
  | some fn => !(fn.name == "runtime.NumGoroutine") && fn.body.isSome
  | none => false

theorem run_call {P : Program} {f : Nat} (hc : callable P f = true) {args : Array Operand} {at_ : Array TypeId} {o : Oper} (ho : o.op = .call ⟨.value (.func f), args, at_⟩) {n : Nat} {a : Act} (hf : Fits n e a) {vs : List V} (hv : evl e args.toList = some vs) (w : World) :
    (execOp a.eval o).run P w = .ok (.enter f (vs.map V.den).toArray) w := by
  unfold callable at hc
  split at hc
  · rename_i fn hfn
    simp only [Bool.and_eq_true, Bool.not_eq_true'] at hc
    have hargs : args.map a.eval = (vs.map V.den).toArray := by
      apply Array.ext'
      simpa using evl_map hf hv
    have hb : fn.body.isNone = false := by cases hh : fn.body <;> simp_all
    simp only [execOp, ho, resolve, Deferred.ofValue, Act.eval, Sem.run_bind, Sem.run_pure, Result.andThen_ok, hargs, invoke, callFunc, program, Sem.run]
    simp [hfn, hc.1, hb]
  · cases hc

theorem ef_call {Q : Exit → Act → World → Prop} {d : Option Nat} {f : Nat} {args : List Operand} {ats : Array TypeId} {ty : Nat} {pos : String} {af : Array Edge} {gd : Option (Nat × Bool)} {KK : Env → Hp → Prop} {vs : List V}
    (hc : callable X.P f = true) (hv : evl e args = some vs) (hd : okDst X.n d = true)
    (h : ∀ w, St X.w0 s w → CallsV X.P f vs w fun en w' => ∃ v s', en = .returned v.den ∧ St X.w0 s' w' ∧ KK (Env.put d v e) s') :
    Ef X Q ⟨d, .call ⟨.value (.func f), args.toArray, ats⟩, ty, pos, af, gd⟩ e s KK := by
  refine ⟨fun K hK a w hf hs => ?_⟩
  unfold Oper.wp
  rw [run_call hc rfl hf (by simpa using hv) w, Oper.upon_enter]
  refine (h w hs).mono fun en w' ⟨v, s', he, hst, hk⟩ => ?_
  subst he
  exact hK _ _ hk _ _ (hf.putE hd v) hst

/-- A call that hands back one value and leaves what was there. -/
theorem ef_pure {Q : Exit → Act → World → Prop} {d : Option Nat} {f : Nat} {args : List Operand} {ats : Array TypeId} {ty : Nat} {pos : String} {af : Array Edge} {gd : Option (Nat × Bool)} {KK : Env → Hp → Prop} {vs : List V} {v : V}
    (hc : callable X.P f = true) (hv : evl e args = some vs) (hd : okDst X.n d = true)
    (h : ∀ w, St X.w0 s w → CallsV X.P f vs w fun en w' => en = .returned v.den ∧ St w [] w') (hk : KK (Env.put d v e) s) :
    Ef X Q ⟨d, .call ⟨.value (.func f), args.toArray, ats⟩, ty, pos, af, gd⟩ e s KK :=
  ef_call hc hv hd fun w hw => (h w hw).mono fun en w' ⟨he, hst⟩ => ⟨v, s, he, hw.ext hst, hk⟩

/-- A call that hands back something new, of which one block is told. -/
theorem ef_fresh {Q : Exit → Act → World → Prop} {d : Option Nat} {f : Nat} {args : List Operand} {ats : Array TypeId} {ty : Nat} {pos : String} {af : Array Edge} {gd : Option (Nat × Bool)} {KK : Env → Hp → Prop} {vs : List V} {α : Type} {I : α → Prop} {v : α → V} {b : α → Blk}
    (hc : callable X.P f = true) (hv : evl e args = some vs) (hd : okDst X.n d = true)
    (h : ∀ w, St X.w0 s w → CallsV X.P f vs w fun en w' => ∃ x, en = .returned (v x).den ∧ I x ∧ (∀ k, (b x).key = some k → w.heap.size ≤ k) ∧ St w [b x] w')
    (hk : ∀ x, I x → (∀ k, (b x).key = some k → X.w0.heap.size ≤ k) → KK (Env.put d (v x) e) (b x :: s)) :
    Ef X Q ⟨d, .call ⟨.value (.func f), args.toArray, ats⟩, ty, pos, af, gd⟩ e s KK :=
  ef_call hc hv hd fun w hw => (h w hw).mono fun en w' ⟨x, he, hi, hb, hst⟩ => ⟨v x, b x :: s, he, hw.ext1 hst hb, hk x hi fun k hk' => Nat.le_trans hw.size (hb k hk')⟩

/-- A call that turns one block of the list. -/
theorem ef_turn {Q : Exit → Act → World → Prop} {d : Option Nat} {f : Nat} {args : List Operand} {ats : Array TypeId} {ty : Nat} {pos : String} {af : Array Edge} {gd : Option (Nat × Bool)} {KK : Env → Hp → Prop} {vs : List V} {v : V} {b b' : Blk}
    (hc : callable X.P f = true) (hv : evl e args = some vs) (hd : okDst X.n d = true) (hu : Up s b b' s') (hb : b'.key = b.key)
    (h : ∀ w, St X.w0 s w → CallsV X.P f vs w fun en w' => en = .returned v.den ∧ St w [b'] w') (hk : KK (Env.put d v e) s') :
    Ef X Q ⟨d, .call ⟨.value (.func f), args.toArray, ats⟩, ty, pos, af, gd⟩ e s KK :=
  ef_call hc hv hd fun w hw => (h w hw).mono fun en w' ⟨he, hst⟩ => ⟨v, s', he, hw.up hu hb hst, hk⟩

/-- The same; what comes of the block is told by a property. -/
theorem ef_turnx {Q : Exit → Act → World → Prop} {d : Option Nat} {f : Nat} {args : List Operand} {ats : Array TypeId} {ty : Nat} {pos : String} {af : Array Edge} {gd : Option (Nat × Bool)} {KK : Env → Hp → Prop} {vs : List V} {v : V} {α : Type} {I : α → Prop} {b : Blk} {b' : α → Blk} {S' : α → Hp}
    (hc : callable X.P f = true) (hv : evl e args = some vs) (hd : okDst X.n d = true) (hu : ∀ x, Up s b (b' x) (S' x)) (hb : ∀ x, (b' x).key = b.key)
    (h : ∀ w, St X.w0 s w → CallsV X.P f vs w fun en w' => en = .returned v.den ∧ ∃ x, I x ∧ St w [b' x] w') (hk : ∀ x, I x → KK (Env.put d v e) (S' x)) :
    Ef X Q ⟨d, .call ⟨.value (.func f), args.toArray, ats⟩, ty, pos, af, gd⟩ e s KK :=
  ef_call hc hv hd fun w hw => (h w hw).mono fun en w' ⟨he, x, hi, hst⟩ => ⟨v, S' x, he, hw.up (hu x) (hb x) hst, hk x hi⟩

/-! ### A function's begin and end -/
def fnKt (P : Program) (fn : Func) (R : Ending → World → Prop) : Kt :=
  ⟨fun a w => a.defers = [] ∧ ∃ v, (results fn a.tmps).run P w = .ok v w ∧ R (.returned v) w, [], fun a w => a.defers = [] ∧ ∃ v, (results fn a.tmps).run P w = .ok v w ∧ R (.returned v) w⟩

def num : Nat → List V → Env
  | _, [] => []
  | i, v :: r => (i, v) :: num (i + 1) r

theorem num_get : ∀ (vs : List V) (i t : Nat) (v : V), Env.get (num i vs) t = some v → ∃ j, t = i + j ∧ vs[j]? = some v
  | [], i, t, v, h => by simp [num, Env.get] at h
  | x :: r, i, t, v, h => by
    simp only [num] at h
    rw [Env.get_cons] at h
    split at h
    · rename_i hi; subst hi; simp only [Option.some.injEq] at h; subst h; exact ⟨0, rfl, rfl⟩
    · obtain ⟨j, h1, h2⟩ := num_get r (i + 1) t v h
      exact ⟨j + 1, by omega, by simpa using h2⟩

theorem calls_in {P : Program} {tb : Tb} {f n : Nat} {fn : Func} {vs : List V} {w : World} {R : Ending → World → Prop} (hf : P.funcs[f]? = some fn) (hb : fn.body = some c) (hnt : fn.ntmps = n) (hn : Nat.ble vs.length n = true) (e0 : Env) (he : num 0 vs = e0) (s : Hp) (hs : St w s w)
    (h : WC ⟨P, tb, n, w⟩ (fnKt P fn R) c e0 s) : CallsV P f vs w R := by
  subst he hnt
  have hn := Nat.le_of_ble_eq_true hn
  refine calls_of_wp hf hb ?_
  refine wp_mono (h.go _ w ⟨rfl, by simp; omega, fun t v hv => ?_⟩ hs) fun ex a w hq => ?_
  · obtain ⟨j, h1, h2⟩ := num_get vs 0 t v hv
    have hj : j < vs.length := by
      rcases Nat.lt_or_ge j vs.length with h' | h'
      · exact h'
      · simp [List.getElem?_eq_none h'] at h2
    have ht : t = j := by omega
    subst ht
    refine ⟨by show t < fn.ntmps; omega, ?_⟩
    have hvj : vs[t] = v := by rw [List.getElem?_eq_getElem hj] at h2; exact Option.some.inj h2
    simp [Array.getD_eq_getD_getElem?, Array.getElem?_append, hj, hvj]
  · cases ex <;> simp only [Kt.q, fnKt, exGet] at hq <;> first
      | exact hq
      | exact hq.elim
      | skip

/-- One result. -/
def rvS (tmps : Array Value) : ResultVar → Sem Value
  | .tmp t => pure (tmps.getD t undef)
  | .cell b t => do loadVar t (← asAddr (tmps.getD b undef))
theorem results_eq (fn : Func) (tmps : Array Value) : results fn tmps = (do
  let vs ← fn.results.mapM (rvS tmps)
  pure (if h : vs.size = 1 then vs[0] else .tuple vs)) := by
  unfold results
  have : (fun rv : ResultVar => (match rv with
    | .tmp t => pure (tmps.getD t undef)
    | .cell a t => do loadVar t (← asAddr (tmps.getD a undef)) : Sem Value)) = rvS tmps := by
    funext rv; cases rv <;> rfl
  rw [← this]
  rfl

def RV (X : Cx) (e : Env) (s : Hp) (rv : ResultVar) (v : V) : Prop := ∀ a w, Fits X.n e a → St X.w0 s w → (rvS a.tmps rv).run X.P w = .ok v.den w

theorem rv_tmp {t : Nat} {v : V} (h : Env.get e t = some v) : RV X e s (.tmp t) v := fun a w hf hs => by
  simp only [rvS]; rw [(hf.get t v h).2]; rfl
theorem rv_sc {b t : Nat} {ti : TI} {z r off : Nat} {c : C} (ht : TbOk X.P X.tb) (htt : X.tb.get t = some (ti, z)) (hsc : ti.sc = true) (h : Env.get e b = some (.c (.ptr (.at r off)))) (hc : RC X.w0 s r off c) : RV X e s (.cell b t) (.c c) := fun a w hf hs => by
  simp only [rvS]; rw [(hf.get b _ h).2]
  have := run_loadVar_sc ht htt hsc (hc w hs)
  simp [V.den, C.den, Ad.den, asAddr, this]
theorem rv_ag {b t : Nat} {ti : TI} {z r off : Nat} {l : List C} (ht : TbOk X.P X.tb) (htt : X.tb.get t = some (ti, z)) (hag : ti.ag = true) (h : Env.get e b = some (.c (.ptr (.at r off)))) (hl : l.length = z) (hc : RS X.w0 s r off l) : RV X e s (.cell b t) (.agg l) := fun a w hf hs => by
  simp only [rvS]; rw [(hf.get b _ h).2]
  have := run_loadVar_ag ht htt hag hl (hc w hs)
  simp [V.den, C.den, Ad.den, asAddr, this]

variable {fn : Func} {R : Ending → World → Prop}
theorem fin1 {r1 : ResultVar} {v : V} (hr : fn.results = #[r1]) (h1 : RV X e s r1 v) (hR : ∀ w, St X.w0 s w → R (.returned v.den) w) : NK X (fnKt X.P fn R).ret e s := ⟨fun a w hf hs => by
  refine ⟨hf.defers, v.den, ?_, hR w hs⟩
  have e1 := h1 a w hf hs
  rw [results_eq, hr]
  simp [e1]⟩
theorem fin2 {r1 r2 : ResultVar} {u v : V} (hr : fn.results = #[r1, r2]) (h1 : RV X e s r1 u) (h2 : RV X e s r2 v) (hR : ∀ w, St X.w0 s w → R (.returned (V.t2 u v).den) w) : NK X (fnKt X.P fn R).ret e s := ⟨fun a w hf hs => by
  refine ⟨hf.defers, (V.t2 u v).den, ?_, hR w hs⟩
  have e1 := h1 a w hf hs
  have e2 := h2 a w hf hs
  rw [results_eq, hr]
  simp [Sem.run_bind, e1, e2, Result.andThen, V.den]⟩
theorem fin3 {r1 r2 r3 : ResultVar} {u v x : V} (hr : fn.results = #[r1, r2, r3]) (h1 : RV X e s r1 u) (h2 : RV X e s r2 v) (h3 : RV X e s r3 x) (hR : ∀ w, St X.w0 s w → R (.returned (V.t3 u v x).den) w) : NK X (fnKt X.P fn R).ret e s := ⟨fun a w hf hs => by
  refine ⟨hf.defers, (V.t3 u v x).den, ?_, hR w hs⟩
  have e1 := h1 a w hf hs
  have e2 := h2 a w hf hs
  have e3 := h3 a w hf hs
  rw [results_eq, hr]
  simp [Sem.run_bind, e1, e2, e3, Result.andThen, V.den]⟩
theorem fin0 (hr : fn.results = #[]) (hR : ∀ w, St X.w0 s w → R (.returned V.t0.den) w) : NK X (fnKt X.P fn R).ret e s := ⟨fun a w hf hs => by
  refine ⟨hf.defers, V.t0.den, ?_, hR w hs⟩
  rw [results_eq, hr]
  simp [V.den]⟩
end
end Go.Hw

/- append, copy, make; comparisons of aggregates. -/
set_option linter.unusedVariables false
namespace Go.Hw
open Go.RowKit

/-- A slice that the call owns, whole from its block's head. -/
def OwnS (ad : Ad) (n cap z : Nat) (cs : List C) (tl : List Value) : Prop := match ad with
  | .nil => n = 0 ∧ cap = 0 ∧ cs = [] ∧ tl = []
  | .raw _ => False
  | .mp _ _ => False
  | .at _ off => off = 0 ∧ n ≤ cap ∧ cap ≤ maxLen ∧ cs.length = n * z ∧ cs.length + tl.length = cap * z

/-- A type's element facts. -/
def elOk (P : Program) (el z by_ : Nat) (vz : V) : Bool := match P.info? el with
  | some i => i.size == z && i.bytes == by_ && vz.flat && Nat.beq vz.cs.length z && Nat.blt 0 z
  | none => false

theorem elOk_spec {P : Program} {el z b : Nat} {vz : V} (h : elOk P el z b vz = true) : ∃ i, P.info? el = some i ∧ i.size = z ∧ i.bytes = b ∧ vz.flat = true ∧ vz.cs.length = z ∧ 0 < z := by
  unfold elOk at h
  split at h
  · rename_i i hi
    simp only [Bool.and_eq_true, beq_iff_eq] at h
    obtain ⟨⟨⟨⟨h1, h2⟩, h3⟩, h4⟩, h5⟩ := h
    exact ⟨i, hi, h1, h2, h3, Nat.eq_of_beq_eq_true h4, by simpa [Nat.blt_eq] using h5⟩
  · cases h

/-- Where a slice's elements are read. -/
def RdS (w0 : World) (s : Hp) (ad : Ad) (l : List C) : Prop := match ad with
  | .nil => l = []
  | .raw _ => l = []
  | .mp _ _ => l = []
  | .at r off => RS w0 s r off l

theorem RdS.none {w0 : World} {s : Hp} {ad : Ad} {l : List C} (h : RdS w0 s ad l) (hd : ad.den = Option.none) : l = [] := by
  cases ad with
  | nil => exact h
  | raw a => exact h
  | mp _ _ => exact h
  | «at» r off => cases hd
theorem RdS.some {w0 : World} {s : Hp} {ad : Ad} {l : List C} {a : Addr} (h : RdS w0 s ad l) (hd : ad.den = Option.some a) {w : World} (hw : St w0 s w) : ∀ j v, (l.map C.den)[j]? = Option.some v → w.cell? (a.add j) = Option.some v := fun j v hv => by
  rw [List.getElem?_map, Option.map_eq_some_iff] at hv
  obtain ⟨c, h1, rfl⟩ := hv
  cases ad with
  | nil => cases hd
  | raw b => rw [show l = [] from h] at h1; simp at h1
  | mp _ _ => cases hd
  | «at» r off =>
    obtain rfl : (⟨r, off, Option.none⟩ : Addr) = a := Option.some.inj hd
    rw [add_addr]
    exact h w hw j c h1

theorem key_new {w : World} {r : Nat} (h : r = w.heap.size) : ∀ k, (Ad.at r 0).key = some k → w.heap.size ≤ k := fun k hk => by simp [Ad.key] at hk; omega

theorem Rm.sub_St {w0 w : World} {σ σ' : Hp} (h : St w0 σ w) {b : Blk} (hr : Rm σ b σ') (hn : ∀ k, b.key = some k → w0.heap.size ≤ k) : St w0 σ' w := by
  obtain ⟨l, r, rfl, rfl⟩ := hr.split
  exact h.sub (by simp) fun p hp hnp => by
    have : p = b := by
      rcases List.mem_append.1 hp with hl | hr
      · exact absurd (List.mem_append.2 (.inl hl)) hnp
      · rcases List.mem_cons.1 hr with rfl | hr
        · rfl
        · exact absurd (List.mem_append.2 (.inr hr)) hnp
    subst this; exact hn

theorem Lk_of_Rm {σ σ' : Hp} {b : Blk} (h : Rm σ b σ') : Lk σ b := by
  induction h with
  | here => exact .here
  | there _ ih => exact .there ih

theorem run_append_x0 {P : Program} {w : World} {t ty e : TypeId} {i : TypeInfo} (ht : P.underlying t = some (.slice e)) (hi : P.info? e = some i) (base : Option Addr) (n cap c : Nat) (h : n ≤ cap) :
    (Builtin.append_ #[t, t] ty #[.slice base n cap, .slice none 0 c]).run P w = .ok (.slice base n cap) w := by
  cases base <;> simp [Builtin.append_, run_underlying ht, sizeOf, typeInfo, hi, Builtin.lenOf, h, run_firstCells_none, storeCells]

section
variable {X : Cx} {Q : Exit → Act → World → Prop} {ty : Nat} {pos : String} {af : Array Edge} {gd : Option (Nat × Bool)} {e : Env} {s s' : Hp} {KK : Env → Hp → Prop}

theorem ef_append {d t el z b sz : Nat} {vz : V} {x y : Operand} {ad ad2 : Ad} {n cap m c2 : Nat} {cs news : List C} {tl : List Value} (ht : TbOk X.P X.tb)
    (htt : X.tb.get t = some (.slice el z, sz)) (hel : elOk X.P el z b vz = true) (hz : zeroIs X.P el vz)
    (hx : ev e x = some (.c (.slc ad n cap))) (hy : ev e y = some (.c (.slc ad2 m c2))) (hn : Nat.blt d X.n = true)
    (hrm : Rm s ⟨ad, cs, el, (0, 0), tl⟩ s') (hown : OwnS ad n cap z cs tl) (hnew : ∀ k, ad.key = some k → X.w0.heap.size ≤ k)
    (hnl : news.length = m * z) (hrd : RdS X.w0 s ad2 news) (hby : (n + m) * b ≤ 140737488355328) (hlen : n + m ≤ maxLen)
    (hk : ∀ ad' cap' tl', OwnS ad' (n + m) cap' z (cs ++ news) tl' → (∀ k, ad'.key = some k → X.w0.heap.size ≤ k) → (0 < m → ad'.key ≠ none) → (ad.key ≠ none → ad'.key ≠ none) →
      KK ((d, .c (.slc ad' (n + m) cap')) :: e) (⟨ad', cs ++ news, el, (0, 0), tl'⟩ :: s')) :
    Ef X Q ⟨some d, .call ⟨.builtin .append, #[x, y], #[t, t]⟩, ty, pos, af, gd⟩ e s KK := by
  refine ⟨fun K hK a w hf hs => ?_⟩
  obtain ⟨hu, hsz⟩ := und_slice ht htt
  obtain ⟨i, hi, h1, h2, h3, h4, h5⟩ := elOk_spec hel
  have hzz : i.zero = some vz.den := by unfold zeroIs at hz; simpa [hi] using hz
  have hzs : vz.den.cells.size = z := by rw [V.cells_den h3]; simp [h4]
  have hexec : ∀ v w', (Builtin.append_ #[t, t] ty #[(C.slc ad n cap).den, (C.slc ad2 m c2).den]).run X.P w = .ok v w' →
      K (a.put (some d) v) w' → Oper.wp X.P ⟨some d, .call ⟨.builtin .append, #[x, y], #[t, t]⟩, ty, pos, af, gd⟩ a w K Q := by
    intro v w' hr hKK
    unfold Oper.wp
    have : (execOp a.eval ⟨some d, .call ⟨.builtin .append, #[x, y], #[t, t]⟩, ty, pos, af, gd⟩).run X.P w = .ok (.value v) w' := by
      simp only [execOp, resolve, Sem.run_bind, Sem.run_pure, Result.andThen_ok, invoke, builtin, List.map_toArray, List.map_cons, List.map_nil, hf.ev hx, hf.ev hy, V.den, hr]
    rw [this, Oper.upon_value]
    exact hKK
  have hput := fun c => hf.put (by simpa [Nat.blt_eq] using hn : d < X.n) (.c c)
  have hst' := hrm.sub_St hs hnew
  have hlenx : (cs ++ news).length = (n + m) * z → True := fun _ => trivial
  -- nothing is appended
  have hzero : m = 0 → news = [] := fun h0 => List.length_eq_zero_iff.1 (by rw [hnl, h0]; simp)
  have hself : news = [] → m = 0 → K (a.put (some d) (C.slc ad n cap).den) w := fun h0 h1 => by
    subst h0 h1
    refine hK _ _ (hk ad cap tl (by simpa using hown) hnew (by omega) (fun h => h)) _ _ (hput (.slc ad n cap)) ?_
    have := hs.swap (b' := ⟨ad, cs ++ [], el, (0, 0), tl⟩) hrm hnew (St.of_own (fun p hp => by
      simp only [List.mem_singleton] at hp; subst hp
      have := hs.own _ hrm.mem
      simpa using this) (by simp)) (.inl rfl)
    exact this
  have hcapn : n ≤ cap := by
    cases ad with
    | nil => obtain ⟨h1, h2, _⟩ := hown; omega
    | raw _ => exact hown.elim
    | mp _ _ => exact hown.elim
    | «at» r off => exact hown.2.1
  -- the new block
  have hgrow : ∀ cap', n + m ≤ cap' → cap' ≤ maxLen → 0 < m → ∀ tl' : List Value, cs.length + news.length + tl'.length = cap' * z → cs.length = n * z →
      K (a.put (some d) (.slice (some ⟨w.heap.size, 0, none⟩) (n + m) cap')) (w.drew.alloc (.cells ((cs ++ news).map C.den ++ tl').toArray el)) := fun cap' g1 g2 g3 tl' g4 g5 => by
    refine hK _ _ (hk (.at w.heap.size 0) cap' tl' ⟨rfl, g1, g2, ?_, ?_⟩ (fun k hk' => Nat.le_trans hs.size (key_new rfl k hk')) (by simp [Ad.key]) (by simp [Ad.key])) _ _ (hput (.slc (.at w.heap.size 0) (n + m) cap')) ?_
    · rw [List.length_append, g5, hnl, Nat.add_mul]
    · rw [List.length_append]; exact g4
    · exact (hst'.drew (w.drawn + 1)).ext1 (alloc_St w.drew ⟨.at w.heap.size 0, cs ++ news, el, (0, 0), tl'⟩ rfl) (key_new rfl)
  have hzc : ∀ k, (Builtin.zeroCells vz.den.cells k).toList.length = k * z := fun k => by simp [Builtin.zeroCells, hzs]
  cases hd2 : ad2.den with
  | none =>
    have hnews : news = [] := hrd.none hd2
    have e2 : (C.slc ad2 m c2).den = .slice none m c2 := by simp [C.den, hd2]
    rw [e2] at hexec
    have hm0 : m = 0 := by
      have h0 : m * z = 0 := by rw [← hnl, hnews]; rfl
      rcases Nat.mul_eq_zero.1 h0 with h | h
      · exact h
      · omega
    refine hexec _ _ ?_ (hself hnews hm0)
    subst hm0
    exact run_append_x0 hu hi _ _ _ _ hcapn
  | some a2 =>
    have hrd' := hrd.some hd2 hs
    have e2 : (C.slc ad2 m c2).den = .slice (some a2) m c2 := by simp [C.den, hd2]
    rw [e2] at hexec
    have hnl' : (news.map C.den).length = m * i.size := by rw [List.length_map, hnl, h1]
    have one : ∀ u ∈ news.map C.den, u.oneCell' = true := fun u hu => by
      obtain ⟨c, _, rfl⟩ := List.mem_map.1 hu; exact oneCell_den c
    have hml : n + m ≤ 9223372036854775807 := by simp only [maxLen] at hlen; omega
    cases ad with
    | raw _ => exact hown.elim
    | mp _ _ => exact hown.elim
    | nil =>
      obtain ⟨rfl, rfl, rfl, rfl⟩ := hown
      rcases Nat.eq_zero_or_pos m with h0 | h0
      · refine hexec _ _ ?_ (hself (hzero h0) h0)
        subst h0
        have hn0 := hzero rfl
        subst hn0
        simp [Builtin.append_, run_underlying hu, sizeOf, typeInfo, hi, Builtin.lenOf, Builtin.firstCells, loadCells, loadCellsFrom, C.den, Ad.den, Sem.run, pure]
      · have hr := run_append_nil (P := X.P) w t ty el i vz.den hu hi hzz a2 m c2 (news.map C.den) hnl' hrd' h0 (by omega) (by have h9 := hby; rw [Nat.zero_add] at h9; rw [h2]; omega)
        have hge := grownCap_ge w m 0 el
        have hcm := grownCap_le_maxLen w m 0 el (by omega)
        refine hexec _ _ hr ?_
        have := hgrow (grownCap w m 0 el) (by omega) hcm h0 (Builtin.zeroCells vz.den.cells (grownCap w m 0 el - m)).toList (by
          rw [hzc, hnl]; simp only [List.length_nil, Nat.zero_add]; rw [← Nat.add_mul]; congr 1; omega) (by simp)
        simp only [Nat.zero_add, List.nil_append] at this ⊢
        have e1 : ((news.map C.den).toArray ++ Builtin.zeroCells vz.den.cells (grownCap w m 0 el - m)) = (news.map C.den ++ (Builtin.zeroCells vz.den.cells (grownCap w m 0 el - m)).toList).toArray := by
          apply Array.ext'; simp
        rw [e1]; exact this
    | «at» r off =>
      obtain ⟨rfl, o2, o3, o4, o5⟩ := hown
      have hb := (hs.own _ hrm.mem).2
      have holds : ∀ j v, (cs.map C.den)[j]? = some v → w.cell? ((⟨r, 0, none⟩ : Addr).add j) = some v := fun j v hv => by
        rw [add_addr, Nat.zero_add]
        rw [List.getElem?_map, Option.map_eq_some_iff] at hv
        obtain ⟨c, h1, rfl⟩ := hv
        exact hs.cell (Lk_of_Rm hrm) h1
      by_cases hroom : n + m ≤ cap
      · have hfit : n * i.size + (news.map C.den).length ≤ (cs.map C.den ++ tl).toArray.size := by
          simp only [List.length_map, List.size_toArray, List.length_append, hnl, h1, o5, ← Nat.add_mul]; exact Nat.mul_le_mul_right z hroom
        have hr := run_append_room (P := X.P) w t ty el i hu hi r n cap _ hb a2 m c2 (news.map C.den) hnl' hrd' one hroom hfit
        refine hexec _ _ hr ?_
        have hnl2 : (n + m) * z ≤ cap * z := Nat.mul_le_mul_right z hroom
        have e1 : ((cs.map C.den ++ tl).toArray.toList.take (n * i.size) ++ news.map C.den ++ (cs.map C.den ++ tl).toArray.toList.drop (n * i.size + (news.map C.den).length)) = (cs ++ news).map C.den ++ tl.drop (m * z) := by
          rw [h1]
          have hcl : (cs.map C.den).length = n * z := by simpa using o4
          simp only [List.length_map, hnl]
          rw [← hcl, List.take_left, List.drop_append]
          simp
        rw [e1]
        refine hK _ _ (hk (.at r 0) cap (tl.drop (m * z)) ⟨rfl, hroom, o3, ?_, ?_⟩ hnew (by simp [Ad.key]) (by simp [Ad.key])) _ _ (hput (.slc (.at r 0) (n + m) cap)) ?_
        · rw [List.length_append, o4, hnl, Nat.add_mul]
        · rw [List.length_append, o4, hnl, List.length_drop]
          have : n * z + m * z ≤ cap * z := by rw [← Nat.add_mul]; exact hnl2
          omega
        · exact hs.swap (b' := ⟨.at r 0, cs ++ news, el, (0, 0), tl.drop (m * z)⟩) hrm hnew (setRow_St hb ⟨.at r 0, cs ++ news, el, (0, 0), tl.drop (m * z)⟩ rfl rfl rfl) (.inl rfl)
      · have hr := run_append_grow (P := X.P) w t ty el i vz.den hu hi hzz ⟨r, 0, none⟩ n cap (cs.map C.den) (by simpa [h1] using o4) holds a2 m c2 (news.map C.den) hnl' hrd' (by omega) (by omega) (by rw [h2]; exact growslice_fits (by omega) hby)
        have hge := grownCap_ge w (n + m) cap el
        have hcm := grownCap_le_maxLen w (n + m) cap el hlen
        refine hexec _ _ hr ?_
        have := hgrow (grownCap w (n + m) cap el) hge hcm (by omega) (Builtin.zeroCells vz.den.cells (grownCap w (n + m) cap el - (n + m))).toList (by
          rw [hzc, hnl, o4, ← Nat.add_mul, ← Nat.add_mul]; congr 1; omega) o4
        have e1 : ((cs.map C.den).toArray ++ (news.map C.den).toArray ++ Builtin.zeroCells vz.den.cells (grownCap w (n + m) cap el - (n + m))) = ((cs ++ news).map C.den ++ (Builtin.zeroCells vz.den.cells (grownCap w (n + m) cap el - (n + m))).toList).toArray := by
          apply Array.ext'; simp
        rw [e1]; exact this

end
end Go.Hw

/- make, copy, comparisons. -/
set_option linter.unusedVariables false
namespace Go.Hw
open Go.RowKit
section
variable {X : Cx} {Q : Exit → Act → World → Prop} {ty : Nat} {pos : String} {af : Array Edge} {gd : Option (Nat × Bool)} {e : Env} {s s' : Hp} {KK : Env → Hp → Prop}

theorem rep_cells (x : C) (n : Nat) : ((Array.range n).map fun i => x.den.cells[i % x.den.cells.size]!) = ((List.replicate n x).map C.den).toArray := by
  apply Array.ext'
  rw [C.cells_den]
  apply List.ext_getElem
  · simp
  · intro i h1 h2
    simp [Nat.mod_one]

theorem ef_make {d t el b sz : Nat} {x y : Operand} {l c : Nat} {c0 : C} (ht : TbOk X.P X.tb)
    (htt : X.tb.get t = some (.slice el 1, sz)) (hel : elOk X.P el 1 b (.c c0) = true) (hz : zeroIs X.P el (.c c0))
    (hx : ev e x = some (.c (.i64 (l : Int)))) (hy : ev e y = some (.c (.i64 (c : Int)))) (hn : Nat.blt d X.n = true) (hlc : l ≤ c) (hby : c * b ≤ 140737488355328) (hc : c ≤ maxLen)
    (hk : ∀ r, X.w0.heap.size ≤ r → KK ((d, .c (.slc (.at r 0) l c)) :: e) (⟨.at r 0, List.replicate l c0, el, (0, 0), (List.replicate (c - l) c0).map C.den⟩ :: s)) :
    Ef X Q ⟨some d, .makeSlice t x y, ty, pos, af, gd⟩ e s KK := by
  refine ef_newS rfl hn (fun a w hf hs => ?_) hk
  obtain ⟨hu, hsz⟩ := und_slice ht htt
  obtain ⟨i, hi, h1, h2, h3, h4, h5⟩ := elOk_spec hel
  have hzz : i.zero = some c0.den := by unfold zeroIs at hz; simpa [hi, V.den] using hz
  have wl : IntKind.i64.wrap (l : Int) = l := wrapI64 ⟨by omega, by simp only [maxLen] at hc; omega⟩
  have wc : IntKind.i64.wrap (c : Int) = c := wrapI64 ⟨by omega, by simp only [maxLen] at hc; omega⟩
  have b1 : ¬ ((i.bytes : Int) * (c : Int) > 2 ^ 48) := by
    rw [h2]
    have : ((b : Int) * (c : Int)) = ((c * b : Nat) : Int) := by push_cast; exact Int.mul_comm _ _
    rw [this]; omega
  have b2 : ¬ ((c : Int) < 0) := by omega
  have b3 : ¬ ((l : Int) < 0) := by omega
  have b4 : ¬ ((l : Int) > (c : Int)) := by omega
  have hroom : ¬ (c * i.bytes > roomBytes) := by rw [h2]; unfold roomBytes; omega
  have hcells : (if c * 1 = 0 then (pure #[] : Sem (Array Value)) else do pure (← zeroValue el).cells).run X.P w = .ok (if c * 1 = 0 then #[] else c0.den.cells) w := by
    split
    · rfl
    · simp [Sem.run_bind, zeroValue, typeInfo, hi, hzz, Result.andThen]
  have hrep : ((Array.range (c * 1)).map fun j => (if c * 1 = 0 then #[] else c0.den.cells)[j % (if c * 1 = 0 then #[] else c0.den.cells).size]!) = ((List.replicate l c0).map C.den ++ (List.replicate (c - l) c0).map C.den).toArray := by
    rw [← List.map_append, List.replicate_append_replicate, show l + (c - l) = c from by omega]
    by_cases h0 : c * 1 = 0
    · rw [if_pos h0, h0]
      have : c = 0 := by omega
      subst this; simp
    · rw [if_neg h0, ← rep_cells]; simp
  simp only [execOp, Instr.makeSlice, hf.ev hx, hf.ev hy, V.den, C.den, asInt, asIntOf, Sem.run_bind, Sem.run_pure, Result.andThen_ok, run_underlying hu, typeInfo, program, Sem.run, hi]
  simp only [Sem.run_bind, Sem.run_pure, Result.andThen_ok, wl, wc, b1, b2, b3, b4, Bool.or_false, decide_false, Bool.false_eq_true, if_false, askRoom, hroom, Int.toNat_natCast, run_sizeOf' hsz]
  by_cases h0 : c * 1 = 0
  · simp only [h0, if_true, Sem.run_bind, Sem.run_pure, Result.andThen_ok] at hrep ⊢
    rw [hrep]
    simp [newRow, newObj, Sem.run, pure, Sem.run_bind, Result.andThen]
  · simp only [h0, if_false, Sem.run_bind, Sem.run_pure, Result.andThen_ok, run_zero hz, V.den] at hrep ⊢
    rw [hrep]
    simp [newRow, newObj, Sem.run, pure, Sem.run_bind, Result.andThen]

/-- copy: one cell an element. -/
theorem ef_copy {d dT sT el sz : Nat} {x y : Operand} {r off n cap m c2 : Nat} {ad2 : Ad} {cs cs' news : List C} {T : Nat} {tl : List Value} (ht : TbOk X.P X.tb)
    (htt : X.tb.get dT = some (.slice el 1, sz)) (hx : ev e x = some (.c (.slc (.at r off) n cap))) (hy : ev e y = some (.c (.slc ad2 m c2))) (hn : Nat.blt d X.n = true)
    (hu : Up s ⟨.at r 0, cs, T, (0, 0), tl⟩ ⟨.at r 0, cs', T, (0, 0), tl⟩ s') (hk0 : news.length = min m n) (hrd : RdS X.w0 s ad2 news) (hfit : off + news.length ≤ cs.length) (hcs : spl cs off news = cs')
    (hk : KK ((d, .c (.i64 (news.length : Int))) :: e) s') :
    Ef X Q ⟨some d, .call ⟨.builtin .copy, #[x, y], #[dT, sT]⟩, ty, pos, af, gd⟩ e s KK := by
  refine ⟨fun K hK a w hf hs => ?_⟩
  subst hcs
  obtain ⟨hu1, hsz⟩ := und_slice ht htt
  obtain ⟨i, hi, hi1⟩ := szB_spec hsz
  have hb := (hs.own _ hu.mem).2
  have hput := hf.put (by simpa [Nat.blt_eq] using hn : d < X.n) (.c (.i64 (news.length : Int)))
  have fin : ∀ w', (Builtin.copy_ #[dT, sT] ty #[.slice (some ⟨r, off, none⟩) n cap, (C.slc ad2 m c2).den]).run X.P w = .ok (goInt news.length) w' → St w [⟨.at r 0, spl cs off news, T, (0, 0), tl⟩] w' →
      Oper.wp X.P ⟨some d, .call ⟨.builtin .copy, #[x, y], #[dT, sT]⟩, ty, pos, af, gd⟩ a w K Q := by
    intro w' hr hst
    unfold Oper.wp
    have : (execOp a.eval ⟨some d, .call ⟨.builtin .copy, #[x, y], #[dT, sT]⟩, ty, pos, af, gd⟩).run X.P w = .ok (.value (goInt news.length)) w' := by
      simp only [execOp, resolve, Sem.run_bind, Sem.run_pure, Result.andThen_ok, invoke, builtin, List.map_toArray, List.map_cons, List.map_nil, hf.ev hx, hf.ev hy, V.den]
      rw [show (C.slc (.at r off) n cap).den = .slice (some ⟨r, off, none⟩) n cap from rfl, hr]; rfl
    rw [this, Oper.upon_value]
    exact hK _ _ hk _ _ hput (hs.up hu rfl hst)
  cases hd2 : ad2.den with
  | none =>
    have hnews : news = [] := hrd.none hd2
    have e2 : (C.slc ad2 m c2).den = .slice none m c2 := by simp [C.den, hd2]
    rw [e2] at fin
    subst hnews
    refine fin w ?_ (St.of_own (fun p hp => ?_) (by simp))
    · have h0 : Nat.min m n = 0 := hk0.symm
      simp [Builtin.copy_, run_underlying hu1, sizeOf, typeInfo, hi, Builtin.lenOf, Builtin.firstCells, storeCells, goInt]
      have : min m n = 0 := h0
      omega
    · simp only [List.mem_singleton] at hp; subst hp
      refine ⟨rfl, ?_⟩
      rw [hb]
      simp [Blk.obj, spl]
  | some a2 =>
    have e2 : (C.slc ad2 m c2).den = .slice (some a2) m c2 := by simp [C.den, hd2]
    rw [e2] at fin
    have hr := run_copy_row (P := X.P) w dT sT ty el r off n cap a2 m c2 _ T (news.map C.den) hu1 (by simp [hi, hi1]) hb (by rw [List.length_map, hk0])
      (hrd.some hd2 hs) (by first | (simp only [List.length_map, List.size_toArray, List.length_append]; done) | (simp only [List.length_map, List.size_toArray, List.length_append]; omega)) (fun u hu => by obtain ⟨c, _, rfl⟩ := List.mem_map.1 hu; exact oneCell_den c)
    rw [List.length_map] at hr
    refine fin _ hr ?_
    have e1 : ((cs.map C.den ++ tl).toArray.toList.take off ++ news.map C.den ++ (cs.map C.den ++ tl).toArray.toList.drop (off + news.length)) = (spl cs off news).map C.den ++ tl := by
      have h1 : off ≤ cs.length := by omega
      simp only [spl, List.map_append, List.map_take, List.map_drop]
      rw [List.take_append_of_le_length (by simpa using h1), List.drop_append_of_le_length (by simpa using hfit)]
      simp [List.append_assoc]
    rw [e1]
    exact setRow_St hb ⟨.at r 0, spl cs off news, T, (0, 0), tl⟩ rfl rfl rfl

/-! ### comparisons -/
/-- A type that is an array of bytes, or of such arrays. -/
def BArr (P : Program) (d t n : Nat) : Prop := ∀ w (x y : List UInt8), x.length = n → y.length = n → (Op.equalIn d t (ba x) (ba y)).run P w = .ok (decide (x = y)) w

theorem eqItems_bytes {P : Program} {d e z : Nat} (x y : List UInt8)
    (H : ∀ i, (i + 1) * z ≤ x.length → (i + 1) * z ≤ y.length → ∀ w, ∃ a b, (part e ((bc x).map C.den).toArray (i * z)).run P w = .ok a w ∧ (part e ((bc y).map C.den).toArray (i * z)).run P w = .ok b w ∧
      (Op.equalIn d e a b).run P w = .ok (decide ((x.drop (i * z)).take z = (y.drop (i * z)).take z)) w) :
    ∀ (m k : Nat) (w : World), (k + m) * z ≤ x.length → (k + m) * z ≤ y.length →
      (Op.eqItems d e z ((bc x).map C.den).toArray ((bc y).map C.den).toArray (List.range' k m)).run P w = .ok (decide ((x.drop (k * z)).take (m * z) = (y.drop (k * z)).take (m * z))) w
  | 0, k, w, h1, h2 => by simp [Op.eqItems]
  | m + 1, k, w, h1, h2 => by
    have hz : (k + 1) * z ≤ (k + (m + 1)) * z := Nat.mul_le_mul_right z (by omega)
    obtain ⟨a, b, p1, p2, p3⟩ := H k (Nat.le_trans hz h1) (Nat.le_trans hz h2) w
    have ih := eqItems_bytes x y H m (k + 1) w (by rw [show k + 1 + m = k + (m + 1) from by omega]; exact h1) (by rw [show k + 1 + m = k + (m + 1) from by omega]; exact h2)
    simp only [List.range'_succ, Op.eqItems, Sem.run_bind, p1, p2, p3, Result.andThen_ok]
    have split : ∀ l : List UInt8, (l.drop (k * z)).take ((m + 1) * z) = (l.drop (k * z)).take z ++ (l.drop ((k + 1) * z)).take (m * z) := fun l => by
      rw [Nat.succ_mul, Nat.add_comm (m * z) z, List.take_add, List.drop_drop, Nat.succ_mul]
    rw [split x, split y]
    have hl : ((x.drop (k * z)).take z).length = ((y.drop (k * z)).take z).length := by
      have e1 : (k + 1) * z = k * z + z := Nat.succ_mul k z
      simp only [List.length_take, List.length_drop]; omega
    by_cases he : (x.drop (k * z)).take z = (y.drop (k * z)).take z
    · simp only [he, decide_true, Bool.not_true, Bool.false_eq_true, if_false, List.append_cancel_left_eq]
      exact ih
    · have : ¬ ((x.drop (k * z)).take z ++ (x.drop ((k + 1) * z)).take (m * z) = (y.drop (k * z)).take z ++ (y.drop ((k + 1) * z)).take (m * z)) := fun h => he (List.append_inj h hl).1
      simp only [he, this, decide_false, Bool.not_false, if_true]
      rfl

theorem cellsOf_of {P : Program} {t z : Nat} (h : szB P t z = true) : P.cellsOf t = z := by
  obtain ⟨i, hi, hz⟩ := szB_spec h
  simp [Program.cellsOf, hi, hz]

theorem barr_u8 {P : Program} {tb : Tb} (ht : TbOk P tb) {t el n sz s1 : Nat} (htt : tb.get t = some (.arr n el 1, sz)) (hte : tb.get el = some (.int .u8, s1)) (d : Nat) : BArr P (d + 2) t n := by
  intro w x y hx hy
  obtain ⟨hu, hsz⟩ := und_arr ht htt
  obtain ⟨i, hi, _⟩ := szB_spec hsz
  unfold ba
  rw [run_equalIn_array w (d + 1) _ _ hu hi, cellsOf_of hsz, List.range_eq_range']
  rw [eqItems_bytes x y (fun j h1 h2 w => ?_) n 0 w (by omega) (by omega)]
  · simp only [List.drop_zero, Nat.mul_one]
    rw [List.take_of_length_le (by omega), List.take_of_length_le (by omega)]
  · have jx : j < x.length := by omega
    have jy : j < y.length := by omega
    refine ⟨(C.u8 x[j]).den, (C.u8 y[j]).den, ?_, ?_, ?_⟩
    · rw [Nat.mul_one]; exact run_part_sc ht hte rfl (by simp [bc, jx]) w
    · rw [Nat.mul_one]; exact run_part_sc ht hte rfl (by simp [bc, jy]) w
    · rw [C.den, C.den, run_equalIn_int w d el .u8 .u8 _ _ (und_int ht hte), eqU8]
      congr 1
      have ex : (x.drop (j * 1)).take 1 = [x[j]] := by rw [Nat.mul_one, List.drop_eq_getElem_cons jx]; rfl
      have ey : (y.drop (j * 1)).take 1 = [y[j]] := by rw [Nat.mul_one, List.drop_eq_getElem_cons jy]; rfl
      rw [ex, ey]
      simp

theorem barr_arr {P : Program} {tb : Tb} (ht : TbOk P tb) {t el n z sz : Nat} {ti : TI} (htt : tb.get t = some (.arr n el z, sz)) (hte : tb.get el = some (ti, z)) (hag : ti.ag = true) {d : Nat} (H : BArr P d el z) : BArr P (d + 1) t (n * z) := by
  intro w x y hx hy
  obtain ⟨hu, hsz⟩ := und_arr ht htt
  obtain ⟨i, hi, _⟩ := szB_spec hsz
  unfold ba
  rw [run_equalIn_array w d _ _ hu hi, cellsOf_of hsz, List.range_eq_range']
  rw [eqItems_bytes x y (fun j h1 h2 w => ?_) n 0 w (by simp [hx]) (by simp [hy])]
  · simp only [Nat.zero_mul, List.drop_zero]
    rw [List.take_of_length_le (by omega), List.take_of_length_le (by omega)]
  · have e1 : (j + 1) * z = j * z + z := Nat.succ_mul j z
    refine ⟨_, _, run_part_ag ht hte hag w, run_part_ag ht hte hag w, ?_⟩
    have := H w ((x.drop (j * z)).take z) ((y.drop (j * z)).take z) (by simp; omega) (by simp; omega)
    simpa [ba, bc, List.map_take, List.map_drop] using this

def noGuard (P : Program) (t : Nat) : Bool := !P.eqGuardType P.depth t

theorem qt_eq_bytes {d : Option Nat} {t n y2 : Nat} {x y : Operand} {a b : List UInt8} (hB : BArr X.P 10000 t n) (hg : noGuard X.P t = true) (hx : ev e x = some (.agg (bc a))) (hy : ev e y = some (.agg (bc b))) (ha : a.length = n) (hb : b.length = n) :
    Qt X ⟨d, .binOp .eql t x y y2, ty, pos, af, gd⟩ e s (.c (.bool (decide (a = b)))) := by
  refine ⟨fun ac w hf hs => ?_⟩
  have h1 := hB w a b ha hb
  have hg' : X.P.eqGuardType X.P.depth t = false := by simpa [noGuard] using hg
  simp only [execOp, hf.ev hx, hf.ev hy]
  unfold ba at h1
  simp [V.den, C.den, eqGuard, program, Sem.run, Sem.run_bind, Result.andThen, hg', binOp, Op.equal, Op.maxDepth, h1]
theorem qt_neq_bytes {d : Option Nat} {t n y2 : Nat} {x y : Operand} {a b : List UInt8} (hB : BArr X.P 10000 t n) (hg : noGuard X.P t = true) (hx : ev e x = some (.agg (bc a))) (hy : ev e y = some (.agg (bc b))) (ha : a.length = n) (hb : b.length = n) :
    Qt X ⟨d, .binOp .neq t x y y2, ty, pos, af, gd⟩ e s (.c (.bool (!decide (a = b)))) := by
  refine ⟨fun ac w hf hs => ?_⟩
  have h1 := hB w a b ha hb
  have hg' : X.P.eqGuardType X.P.depth t = false := by simpa [noGuard] using hg
  simp only [execOp, hf.ev hx, hf.ev hy]
  unfold ba at h1
  simp [V.den, C.den, eqGuard, program, Sem.run, Sem.run_bind, Result.andThen, hg', binOp, Op.equal, Op.maxDepth, h1]

end
end Go.Hw

/- Regions in whatever order whose head only reads or calls what leaves no mark: the written order serves for every order; a tail that stands in a row is walked as written. -/
set_option linter.unusedVariables false
namespace Go.Hw
section
variable {P : Program} {ops : Array Oper} {md : Region.Mode} {C : World → Prop} {n : Nat} {L : Array Bool → Act → Prop}

/-- The head's part, in whatever order. -/
def headQ (P : Program) (md : Region.Mode) (ops : Array Oper) (C : World → Prop) (n : Nat) (L : Array Bool → Act → Prop) : Nat → Array Bool → Act → Prop
  | 0, l, a => L l a
  | f + 1, l, a => Region.ready md ops l ≠ [] ∧ ∀ i ∈ Region.ready md ops l, i < n ∧ qOp P ops C i (headQ P md ops C n L f (l.setIfInBounds i true)) a

theorem any_of_headQ {g : Nat} {Q : Exit → Act → World → Prop} (hL : ∀ l a w, C w → L l a → wpAny P md ops Q g l a w) : ∀ (f : Nat) (l : Array Bool) (a : Act) (w : World), C w → headQ P md ops C n L f l a → wpAny P md ops Q (f + g) l a w
  | 0, l, a, w, hw, h => by rw [Nat.zero_add]; exact hL l a w hw h
  | f + 1, l, a, w, hw, h => by
    have e : f + 1 + g = (f + g) + 1 := by omega
    rw [e]
    exact ⟨fun h0 => (h.1 h0).elim, fun i hi => wpOp_of_qOp hw (fun a' w' hw' h' => any_of_headQ hL f _ a' w' hw' h') (h.2 i hi).2⟩

theorem not_ready_of_edge {l : Array Bool} {i j : Nat} (hi : i ∈ Region.ready md ops l) (hj : j ∈ Region.ready md ops l) {oj : Oper} (hoj : ops[j]? = some oj) : ∀ e ∈ oj.after, Region.binds md e = true → e.on ≠ i := by
  intro e he hb heq
  obtain ⟨_, o, ho, hall⟩ := mem_ready.1 hj
  have : o = oj := Option.some.inj (ho.symm.trans hoj)
  subst this
  have h1 := hall e he hb
  rw [heq, getD_both (mem_ready.1 hi).1] at h1
  cases h1

theorem headQ_first {i : Nat} {oi : Oper} {v : Value} (hi : ops[i]? = some oi) (hsel : ∀ (j : Nat) (o : Oper) cs b, ops[j]? = some o → o.op ≠ .select cs b) (hs : Region.sinkB md ops n = true) (hc : Region.chainB md ops n = true) (hn : n < ops.size) (hin : i < n)
    (hL : ∀ l a, L l a → ∀ j ∈ Region.ready md ops l, n ≤ j) : ∀ (f : Nat) (l : Array Bool) (a : Act), HeadInv md ops n l →
      (∀ j oj, ops[j]? = some oj → j ≠ i → l.getD j true = false → (∀ e ∈ oj.after, Region.binds md e = true → e.on ≠ i) → oi.apart ops oj = true) →
      i ∈ Region.ready md ops l → YieldsIn P ops C oi v a → headQ P md ops C n L f (l.setIfInBounds i true) (a.put oi.dst v) → headQ P md ops C n L (f + 1) l a := by
  intro f
  induction f with
  | zero =>
    intro l a inv _ hr hy H
    refine ⟨fun h0 => (by rw [h0] at hr; cases hr), fun j hj => ?_⟩
    have hjn : j < n := Nat.lt_of_not_le fun hle => tail_waits hs hc hn inv _ i rfl hin (mem_ready.1 hr).1 j hle hj
    by_cases hij : j = i
    · subst hij; exact ⟨hjn, hy.qOp hi H⟩
    · exact absurd (hL _ _ H j (ready_mono hj hij)) (by omega)
  | succ f ih =>
    intro l a inv hfree hr hy H
    refine ⟨fun h0 => (by rw [h0] at hr; cases hr), fun j hj => ?_⟩
    have hjn : j < n := Nat.lt_of_not_le fun hle => tail_waits hs hc hn inv _ i rfl hin (mem_ready.1 hr).1 j hle hj
    by_cases hij : j = i
    · subst hij; exact ⟨hjn, hy.qOp hi H⟩
    · obtain ⟨hun, oj, hoj, _⟩ := mem_ready.1 hj
      have h2 := qOp_put hoj (hfree j oj hoj hij hun (not_ready_of_edge hr hj hoj)) (fun cs b => hsel i oi cs b hi) (fun cs b => hsel j oj cs b hoj) hy (H.2 j (ready_mono hj hij)).2
      refine ⟨hjn, qOp_mono (fun a' h3 => ih _ a' (inv.set hj hjn) (fun k ok hk hki hu hno => hfree k ok hk hki ?_ hno) (ready_mono hr (Ne.symm hij)) h3.1 ?_) h2⟩
      · by_cases hjk : j = k
        · subst hjk; exact hun
        · rwa [getD_set_ne true hjk] at hu
      · rw [Array.setIfInBounds_comm _ _ hij]; exact h3.2

theorem headQ_lex {g : Nat} {Lq : Act → Prop} (hsel : Region.noSelect ops = true) (hs : Region.sinkB md ops n = true) (hc : Region.chainB md ops n = true) (hn : n < ops.size) : ∀ (l : List Oper) (k : Nat) (ls : Array Bool) (a : Act),
    (∀ j, j < l.length → l[j]? = ops[k + j]?) → k + l.length = n → HeadInv md ops n ls → Region.lexHead md ops g l.length k ls = true → wpQuiet P ops C Lq l a →
    headQ P md ops C n (fun ls' a' => Region.seqB md ops g n ls' = true ∧ Lq a') l.length ls a
  | [], k, ls, a, _, hk, _, hB, h => by
    have : k = n := hk
    subst this
    exact ⟨hB, h⟩
  | o :: l, k, ls, a, hl, hk, inv, hB, h => by
    have h0 : ops[k]? = some o := (hl 0 (Nat.zero_lt_succ _)).symm
    simp only [List.length_cons] at hk hl
    simp only [List.length_cons, Region.lexHead, Bool.and_eq_true] at hB
    have hkn : k < n := by omega
    have hr : k ∈ Region.ready md ops ls := by simpa using hB.1.1
    have hq : qOp P ops C k (wpQuiet P ops C Lq l) a := by unfold qOp; simp only [h0]; exact h
    obtain ⟨v, hy, hK⟩ := yieldsIn_of_qOp h0 hq
    refine headQ_first h0 (Region.noSelect_spec hsel) hs hc hn hkn (fun _ _ hL => seqB_ready hL.1) l.length ls a inv (Region.free_spec h0 hB.1.2) hr hy ?_
    refine headQ_lex hsel hs hc hn l (k + 1) _ _ (fun j hj => ?_) (by omega) (inv.set hr hkn) hB.2 hK
    have := hl (j + 1) (by omega)
    rw [show k + 1 + j = k + (j + 1) by omega]
    simpa using this

theorem wp_region_qt {id : Nat} {Q : Exit → Act → World → Prop} {a : Act} {w : World} {l : List Oper} (n : Nat) (hm : P.follows .mixedOrders = true) (hB : Region.lexTailB .any l.toArray n = true) (hC : C { w with drawn := w.drawn + 1 })
    (h : wpQuiet P l.toArray C (fun a' => ∀ w', C w' → wpList P l.toArray Q (l.drop n) a' w') (l.take n) a) : (Code.region id l.toArray true).wp P Q a w := by
  simp only [Region.lexTailB, Bool.and_eq_true, decide_eq_true_eq] at hB
  obtain ⟨⟨⟨⟨hsel, hn⟩, hs⟩, hc⟩, hlex⟩ := hB
  have hn' : n < l.length := by simpa using hn
  have hd : (l.drop n).length = l.toArray.size - n := by simp
  have ht : (l.take n).length = n := by simp; omega
  have inv : HeadInv .any l.toArray n (Array.replicate l.toArray.size false) :=
    ⟨by simp, fun j oj _ h0 => by (rw [getD_replicate_false] at h0; cases h0), fun t _ h0 => getD_in (by simpa using h0) (getD_replicate_false _ _)⟩
  have H := headQ_lex (md := .any) (g := l.toArray.size - n) hsel hs hc hn (l.take n) 0 _ a (fun j hj => by rw [ht] at hj; simp [hj]) (by simpa using ht) inv (by rw [ht]; exact hlex) h
  have H2 := any_of_headQ (Q := Q) (g := l.toArray.size - n) (fun ls a' w' hw' hL => by
    have := wpAny_of_seq (md := .any) (Q' := Q) (l.drop n) n ls a' w' (fun j => by simp [List.getElem?_drop]) (by rw [hd]; exact hL.1) (hL.2 w' hw')
    rwa [hd] at this) _ _ _ _ hC H
  rw [ht, show n + (l.toArray.size - n) = l.toArray.size by omega] at H2
  exact wp_region_any hm H2
end

/-! ### The frame's rules -/
/-- The rest of a head: which reads only the blocks s. -/
structure WQ (X : Cx) (Q : Exit → Act → World → Prop) (ops : Array Oper) (tl : List Oper) (l : List Oper) (e : Env) (s : Hp) : Prop where
  go : ∀ a, Fits X.n e a → wpQuiet X.P ops (St X.w0 s) (fun a' => ∀ w', St X.w0 s w' → wpList X.P ops Q tl a' w') l a

section
variable {X : Cx} {k : Kt} {Q : Exit → Act → World → Prop} {ops : Array Oper} {tl l : List Oper} {e e' : Env} {s s' : Hp} {o : Oper} {v : V}

theorem wc_quiet {id : Nat} {l : List Oper} (hm : X.P.follows .mixedOrders = true) (hB : Region.lexB .any l.toArray = true) (h : WQ X k.q l.toArray [] l e s) : WC X k (.region id l.toArray true) e s := by
  refine ⟨fun a w hf hs => wp_region_quiet (C := St X.w0 s) hm hB (hs.drew _) ?_⟩
  have := h.go a hf
  simpa [wpList] using this
theorem wc_tail {id : Nat} {l : List Oper} (n : Nat) (hm : X.P.follows .mixedOrders = true) (hB : Region.lexTailB .any l.toArray n = true) (h : WQ X k.q l.toArray (l.drop n) (l.take n) e s) : WC X k (.region id l.toArray true) e s :=
  ⟨fun a w hf hs => wp_region_qt (C := St X.w0 s) n hm hB (hs.drew _) (h.go a hf)⟩

theorem wq_done (h : WL X Q ops tl e s) : WQ X Q ops tl [] e s := ⟨fun a hf w hs => h.go a w hf hs⟩

theorem wq_q {d : Nat} (hg : o.guard = none) (hd : o.dst = some d) (hn : Nat.blt d X.n = true) (hq : Qt X o e s v) (h : WQ X Q ops tl l ((d, v) :: e) s) : WQ X Q ops tl (o :: l) e s := by
  refine ⟨fun a hf => ?_⟩
  unfold wpQuiet
  rw [if_pos (by simp [Region.wanted, hg])]
  refine ⟨v.den, fun w hw => ?_, (by rw [hd]; exact h.go _ (hf.put (by simpa [Nat.blt_eq] using hn) v))⟩
  unfold Oper.quietAt
  rw [hq.run a w hf hw]
  exact ⟨rfl, rfl⟩
theorem wq_gd {j d : Nat} {b : Bool} (hg : o.guard = some (j, b)) (hv : gVal ops e j = some b) (hd : o.dst = some d) (hn : Nat.blt d X.n = true) (hq : Qt X o e s v) (h : WQ X Q ops tl l ((d, v) :: e) s) : WQ X Q ops tl (o :: l) e s := by
  refine ⟨fun a hf => ?_⟩
  unfold wpQuiet
  rw [if_pos (by simp [Region.wanted, hg, yielded_of hf hv])]
  refine ⟨v.den, fun w hw => ?_, (by rw [hd]; exact h.go _ (hf.put (by simpa [Nat.blt_eq] using hn) v))⟩
  unfold Oper.quietAt
  rw [hq.run a w hf hw]
  exact ⟨rfl, rfl⟩
theorem wq_skip {j : Nat} {b b' : Bool} {d : Nat} (hg : o.guard = some (j, b)) (hd : o.dst = some d) (hn : Nat.blt d X.n = true) (hv : gVal ops e j = some b') (hb : (b' == b) = false) (h : WQ X Q ops tl l ((d, .t0) :: e) s) : WQ X Q ops tl (o :: l) e s := by
  refine ⟨fun a hf => ?_⟩
  unfold wpQuiet
  have hy := yielded_of hf hv
  rw [if_neg (by simp [Region.wanted, hg, hy]; intro h; simp [h] at hb), hd]
  exact h.go _ (hf.put (by simpa [Nat.blt_eq] using hn) .t0)

theorem qa_call {f : Nat} {args : List Operand} {ats : Array TypeId} {d : Option Nat} {ty : Nat} {pos : String} {af : Array Edge} {gd : Option (Nat × Bool)} {vs : List V} (hc : callable X.P f = true) (hv : evl e args = some vs)
    (hcall : ∀ w, CallsV X.P f vs w fun en w' => en = .returned v.den ∧ St w [] w') {a : Act} (hf : Fits X.n e a) {w : World} (hw : St X.w0 s w) : (⟨d, .call ⟨.value (.func f), args.toArray, ats⟩, ty, pos, af, gd⟩ : Oper).quietAt X.P a (St X.w0 s) w v.den := by
  unfold Oper.quietAt
  rw [run_call hc rfl hf (by simpa using hv) w]
  exact ⟨rfl, (hcall w).mono fun en w' ⟨h1, h2⟩ => ⟨h1, hw.ext h2⟩⟩
/-- A call that hands back one value, whatever the world. -/
theorem wq_call {f : Nat} {args : List Operand} {ats : Array TypeId} {d : Nat} {ty : Nat} {pos : String} {af : Array Edge} {vs : List V} (v : V) (hc : callable X.P f = true) (hv : evl e args = some vs) (hn : Nat.blt d X.n = true)
    (hcall : ∀ w, St X.w0 s w → CallsV X.P f vs w fun en w' => en = .returned v.den ∧ St w [] w') (h : WQ X Q ops tl l ((d, v) :: e) s) : WQ X Q ops tl (⟨some d, .call ⟨.value (.func f), args.toArray, ats⟩, ty, pos, af, none⟩ :: l) e s := by
  refine ⟨fun a hf => ?_⟩
  unfold wpQuiet
  rw [if_pos (by simp [Region.wanted])]
  refine ⟨v.den, fun w hw => ?_, h.go _ (hf.put (by simpa [Nat.blt_eq] using hn) v)⟩
  unfold Oper.quietAt
  rw [run_call hc rfl hf (by simpa using hv) w]
  exact ⟨rfl, (hcall w hw).mono fun en w' ⟨h1, h2⟩ => ⟨h1, hw.ext h2⟩⟩
theorem wq_callg {f : Nat} {args : List Operand} {ats : Array TypeId} {d : Nat} {ty : Nat} {pos : String} {af : Array Edge} {vs : List V} {j : Nat} {b : Bool} (v : V) (hgv : gVal ops e j = some b) (hc : callable X.P f = true) (hv : evl e args = some vs) (hn : Nat.blt d X.n = true)
    (hcall : ∀ w, St X.w0 s w → CallsV X.P f vs w fun en w' => en = .returned v.den ∧ St w [] w') (h : WQ X Q ops tl l ((d, v) :: e) s) : WQ X Q ops tl (⟨some d, .call ⟨.value (.func f), args.toArray, ats⟩, ty, pos, af, some (j, b)⟩ :: l) e s := by
  refine ⟨fun a hf => ?_⟩
  unfold wpQuiet
  rw [if_pos (by simp [Region.wanted, yielded_of hf hgv])]
  refine ⟨v.den, fun w hw => ?_, h.go _ (hf.put (by simpa [Nat.blt_eq] using hn) v)⟩
  unfold Oper.quietAt
  rw [run_call hc rfl hf (by simpa using hv) w]
  exact ⟨rfl, (hcall w hw).mono fun en w' ⟨h1, h2⟩ => ⟨h1, hw.ext h2⟩⟩
theorem wq_as {d : Nat} {v v' : V} (h : v = v') (ht : WQ X Q ops tl l ((d, v') :: e) s) : WQ X Q ops tl l ((d, v) :: e) s := h ▸ ht
theorem wq_bool {d : Nat} {b : Bool} (ht : b = true → WQ X Q ops tl l ((d, .c (.bool true)) :: e) s) (hf : b = false → WQ X Q ops tl l ((d, .c (.bool false)) :: e) s) : WQ X Q ops tl l ((d, .c (.bool b)) :: e) s := by
  cases b
  · exact hf rfl
  · exact ht rfl
theorem wq_sub (he : Sub e e') (h : WQ X Q ops tl l e' s) : WQ X Q ops tl l e s := ⟨fun a hf => h.go a (hf.sub he)⟩
end
end Go.Hw

/- What a call is told of the cells that it reads. -/
set_option linter.unusedVariables false
namespace Go.Hw

/-- In that world those cells lie at that address. -/
def Cells (w : World) (ad : Ad) (l : List C) : Prop := match ad with
  | .nil => l = []
  | .raw _ => l = []
  | .mp _ _ => l = []
  | .at r off => ∀ i c, l[i]? = some c → w.cell? ⟨r, off + i, none⟩ = some c.den

/-- The listed blocks are others. -/
def Off (w : World) (ad : Ad) (s : Hp) : Prop := ∀ b ∈ s, (∀ k, b.key = some k → w.heap.size ≤ k) ∨ ad.key ≠ b.key

theorem off_nil {w : World} {ad : Ad} : Off w ad [] := fun b hb => by cases hb
theorem off_new {w : World} {ad : Ad} {s : Hp} {b : Blk} (hb : ∀ k, b.key = some k → w.heap.size ≤ k) (h : Off w ad s) : Off w ad (b :: s) := fun p hp => by
  rcases List.mem_cons.1 hp with rfl | hp
  · exact .inl hb
  · exact h p hp
theorem off_ne {w : World} {ad : Ad} {s : Hp} {b : Blk} (hb : ad.key ≠ b.key) (h : Off w ad s) : Off w ad (b :: s) := fun p hp => by
  rcases List.mem_cons.1 hp with rfl | hp
  · exact .inr hb
  · exact h p hp

theorem off_one {w : World} {ad : Ad} {r o : Nat} {cs : List C} {T : Nat} {fr : Nat × Nat} {tl : List Value} (h : ad.key ≠ some r) : Off w ad [⟨.at r o, cs, T, fr, tl⟩] := off_ne h off_nil

theorem adv_key' (ad : Ad) (l m z : Nat) : (ad.adv l m z).key = ad.key := by cases ad <;> rfl
/-- The slice's block is there. -/
def Lives (w : World) (ad : Ad) : Prop := ∀ k, ad.key = some k → k < w.heap.size
theorem lives_own {w0 w : World} {s : Hp} {b : Blk} (h : St w0 s w) (hl : Lk s b) : Lives w b.a := fun k hk => h.lt _ hl.mem k hk
theorem Lives.up {w0 w : World} {s : Hp} {ad : Ad} (h : Lives w0 ad) (hs : St w0 s w) : Lives w ad := fun k hk => Nat.lt_of_lt_of_le (h k hk) hs.size
theorem Lives.adv {w : World} {ad : Ad} {l m z : Nat} (h : Lives w ad) : Lives w (ad.adv l m z) := fun k hk => h k (by rw [adv_key'] at hk; exact hk)
theorem Lives.ne {w0 : World} {ad : Ad} {r : Nat} (h : Lives w0 ad) (hr : w0.heap.size ≤ r) : ad.key ≠ some r := fun e => by have := h r e; omega

theorem cell_lt {w : World} {r off : Nat} {c : C} (h : w.cell? ⟨r, off, none⟩ = some c.den) : r < w.heap.size := by
  unfold World.cell? at h
  cases hg : w.heap[r]? with
  | none => simp [hg] at h
  | some o => exact lt_of_get hg

theorem rd_cells {w0 : World} {s : Hp} {ad : Ad} {l : List C} (hc : Cells w0 ad l) (ho : Off w0 ad s) : RdS w0 s ad l := by
  cases ad with
  | nil => exact hc
  | raw _ => exact hc
  | mp _ _ => exact hc
  | «at» r off =>
    intro w hw i c hi
    have h0 := hc i c hi
    have hlt := cell_lt h0
    refine rc_old h0 (fun p hp hk => ?_) w hw
    rcases ho p hp with h1 | h1
    · have := h1 r hk; omega
    · exact h1 (by rw [hk]; rfl)
theorem rs_cells {w0 : World} {s : Hp} {r off : Nat} {l : List C} (hc : Cells w0 (.at r off) l) (ho : Off w0 (.at r off) s) : RS w0 s r off l := rd_cells hc ho
theorem cells_rd {w0 w : World} {s : Hp} {ad : Ad} {l : List C} (h : RdS w0 s ad l) (hw : St w0 s w) : Cells w ad l := by
  cases ad with
  | nil => exact h
  | raw _ => exact h
  | mp _ _ => exact h
  | «at» r off => exact h w hw
theorem cells_lk {w0 w : World} {s : Hp} {r off o : Nat} {cs l : List C} {T fr tl} (hw : St w0 s w) (hl : Lk s ⟨.at r o, cs, T, fr, tl⟩) (hc : ∀ i c, l[i]? = some c → cs[off + i]? = some c) : Cells w (.at r off) l := fun i c hi => hw.cell hl (hc i c hi)

theorem rd_lk {w0 : World} {s : Hp} {r off o : Nat} {cs l : List C} {T fr tl} (hl : Lk s ⟨.at r o, cs, T, fr, tl⟩) (hc : ∀ i c, l[i]? = some c → cs[off + i]? = some c) : RdS w0 s (.at r off) l := rs_lk hl hc

theorem Cells.ext {w w' : World} {ad : Ad} {l : List C} (h : Cells w ad l) (hs : St w [] w') : Cells w' ad l := cells_rd (rd_cells h off_nil) hs

theorem adv_key (ad : Ad) (l m z : Nat) : (ad.adv l m z).key = ad.key := by cases ad <;> rfl
theorem Off.adv {w : World} {ad : Ad} {s : Hp} {l m z : Nat} (h : Off w ad s) : Off w (ad.adv l m z) s := fun b hb => by rw [adv_key]; exact h b hb
theorem Cells.adv {w : World} {ad : Ad} {l : List C} (h : Cells w ad l) {k m : Nat} (hm : l.length ≤ m) : Cells w (ad.adv k m 1) (l.drop k) := by
  cases ad with
  | nil => show l.drop k = []; rw [show l = [] from h]; exact List.drop_nil
  | raw _ => show l.drop k = []; rw [show l = [] from h]; exact List.drop_nil
  | mp _ _ => show l.drop k = []; rw [show l = [] from h]; exact List.drop_nil
  | «at» r off =>
    simp only [Ad.adv]
    split
    · rename_i hk
      have : l.drop k = [] := List.drop_eq_nil_of_le (by omega)
      rw [this]
      intro i c hi; simp at hi
    · intro i c hi
      rw [List.getElem?_drop] at hi
      have := h _ c hi
      rw [Nat.mul_one, Nat.add_assoc]; exact this
theorem Cells.advz {w : World} {ad : Ad} {l : List C} (h : Cells w ad l) {k m z : Nat} (hm : l.length ≤ m * z) : Cells w (ad.adv k m z) (l.drop (k * z)) := by
  cases ad with
  | nil => show l.drop (k * z) = []; rw [show l = [] from h]; exact List.drop_nil
  | raw _ => show l.drop (k * z) = []; rw [show l = [] from h]; exact List.drop_nil
  | mp _ _ => show l.drop (k * z) = []; rw [show l = [] from h]; exact List.drop_nil
  | «at» r off =>
    simp only [Ad.adv]
    split
    · rename_i hk
      subst hk
      have : l.drop (m * z) = [] := List.drop_eq_nil_of_le hm
      rw [this]
      intro i c hi; simp at hi
    · intro i c hi
      rw [List.getElem?_drop] at hi
      have := h _ c hi
      rw [Nat.add_assoc]; exact this
theorem Cells.sub {w : World} {ad : Ad} {l l' : List C} (h : Cells w ad l) (hl : ∀ (i : Nat) c, l'[i]? = some c → l[i]? = some c) (hn : ad = .nil → l' = []) : Cells w ad l' := by
  cases ad with
  | nil => exact hn rfl
  | raw _ =>
    rw [show l = [] from h] at hl
    cases l' with
    | nil => rfl
    | cons x xs => have := hl 0 x rfl; simp at this
  | mp _ _ =>
    rw [show l = [] from h] at hl
    cases l' with
    | nil => rfl
    | cons x xs => have := hl 0 x rfl; simp at this
  | «at» r off => exact fun i c hi => h i c (hl i c hi)
theorem Cells.take {w : World} {ad : Ad} {l : List C} (h : Cells w ad l) (k : Nat) : Cells w ad (l.take k) := by
  cases ad with
  | nil => show l.take k = []; rw [show l = [] from h]; simp
  | raw _ => show l.take k = []; rw [show l = [] from h]; simp
  | mp _ _ => show l.take k = []; rw [show l = [] from h]; simp
  | «at» r off =>
    intro i c hi
    rw [List.getElem?_take] at hi
    split at hi
    · exact h i c hi
    · cases hi

theorem cells_own {w0 w : World} {s : Hp} {ad : Ad} {cs : List C} {T : Nat} {fr : Nat × Nat} {tl : List Value} (h : St w0 s w) (hl : Lk s ⟨ad, cs, T, fr, tl⟩) : Cells w ad cs := by
  cases ad with
  | nil => exact (h.own _ hl.mem).1
  | raw _ => exact (h.own _ hl.mem).1
  | mp _ _ => exact (h.own _ hl.mem).1
  | «at» r off =>
    have h0 := h.own _ hl.mem
    intro i c hi
    have hoff : off = 0 := h0.1
    subst hoff
    exact h.cell hl (by rw [Nat.zero_add]; exact hi)
theorem new_nil {w0 : World} : ∀ p ∈ ([] : Hp), ∀ k, p.key = some k → w0.heap.size ≤ k := fun p hp => by cases hp
theorem new_cons {w0 : World} {b : Blk} {s : Hp} (hb : ∀ k, b.key = some k → w0.heap.size ≤ k) (h : ∀ p ∈ s, ∀ k, p.key = some k → w0.heap.size ≤ k) : ∀ p ∈ b :: s, ∀ k, p.key = some k → w0.heap.size ≤ k := fun p hp => by
  rcases List.mem_cons.1 hp with rfl | hp
  · exact hb
  · exact h p hp
theorem spl_all {cs l : List C} (h : l.length = cs.length) : spl cs 0 l = l := by
  unfold spl; simp [h]
theorem lk_st {w0 w : World} {s : Hp} {b : Blk} (h : St w0 s w) (hl : Lk s b) : St w [b] w :=
  St.of_own (fun p hp => by simp only [List.mem_singleton] at hp; subst hp; exact h.own _ hl.mem) (by simp)

theorem off_key_ne {w0 w : World} {s : Hp} {b c : Blk} (h : St w0 (b :: s) w) (hl : Lk s c) (hk : ∃ k, b.key = some k) : b.key ≠ c.key := by
  have := h.nodup
  rw [List.pairwise_cons] at this
  rcases this.1 c hl.mem with h1 | h1
  · obtain ⟨k, hk⟩ := hk; rw [hk] at h1; cases h1
  · exact h1

/-- A part of a list of cells replaced. -/
theorem spl_mid (A : List C) (x : C) (t q : List UInt8) (u : Nat) (hA : A.length = 8) (hu : u ≤ t.length) : spl (A ++ x :: bc t) (9 + u) (bc q) = A ++ x :: bc (t.take u ++ q ++ t.drop (u + q.length)) := by
  unfold spl bc
  have h1 : (A ++ x :: t.map C.u8).take (9 + u) = A ++ x :: (t.take u).map C.u8 := by
    rw [List.take_append, hA, List.take_of_length_le (by omega), show 9 + u - 8 = u + 1 by omega, List.take_succ_cons, List.map_take]
  have h2 : (A ++ x :: t.map C.u8).drop (9 + u + (q.map C.u8).length) = (t.drop (u + q.length)).map C.u8 := by
    rw [List.drop_append, hA, List.drop_of_length_le (by simp [hA]; omega), List.length_map, show 9 + u + q.length - 8 = (u + q.length) + 1 by omega, List.drop_succ_cons, List.map_drop]
    rfl
  rw [h1, h2]
  simp
theorem spl_upd {n : Nat} (f g : Nat → C) (k : Nat) (hk : k < n) (h : ∀ j, j < n → j ≠ k → f j = g j) {x : C} (hx : x = g k) : spl ((List.range n).map f) k [x] = (List.range n).map g := by
  subst hx
  apply List.ext_getElem?
  intro j
  unfold spl
  rw [List.append_assoc, List.getElem?_append]
  have hl : ((List.range n).map f).length = n := by simp
  simp only [List.length_take, hl]
  have hm : min k n = k := by omega
  rw [hm]
  by_cases hj : j < k
  · have hjn : j < n := by omega
    rw [if_pos hj, List.getElem?_take_of_lt hj]
    simp [hjn, h j hjn (by omega)]
  · rw [if_neg hj]
    by_cases hji : j = k
    · subst hji; simp [hk]
    · rw [List.getElem?_append_right (by simp; omega), List.getElem?_drop]
      simp only [List.length_singleton]
      rw [show k + 1 + (j - k - 1) = j by omega]
      by_cases hjn : j < n
      · simp [hjn, h j hjn hji]
      · rw [List.getElem?_eq_none (by simp; omega), List.getElem?_eq_none (by simp; omega)]
theorem map_rep {n : Nat} {x : C} : List.replicate n x = (List.range n).map fun _ => x := by
  simp [List.map_const']
theorem bc_len (x : List UInt8) : (bc x).length = x.length := by simp [bc]
theorem bc_app (x y : List UInt8) : bc (x ++ y) = bc x ++ bc y := by simp [bc]
theorem bc_drop (x : List UInt8) (k : Nat) : (bc x).drop k = bc (x.drop k) := by simp [bc]
theorem bc_take (x : List UInt8) (k : Nat) : (bc x).take k = bc (x.take k) := by simp [bc]
end Go.Hw

/- Comparisons of bools, and with nil. -/
set_option linter.unusedVariables false
namespace Go.Hw
open Go.RowKit

def eqn (tb : Tb) (t : Nat) (a b : C) : Option Bool := match tb.get t, a, b with
  | some (.bool, _), .bool x, .bool y => some (x == y)
  | some (.ptr _, _), .ptr .nil, .ptr .nil => some true
  | some (.ptr _, _), .ptr (.at _ _), .ptr .nil => some false
  | some (.ptr _, _), .ptr .nil, .ptr (.at _ _) => some false
  | some (.slice _ _, _), .slc .nil _ _, .slc .nil _ _ => some true
  | some (.slice _ _, _), .slc (.at _ _) _ _, .slc .nil _ _ => some false
  | some (.slice _ _, _), .slc .nil _ _, .slc (.at _ _) _ _ => some false
  | _, _, _ => none

theorem und_bool {P : Program} {tb : Tb} (ht : TbOk P tb) {t z : Nat} (h : tb.get t = some (.bool, z)) : P.underlying t = some .bool := by
  have := ht.at h; unfold tOkB at this; simp only [Bool.and_eq_true] at this
  have := this.2
  split at this <;> simp_all
theorem und_ptr {P : Program} {tb : Tb} (ht : TbOk P tb) {t z k : Nat} (h : tb.get t = some (.ptr k, z)) : ∃ e, P.underlying t = some (.pointer e) := by
  have := ht.at h; unfold tOkB at this; simp only [Bool.and_eq_true] at this
  have := this.2
  split at this <;> simp_all

theorem run_eqnd {P : Program} {tb : Tb} (ht : TbOk P tb) {t : Nat} {a b : C} {r : Bool} (h : eqn tb t a b = some r) (w : World) (d : Nat) : (Op.equalIn (d + 1) t a.den b.den).run P w = .ok r w := by
  unfold eqn at h
  split at h <;> first
    | (rename_i h1
       simp only [Option.some.injEq] at h; subst h
       first
         | (have hu := und_bool ht h1; simp [Op.equalIn, run_underlying hu, C.den, Sem.run_bind, Result.andThen]; done)
         | (obtain ⟨el, hu⟩ := und_ptr ht h1; simp [Op.equalIn, run_underlying hu, C.den, Ad.den, Sem.run_bind, Result.andThen]; done)
         | (obtain ⟨hu, _⟩ := und_slice ht h1; simp [Op.equalIn, run_underlying hu, C.den, Ad.den, Sem.run_bind, Result.andThen]; done))
    | cases h
theorem run_eqn {P : Program} {tb : Tb} (ht : TbOk P tb) {t : Nat} {a b : C} {r : Bool} (h : eqn tb t a b = some r) (w : World) : (Op.equal t a.den b.den).run P w = .ok r w := run_eqnd ht h w 9999

theorem eqGuard_c (P : Program) (w : World) (op : BinOp) (t : TypeId) (x y : Operand) (a b : C) : (eqGuard op t x y a.den b.den).run P w = .ok () w := by
  unfold eqGuard
  cases a <;> cases b <;> simp [C.den] <;> split <;> rfl

section
variable {X : Cx} {d : Option Nat} {t y2 : Nat} {x y : Operand} {ty : Nat} {pos : String} {af : Array Edge} {gd : Option (Nat × Bool)} {e : Env} {s : Hp} {a b : C} {r : Bool}
theorem qt_eqn (ht : TbOk X.P X.tb) (hx : ev e x = some (.c a)) (hy : ev e y = some (.c b)) (h : eqn X.tb t a b = some r) : Qt X ⟨d, .binOp .eql t x y y2, ty, pos, af, gd⟩ e s (.c (.bool r)) := by
  refine ⟨fun ac w hf hs => ?_⟩
  have h1 := run_eqn ht h w
  simp only [execOp, hf.ev hx, hf.ev hy, V.den, Sem.run_bind, eqGuard_c, Result.andThen_ok]
  have hb : (binOp .eql t a.den b.den).run X.P w = .ok (.bool r) w := by
    unfold eqn at h
    split at h <;> first
      | (simp only [C.den, Ad.den] at h1 ⊢; simp [binOp, h1, Result.andThen]; done)
      | cases h
  rw [hb]; rfl
theorem qt_neqn (ht : TbOk X.P X.tb) (hx : ev e x = some (.c a)) (hy : ev e y = some (.c b)) (h : eqn X.tb t a b = some r) : Qt X ⟨d, .binOp .neq t x y y2, ty, pos, af, gd⟩ e s (.c (.bool (!r))) := by
  refine ⟨fun ac w hf hs => ?_⟩
  have h1 := run_eqn ht h w
  simp only [execOp, hf.ev hx, hf.ev hy, V.den, Sem.run_bind, eqGuard_c, Result.andThen_ok]
  have hb : (binOp .neq t a.den b.den).run X.P w = .ok (.bool (!r)) w := by
    unfold eqn at h
    split at h <;> first
      | (simp only [C.den, Ad.den] at h1 ⊢; simp [binOp, h1, Result.andThen]; done)
      | cases h
  rw [hb]; rfl
end
end Go.Hw

/- Strings that are indexed. -/
set_option linter.unusedVariables false
namespace Go.Hw
section
variable {X : Cx} {d : Option Nat} {ty : Nat} {pos : String} {af : Array Edge} {gd : Option (Nat × Bool)} {e : Env} {s : Hp}

theorem und_str {P : Program} {tb : Tb} (ht : TbOk P tb) {t z : Nat} (h : tb.get t = some (.str, z)) : P.underlying t = some .string := by
  have := ht.at h; unfold tOkB at this; simp only [Bool.and_eq_true] at this
  have := this.2
  split at this <;> simp_all

theorem cnt_den {c : C} {z : Int} (h : cnt c = some z) : ∃ k, c.den = .int k z := by
  cases c <;> simp only [cnt, Option.some.injEq, reduceCtorEq] at h <;> subst h <;> exact ⟨_, rfl⟩

theorem qt_index_str {t sz : Nat} {x i : Operand} {S : ByteArray} {c : C} {k : Nat} {b : UInt8} (ht : TbOk X.P X.tb) (htt : X.tb.get t = some (.str, sz)) (hx : ev e x = some (.c (.str S))) (hi : ev e i = some (.c c)) (hc : cnt c = some (k : Int)) (hb : S[k]? = some b) :
    Qt X ⟨d, .index t x i, ty, pos, af, gd⟩ e s (.c (.u8 b)) := by
  refine ⟨fun a w hf hs => ?_⟩
  have hu := und_str ht htt
  obtain ⟨kk, hk⟩ := cnt_den hc
  simp only [execOp]; rw [hf.ev hx, hf.ev hi]
  rw [show (V.c c).den = .int kk (k : Int) from hk, show (V.c (C.str S)).den = .string S from rfl, show (V.c (C.u8 b)).den = .int .u8 (b.toNat : Int) from rfl]
  simp [Instr.index, asIntOf, Sem.run_bind, Result.andThen, run_underlying hu, hb]
end
end Go.Hw

/- Calls that make several blocks, or turn one and make one. -/
set_option linter.unusedVariables false
namespace Go.Hw

/-- Behind what made new blocks (and what else it made). -/
theorem St.extN {w0 w w' : World} {σ B : Hp} (h : St w0 σ w) (h' : St w B w') (hb : ∀ p ∈ B, ∀ k, p.key = some k → w.heap.size ≤ k) : St w0 (B ++ σ) w' := by
  have key : ∀ b ∈ B, ∀ p ∈ σ, ∀ k, p.key = some k → b.key ≠ some k := fun b hbm p hp k hk e => by
    have h1 := hb b hbm k e; have h2 := h.lt p hp k hk; omega
  refine ⟨h'.os.trans h.os, h'.tape.trans h.tape, h'.output.trans h.output, Nat.le_trans h.size h'.size, fun k hk hp => ?_, fun p hp => ?_, ?_⟩
  · rw [h'.old k (Nat.lt_of_lt_of_le hk h.size) (fun p hpb => hp p (List.mem_append.2 (.inl hpb)))]
    exact h.old k hk fun p hps => hp p (List.mem_append.2 (.inr hps))
  · rcases List.mem_append.1 hp with hp | hp
    · exact h'.own p hp
    · exact Blk.lies_of (h.own p hp) fun k hk => h'.old k (h.lt p hp k hk) (fun b hbm => key b hbm p hp k hk)
  · refine List.pairwise_append.2 ⟨h'.nodup, h.nodup, fun b hbm p hp => ?_⟩
    unfold apart
    cases hk : p.key with
    | none =>
      cases hk2 : b.key with
      | none => exact .inl rfl
      | some k => exact .inr (by simp)
    | some k => exact .inr (key b hbm p hp k hk)

/-- A new block joins the list. -/
theorem St.up1 {w0 w w' : World} {σ σ' : Hp} (h : St w0 σ w) {b b' c : Blk} (hu : Up σ b b' σ') (hk : b'.key = b.key) (h' : St w [b', c] w') (hc : ∀ k, c.key = some k → w.heap.size ≤ k) : St w0 (c :: σ') w' := by
  have h1 : St w [b'] w' := Rm.sub_St h' (.there .here) hc
  have h2 := h.up hu hk h1
  have ltw : ∀ p ∈ σ', ∀ k, p.key = some k → k < w.heap.size := by
    obtain ⟨l, r, rfl, rfl⟩ := hu.split
    intro p hp k hpk
    rcases List.mem_append.1 hp with hl | hr
    · exact h.lt p (List.mem_append.2 (.inl hl)) k hpk
    · rcases List.mem_cons.1 hr with rfl | hr
      · exact h.lt b (by simp) k (by rw [← hk]; exact hpk)
      · exact h.lt p (by simp [hr]) k hpk
  refine ⟨h2.os, h2.tape, h2.output, h2.size, fun k hk' hp => h2.old k hk' fun p hps => hp p (List.mem_cons_of_mem _ hps), fun p hp => ?_, List.pairwise_cons.2 ⟨fun p hp => ?_, h2.nodup⟩⟩
  · rcases List.mem_cons.1 hp with rfl | hp
    · exact h'.own p (by simp)
    · exact h2.own p hp
  · unfold apart
    cases hk2 : c.key with
    | none => exact .inl rfl
    | some k =>
      refine .inr (fun e => ?_)
      have g1 := hc k hk2
      have g2 := ltw p hp k e.symm
      omega

section
variable {X : Cx} {Q : Exit → Act → World → Prop} {d : Option Nat} {f : Nat} {args : List Operand} {ats : Array TypeId} {ty : Nat} {pos : String} {af : Array Edge} {gd : Option (Nat × Bool)} {e : Env} {s s' : Hp} {KK : Env → Hp → Prop} {vs : List V} {α : Type} {I : α → Prop} {v : α → V}

/-- A call that hands back something new, of which two blocks are told. -/
theorem ef_fresh2 {b c : α → Blk} (hc : callable X.P f = true) (hv : evl e args = some vs) (hd : okDst X.n d = true)
    (h : ∀ w, St X.w0 s w → CallsV X.P f vs w fun en w' => ∃ x, en = .returned (v x).den ∧ I x ∧ (∀ k, (b x).key = some k → w.heap.size ≤ k) ∧ (∀ k, (c x).key = some k → w.heap.size ≤ k) ∧ St w [b x, c x] w')
    (hk : ∀ x, I x → (∀ k, (b x).key = some k → X.w0.heap.size ≤ k) → (∀ k, (c x).key = some k → X.w0.heap.size ≤ k) → KK (Env.put d (v x) e) (b x :: c x :: s)) :
    Ef X Q ⟨d, .call ⟨.value (.func f), args.toArray, ats⟩, ty, pos, af, gd⟩ e s KK :=
  ef_call hc hv hd fun w hw => (h w hw).mono fun en w' ⟨x, he, hi, hb, hcc, hst⟩ => ⟨v x, b x :: c x :: s, he, hw.extN hst (fun p hp k hk => by
    rcases List.mem_cons.1 hp with rfl | hp
    · exact hb k hk
    · rcases List.mem_cons.1 hp with rfl | hp
      · exact hcc k hk
      · cases hp), hk x hi (fun k hk' => Nat.le_trans hw.size (hb k hk')) (fun k hk' => Nat.le_trans hw.size (hcc k hk'))⟩

/-- A call that turns one block of the list and makes a new one. -/
theorem ef_turn1 {b : Blk} {b' c : α → Blk} {S' : α → Hp} (hc : callable X.P f = true) (hv : evl e args = some vs) (hd : okDst X.n d = true) (hu : ∀ x, Up s b (b' x) (S' x)) (hb : ∀ x, (b' x).key = b.key)
    (h : ∀ w, St X.w0 s w → CallsV X.P f vs w fun en w' => ∃ x, en = .returned (v x).den ∧ I x ∧ (∀ k, (c x).key = some k → w.heap.size ≤ k) ∧ St w [b' x, c x] w')
    (hk : ∀ x, I x → (∀ k, (c x).key = some k → X.w0.heap.size ≤ k) → KK (Env.put d (v x) e) (c x :: S' x)) :
    Ef X Q ⟨d, .call ⟨.value (.func f), args.toArray, ats⟩, ty, pos, af, gd⟩ e s KK :=
  ef_call hc hv hd fun w hw => (h w hw).mono fun en w' ⟨x, he, hi, hcn, hst⟩ => ⟨v x, c x :: S' x, he, hw.up1 (hu x) (hb x) hst hcn, hk x hi fun k hk' => Nat.le_trans hw.size (hcn k hk')⟩
end

/-! ### Parts of lists of cells -/
theorem spl_at {A B D l : List C} {off : Nat} (h : off = A.length) (hl : l.length = B.length) : spl (A ++ (B ++ D)) off l = A ++ (l ++ D) := by
  subst h
  unfold spl
  rw [List.take_left, List.drop_append, List.drop_of_length_le (by omega), List.nil_append, show A.length + l.length - A.length = B.length by omega, List.drop_left, List.append_assoc]
theorem fillS_cons {place : Nat → Option (Nat × Nat)} {cs cs' res : List C} {i off z : Nat} {v : V} {r : List (Nat × V)} (hp : place i = some (off, z)) (hv : v.flat = true) (hz : v.cs.length = z) (hl : off + z ≤ cs.length) (hs : spl cs off v.cs = cs') (hr : fillS place cs' r = some res) : fillS place cs ((i, v) :: r) = some res := by
  subst hs
  simp only [fillS, hp]
  have h1 : Nat.beq v.cs.length z = true := by rw [hz]; simp
  have h2 : Nat.ble (off + z) cs.length = true := Nat.ble_eq_true_of_le hl
  simp only [hv, h1, h2, Bool.and_self]
  exact hr
theorem get_at {A B D : List C} {off : Nat} (h : off = A.length) (i : Nat) (c : C) (hi : B[i]? = some c) : (A ++ (B ++ D))[off + i]? = some c := by
  subst h
  rw [List.getElem?_append_right (by omega), Nat.add_sub_cancel_left, List.getElem?_append_left (List.getElem?_eq_some_iff.1 hi).1]; exact hi
/-- Either of two may come up. -/
theorem wh_two {X : Cx} {k : Kt} {ops : Array Oper} {s0 : Hp} {fin fuel : Nat} {listed : Array Bool} {e : Env} {s : Hp} (i j : Nat) (hr : (Region.ready .any ops listed == [i, j]) = true) (h1 : WO X k ops s0 fin fuel listed i e s) (h2 : WO X k ops s0 fin fuel listed j e s) : WH X k ops s0 fin (fuel + 1) listed e s :=
  wh_all (rs := [i, j]) (by simpa using hr) fun l hl => by
    simp only [List.mem_cons, List.not_mem_nil, or_false] at hl
    rcases hl with rfl | rfl
    · exact h1
    · exact h2
theorem wh_three {X : Cx} {k : Kt} {ops : Array Oper} {s0 : Hp} {fin fuel : Nat} {listed : Array Bool} {e : Env} {s : Hp} (i j m : Nat) (hr : (Region.ready .any ops listed == [i, j, m]) = true) (h1 : WO X k ops s0 fin fuel listed i e s) (h2 : WO X k ops s0 fin fuel listed j e s) (h3 : WO X k ops s0 fin fuel listed m e s) : WH X k ops s0 fin (fuel + 1) listed e s :=
  wh_all (rs := [i, j, m]) (by simpa using hr) fun l hl => by
    simp only [List.mem_cons, List.not_mem_nil, or_false] at hl
    rcases hl with rfl | rfl | rfl
    · exact h1
    · exact h2
    · exact h3
theorem St.perm {w0 w : World} {σ σ' : Hp} (h : St w0 σ w) (hp : σ.Perm σ') : St w0 σ' w :=
  ⟨h.os, h.tape, h.output, h.size, fun k hk hq => h.old k hk fun p hps => hq p (hp.mem_iff.1 hps), fun p hps => h.own p (hp.mem_iff.2 hps), (hp.pairwise_iff (fun {a b} => apart_symm (p := a) (q := b))).1 h.nodup⟩
theorem St.two {w0 w : World} {a b : Blk} (h : St w0 [a, b] w) : St w0 [b, a] w := h.perm (List.Perm.swap b a [])
theorem Cells.sub2 {w : World} {r o o2 : Nat} {l l' : List C} {m : Nat} (h : Cells w (.at r o) l) (hl : ∀ (i : Nat) c, l'[i]? = some c → l[m + i]? = some c) (ho : o2 = o + m := by rfl) : Cells w (.at r o2) l' := fun i c hi => by
  have := h (m + i) c (hl i c hi)
  rw [ho, Nat.add_assoc]; exact this
theorem rc_cells {w0 : World} {s : Hp} {r off : Nat} {l : List C} {c : C} (hc : Cells w0 (.at r 0) l) (hg : l[off]? = some c) (ho : Off w0 (.at r 0) s) : RC w0 s r off c := fun w hw => by
  have := rs_cells hc ho w hw off c hg
  rw [Nat.zero_add] at this; exact this
end Go.Hw

/- Bytes of a constant string: the row gets a mark behind its last cell. -/
set_option linter.unusedVariables false
namespace Go.Hw
section
variable {X : Cx} {Q : Exit → Act → World → Prop} {ty : Nat} {pos : String} {af : Array Edge} {gd : Option (Nat × Bool)} {e : Env} {s s' : Hp} {KK : Env → Hp → Prop}

theorem freeze_St {w : World} {g k T : Nat} {cs : List C} {tl : List Value} (hg : w.heap[g]? = some (.cells (cs.map C.den ++ tl).toArray T (0, 0))) : St w [⟨.at g 0, cs, T, (k, k + 1), tl⟩] (w.freeze ⟨g, k, none⟩ 1) := by
  have hlt := lt_of_get hg
  have e1 : w.freeze ⟨g, k, none⟩ 1 = { w with heap := w.heap.modify g fun
      | .cells c elem (lo, hi) => .cells c elem (if lo == hi then (k, k + 1) else (min lo k, max hi (k + 1)))
      | o => o } := by unfold World.freeze; rw [if_neg (by decide)]; rfl
  rw [e1]
  refine ⟨rfl, rfl, rfl, by simp, fun j hj hp => ?_, fun p hp => ?_, by simp⟩
  · have hne : g ≠ j := by
      have := hp _ (List.mem_singleton.2 rfl)
      simpa [Blk.key, Ad.key] using this
    simp only [Array.getElem?_modify]
    rw [if_neg hne]
  · simp only [List.mem_singleton] at hp; subst hp
    refine ⟨rfl, ?_⟩
    simp only [Array.getElem?_modify, if_true, hg, Option.map_some]
    rfl

theorem ef_conv_bytes {d t el : Nat} {x : Operand} {r n cap T sz s1 z : Nat} {cs : List C} {tl : List Value} (ht : TbOk X.P X.tb) (htt : X.tb.get t = some (.slice el z, sz)) (hel : X.tb.get el = some (.int .u8, s1))
    (hx : ev e x = some (.c (.slc (.at r 0) n cap))) (hn : Nat.blt d X.n = true) (hu : Up s ⟨.at r 0, cs, T, (0, 0), tl⟩ ⟨.at r 0, cs, T, ((cs.map C.den ++ tl).length, (cs.map C.den ++ tl).length + 1), tl⟩ s')
    (hk : KK ((d, .c (.slc (.at r 0) n cap)) :: e) s') : Ef X Q ⟨some d, .convert t t x, ty, pos, af, gd⟩ e s KK := by
  refine ⟨fun K hK a w hf hs => ?_⟩
  obtain ⟨hu1, _⟩ := und_slice ht htt
  have hu2 := und_int ht hel
  have hb : w.heap[r]? = some (.cells (cs.map C.den ++ tl).toArray T (0, 0)) := (hs.own _ hu.mem).2
  have hsh : w.shape? r = some (T, (cs.map C.den ++ tl).toArray.size) := by unfold World.shape?; rw [hb]
  have hrun : (convert t t (.slice (some ⟨r, 0, none⟩) n cap)).run X.P w = .ok (.slice (some ⟨r, 0, none⟩) n cap) (w.freeze ⟨r, (cs.map C.den ++ tl).toArray.size, none⟩ 1) := by
    simp [convert, run_underlying hu1, run_underlying hu2, markStringish, hsh]
  unfold Oper.wp
  have hex : (execOp a.eval ⟨some d, .convert t t x, ty, pos, af, gd⟩).run X.P w = .ok (.value (.slice (some ⟨r, 0, none⟩) n cap)) (w.freeze ⟨r, (cs.map C.den ++ tl).toArray.size, none⟩ 1) := by
    simp only [execOp, hf.ev hx, V.den, C.den, Ad.den, Sem.run_bind, hrun, Result.andThen_ok]
    rfl
  rw [hex, Oper.upon_value]
  exact hK _ _ hk _ _ (hf.put (by simpa [Nat.blt_eq] using hn : d < X.n) (.c (.slc (.at r 0) n cap))) (hs.up hu rfl (freeze_St hb))
end
end Go.Hw
