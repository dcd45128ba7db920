/- The engine's soundness: regions whose order is open: what the plan says. -/
import Derived.Test.YtomodeliimnddaaAbDraw1
set_option linter.unusedVariables false
set_option linter.unusedSimpArgs false
set_option autoImplicit false
namespace Go.Ab

section
variable {P : Program}

structure PlanF (P : Program) (ops : List Oper) (anc : List Nat) (ins : List AIns) (p : List AStep) : Prop where
  insOk : ∀ (i : Nat) (x : AIns), ins[i]? = some x → ∃ o, ops[i]? = some o ∧ insOf P ops i o = some x
  opsIn : ∀ (i : Nat) (o : Oper), ops[i]? = some o → ∃ x, ins[i]? = some x
  slot1 : ∀ (i k : Nat) (x y : AIns) (d : Nat), ins[i]? = some x → ins[k]? = some y → x.dst = some d → y.dst = some d → i = k
  slot2 : ∀ (i k : Nat) (x y : AIns) (d : Nat), ins[i]? = some x → ins[k]? = some y → x.dst = some d → d ∈ y.reads → i ≠ k ∧ ((anc.getD k 0).testBit i = true ∨ (anc.getD i 0).testBit k = true)
  slot3 : ∀ (i k : Nat) (x y : AIns) (d : Nat), ins[i]? = some x → ins[k]? = some y → x.dst = some d → y.op.looks = some (.t d) → (anc.getD k 0).testBit i = true
  slot4 : ∀ (i : Nat) (x : AIns) (o : AOpd), ins[i]? = some x → x.op.looks = some o → ∃ u, o = .t u
  deps : ∀ (i : Nat) (o : Oper), ops[i]? = some o → anc.getD i 0 = orAll anc (depsOf o)
  steps : ∀ (pre : List AStep) (x : AStep) (post : List AStep), p = pre ++ x :: post → ins[x.i]? = some x.ins ∧ x = stepOf anc ins (pre.map (·.i)) x.i x.ins
  order : ∀ (pre : List AStep) (x : AStep) (post : List AStep), p = pre ++ x :: post → (∀ j, (anc.getD x.i 0).testBit j = true → j ∈ pre.map (·.i)) ∧ x.i ∉ pre.map (·.i) ∧ (x.e = true → ∀ y ∈ post, (anc.getD y.i 0).testBit x.i = true)
  cover : ∀ i, i < ops.length → ∃ x ∈ p, x.i = i

theorem insL_get {ops : List Oper} : ∀ (l : List Oper) (k : Nat) (il : List AIns), insL P ops k l = some il →
    (∀ (j : Nat) (o : Oper), l[j]? = some o → ∃ x, il[j]? = some x ∧ insOf P ops (k + j) o = some x) ∧ (∀ (j : Nat) (x : AIns), il[j]? = some x → ∃ o, l[j]? = some o ∧ insOf P ops (k + j) o = some x) ∧ il.length = l.length
  | [], k, il, h => by
    simp only [insL, Option.some.injEq] at h
    subst h
    exact ⟨fun j o hj => by simp at hj, fun j x hj => by simp at hj, rfl⟩
  | o :: r, k, il, h => by
    simp only [insL] at h
    split at h
    · rename_i a l ha hl
      simp only [Option.some.injEq] at h
      subst h
      obtain ⟨h1, h2, h3⟩ := insL_get r (k + 1) l hl
      refine ⟨fun j o' hj => ?_, fun j x hj => ?_, by simp [h3]⟩
      · cases j with
        | zero => simp only [List.getElem?_cons_zero, Option.some.injEq] at hj; subst hj; exact ⟨a, by simp, ha⟩
        | succ j =>
          obtain ⟨x, k1, k2⟩ := h1 j o' (by simpa using hj)
          exact ⟨x, by simpa using k1, by rw [show k + (j + 1) = k + 1 + j by omega]; exact k2⟩
      · cases j with
        | zero => simp only [List.getElem?_cons_zero, Option.some.injEq] at hj; subst hj; exact ⟨o, by simp, ha⟩
        | succ j =>
          obtain ⟨o', k1, k2⟩ := h2 j x (by simpa using hj)
          exact ⟨o', by simpa using k1, by rw [show k + (j + 1) = k + 1 + j by omega]; exact k2⟩
    · simp at h

theorem stepOf_i (anc : List Nat) (ins : List AIns) (before : List Nat) (i : Nat) (x : AIns) : (stepOf anc ins before i x).i = i ∧ (stepOf anc ins before i x).ins = x ∧ (stepOf anc ins before i x).e = x.op.isE := by
  unfold stepOf
  cases h : x.op.isE <;> simp
theorem plan_cons (anc : List Nat) (ins : List AIns) (n : Nat) (before : List Nat) (done : Nat) : plan anc ins (n + 1) before done = [] ∨
    ∃ i x, ins[i]? = some x ∧ plan anc ins (n + 1) before done = stepOf anc ins before i x :: plan anc ins n (before ++ [i]) (Nat.lor done (2 ^ i)) := by
  simp only [plan]
  split
  · rename_i i hi
    split
    · rename_i x hx; exact .inr ⟨i, x, hx, rfl⟩
    · exact .inl rfl
  · split
    · rename_i i r hr
      split
      · rename_i x hx; exact .inr ⟨i, x, hx, rfl⟩
      · exact .inl rfl
    · exact .inl rfl
theorem plan_steps (anc : List Nat) (ins : List AIns) : ∀ (n : Nat) (before : List Nat) (done : Nat) (pre : List AStep) (x : AStep) (post : List AStep), plan anc ins n before done = pre ++ x :: post →
    ins[x.i]? = some x.ins ∧ x = stepOf anc ins (before ++ pre.map (·.i)) x.i x.ins
  | 0, before, done, pre, x, post, h => by simp [plan] at h
  | n + 1, before, done, pre, x, post, h => by
    rcases plan_cons anc ins n before done with k | ⟨i, y, hy, k⟩
    · rw [k] at h; simp at h
    · rw [k] at h
      obtain ⟨q1, q2, q3⟩ := stepOf_i anc ins before i y
      cases pre with
      | nil =>
        simp only [List.nil_append, List.cons.injEq] at h
        rw [← h.1, q1, q2]
        exact ⟨hy, by simp⟩
      | cons z r =>
        simp only [List.cons_append, List.cons.injEq] at h
        obtain ⟨h1, h2⟩ := plan_steps anc ins n _ _ r x post h.2
        refine ⟨h1, ?_⟩
        rw [← h.1]
        simpa [q1] using h2

theorem lor_bit {a d : Nat} (h : Nat.lor a d = d) {j : Nat} (hj : a.testBit j = true) : d.testBit j = true := by
  have : (Nat.lor a d).testBit j = true := by
    show (a ||| d).testBit j = true
    rw [Nat.testBit_or, hj]; rfl
  rwa [h] at this
theorem order_spec (anc : List Nat) : ∀ (l : List AStep) (done : Nat), orderOk anc l done = true → ∀ (pre : List AStep) (x : AStep) (post : List AStep), l = pre ++ x :: post →
    (∀ j, (anc.getD x.i 0).testBit j = true → done.testBit j = true ∨ j ∈ pre.map (·.i)) ∧ (done.testBit x.i = false ∧ x.i ∉ pre.map (·.i)) ∧ (x.e = true → ∀ y ∈ post, (anc.getD y.i 0).testBit x.i = true)
  | [], done, h, pre, x, post, hl => by simp at hl
  | y :: r, done, h, pre, x, post, hl => by
    simp only [orderOk, Bool.and_eq_true, Bool.not_eq_true', Bool.or_eq_true, List.all_eq_true] at h
    obtain ⟨⟨⟨h1, h2⟩, h3⟩, h4⟩ := h
    have h1 := Nat.eq_of_beq_eq_true h1
    have hbit : ∀ j, (Nat.lor done (2 ^ y.i)).testBit j = (done.testBit j || decide (y.i = j)) := fun j => by
      show (done ||| 2 ^ y.i).testBit j = _
      rw [Nat.testBit_or, Nat.testBit_two_pow]
    cases pre with
    | nil =>
      simp only [List.nil_append, List.cons.injEq] at hl
      obtain ⟨rfl, rfl⟩ := hl
      refine ⟨fun j hj => .inl (lor_bit h1 hj), ⟨h2, by simp⟩, fun he z hz => ?_⟩
      rcases h3 with h3 | h3
      · rw [he] at h3; cases h3
      · exact h3 z hz
    | cons z q =>
      simp only [List.cons_append, List.cons.injEq] at hl
      obtain ⟨rfl, hl⟩ := hl
      obtain ⟨k1, ⟨k2, k3⟩, k4⟩ := order_spec anc r _ h4 q x post hl
      rw [hbit] at k2
      simp only [Bool.or_eq_false_iff, decide_eq_false_iff_not] at k2
      refine ⟨fun j hj => ?_, ⟨k2.1, ?_⟩, k4⟩
      · rcases k1 j hj with k | k
        · rw [hbit] at k
          simp only [Bool.or_eq_true, decide_eq_true_eq] at k
          rcases k with k | k
          · exact .inl k
          · exact .inr (by simp [k])
        · exact .inr (by simp only [List.map_cons, List.mem_cons]; exact .inr k)
      · simp only [List.map_cons, List.mem_cons, not_or]
        exact ⟨fun e => k2.2 e.symm, k3⟩

theorem orAll_bit (anc : List Nat) : ∀ (l : List Nat) (j : Nat), (orAll anc l).testBit j = true ↔ ∃ d ∈ l, d = j ∨ (anc.getD d 0).testBit j = true
  | [], j => by simp [orAll]
  | d :: r, j => by
    have : (orAll anc (d :: r)).testBit j = ((decide (d = j) || (anc.getD d 0).testBit j) || (orAll anc r).testBit j) := by
      show ((2 ^ d ||| anc.getD d 0) ||| orAll anc r).testBit j = _
      rw [Nat.testBit_or, Nat.testBit_or, Nat.testBit_two_pow]
    rw [this]
    simp only [Bool.or_eq_true, decide_eq_true_eq, orAll_bit anc r j, List.mem_cons]
    constructor
    · rintro (h | ⟨x, hx, h⟩)
      · exact ⟨d, .inl rfl, h⟩
      · exact ⟨x, .inr hx, h⟩
    · rintro ⟨x, rfl | hx, h⟩
      · exact .inl h
      · exact .inr ⟨x, hx, h⟩

theorem memN'_iff (l : List Nat) (d : Nat) : slotsOk.memN' l d = true ↔ d ∈ l := by
  simp only [slotsOk.memN', List.any_eq_true]
  constructor
  · rintro ⟨x, hx, h⟩
    exact Nat.eq_of_beq_eq_true h ▸ hx
  · intro h
    exact ⟨d, h, by simp⟩

theorem planF {ops : List Oper} {ins : List AIns} (hl : insL P ops 0 ops = some ins) {anc : List Nat} {p : List AStep} (hp : p = plan anc ins ins.length [] 0) (hk : planOk P ops ins anc p = true) : PlanF P ops anc ins p := by
  obtain ⟨h1, h2, h3⟩ := insL_get ops 0 ins hl
  simp only [planOk, Bool.and_eq_true, List.all_eq_true, List.mem_range, List.any_eq_true] at hk
  obtain ⟨⟨⟨⟨k1, k2⟩, k3⟩, k4⟩, k5⟩ := hk
  have hlt : ∀ (i : Nat) (x : AIns), ins[i]? = some x → i < ins.length := fun i x h => (List.getElem?_eq_some_iff.1 h).1
  have hsl : ∀ (i k : Nat) (x y : AIns) (d : Nat), ins[i]? = some x → ins[k]? = some y → x.dst = some d →
      (i = k ∨ y.dst ≠ some d) ∧ (d ∈ y.reads → i ≠ k ∧ ((anc.getD k 0).testBit i = true ∨ (anc.getD i 0).testBit k = true)) ∧ (y.op.looks = some (.t d) → (anc.getD k 0).testBit i = true) := by
    intro i k x y d hi hk hd
    simp only [slotsOk, List.all_eq_true, List.mem_range] at k1
    have := k1 i (hlt i x hi) k (hlt k y hk)
    simp only [hi, hk, hd, Bool.and_eq_true, Bool.or_eq_true, Bool.not_eq_true'] at this
    obtain ⟨⟨q1, q2⟩, q3⟩ := this
    refine ⟨?_, fun hr => ?_, fun hr => ?_⟩
    · rcases q1 with q | q
      · exact .inl (Nat.eq_of_beq_eq_true q)
      · exact .inr fun e => by rw [e] at q; simp at q
    · rcases q2 with q | q
      · rw [(memN'_iff _ _).2 hr] at q; cases q
      · refine ⟨fun e => ?_, q.2⟩
        subst e
        simp at q
    · rw [hr] at q3
      simp only [Bool.or_eq_true, Bool.not_eq_true'] at q3
      rcases q3 with q | q
      · simp at q
      · exact q
  refine ⟨fun i x hi => ?_, fun i o ho => ?_, fun i k x y d hi hk hd hd' => ?_, fun i k x y d hi hk hd hr => (hsl i k x y d hi hk hd).2.1 hr, fun i k x y d hi hk hd hr => (hsl i k x y d hi hk hd).2.2 hr, fun i x o hi ho => ?_, fun i o ho => ?_, fun pre x post h => ?_, fun pre x post h => ?_, fun i hi => ?_⟩
  · obtain ⟨o, q1, q2⟩ := h2 i x hi
    exact ⟨o, q1, by simpa using q2⟩
  · obtain ⟨x, q1, q2⟩ := h1 i o ho
    exact ⟨x, q1⟩
  · rcases (hsl i k x y d hi hk hd).1 with q | q
    · exact q
    · exact absurd hd' q
  · have := k5 x (List.mem_of_getElem? hi)
    rw [ho] at this
    cases o <;> simp only [Bool.false_eq_true] at this
    exact ⟨_, rfl⟩
  · have hlo := (List.getElem?_eq_some_iff.1 ho).1
    simp only [guardsOk, List.all_eq_true, List.mem_range] at k2
    have := k2 i hlo
    simp only [ho] at this
    exact Nat.eq_of_beq_eq_true this
  · have := plan_steps anc ins ins.length [] 0 pre x post (by rw [← hp]; exact h)
    simpa using this
  · obtain ⟨q1, ⟨_, q2⟩, q3⟩ := order_spec anc p 0 k3 pre x post h
    exact ⟨fun j hj => (q1 j hj).resolve_left (by simp), q2, q3⟩
  · obtain ⟨x, hx, hb⟩ := k4 i hi
    exact ⟨x, hx, Nat.eq_of_beq_eq_true hb⟩

end
end Go.Ab
