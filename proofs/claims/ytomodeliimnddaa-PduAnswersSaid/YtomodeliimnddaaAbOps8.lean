/- The engine's soundness: operations that make, change, call. -/
import Derived.Test.YtomodeliimnddaaAbOps7
set_option linter.unusedVariables false
set_option linter.unusedSimpArgs false
set_option autoImplicit false
namespace Go.Ab

section
variable {P : Program} {ι : Iota} {s : St} {w : World} {M : Nat → Prop} {ρ : AOpd → AV} {η : Operand → Value} {get : Nat → Option Chunk} {nx : Nat}

/-- an operation that makes a block -/
def MkN (P : Program) (ι : Iota) (w : World) (M : Nat → Prop) (s : Sem Next) (nx : Nat) (v : AV) (c : Chunk) : Prop :=
  ∃ V cs T, s.run P w = .ok (.value V) (w.alloc (.cells cs T)) ∧ c.size ≤ cs.size ∧ (∀ j, j < c.size → VRel ι w M (c.get j) (cs.getD j default)) ∧
    ∀ ι' M', ι' nx = some (some (w.heap.size, 0)) → VRel ι' (w.alloc (.cells cs T)) M' v V
theorem MkN.of {o : Sem Value} {v : AV} {c : Chunk} (h : Mk P ι w M o nx v c) : MkN P ι w M (do pure (.value (← o)) : Sem Next) nx v c := by
  obtain ⟨V, cs, T, h1, h2⟩ := h
  exact ⟨V, cs, T, by simp [h1], h2⟩

theorem op_make {o : Oper} {a : AOp} {v : AV} {e : Eff} (hc : compOp P o.op = some a) (hA : a.isA = true) (hρ : ORel ι w M ρ η) (h : opD get nx ρ a = .ok true v e) :
    ∃ c, e = .new c ∧ MkN P ι w M (execOp η o) nx v c := by
  obtain ⟨dst, op, type, pos, after, guard⟩ := o
  simp only at hc
  unfold compOp at hc
  split at hc
  · obtain ⟨y, hy, rfl⟩ := map_some hc
    simp [AOp.isA] at hA
  · obtain ⟨y, hy, rfl⟩ := map_some hc
    simp [AOp.isA] at hA
  · split at hc
    · simp only [Option.some.injEq] at hc; subst hc; simp [AOp.isA] at hA
    · simp at hc
  · -- alloc
    obtain ⟨z, hz, rfl⟩ := map_some hc
    simp only [opD, Res.ok.injEq, true_and] at h
    obtain ⟨rfl, rfl⟩ := h
    exact ⟨_, rfl, MkN.of (alloc_sound hz)⟩
  · -- box
    obtain ⟨y, hy, rfl⟩ := map_some hc
    have hx := hρ _ _ hy
    simp only [opD] at h
    split at h
    · rename_i l hv
      simp only [Res.ok.injEq, true_and] at h
      obtain ⟨rfl, rfl⟩ := h
      exact ⟨_, rfl, MkN.of (box_sound hx (.inl ⟨l, hv, rfl⟩))⟩
    · simp only [Res.ok.injEq] at h
      obtain ⟨h1, rfl, rfl⟩ := h
      exact ⟨_, rfl, MkN.of (box_sound hx (.inr ⟨h1, rfl⟩))⟩
  · exfalso
    split at hc
    · split at hc
      · obtain ⟨l, _, rfl⟩ := map_some hc; simp [AOp.isA] at hA
      · simp at hc
    · split at hc
      · obtain ⟨l, _, rfl⟩ := map_some hc; simp [AOp.isA] at hA
      · simp at hc
    · simp at hc
  · -- buildSlice
    rename_i t n ps
    split at hc
    · rename_i el hu
      split at hc
      · rename_i es z rk hs hz hrk
        split at hc
        · rename_i hcond
          simp only [Bool.and_eq_true, decide_eq_true_eq] at hcond
          obtain ⟨⟨h1, h2⟩, h3⟩ := hcond
          obtain ⟨l, hl, rfl⟩ := map_some hc
          simp only [opD] at h
          cases hf : fillA ρ (repL n (rlList z)) l with
          | none => simp [hf] at h
          | some z' =>
            simp only [hf] at h
            cases hr : rowOf rk z' with
            | none => simp [hr] at h
            | some c =>
              simp only [hr, Res.ok.injEq, true_and] at h
              obtain ⟨rfl, rfl⟩ := h
              exact ⟨_, rfl, MkN.of (bslice_sound hρ hu hs hz h2 h1 h3 hl hf hr)⟩
        · simp at hc
      · simp at hc
    · simp at hc
  · split at hc
    · split at hc
      · simp only [Option.some.injEq] at hc; subst hc; simp [AOp.isA] at hA
      · simp at hc
    · simp at hc
  · split at hc
    · simp only [Option.some.injEq] at hc; subst hc; simp [AOp.isA] at hA
    · simp at hc
  · obtain ⟨y, hy, rfl⟩ := map_some hc
    simp [AOp.isA] at hA
  · split at hc
    · simp only [Option.some.injEq] at hc; subst hc; simp [AOp.isA] at hA
    · simp at hc
  · obtain ⟨y, hy, rfl⟩ := map_some hc
    simp [AOp.isA] at hA
  · split at hc
    · simp only [Option.some.injEq] at hc; subst hc; simp [AOp.isA] at hA
    · simp at hc
  · split at hc
    · simp at hc
    · simp at hc
    · obtain ⟨y, hy, rfl⟩ := map_some hc
      simp [AOp.isA] at hA
  · obtain ⟨y, hy, rfl⟩ := map_some hc
    simp [AOp.isA] at hA
  · -- makeSlice
    rename_i t l cp
    split at hc
    · rename_i el hu
      split at hc
      · rename_i es b z rk x hs hb hz hrk hx
        split at hc
        · rename_i hcond
          simp only [Bool.and_eq_true, decide_eq_true_eq] at hcond
          obtain ⟨⟨⟨h1, h2⟩, h3⟩, h4⟩ := hcond
          simp only [Option.some.injEq] at hc
          subst hc
          simp only [opD] at h
          have hxv := hρ _ _ hx
          cases hv : ρ x <;> simp only [hv, Res.ok.injEq, reduceCtorEq] at h
          rename_i k n
          simp only [Bool.and_eq_true, decide_eq_true_eq] at h
          obtain ⟨⟨⟨h5, h6⟩, h7⟩, rfl, rfl⟩ := h
          rw [hv] at hxv
          have hX := hxv.int_inv
          have hcp : η cp = η l ∨ η cp = .int k n := by
            unfold sameOpd at h1
            split at h1
            · left; rw [eq_of_beq h1]
            · rename_i k1 a1 k2 b1
              simp only [Bool.and_eq_true, decide_eq_true_eq] at h1
              obtain ⟨rfl, rfl⟩ := h1
              exact .inl rfl
            · cases h1
          have hcp : η cp = .int k n := by
            rcases hcp with h | h
            · rw [h, hX]
            · exact h
          refine ⟨_, rfl, ?_⟩
          have := MkN.of (mkslice_sound (P := P) (ι := ι) (w := w) (M := M) (k := k) (n := n) (nx := nx) hu hs hb hz h2 h3 h4 h5 h6 h7)
          simpa only [execOp, hX, hcp] using this
        · simp at hc
      · simp at hc
    · simp at hc
  · split at hc
    · split at hc
      · simp only [Option.some.injEq] at hc; subst hc; simp [AOp.isA] at hA
      · obtain ⟨y, hy, rfl⟩ := map_some hc; simp [AOp.isA] at hA
      · obtain ⟨y, hy, rfl⟩ := map_some hc; simp [AOp.isA] at hA
      · split at hc
        · simp only [Option.some.injEq] at hc; subst hc; simp [AOp.isA] at hA
        · simp at hc
    · simp at hc
  · split at hc
    · split at hc
      · split at hc
        · split at hc
          · simp at hc
          · split at hc
            · simp only [Option.some.injEq] at hc; subst hc; simp [AOp.isA] at hA
            · simp at hc
        · simp at hc
      · simp at hc
    · simp at hc
  · split at hc
    · split at hc
      · split at hc
        · simp at hc
        · split at hc
          · simp only [Option.some.injEq] at hc; subst hc; simp [AOp.isA] at hA
          · simp at hc
      · simp at hc
    · split at hc
      · split at hc
        · simp at hc
        · split at hc
          · simp only [Option.some.injEq] at hc; subst hc; simp [AOp.isA] at hA
          · simp at hc
      · simp at hc
    · simp at hc
  · obtain ⟨y, hy, rfl⟩ := map_some hc
    simp [AOp.isA] at hA
  · exfalso
    rename_i c
    unfold compCall at hc
    split at hc
    · split at hc <;> simp only [Option.some.injEq, reduceCtorEq] at hc <;> subst hc <;> simp [AOp.isA] at hA
    · simp only [Option.some.injEq] at hc; subst hc; simp [AOp.isA] at hA
    · simp only [Option.some.injEq] at hc; subst hc; simp [AOp.isA] at hA
    · split at hc
      · split at hc
        · split at hc
          · simp at hc
          · split at hc
            · simp at hc
            · split at hc
              · simp only [Option.some.injEq] at hc; subst hc; simp [AOp.isA] at hA
              · simp at hc
        · simp at hc
      · simp at hc
    · split at hc
      · simp only [Option.some.injEq] at hc; subst hc; simp [AOp.isA] at hA
      · split at hc
        · simp only [Option.some.injEq] at hc; subst hc; simp [AOp.isA] at hA
        · simp at hc
    · obtain ⟨y, _, rfl⟩ := map_some hc
      simp [AOp.isA] at hA
    · obtain ⟨y, _, rfl⟩ := map_some hc
      simp [AOp.isA] at hA
    · simp at hc
  · simp at hc

/-- an operation that changes memory -/
def DoesN (P : Program) (n0 : Nat) (ι : Iota) (s : St) (w : World) (M : Nat → Prop) (o : Sem Next) (v : AV) (s' : St) : Prop :=
  ∃ V ι' w' M', (o.run P w = .ok (.value V) w' ∨ (o.run P w = .ok .skip w' ∧ V = undef)) ∧ VRel ι' w' M' v V ∧ Rep ι' s' w' M' ∧ Go n0 ι s w M ι' s' w' M' ∧ (∀ h p, ι h = some p → ι' h = some p) ∧ Imm w M w' M'
theorem DoesN.of {n0 : Nat} {o : Sem Value} {v : AV} {s' : St} (h : Does P n0 ι s w M o v s') : DoesN P n0 ι s w M (do pure (.value (← o)) : Sem Next) v s' := by
  obtain ⟨V, ι', w', M', h1, h2⟩ := h
  exact ⟨V, ι', w', M', .inl (by simp [h1]), h2⟩

theorem callee_enter {f : Nat} {args : Array Value} (h : hasBody P f = true) : (callFunc f args).run P w = .ok (.enter f args) w := by
  unfold hasBody at h
  cases hf : P.funcs[f]? with
  | none => simp [hf] at h
  | some fn =>
    simp only [hf, Bool.and_eq_true, bne_iff_ne, ne_eq] at h
    obtain ⟨h1, h2⟩ := h
    have h3 : ¬ (fn.body = none) := by intro h; rw [h] at h1; simp at h1
    simp [callFunc, hf, h2, h3]

theorem VRels.append {l m : List AV} {A B : Array Value} (h : VRels ι w M l A) (k : VRels ι w M m B) : VRels ι w M (l ++ m) (A ++ B) := by
  obtain ⟨h1, h2⟩ := h
  obtain ⟨k1, k2⟩ := k
  refine ⟨by simp [h1, k1], fun j hj => ?_⟩
  rw [getD_append]
  by_cases hl : j < l.length
  · have : j < A.size := by omega
    simpa [hl, Array.getD_eq_getD_getElem?, Array.getElem?_append, this] using h2 j hl
  · have h3 : ¬ j < A.size := by omega
    have h4 := k2 (j - l.length) (by simp at hj; omega)
    rw [← h1] at h4
    simpa [h1, hl, Array.getD_eq_getD_getElem?, Array.getElem?_append, h3] using h4

theorem call_eff {c : Call} {a : AOp} {type : TypeId} (hc : compCall P c = some a) (hE : a.isE = true) (hR : Rep ι s w M) (hρ : ORel ι w M ρ η) (hη : ∀ f, η (.func f) = .func (.func f) #[] #[]) {n0 : Nat} (hn : n0 ≤ s.next) :
    (∀ v e, opD s.get s.next ρ a = .ok true v e → DoesN P n0 ι s w M (do let d ← resolve η c type; invoke d.target d.args) v (s.app e)) ∧
    (∀ f args, opD s.get s.next ρ a = .call f args → hasBody P f = true → ∃ Vs, (do let d ← resolve η c type; invoke d.target d.args : Sem Next).run P w = .ok (.enter f Vs) w ∧ VRels ι w M args Vs) := by
  obtain ⟨callee, args, argTypes⟩ := c
  unfold compCall at hc
  simp only at hc
  have rels : ∀ l, opds args.toList = some l → VRels ι w M (l.map ρ) (args.map η) := fun l hl => by
    obtain ⟨h1, h2⟩ := opds_rel hρ _ _ hl
    refine ⟨by simpa using h1, fun j hj => ?_⟩
    have hcs : (args.map η).getD j default = (args.toList.map η).getD j default := by
      simp [Array.getD_eq_getD_getElem?, List.getD_eq_getElem?_getD]
    rw [hcs]
    exact h2 j hj
  split at hc
  · split at hc <;> simp only [Option.some.injEq, reduceCtorEq] at hc <;> subst hc <;> simp [AOp.isE] at hE
  · simp only [Option.some.injEq] at hc; subst hc; simp [AOp.isE] at hE
  · simp only [Option.some.injEq] at hc; subst hc; simp [AOp.isE] at hE
  · -- append
    rename_i x y hargs
    split at hc
    · rename_i e1 e2 hu1 hu2
      split at hc
      · rename_i es b z hs hb hz
        split at hc
        · simp at hc
        · rename_i hes
          split at hc
          · simp at hc
          · rename_i hb0
            split at hc
            · rename_i hzl
              simp only [Option.some.injEq] at hc
              subst hc
              refine ⟨fun v e h => ?_, fun f args h => ?_⟩
              · simp only [opD] at h
                obtain ⟨h1, h2⟩ := rels _ hargs
                have hx := h2 0 (by simp)
                have hy := h2 1 (by simp)
                have hlen : (args.map η).size = 2 := by simpa using h1
                have hmap : args.map η = #[(args.map η).getD 0 default, (args.map η).getD 1 default] := by
                  apply Array.ext
                  · simp [hlen]
                  · intro i k1 k2
                    simp at k2
                    rcases (by omega : i = 0 ∨ i = 1) with rfl | rfl
                    · simp [Array.getD, hlen, k1]
                    · simp [Array.getD, hlen, k1]
                generalize hX : (args.map η).getD 0 default = X at hx hmap
                generalize hY : (args.map η).getD 1 default = Y at hy hmap
                have hx : VRel ι w M (ρ x) X := by simpa using hx
                have hy : VRel ι w M (ρ y) Y := by simpa using hy
                obtain ⟨t1, ht1⟩ : ∃ t1, argTypes[0]? = some t1 := by
                  cases h : argTypes[0]? with
                  | none => simp [h] at hu1
                  | some t => exact ⟨t, rfl⟩
                obtain ⟨t2, ht2⟩ : ∃ t2, argTypes[1]? = some t2 := by
                  cases h : argTypes[1]? with
                  | none => simp [h] at hu2
                  | some t => exact ⟨t, rfl⟩
                rw [ht1] at hu1
                rw [ht2] at hu2
                simp only [Option.bind_some] at hu1 hu2
                have := append_sound (ty := type) hR hn hu1 ⟨_, hu2⟩ hs hb (Nat.pos_of_ne_zero hb0) hz hzl hx hy h
                obtain ⟨V, ι', w', M', k1, k2⟩ := this
                refine ⟨V, ι', w', M', .inl ?_, k2⟩
                have hAll : (Builtin.append_ argTypes type #[X, Y]).run P w = (Builtin.append_ #[t1, t2] type #[X, Y]).run P w := by
                  simp [Builtin.append_, ht1, ht2]
                simp [resolve, invoke, builtin, hmap, hAll, k1]
              · simp only [opD, appA] at h
                split at h
                · split at h <;> simp at h
                · split at h
                  · split at h <;> simp at h
                  · simp at h
                · simp at h
            · simp at hc
      · simp at hc
    · simp at hc
  · -- a function
    rename_i f l hargs
    split at hc
    · rename_i k hk
      simp only [Option.some.injEq] at hc
      subst hc
      exact ⟨fun v e h => by simp [opD] at h, fun f args h => by simp [opD] at h⟩
    · split at hc
      · rename_i hb
        simp only [Option.some.injEq] at hc
        subst hc
        refine ⟨fun v e h => by simp [opD] at h, fun f' args' h hb' => ?_⟩
        simp only [opD, Res.call.injEq] at h
        obtain ⟨rfl, rfl⟩ := h
        refine ⟨args.map η, ?_, rels _ hargs⟩
        simp [resolve, invoke, hη, Deferred.ofValue, callee_enter hb]
      · simp at hc
  · rename_i x l _ hargs
    obtain ⟨y, hy, rfl⟩ := map_some hc
    have hx := hρ _ _ hy
    refine ⟨fun v e h => ?_, fun f' args' h hb' => ?_⟩
    · simp only [opD] at h
      split at h <;> simp at h
    · simp only [opD] at h
      cases hv : ρ y <;> simp only [hv, Res.call.injEq, reduceCtorEq] at h
      obtain ⟨rfl, rfl⟩ := h
      rw [hv] at hx
      obtain ⟨cs, hX, hl, hg⟩ := hx.fn_inv
      refine ⟨args.map η ++ cs, ?_, (rels _ hargs).append ⟨hl, hg⟩⟩
      simp [resolve, invoke, hX, Deferred.ofValue, callee_enter hb']
  · obtain ⟨y, hy, rfl⟩ := map_some hc
    exact ⟨fun v e h => by simp [opD] at h, fun f args h => by simp [opD] at h⟩
  · simp at hc

theorem op_eff {o : Oper} {a : AOp} (hc : compOp P o.op = some a) (hE : a.isE = true) (hR : Rep ι s w M) (hρ : ORel ι w M ρ η) (hη : ∀ f, η (.func f) = .func (.func f) #[] #[]) {n0 : Nat} (hn : n0 ≤ s.next) :
    (∀ v e, opD s.get s.next ρ a = .ok true v e → DoesN P n0 ι s w M (execOp η o) v (s.app e)) ∧
    (∀ f args, opD s.get s.next ρ a = .call f args → hasBody P f = true → ∃ Vs, (execOp η o).run P w = .ok (.enter f Vs) w ∧ VRels ι w M args Vs) := by
  obtain ⟨dst, op, type, pos, after, guard⟩ := o
  simp only at hc
  unfold compOp at hc
  split at hc
  · obtain ⟨y, hy, rfl⟩ := map_some hc
    simp [AOp.isE] at hE
  · obtain ⟨y, hy, rfl⟩ := map_some hc
    simp [AOp.isE] at hE
  · split at hc
    · simp only [Option.some.injEq] at hc; subst hc; simp [AOp.isE] at hE
    · simp at hc
  · obtain ⟨y, hy, rfl⟩ := map_some hc
    simp [AOp.isE] at hE
  · obtain ⟨y, hy, rfl⟩ := map_some hc
    simp [AOp.isE] at hE
  · exfalso
    split at hc
    · split at hc
      · obtain ⟨l, _, rfl⟩ := map_some hc; simp [AOp.isE] at hE
      · simp at hc
    · split at hc
      · obtain ⟨l, _, rfl⟩ := map_some hc; simp [AOp.isE] at hE
      · simp at hc
    · simp at hc
  · exfalso
    split at hc
    · split at hc
      · split at hc
        · obtain ⟨l, hl, rfl⟩ := map_some hc; simp [AOp.isE] at hE
        · simp at hc
      · simp at hc
    · simp at hc
  · split at hc
    · split at hc
      · simp only [Option.some.injEq] at hc; subst hc; simp [AOp.isE] at hE
      · simp at hc
    · simp at hc
  · -- store
    rename_i t x y
    split at hc
    · rename_i n x' y' hn' hx' hy'
      simp only [Option.some.injEq] at hc
      subst hc
      refine ⟨fun v e h => ?_, fun f args h => ?_⟩
      · have hx := hρ _ _ hx'
        have hy := hρ _ _ hy'
        simp only [opD] at h
        cases hv : ρ x' <;> simp only [hv, reduceCtorEq] at h
        rename_i hh off
        rw [hv] at hx
        cases hg : s.get hh with
        | none => simp [hg] at h
        | some c =>
          simp only [hg] at h
          cases hp : c.put off (ρ y').flat with
          | none => simp [hp] at h
          | some c' =>
            simp only [hp, Res.ok.injEq, Bool.and_eq_true, decide_eq_true_eq] at h
            obtain ⟨⟨⟨h1, h2⟩, h3⟩, rfl, rfl⟩ := h
            obtain ⟨w', k1, k2, k3⟩ := store_sound (P := P) (x := .undef) hR hn hx hy hg hn' h1 (Nat.eq_of_beq_eq_true h2) h3 hp
            refine ⟨undef, ι, w', M, .inr ⟨by simp [execOp, k1], rfl⟩, .undef _, k2, k3, fun _ _ h => h, GoImm k3 fun b hb => hR.ownM hb⟩
      · simp only [opD] at h
        split at h
        · split at h
          · split at h <;> simp at h
          · simp at h
        · simp at h
    · simp at hc
  · obtain ⟨y, hy, rfl⟩ := map_some hc
    simp [AOp.isE] at hE
  · split at hc
    · simp only [Option.some.injEq] at hc; subst hc; simp [AOp.isE] at hE
    · simp at hc
  · obtain ⟨y, hy, rfl⟩ := map_some hc
    simp [AOp.isE] at hE
  · split at hc
    · simp only [Option.some.injEq] at hc; subst hc; simp [AOp.isE] at hE
    · simp at hc
  · split at hc
    · simp at hc
    · simp at hc
    · obtain ⟨y, hy, rfl⟩ := map_some hc
      simp [AOp.isE] at hE
  · obtain ⟨y, hy, rfl⟩ := map_some hc
    simp [AOp.isE] at hE
  · exfalso
    split at hc
    · split at hc
      · split at hc
        · simp only [Option.some.injEq] at hc; subst hc; simp [AOp.isE] at hE
        · simp at hc
      · simp at hc
    · simp at hc
  · split at hc
    · split at hc
      · simp only [Option.some.injEq] at hc; subst hc; simp [AOp.isE] at hE
      · obtain ⟨y, hy, rfl⟩ := map_some hc; simp [AOp.isE] at hE
      · obtain ⟨y, hy, rfl⟩ := map_some hc; simp [AOp.isE] at hE
      · split at hc
        · simp only [Option.some.injEq] at hc; subst hc; simp [AOp.isE] at hE
        · simp at hc
    · simp at hc
  · split at hc
    · split at hc
      · split at hc
        · split at hc
          · simp at hc
          · split at hc
            · simp only [Option.some.injEq] at hc; subst hc; simp [AOp.isE] at hE
            · simp at hc
        · simp at hc
      · simp at hc
    · simp at hc
  · split at hc
    · split at hc
      · split at hc
        · simp at hc
        · split at hc
          · simp only [Option.some.injEq] at hc; subst hc; simp [AOp.isE] at hE
          · simp at hc
      · simp at hc
    · split at hc
      · split at hc
        · simp at hc
        · split at hc
          · simp only [Option.some.injEq] at hc; subst hc; simp [AOp.isE] at hE
          · simp at hc
      · simp at hc
    · simp at hc
  · obtain ⟨y, hy, rfl⟩ := map_some hc
    simp [AOp.isE] at hE
  · exact call_eff hc hE hR hρ hη hn
  · simp at hc

end
end Go.Ab
