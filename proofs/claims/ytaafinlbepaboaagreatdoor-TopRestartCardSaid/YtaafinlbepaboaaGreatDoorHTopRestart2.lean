/- The engine's soundness: operations that make, change, call. The engine's soundness: keys of maps. The engine's soundness: maps, looked into and changed. The engine's soundness: an entry of a map, made and written; notes; cuts with three bounds. The engine's soundness: slices held against nil; bytes of a string; copy; notes. The engine's soundness: bytes of a string; copy; notes for the race detector. The engine's soundness: further operations, all of them. The engine's soundness: regions in the order of the text. The engine's soundness: a state by other names. The engine's soundness: code; a function's contract from its verification condition. The engine's soundness: regions whose order is open: what the plan says; memory put together. The engine's soundness: regions whose order is open: what the plan says. The engine's soundness: regions whose order is open: what holds in between; the plan goes on ahead. The engine's soundness: regions whose order is open: the program catches up. -/
import Derived.Laws.LoneSync
import Derived.KernelRfl
import Derived.Laws.StructEq
import Derived.Laws.IdiomStrings
import Derived.Orders
import Derived.Scope
import Derived.Test.YtaafinlbepaboaaGreatDoorHTopRestart1
set_option linter.unusedVariables false
set_option linter.unusedSimpArgs false
set_option autoImplicit false
namespace Go.Ab

section
variable {P : Program} {ι : Iota} {s : St} {w : World} {M : Nat → Prop} {ρ : AOpd → AV} {η : Operand → Value} {get : Nat → Option Chunk} {nx : Nat}

/-- an operation that makes a block -/
def MkN (P : Program) (ι : Iota) (w : World) (M : Nat → Prop) (s : Sem Next) (nx : Nat) (v : AV) (c : Chunk) : Prop :=
  ∃ V cs T, s.run P w = .ok (.value V) (w.alloc (.cells cs T)) ∧ c.size ≤ cs.size ∧ (∀ j, j < c.size → VRel ι w M (c.get j) (cs.getD j default)) ∧
    ∀ ι' M', ι' nx = some (some (w.heap.size, 0)) → VRel ι' (w.alloc (.cells cs T)) M' v V
theorem MkN.of {o : Sem Value} {v : AV} {c : Chunk} (h : Mk P ι w M o nx v c) : MkN P ι w M (do pure (.value (← o)) : Sem Next) nx v c := by
  obtain ⟨V, cs, T, h1, h2⟩ := h
  exact ⟨V, cs, T, by simp [h1], h2⟩

theorem mkBuild_isA (z : List (Nat × AV)) (l : List (Nat × Nat × AOpd)) : (mkBuild z l).isA = false := by
  unfold mkBuild
  cases Nat.blt 64 (rlLen z) && intsR z <;> rfl
theorem mkBuild_isE (z : List (Nat × AV)) (l : List (Nat × Nat × AOpd)) : (mkBuild z l).isE = false := by
  unfold mkBuild
  cases Nat.blt 64 (rlLen z) && intsR z <;> rfl
theorem zChunk_nm {z : List (Nat × AV)} : (zChunk z).isMap = false := by
  unfold zChunk
  cases Nat.ble (rlLen z) 64 <;> cases intsR z <;> rfl
theorem rowOf_nm {k : RK} {z : List AV} {q : Bool × Chunk} (h : rowOf k z = some q) : q.2.isMap = false := by
  have hb : ∀ {b : Bool} {x : Bool × Chunk}, x.2.isMap = false → (bif b then some x else none) = some q → q.2.isMap = false := fun {b x} h1 h => by
    cases b
    · cases h
    · cases h; exact h1
  unfold rowOf at h
  repeat' split at h
  all_goals first | exact hb rfl h | (simp only [Option.some.injEq] at h; subst h; rfl) | (simp only [Option.map_eq_some_iff] at h; obtain ⟨_, _, rfl⟩ := h; rfl) | simp at h
theorem op_make0 {o : Oper} {a : AOp} {v : AV} {e : Eff} (hc : compOp0 P o.op = some a) (hA : a.isA = true) (hρ : ORel ι w M ρ η) (h : opD get nx ρ a = .ok true v e) :
    ∃ c, e = .new c ∧ c.isMap = false ∧ MkN P ι w M (execOp η o) nx v c := by
  obtain ⟨dst, op, type, pos, after, guard⟩ := o
  simp only at hc
  unfold compOp0 at hc
  split at hc
  · obtain ⟨y, hy, rfl⟩ := map_some hc
    simp [AOp.isA] at hA
  · obtain ⟨y, hy, rfl⟩ := map_some hc
    simp [AOp.isA] at hA
  · split at hc
    · simp only [Option.some.injEq] at hc; subst hc; simp [AOp.isA] at hA
    · simp at hc
  · -- alloc
    obtain ⟨z, hz, rfl⟩ := map_some hc
    simp only [opD, Res.ok.injEq, true_and] at h
    obtain ⟨rfl, rfl⟩ := h
    exact ⟨_, rfl, zChunk_nm, MkN.of (alloc_sound hz)⟩
  · -- box
    obtain ⟨y, hy, rfl⟩ := map_some hc
    have hx := hρ _ _ hy
    simp only [opD] at h
    split at h
    · rename_i l hv
      simp only [Res.ok.injEq, true_and] at h
      obtain ⟨rfl, rfl⟩ := h
      exact ⟨_, rfl, rfl, MkN.of (box_sound hx (.inl ⟨l, hv, rfl⟩))⟩
    · rename_i n k g hv
      simp only [Res.ok.injEq, true_and] at h
      obtain ⟨rfl, rfl⟩ := h
      exact ⟨_, rfl, rfl, MkN.of (box_sound hx (.inr (.inl ⟨n, k, g, hv, rfl⟩)))⟩
    · simp only [Res.ok.injEq] at h
      obtain ⟨h1, rfl, rfl⟩ := h
      exact ⟨_, rfl, rfl, MkN.of (box_sound hx (.inr (.inr ⟨h1, rfl⟩)))⟩
  · exfalso
    split at hc
    · split at hc
      · obtain ⟨l, _, rfl⟩ := map_some hc; (rw [mkBuild_isA] at hA; cases hA)
      · simp at hc
    · split at hc
      · obtain ⟨l, _, rfl⟩ := map_some hc; (rw [mkBuild_isA] at hA; cases hA)
      · simp at hc
    · simp at hc
  · -- buildSlice
    rename_i t n ps
    split at hc
    · rename_i el hu
      split at hc
      · rename_i es z rk hs hz hrk
        split at hc
        · rename_i hcond
          simp only [Bool.and_eq_true, decide_eq_true_eq] at hcond
          obtain ⟨⟨h1, h2⟩, h3⟩ := hcond
          obtain ⟨l, hl, rfl⟩ := map_some hc
          simp only [opD] at h
          cases hf : fillA ρ (repL n (rlList z)) l with
          | none => simp [hf] at h
          | some z' =>
            simp only [hf] at h
            cases hr : rowOf rk z' with
            | none => simp [hr] at h
            | some q =>
              obtain ⟨b, c⟩ := q
              simp only [hr, Res.ok.injEq] at h
              obtain ⟨rfl, rfl, rfl⟩ := h
              exact ⟨_, rfl, rowOf_nm hr, MkN.of (bslice_sound hρ hu hs hz h2 h1 h3 hl hf hr)⟩
        · simp at hc
      · simp at hc
    · simp at hc
  · split at hc
    · split at hc
      · simp only [Option.some.injEq] at hc; subst hc; simp [AOp.isA] at hA
      · simp at hc
    · simp at hc
  · split at hc
    · simp only [Option.some.injEq] at hc; subst hc; simp [AOp.isA] at hA
    · simp at hc
  · obtain ⟨y, hy, rfl⟩ := map_some hc
    simp [AOp.isA] at hA
  · split at hc
    · simp only [Option.some.injEq] at hc; subst hc; simp [AOp.isA] at hA
    · simp at hc
  · obtain ⟨y, hy, rfl⟩ := map_some hc
    simp [AOp.isA] at hA
  · split at hc
    · simp only [Option.some.injEq] at hc; subst hc; simp [AOp.isA] at hA
    · simp at hc
  · split at hc
    · simp at hc
    · simp at hc
    · obtain ⟨y, hy, rfl⟩ := map_some hc
      simp [AOp.isA] at hA
  · obtain ⟨y, hy, rfl⟩ := map_some hc
    simp [AOp.isA] at hA
  · -- makeSlice
    rename_i t l cp
    split at hc
    · rename_i el hu
      split at hc
      · rename_i es b z rk x hs hb hz hrk hx
        split at hc
        · rename_i hcond
          simp only [Bool.and_eq_true, decide_eq_true_eq] at hcond
          obtain ⟨⟨⟨h1, h2⟩, h3⟩, h4⟩ := hcond
          simp only [Option.some.injEq] at hc
          subst hc
          simp only [opD] at h
          have hxv := hρ _ _ hx
          cases hv : ρ x <;> simp only [hv, Res.ok.injEq, reduceCtorEq] at h
          rename_i k n
          simp only [Bool.and_eq_true, decide_eq_true_eq] at h
          obtain ⟨⟨⟨h5, h6⟩, h7⟩, rfl, rfl⟩ := h
          rw [hv] at hxv
          have hX := hxv.int_inv
          have hcp : η cp = η l ∨ η cp = .int k n := by
            unfold sameOpd at h1
            split at h1
            · left; rw [eq_of_beq h1]
            · rename_i k1 a1 k2 b1
              simp only [Bool.and_eq_true, decide_eq_true_eq] at h1
              obtain ⟨rfl, rfl⟩ := h1
              exact .inl rfl
            · cases h1
          have hcp : η cp = .int k n := by
            rcases hcp with h | h
            · rw [h, hX]
            · exact h
          refine ⟨_, rfl, zeroRow_nm, ?_⟩
          have := MkN.of (mkslice_sound (P := P) (ι := ι) (w := w) (M := M) (k := k) (n := n) (nx := nx) hu hs hb hz h2 h3 h4 h5 h6 h7)
          simpa only [execOp, hX, hcp] using this
        · simp at hc
      · simp at hc
    · simp at hc
  · split at hc
    · split at hc
      · simp only [Option.some.injEq] at hc; subst hc; simp [AOp.isA] at hA
      · obtain ⟨y, hy, rfl⟩ := map_some hc; simp [AOp.isA] at hA
      · obtain ⟨y, hy, rfl⟩ := map_some hc; simp [AOp.isA] at hA
      · split at hc
        · simp only [Option.some.injEq] at hc; subst hc; simp [AOp.isA] at hA
        · simp at hc
    · simp at hc
  · split at hc
    · split at hc
      · split at hc
        · split at hc
          · simp at hc
          · split at hc
            · simp only [Option.some.injEq] at hc; subst hc; simp [AOp.isA] at hA
            · simp at hc
        · simp at hc
      · simp at hc
    · simp at hc
  · split at hc
    · split at hc
      · split at hc
        · simp at hc
        · split at hc
          · simp only [Option.some.injEq] at hc; subst hc; simp [AOp.isA] at hA
          · simp at hc
      · simp at hc
    · split at hc
      · split at hc
        · simp at hc
        · split at hc
          · simp only [Option.some.injEq] at hc; subst hc; simp [AOp.isA] at hA
          · simp at hc
      · simp at hc
    · simp at hc
  · obtain ⟨y, hy, rfl⟩ := map_some hc
    simp [AOp.isA] at hA
  · exfalso
    rename_i c
    unfold compCall at hc
    split at hc
    · split at hc <;> simp only [Option.some.injEq, reduceCtorEq] at hc <;> subst hc <;> simp [AOp.isA] at hA
    · simp only [Option.some.injEq] at hc; subst hc; simp [AOp.isA] at hA
    · simp only [Option.some.injEq] at hc; subst hc; simp [AOp.isA] at hA
    · simp only [Option.some.injEq] at hc; subst hc; simp [AOp.isA] at hA
    · split at hc
      · split at hc
        · split at hc
          · simp at hc
          · split at hc
            · simp at hc
            · split at hc
              · simp only [Option.some.injEq] at hc; subst hc; simp [AOp.isA] at hA
              · simp at hc
        · simp at hc
      · obtain ⟨_, _, _, _, _, _, _, _, _, _, _, _, rfl⟩ := compAppz_spec hc
        simp [AOp.isA] at hA
      · simp at hc
    · split at hc
      · simp only [Option.some.injEq] at hc; subst hc; simp [AOp.isA] at hA
      · split at hc
        · simp only [Option.some.injEq] at hc; subst hc; simp [AOp.isA] at hA
        · simp at hc
    · obtain ⟨y, _, rfl⟩ := map_some hc
      simp [AOp.isA] at hA
    · obtain ⟨y, _, rfl⟩ := map_some hc
      simp [AOp.isA] at hA
    · simp at hc
  · simp at hc

/-- an operation that changes memory -/
def DoesN (P : Program) (n0 : Nat) (ι : Iota) (s : St) (w : World) (M : Nat → Prop) (o : Sem Next) (v : AV) (s' : St) : Prop :=
  ∃ V ι' w' M', (o.run P w = .ok (.value V) w' ∨ (o.run P w = .ok .skip w' ∧ V = undef)) ∧ VRel ι' w' M' v V ∧ Rep ι' s' w' M' ∧ Go n0 ι s w M ι' s' w' M' ∧ (∀ h p, ι h = some p → ι' h = some p) ∧ Imm w M w' M'
theorem DoesN.of {n0 : Nat} {o : Sem Value} {v : AV} {s' : St} (h : Does P n0 ι s w M o v s') : DoesN P n0 ι s w M (do pure (.value (← o)) : Sem Next) v s' := by
  obtain ⟨V, ι', w', M', h1, h2⟩ := h
  exact ⟨V, ι', w', M', .inl (by simp [h1]), h2⟩

theorem callee_enter {f : Nat} {args : Array Value} (h : hasBody P f = true) : (callFunc f args).run P w = .ok (.enter f args) w := by
  unfold hasBody at h
  cases hf : P.funcs[f]? with
  | none => simp [hf] at h
  | some fn =>
    simp only [hf, Bool.and_eq_true, bne_iff_ne, ne_eq] at h
    obtain ⟨h1, h2⟩ := h
    have h3 : ¬ (fn.body = none) := by intro h; rw [h] at h1; simp at h1
    simp [callFunc, hf, h2, h3]

theorem VRels.append {l m : List AV} {A B : Array Value} (h : VRels ι w M l A) (k : VRels ι w M m B) : VRels ι w M (l ++ m) (A ++ B) := by
  obtain ⟨h1, h2⟩ := h
  obtain ⟨k1, k2⟩ := k
  refine ⟨by simp [h1, k1], fun j hj => ?_⟩
  rw [getD_append]
  by_cases hl : j < l.length
  · have : j < A.size := by omega
    simpa [hl, Array.getD_eq_getD_getElem?, Array.getElem?_append, this] using h2 j hl
  · have h3 : ¬ j < A.size := by omega
    have h4 := k2 (j - l.length) (by simp at hj; omega)
    rw [← h1] at h4
    simpa [h1, hl, Array.getD_eq_getD_getElem?, Array.getElem?_append, h3] using h4

theorem find_add64 (fn : Func) (h : fn.name = "sync/atomic.AddUint64") (h2 : fn.origin = "") : Extern.findNext fn = none ∧ Extern.find fn = some (Extern.Atomic.update (Op.intArith .add) .u64 true) := by
  cases fn
  simp only at h h2
  subst h
  subst h2
  exact ⟨by kernel_rfl, by kernel_rfl⟩
theorem find_add32 (fn : Func) (h : fn.name = "sync/atomic.AddUint32") (h2 : fn.origin = "") : Extern.findNext fn = none ∧ Extern.find fn = some (Extern.Atomic.update (Op.intArith .add) .u32 true) := by
  cases fn
  simp only at h h2
  subst h
  subst h2
  exact ⟨by kernel_rfl, by kernel_rfl⟩
theorem find_load64 (fn : Func) (h : fn.name = "sync/atomic.LoadUint64") (h2 : fn.origin = "") : Extern.findNext fn = none ∧ Extern.find fn = some (Extern.Atomic.loadT (.int .u64)) := by
  cases fn
  simp only at h h2
  subst h
  subst h2
  exact ⟨by kernel_rfl, by kernel_rfl⟩
theorem find_store64 (fn : Func) (h : fn.name = "sync/atomic.StoreUint64") (h2 : fn.origin = "") : Extern.findNext fn = none ∧ Extern.find fn = some Extern.Atomic.storeT := by
  cases fn
  simp only at h h2
  subst h
  subst h2
  exact ⟨by kernel_rfl, by kernel_rfl⟩
theorem find_add32s (fn : Func) (h : fn.name = "sync/atomic.AddInt32") (h2 : fn.origin = "") : Extern.findNext fn = none ∧ Extern.find fn = some (Extern.Atomic.update (Op.intArith .add) .i32 true) := by
  cases fn
  simp only at h h2
  subst h
  subst h2
  exact ⟨by kernel_rfl, by kernel_rfl⟩
theorem find_load32 (fn : Func) (h : fn.name = "sync/atomic.LoadUint32") (h2 : fn.origin = "") : Extern.findNext fn = none ∧ Extern.find fn = some (Extern.Atomic.loadT (.int .u32)) := by
  cases fn
  simp only at h h2
  subst h
  subst h2
  exact ⟨by kernel_rfl, by kernel_rfl⟩
theorem find_store32 (fn : Func) (h : fn.name = "sync/atomic.StoreUint32") (h2 : fn.origin = "") : Extern.findNext fn = none ∧ Extern.find fn = some Extern.Atomic.storeT := by
  cases fn
  simp only at h h2
  subst h
  subst h2
  exact ⟨by kernel_rfl, by kernel_rfl⟩
theorem find_cas32 (fn : Func) (h : fn.name = "sync/atomic.CompareAndSwapInt32") (h2 : fn.origin = "") : Extern.findNext fn = none ∧ Extern.find fn = some (Extern.Atomic.casT (.int .i32)) := by
  cases fn
  simp only at h h2
  subst h
  subst h2
  exact ⟨by kernel_rfl, by kernel_rfl⟩
def atomF : Atom → Array Value → Sem Value
  | .add k => Extern.Atomic.update (Op.intArith .add) k true
  | .load k => Extern.Atomic.loadT (.int k)
  | .store _ => Extern.Atomic.storeT
  | .cas k => Extern.Atomic.casT (.int k)
theorem atomOf_spec {f : Nat} {k : Atom} (h : atomOf P f = some k) : ∃ fn, P.funcs[f]? = some fn ∧ (fn.name == "runtime.NumGoroutine") = false ∧ fn.body.isNone = true ∧ Extern.findNext fn = none ∧ Extern.find fn = some (atomF k) := by
  unfold atomOf at h
  split at h
  · rename_i fn hf
    split at h
    · simp at h
    · rename_i hb
      split at h
      · simp at h
      · rename_i ho
        have ho : fn.origin = "" := by simpa using ho
        have hb : fn.body.isNone = true := by simpa using hb
        have fin : ∀ nm : String, fn.name = nm → (nm == "runtime.NumGoroutine") = false → Extern.findNext fn = none ∧ Extern.find fn = some (atomF k) → ∃ fn, P.funcs[f]? = some fn ∧ (fn.name == "runtime.NumGoroutine") = false ∧ fn.body.isNone = true ∧ Extern.findNext fn = none ∧ Extern.find fn = some (atomF k) := fun nm h1 h2 h3 =>
          ⟨fn, hf, by rw [h1]; exact h2, hb, h3⟩
        split at h
        · rename_i hn
          simp only [Option.some.injEq] at h
          subst h
          exact fin _ (by simpa using hn) (by decide) (find_add64 fn (by simpa using hn) ho)
        · split at h
          · rename_i hn
            simp only [Option.some.injEq] at h
            subst h
            exact fin _ (by simpa using hn) (by decide) (find_add32 fn (by simpa using hn) ho)
          · split at h
            · rename_i hn
              simp only [Option.some.injEq] at h
              subst h
              exact fin _ (by simpa using hn) (by decide) (find_load64 fn (by simpa using hn) ho)
            · split at h
              · rename_i hn
                simp only [Option.some.injEq] at h
                subst h
                exact fin _ (by simpa using hn) (by decide) (find_store64 fn (by simpa using hn) ho)
              · split at h
                · rename_i hn
                  simp only [Option.some.injEq] at h
                  subst h
                  exact fin _ (by simpa using hn) (by decide) (find_add32s fn (by simpa using hn) ho)
                · split at h
                  · rename_i hn
                    simp only [Option.some.injEq] at h
                    subst h
                    exact fin _ (by simpa using hn) (by decide) (find_load32 fn (by simpa using hn) ho)
                  · split at h
                    · rename_i hn
                      simp only [Option.some.injEq] at h
                      subst h
                      exact fin _ (by simpa using hn) (by decide) (find_store32 fn (by simpa using hn) ho)
                    · split at h
                      · rename_i hn
                        simp only [Option.some.injEq] at h
                        subst h
                        exact fin _ (by simpa using hn) (by decide) (find_cas32 fn (by simpa using hn) ho)
                      · simp at h
  · simp at h
theorem atom_sound {n0 f : Nat} {k : Atom} {L : List AV} {args : Array Value} {v : AV} {e : Eff} (hk : atomOf P f = some k) (hR : Rep ι s w M) (hn : n0 ≤ s.next) (hV : VRels ι w M L args) (h : atomA s.get k L = .ok true v e) :
    DoesN P n0 ι s w M (callFunc f args) v (s.app e) := by
  obtain ⟨fn, hf, hname, hb, hnx, hfind⟩ := atomOf_spec hk
  unfold atomA at h
  split at h
  · rename_i hh off r
    have hX := hV.2 0 (by simp)
    simp only [List.getD_cons_zero] at hX
    obtain ⟨b, base, hi, hXe⟩ := hX.ptr_inv
    split at h
    · rename_i c hg
      split at h
      · rename_i b0 k0 n hld
        have main : b0 = true → w.cell? ⟨b, base + off, none⟩ = some (.int k0 n) ∧ w.frozen? ⟨b, base + off, none⟩ = false ∧ off + 1 ≤ c.size := fun hb0 => by
          subst hb0
          obtain ⟨h1, h2⟩ := ld_spec hld (.inr rfl)
          have hget : c.get off = .int k0 n := by
            rcases h2 with ⟨h2, _⟩ | ⟨h2, _⟩ | ⟨_, h2⟩
            · cases h2
            · cases h2
            · exact h2.symm
          rcases hR.hget hh c _ hg hi with ⟨h4, _⟩ | ⟨b', base', h4, hC⟩
          · cases h4
          · simp only [Option.some.injEq, Prod.mk.injEq] at h4
            obtain ⟨rfl, rfl⟩ := h4
            obtain ⟨V, k1, k2⟩ := hC.cell (j := off) (by omega)
            rw [hget] at k2
            obtain rfl := k2.int_inv
            refine ⟨k1, ?_, h1⟩
            obtain ⟨cs, T, fr, q1, q2, q3, q4⟩ := hC.cc (by cases c <;> first | rfl | (simp only [Chunk.size] at h1; omega))
            have := q2 (base + off) (by omega)
            obtain ⟨lo, hi⟩ := fr
            simp only [World.frozen?, q1]
            simp only at this
            simp; omega
        have one : ∀ (kk : IntKind) (m : Int) (c' : Chunk), off + 1 ≤ c.size → c.put off [.int kk m] = some c' → Rep ι (s.app (.set hh c')) (w.setCell ⟨b, base + off, none⟩ (.int kk m)) M ∧ Go n0 ι s w M ι (s.app (.set hh c')) (w.setCell ⟨b, base + off, none⟩ (.int kk m)) M := fun kk m c' hle hp => by
          obtain ⟨p1, p2⟩ := put_spec hp (by simpa using hle)
          exact set_core (l := [.int kk m]) (vs := [.int kk m]) hR hn hi hg rfl (fun j hj => by
            obtain rfl : j = 0 := by simp at hj; exact hj
            exact .g _ _ (.int _ _)) (by simpa using hle) (put_nm hp) p1 p2
        split at h
        · simp only [Res.ok.injEq, Bool.and_eq_true, decide_eq_true_eq] at h
          obtain ⟨⟨hb0, rfl⟩, rfl, rfl⟩ := h
          obtain ⟨h1, h2, h3⟩ := main hb0
          have hargs : args = #[.pointer (some ⟨b, base + off, none⟩)] := by
            have hs := hV.1
            simp only [List.length_singleton] at hs
            apply Array.ext
            · simpa using hs
            · intro i i1 i2
              obtain rfl : i = 0 := by simp at i2; exact i2
              simpa [Array.getD, i1] using hXe
          subst hargs
          exact ⟨_, ι, w, M, .inl (run_call_load hf hname hb hnx _ hfind h1), .g _ _ (.int _ _), hR, Go.refl _ _ _ _ hn, fun _ _ h => h, Imm.refl _ _⟩
        · rename_i k1 k2 m
          split at h
          · rename_i c' hp
            simp only [Res.ok.injEq, Bool.and_eq_true, decide_eq_true_eq] at h
            obtain ⟨⟨⟨hb0, rfl⟩, rfl⟩, rfl, rfl⟩ := h
            obtain ⟨h1, h2, h3⟩ := main hb0
            have hY := hV.2 1 (by simp)
            simp only [List.getD_cons_succ, List.getD_cons_zero] at hY
            have hYe := hY.int_inv
            have hargs : args = #[.pointer (some ⟨b, base + off, none⟩), .int k2 m] := by
              have hs := hV.1
              simp only [List.length_cons, List.length_nil] at hs
              apply Array.ext
              · simpa using hs
              · intro i i1 i2
                rcases (by simp at i2; omega : i = 0 ∨ i = 1) with rfl | rfl
                · simpa [Array.getD, i1] using hXe
                · simpa [Array.getD, i1] using hYe
            subst hargs
            obtain ⟨q1, q2⟩ := one _ _ _ h3 hp
            exact ⟨_, ι, _, M, .inl (run_call_store hf hname hb hnx hfind h1 h2), .g _ _ (.tup [] #[] rfl fun j hj => by simp at hj), q1, q2, fun _ _ h => h, GoImm q2 fun b hb => hR.ownM hb⟩
          · simp at h
        · rename_i k1 k2 xo k3 m
          have hargs : args = #[.pointer (some ⟨b, base + off, none⟩), .int k2 xo, .int k3 m] := by
            have hs := hV.1
            have hY := hV.2 1 (by simp)
            have hZ := hV.2 2 (by simp)
            simp only [List.getD_cons_succ, List.getD_cons_zero] at hY hZ
            have hYe := hY.int_inv
            have hZe := hZ.int_inv
            simp only [List.length_cons, List.length_nil] at hs
            apply Array.ext
            · simpa using hs
            · intro i i1 i2
              rcases (by simp at i2; omega : i = 0 ∨ i = 1 ∨ i = 2) with rfl | rfl | rfl
              · simpa [Array.getD, i1] using hXe
              · simpa [Array.getD, i1] using hYe
              · simpa [Array.getD, i1] using hZe
          subst hargs
          by_cases hxo : n = xo
          · simp only [hxo, decide_true, cond_true] at h
            split at h
            · rename_i c' hp
              simp only [Res.ok.injEq, Bool.and_eq_true, decide_eq_true_eq] at h
              obtain ⟨⟨⟨⟨hb0, rfl⟩, rfl⟩, rfl⟩, rfl, rfl⟩ := h
              obtain ⟨h1, h2, h3⟩ := main hb0
              subst hxo
              obtain ⟨q1, q2⟩ := one _ _ _ h3 hp
              exact ⟨_, ι, _, M, .inl (run_call_cas_hit hf hname hb hnx _ hfind h1 h2), .g _ _ (.bool _), q1, q2, fun _ _ h => h, GoImm q2 fun b hb => hR.ownM hb⟩
            · simp at h
          · simp only [hxo, decide_false, cond_false, Res.ok.injEq, Bool.and_eq_true, decide_eq_true_eq] at h
            obtain ⟨⟨⟨⟨hb0, rfl⟩, rfl⟩, rfl⟩, rfl, rfl⟩ := h
            obtain ⟨h1, h2, h3⟩ := main hb0
            exact ⟨_, ι, w, M, .inl (run_call_cas_miss hf hname hb hnx _ hfind h1 h2 hxo), .g _ _ (.bool _), hR, Go.refl _ _ _ _ hn, fun _ _ h => h, Imm.refl _ _⟩
        · rename_i k1 k2 m
          split at h
          · rename_i c' hp
            simp only [Res.ok.injEq, Bool.and_eq_true, decide_eq_true_eq] at h
            obtain ⟨⟨⟨hb0, rfl⟩, rfl⟩, rfl, rfl⟩ := h
            obtain ⟨h1, h2, h3⟩ := main hb0
            have hY := hV.2 1 (by simp)
            simp only [List.getD_cons_succ, List.getD_cons_zero] at hY
            have hYe := hY.int_inv
            have hargs : args = #[.pointer (some ⟨b, base + off, none⟩), .int k2 m] := by
              have hs := hV.1
              simp only [List.length_cons, List.length_nil] at hs
              apply Array.ext
              · simpa using hs
              · intro i i1 i2
                rcases (by simp at i2; omega : i = 0 ∨ i = 1) with rfl | rfl
                · simpa [Array.getD, i1] using hXe
                · simpa [Array.getD, i1] using hYe
            subst hargs
            obtain ⟨q1, q2⟩ := one _ _ _ h3 hp
            exact ⟨_, ι, _, M, .inl (run_call_add hf hname hb hnx _ hfind h1 h2 (by simp [Op.intArith])), .g _ _ (.int _ _), q1, q2, fun _ _ h => h, GoImm q2 fun b hb => hR.ownM hb⟩
          · simp at h
        · simp at h
      · rename_i b0 k0 ee hld
        have main : b0 = true → ee.ok ι ∧ w.cell? ⟨b, base + off, none⟩ = some (.int k0 (ee.ev (ival ι))) ∧ w.frozen? ⟨b, base + off, none⟩ = false ∧ off + 1 ≤ c.size := fun hb0 => by
          subst hb0
          obtain ⟨h1, h2⟩ := ld_spec hld (.inr rfl)
          have hget : c.get off = .sy k0 ee := by
            rcases h2 with ⟨h2, _⟩ | ⟨h2, _⟩ | ⟨_, h2⟩
            · cases h2
            · cases h2
            · exact h2.symm
          rcases hR.hget hh c _ hg hi with ⟨h4, _⟩ | ⟨b', base', h4, hC⟩
          · cases h4
          · simp only [Option.some.injEq, Prod.mk.injEq] at h4
            obtain ⟨rfl, rfl⟩ := h4
            obtain ⟨V, k1, k2⟩ := hC.cell (j := off) (by omega)
            rw [hget] at k2
            obtain ⟨ho, rfl⟩ := k2.sy_inv
            refine ⟨ho, k1, ?_, h1⟩
            obtain ⟨cs, T, fr, q1, q2, q3, q4⟩ := hC.cc (by cases c <;> first | rfl | (simp only [Chunk.size] at h1; omega))
            have := q2 (base + off) (by omega)
            obtain ⟨lo, hi⟩ := fr
            simp only [World.frozen?, q1]
            simp only at this
            simp; omega
        have one : ∀ (kk : IntKind) (x : AV) (m : Int) (c' : Chunk), VRel ι w M x (.int kk m) → off + 1 ≤ c.size → c.put off [x] = some c' → Rep ι (s.app (.set hh c')) (w.setCell ⟨b, base + off, none⟩ (.int kk m)) M ∧ Go n0 ι s w M ι (s.app (.set hh c')) (w.setCell ⟨b, base + off, none⟩ (.int kk m)) M := fun kk x m c' hx hle hp => by
          obtain ⟨p1, p2⟩ := put_spec hp (by simpa using hle)
          exact set_core (l := [x]) (vs := [.int kk m]) hR hn hi hg rfl (fun j hj => by
            obtain rfl : j = 0 := by simp at hj; exact hj
            exact hx) (by simpa using hle) (put_nm hp) p1 p2
        split at h
        · simp only [Res.ok.injEq, Bool.and_eq_true, decide_eq_true_eq] at h
          obtain ⟨⟨hb0, rfl⟩, rfl, rfl⟩ := h
          obtain ⟨ho, h1, h2, h3⟩ := main hb0
          have hargs : args = #[.pointer (some ⟨b, base + off, none⟩)] := by
            have hs := hV.1
            simp only [List.length_singleton] at hs
            apply Array.ext
            · simpa using hs
            · intro i i1 i2
              obtain rfl : i = 0 := by simp at i2; exact i2
              simpa [Array.getD, i1] using hXe
          subst hargs
          exact ⟨_, ι, w, M, .inl (run_call_load hf hname hb hnx _ hfind h1), .sy _ _ _ ho rfl, hR, Go.refl _ _ _ _ hn, fun _ _ h => h, Imm.refl _ _⟩
        · rename_i k1 k2 m
          split at h
          · rename_i c' hp
            simp only [Res.ok.injEq, Bool.and_eq_true, decide_eq_true_eq] at h
            obtain ⟨⟨⟨hb0, rfl⟩, rfl⟩, rfl, rfl⟩ := h
            obtain ⟨ho, h1, h2, h3⟩ := main hb0
            have hY := hV.2 1 (by simp)
            simp only [List.getD_cons_succ, List.getD_cons_zero] at hY
            have hYe := hY.int_inv
            have hargs : args = #[.pointer (some ⟨b, base + off, none⟩), .int k2 m] := by
              have hs := hV.1
              simp only [List.length_cons, List.length_nil] at hs
              apply Array.ext
              · simpa using hs
              · intro i i1 i2
                rcases (by simp at i2; omega : i = 0 ∨ i = 1) with rfl | rfl
                · simpa [Array.getD, i1] using hXe
                · simpa [Array.getD, i1] using hYe
            subst hargs
            obtain ⟨q1, q2⟩ := one _ _ m _ (.g _ _ (.int _ _)) h3 hp
            exact ⟨_, ι, _, M, .inl (run_call_store hf hname hb hnx hfind h1 h2), .g _ _ (.tup [] #[] rfl fun j hj => by simp at hj), q1, q2, fun _ _ h => h, GoImm q2 fun b hb => hR.ownM hb⟩
          · simp at h
        · rename_i k1 k2 m
          split at h
          · rename_i c' hp
            simp only [Res.ok.injEq, Bool.and_eq_true, decide_eq_true_eq] at h
            obtain ⟨⟨⟨hb0, rfl⟩, rfl⟩, rfl, rfl⟩ := h
            obtain ⟨ho, h1, h2, h3⟩ := main hb0
            have hY := hV.2 1 (by simp)
            simp only [List.getD_cons_succ, List.getD_cons_zero] at hY
            have hYe := hY.int_inv
            have hargs : args = #[.pointer (some ⟨b, base + off, none⟩), .int k2 m] := by
              have hs := hV.1
              simp only [List.length_cons, List.length_nil] at hs
              apply Array.ext
              · simpa using hs
              · intro i i1 i2
                rcases (by simp at i2; omega : i = 0 ∨ i = 1) with rfl | rfl
                · simpa [Array.getD, i1] using hXe
                · simpa [Array.getD, i1] using hYe
            subst hargs
            obtain ⟨q1, q2⟩ := one _ _ _ _ (.sy _ _ _ (show SE.ok ι (.bin .add k2 ee (.c m)) from ⟨ho, trivial⟩) rfl) h3 hp
            exact ⟨_, ι, _, M, .inl (run_call_add hf hname hb hnx _ hfind h1 h2 (by simp [Op.intArith]; rfl)), .sy _ _ _ ⟨ho, trivial⟩ rfl, q1, q2, fun _ _ h => h, GoImm q2 fun b hb => hR.ownM hb⟩
          · simp at h
        · simp at h
      · simp at h
    · simp at h
  · simp at h
/-- a method's call -/
theorem meth_run {m : String} {t f : Nat} (h : lookN (methTbl P m) t = some f) (V : Value) : hasBody P f = true ∧ ∀ n, (method (n + 1) t V m).run P w = .ok (f, V) w := by
  have hmem : ∀ l : List (Nat × Nat), lookN l t = some f → (t, f) ∈ l := by
    intro l
    induction l with
    | nil => intro h; simp [lookN] at h
    | cons p r ih =>
      intro h
      simp only [lookN] at h
      cases hb : Nat.beq p.1 t with
      | true =>
        simp only [hb, cond_true, Option.some.injEq] at h
        have := Nat.eq_of_beq_eq_true hb
        subst h
        subst this
        simp
      | false =>
        simp only [hb, cond_false] at h
        exact List.mem_cons_of_mem _ (ih h)
  have h1 := hmem _ h
  simp only [methTbl, List.mem_filterMap] at h1
  obtain ⟨t', _, h2⟩ := h1
  unfold methRow at h2
  split at h2
  · rename_i i hi
    split at h2
    · rename_i r hr
      split at h2
      · simp at h2
      · simp at h2
      · rename_i f' d hD hfn hu
        split at h2
        · rename_i hc
          simp only [Option.some.injEq, Prod.mk.injEq] at h2
          obtain ⟨rfl, rfl⟩ := h2
          simp only [Bool.and_eq_true] at hc
          refine ⟨hc.2, fun n => ?_⟩
          have hp : r.path = #[] := by simpa using hc.1
          cases d <;> first | (exact absurd rfl (hD _)) | simp [method, typeInfo, hi, hr, hp, follow, hfn, receiverAt, run_underlying hu, Place.get]
        · simp at h2
      · simp at h2
    · simp at h2
  · simp at h2

theorem call_eff {c : Call} {a : AOp} {type : TypeId} (hc : compCall P c = some a) (hE : a.isE = true) (hR : Rep ι s w M) (hρ : ORel ι w M ρ η) (hη : ∀ f, η (.func f) = .func (.func f) #[] #[]) {n0 : Nat} (hn : n0 ≤ s.next) :
    (∀ v e, opD s.get s.next ρ a = .ok true v e → DoesN P n0 ι s w M (do let d ← resolve η c type; invoke d.target d.args) v (s.app e)) ∧
    (∀ f args, opD s.get s.next ρ a = .call f args → hasBody P f = true → ∃ Vs, (do let d ← resolve η c type; invoke d.target d.args : Sem Next).run P w = .ok (.enter f Vs) w ∧ VRels ι w M args Vs) := by
  obtain ⟨callee, args, argTypes⟩ := c
  unfold compCall at hc
  simp only at hc
  have rels : ∀ l, opds args.toList = some l → VRels ι w M (l.map ρ) (args.map η) := fun l hl => by
    obtain ⟨h1, h2⟩ := opds_rel hρ _ _ hl
    refine ⟨by simpa using h1, fun j hj => ?_⟩
    have hcs : (args.map η).getD j default = (args.toList.map η).getD j default := by
      simp [Array.getD_eq_getD_getElem?, List.getD_eq_getElem?_getD]
    rw [hcs]
    exact h2 j hj
  split at hc
  · split at hc <;> simp only [Option.some.injEq, reduceCtorEq] at hc <;> subst hc <;> simp [AOp.isE] at hE
  · simp only [Option.some.injEq] at hc; subst hc; simp [AOp.isE] at hE
  · simp only [Option.some.injEq] at hc; subst hc; simp [AOp.isE] at hE
  · simp only [Option.some.injEq] at hc; subst hc; simp [AOp.isE] at hE
  · -- append
    rename_i x y hargs
    split at hc
    · rename_i e1 e2 hu1 hu2
      split at hc
      · rename_i es b z hs hb hz
        split at hc
        · simp at hc
        · rename_i hes
          split at hc
          · simp at hc
          · rename_i hb0
            split at hc
            · rename_i hzl
              simp only [Option.some.injEq] at hc
              subst hc
              refine ⟨fun v e h => ?_, fun f args h => ?_⟩
              · simp only [opD] at h
                obtain ⟨h1, h2⟩ := rels _ hargs
                have hx := h2 0 (by simp)
                have hy := h2 1 (by simp)
                have hlen : (args.map η).size = 2 := by simpa using h1
                have hmap : args.map η = #[(args.map η).getD 0 default, (args.map η).getD 1 default] := by
                  apply Array.ext
                  · simp [hlen]
                  · intro i k1 k2
                    simp at k2
                    rcases (by omega : i = 0 ∨ i = 1) with rfl | rfl
                    · simp [Array.getD, hlen, k1]
                    · simp [Array.getD, hlen, k1]
                generalize hX : (args.map η).getD 0 default = X at hx hmap
                generalize hY : (args.map η).getD 1 default = Y at hy hmap
                have hx : VRel ι w M (ρ x) X := by simpa using hx
                have hy : VRel ι w M (ρ y) Y := by simpa using hy
                obtain ⟨t1, ht1⟩ : ∃ t1, argTypes[0]? = some t1 := by
                  cases h : argTypes[0]? with
                  | none => simp [h] at hu1
                  | some t => exact ⟨t, rfl⟩
                obtain ⟨t2, ht2⟩ : ∃ t2, argTypes[1]? = some t2 := by
                  cases h : argTypes[1]? with
                  | none => simp [h] at hu2
                  | some t => exact ⟨t, rfl⟩
                rw [ht1] at hu1
                rw [ht2] at hu2
                simp only [Option.bind_some] at hu1 hu2
                have := append_sound (ty := type) hR hn hu1 ⟨_, hu2⟩ hs hb (Nat.pos_of_ne_zero hb0) hz hzl hx hy h
                obtain ⟨V, ι', w', M', k1, k2⟩ := this
                refine ⟨V, ι', w', M', .inl ?_, k2⟩
                have hAll : (Builtin.append_ argTypes type #[X, Y]).run P w = (Builtin.append_ #[t1, t2] type #[X, Y]).run P w := by
                  simp [Builtin.append_, ht1, ht2]
                simp [resolve, invoke, builtin, hmap, hAll, k1]
              · simp only [opD, appA] at h
                split at h
                · split at h <;> simp at h
                · split at h
                  · split at h <;> simp at h
                  · simp at h
                · simp at h
            · simp at hc
      · simp at hc
    · rename_i e1 kk hu1 hu2
      obtain ⟨es, b, z, rk, hs, hb, hz, he, hb0, hzl, hzo, hgen, rfl⟩ := compAppz_spec hc
      refine ⟨fun v e h => ?_, fun f args h => ?_⟩
      · simp only [opD] at h
        obtain ⟨h1, h2⟩ := rels _ hargs
        have hx := h2 0 (by simp)
        have hy := h2 1 (by simp)
        have hlen : (args.map η).size = 2 := by simpa using h1
        have hmap : args.map η = #[(args.map η).getD 0 default, (args.map η).getD 1 default] := by
          apply Array.ext
          · simp [hlen]
          · intro i k1 k2
            simp at k2
            rcases (by omega : i = 0 ∨ i = 1) with rfl | rfl
            · simp [Array.getD, hlen, k1]
            · simp [Array.getD, hlen, k1]
        generalize hX : (args.map η).getD 0 default = X at hx hmap
        generalize hY : (args.map η).getD 1 default = Y at hy hmap
        simp only [List.map_cons, List.map_nil, List.getD_cons_zero, List.getD_cons_succ] at hx hy
        obtain ⟨t1, ht1⟩ : ∃ t1, argTypes[0]? = some t1 := by
          cases h : argTypes[0]? with
          | none => simp [h] at hu1
          | some t => exact ⟨t, rfl⟩
        obtain ⟨t2, ht2⟩ : ∃ t2, argTypes[1]? = some t2 := by
          cases h : argTypes[1]? with
          | none => simp [h] at hu2
          | some t => exact ⟨t, rfl⟩
        rw [ht1] at hu1
        rw [ht2] at hu2
        simp only [Option.bind_some] at hu1 hu2
        obtain ⟨V, ι', w', M', k1, k2⟩ := appendz_sound (ty := type) hR hn hu1 hu2 hs hb hb0 hz hzl he hzo hgen hx hy h
        refine ⟨V, ι', w', M', .inl ?_, k2⟩
        have hAll : (Builtin.append_ argTypes type #[X, Y]).run P w = (Builtin.append_ #[t1, t2] type #[X, Y]).run P w := by
          simp [Builtin.append_, ht1, ht2]
        simp [resolve, invoke, builtin, hmap, hAll, k1]
      · simp only [opD, appzA] at h
        split at h
        · split at h
          · simp at h
          · split at h
            · split at h <;> simp at h
            · simp at h
          · simp at h
        · simp at h
    · simp at hc
  · -- a function
    rename_i f l hargs
    split at hc
    · rename_i k hk
      simp only [Option.some.injEq] at hc
      subst hc
      refine ⟨fun v e h => ?_, fun f' args' h => ?_⟩
      · simp only [opD] at h
        have := atom_sound hk hR hn (rels _ hargs) h
        simpa [DoesN, resolve, invoke, hη, Deferred.ofValue] using this
      · simp only [opD, atomA] at h
        split at h
        · split at h
          · split at h
            · split at h
              · simp at h
              · split at h <;> simp at h
              · have hc : ∀ (b : Bool) (R1 R2 : Res), R1 ≠ .call f' args' → R2 ≠ .call f' args' → (bif b then R1 else R2) ≠ .call f' args' := by
                  intro b R1 R2 h1 h2
                  cases b
                  · exact h2
                  · exact h1
                exact absurd h (hc _ _ _ (by split <;> simp) (by simp))
              · split at h <;> simp at h
              · simp at h
            · split at h
              · simp at h
              · split at h <;> simp at h
              · split at h <;> simp at h
              · simp at h
            · simp at h
          · simp at h
        · simp at h
    · split at hc
      · rename_i hb
        simp only [Option.some.injEq] at hc
        subst hc
        refine ⟨fun v e h => by simp [opD] at h, fun f' args' h hb' => ?_⟩
        simp only [opD, Res.call.injEq] at h
        obtain ⟨rfl, rfl⟩ := h
        refine ⟨args.map η, ?_, rels _ hargs⟩
        simp [resolve, invoke, hη, Deferred.ofValue, callee_enter hb]
      · simp at hc
  · rename_i x l _ hargs
    obtain ⟨y, hy, rfl⟩ := map_some hc
    have hx := hρ _ _ hy
    refine ⟨fun v e h => ?_, fun f' args' h hb' => ?_⟩
    · simp only [opD] at h
      split at h <;> simp at h
    · simp only [opD] at h
      cases hv : ρ y <;> simp only [hv, Res.call.injEq, reduceCtorEq] at h
      case fn =>
        obtain ⟨rfl, rfl⟩ := h
        rw [hv] at hx
        obtain ⟨cs, hX, hl, hg⟩ := hx.fn_inv
        refine ⟨args.map η ++ cs, ?_, (rels _ hargs).append ⟨hl, hg⟩⟩
        simp [resolve, invoke, hX, Deferred.ofValue, callee_enter hb']
      case bfn =>
        obtain ⟨rfl, rfl⟩ := h
        rw [hv] at hx
        obtain ⟨cs, hX, hl, hg⟩ := hx.bfn_inv
        refine ⟨cs ++ args.map η, ?_, VRels.append ⟨hl, hg⟩ (rels _ hargs)⟩
        simp [resolve, invoke, hX, Deferred.ofValue, callee_enter hb']
  · rename_i r m l hargs
    obtain ⟨y, hy, rfl⟩ := map_some hc
    have hx := hρ _ _ hy
    refine ⟨fun v e h => ?_, fun f' args' h hb' => ?_⟩
    · simp only [opD, invA] at h
      split at h
      · split at h <;> simp at h
      · simp at h
    · simp only [opD, invA] at h
      split at h
      · rename_i t v hv
        split at h
        · rename_i f hl
          simp only [Res.call.injEq] at h
          obtain ⟨rfl, rfl⟩ := h
          rw [hv] at hx
          obtain ⟨V, hX, hrV⟩ := hx.iface_inv
          obtain ⟨_, hm⟩ := meth_run (P := P) (w := w) hl V
          refine ⟨#[V] ++ args.map η, ?_, ?_⟩
          · have hfuel : P.types.size + Made.depth = (P.types.size + (Made.depth - 1)) + 1 := rfl
            have he : ∀ (X : Value) (B : Array Value), (#[X] ++ B).extract 1 (#[X] ++ B).size = B := fun X B => by
              apply Array.ext'
              simp
            have h0 : ∀ (X : Value) (B : Array Value), (#[X] ++ B)[0]? = some X := fun X B => by
              have : 0 < (#[X] ++ B).size := by simp; omega
              rw [Array.getElem?_eq_getElem this]
              simp [Array.getElem_append]
            simp only [resolve, Sem.run_bind, Sem.run_pure, Result.andThen_ok, invoke]
            rw [h0]
            simp only [hX, callMethod, Sem.run_bind, run_program, Result.andThen_ok, hfuel, hm, callee_enter hb']
            rw [he]
          · have := VRels.append (l := [v]) (m := l.map ρ) (A := #[V]) (B := args.map η) (ι := ι) (w := w) (M := M) ⟨rfl, fun j hj => by
              obtain rfl : j = 0 := by simp at hj; exact hj
              exact hrV⟩ (rels _ hargs)
            exact this
        · simp at h
      · simp at h
  · simp at hc

theorem op_eff0 {o : Oper} {a : AOp} (hc : compOp0 P o.op = some a) (hE : a.isE = true) (hR : Rep ι s w M) (hρ : ORel ι w M ρ η) (hη : ∀ f, η (.func f) = .func (.func f) #[] #[]) {n0 : Nat} (hn : n0 ≤ s.next) :
    (∀ v e, opD s.get s.next ρ a = .ok true v e → DoesN P n0 ι s w M (execOp η o) v (s.app e)) ∧
    (∀ f args, opD s.get s.next ρ a = .call f args → hasBody P f = true → ∃ Vs, (execOp η o).run P w = .ok (.enter f Vs) w ∧ VRels ι w M args Vs) := by
  obtain ⟨dst, op, type, pos, after, guard⟩ := o
  simp only at hc
  unfold compOp0 at hc
  split at hc
  · obtain ⟨y, hy, rfl⟩ := map_some hc
    simp [AOp.isE] at hE
  · obtain ⟨y, hy, rfl⟩ := map_some hc
    simp [AOp.isE] at hE
  · split at hc
    · simp only [Option.some.injEq] at hc; subst hc; simp [AOp.isE] at hE
    · simp at hc
  · obtain ⟨y, hy, rfl⟩ := map_some hc
    simp [AOp.isE] at hE
  · obtain ⟨y, hy, rfl⟩ := map_some hc
    simp [AOp.isE] at hE
  · exfalso
    split at hc
    · split at hc
      · obtain ⟨l, _, rfl⟩ := map_some hc; (rw [mkBuild_isE] at hE; cases hE)
      · simp at hc
    · split at hc
      · obtain ⟨l, _, rfl⟩ := map_some hc; (rw [mkBuild_isE] at hE; cases hE)
      · simp at hc
    · simp at hc
  · exfalso
    split at hc
    · split at hc
      · split at hc
        · obtain ⟨l, hl, rfl⟩ := map_some hc; simp [AOp.isE] at hE
        · simp at hc
      · simp at hc
    · simp at hc
  · split at hc
    · split at hc
      · simp only [Option.some.injEq] at hc; subst hc; simp [AOp.isE] at hE
      · simp at hc
    · simp at hc
  · -- store
    rename_i t x y
    split at hc
    · rename_i n x' y' hn' hx' hy'
      simp only [Option.some.injEq] at hc
      subst hc
      refine ⟨fun v e h => ?_, fun f args h => ?_⟩
      · have hx := hρ _ _ hx'
        have hy := hρ _ _ hy'
        simp only [opD] at h
        obtain ⟨rfl, w', k1, k2, k3⟩ := storeA_sound (P := P) hR hn hx hy hn' h
        refine ⟨undef, ι, w', M, .inr ⟨by simp [execOp, k1], rfl⟩, .undef _, k2, k3, fun _ _ h => h, GoImm k3 fun b hb => hR.ownM hb⟩
      · simp only [opD, storeA] at h
        split at h
        · split at h
          · split at h
            · split at h <;> simp at h
            · split at h <;> simp at h
          · simp at h
        · simp at h
    · simp at hc
  · obtain ⟨y, hy, rfl⟩ := map_some hc
    simp [AOp.isE] at hE
  · split at hc
    · simp only [Option.some.injEq] at hc; subst hc; simp [AOp.isE] at hE
    · simp at hc
  · obtain ⟨y, hy, rfl⟩ := map_some hc
    simp [AOp.isE] at hE
  · split at hc
    · simp only [Option.some.injEq] at hc; subst hc; simp [AOp.isE] at hE
    · simp at hc
  · split at hc
    · simp at hc
    · simp at hc
    · obtain ⟨y, hy, rfl⟩ := map_some hc
      simp [AOp.isE] at hE
  · obtain ⟨y, hy, rfl⟩ := map_some hc
    simp [AOp.isE] at hE
  · exfalso
    split at hc
    · split at hc
      · split at hc
        · simp only [Option.some.injEq] at hc; subst hc; simp [AOp.isE] at hE
        · simp at hc
      · simp at hc
    · simp at hc
  · split at hc
    · split at hc
      · simp only [Option.some.injEq] at hc; subst hc; simp [AOp.isE] at hE
      · obtain ⟨y, hy, rfl⟩ := map_some hc; simp [AOp.isE] at hE
      · obtain ⟨y, hy, rfl⟩ := map_some hc; simp [AOp.isE] at hE
      · split at hc
        · simp only [Option.some.injEq] at hc; subst hc; simp [AOp.isE] at hE
        · simp at hc
    · simp at hc
  · split at hc
    · split at hc
      · split at hc
        · split at hc
          · simp at hc
          · split at hc
            · simp only [Option.some.injEq] at hc; subst hc; simp [AOp.isE] at hE
            · simp at hc
        · simp at hc
      · simp at hc
    · simp at hc
  · split at hc
    · split at hc
      · split at hc
        · simp at hc
        · split at hc
          · simp only [Option.some.injEq] at hc; subst hc; simp [AOp.isE] at hE
          · simp at hc
      · simp at hc
    · split at hc
      · split at hc
        · simp at hc
        · split at hc
          · simp only [Option.some.injEq] at hc; subst hc; simp [AOp.isE] at hE
          · simp at hc
      · simp at hc
    · simp at hc
  · obtain ⟨y, hy, rfl⟩ := map_some hc
    simp [AOp.isE] at hE
  · exact call_eff hc hE hR hρ hη hn
  · simp at hc

end
end Go.Ab
set_option linter.unusedVariables false
set_option linter.unusedSimpArgs false
set_option autoImplicit false
namespace Go.Ab

section
variable {P : Program} {ι : Iota} {s : St} {w : World} {M : Nat → Prop} {ρ : AOpd → AV} {η : Operand → Value} {get : Nat → Option Chunk} {nx : Nat}

/-- a value is made, nothing changes -/
theorem Does.pure {n0 : Nat} {o : Sem Value} {v : AV} {V : Value} (hR : Rep ι s w M) (hn : n0 ≤ s.next) (h : o.run P w = .ok V w) (hv : VRel ι w M v V) : Does P n0 ι s w M o v s :=
  ⟨V, ι, w, M, h, hv, hR, Go.refl ι s w M hn, fun _ _ h => h, Imm.refl w M⟩
/-- a value, and no change -/
def PN (P : Program) (ι : Iota) (w : World) (M : Nat → Prop) (o : Sem Next) (v : AV) (e : Eff) : Prop := (∃ V, o.run P w = .ok (.value V) w ∧ VRel ι w M v V) ∧ e = .no
theorem PN.of {o : Sem Value} {v : AV} {V : Value} (h : o.run P w = .ok V w) (hv : VRel ι w M v V) : PN P ι w M (do pure (.value (← o)) : Sem Next) v .no := ⟨⟨V, by simp [h], hv⟩, rfl⟩

theorem index_sound {t : Nat} {x i : Operand} {a b : AOpd} {v : AV} {e : Eff} (hρ : ORel ι w M ρ η) (hu : P.underlying t = some .string) (ha : opd x = some a) (hb : opd i = some b)
    (h : moreD get nx ρ (.sidx a b) = .ok true v e) : PN P ι w M (do pure (.value (← Instr.index t (η x) (η i))) : Sem Next) v e := by
  have hx := hρ _ _ ha
  have hi := hρ _ _ hb
  simp only [moreD] at h
  split at h
  · rename_i str k n h1 h2
    simp only [Res.ok.injEq, Bool.and_eq_true, decide_eq_true_eq] at h
    obtain ⟨⟨h3, h4⟩, rfl, rfl⟩ := h
    rw [h1] at hx
    rw [h2] at hi
    have ex := hx.str_inv
    have ei := hi.int_inv
    rw [ex, ei]
    obtain ⟨m, rfl⟩ := Int.eq_ofNat_of_zero_le h3
    refine PN.of (V := .int .u8 ((str.b.data.getD m 0).toNat)) ?_ (by
      have := Str.chr_b str m (by omega)
      show VRel ι w M (.int .u8 (Str.chr str m)) _
      rw [this]
      exact .g _ _ (.int _ _))
    have hm : m < str.b.size := by rw [Str.b_size]; omega
    have hg : str.b[m]? = some (str.b.data.getD m 0) := by
      rw [getElem?_pos str.b m hm]
      simp [ByteArray.getElem_eq_getElem_data, Array.getD, show m < str.b.data.size from hm]
      exact fun h5 => absurd h5 (by omega)
    simp [Instr.index, asIntOf, run_underlying hu, hg]
  · cases h

/-- a map is made -/
theorem mkmap_sound {n0 t : Nat} (hR : Rep ι s w M) (hn : n0 ≤ s.next) : Does P n0 ι s w M (Instr.makeMap t none) (.mp s.next) (s.app (.new (.map [] 0))) := by
  have hi : ι s.next = none := hR.fresh _ (Nat.le_refl _)
  have hg : s.get s.next = none := by
    cases h : s.get s.next with
    | none => rfl
    | some c => exact absurd (hR.none_of_get h) (by omega)
  have hR1 : Rep ι ⟨s.next + 1, s.m⟩ w M := hR.next (by omega)
  have hR2 := Rep.allocO (o := .map #[] 0) (h := s.next) hR1 hi (by simp) hg
  have hx := ι.set_ext s.next (some (w.heap.size, 0)) hi
  refine ⟨.map (some w.heap.size), ι.set s.next (some (w.heap.size, 0)), w.alloc (.map #[] 0), addM M w.heap.size, by simp [Instr.makeMap], .mp _ _ (ι.set_same _ _), ?_, ?_, hx, Imm.alloc _⟩
  · refine hR2.put (.inr ⟨w.heap.size, 0, ι.set_same _ _, .inr rfl, ⟨rfl, #[], heap_alloc_new w _, rfl, fun j x hx => by simp at hx⟩, fun j c' p hne hc' hp => ?_⟩)
    rw [ι.set_other _ _ _ hne] at hp
    have hM := hR.ownM ⟨j, c', p.2, hc', hp⟩
    have := hR.lt _ hM
    omega
  · have hgo := Go.alloc (n0 := n0) (h := s.next) (o := .map #[] 0) (p := some (w.heap.size, 0)) (ι := ι) (s := s) (w := w) (M := M) hn hn hg hi
    refine ⟨hgo.size, hgo.tape, hgo.os, hgo.output, hgo.block, hgo.shape, hgo.back, hgo.keep, fun b hb ho => ?_, by simp only [St.app]; omega, hgo.ext⟩
    obtain ⟨j, c', base, h1, h2⟩ := ho
    simp only [St.app] at h1
    rw [St.get_cons] at h1
    split at h1
    · rename_i he
      subst he
      rw [ι.set_same] at h2
      simp only [Option.some.injEq, Prod.mk.injEq] at h2
      omega
    · rename_i he
      rw [ι.set_other _ _ _ (fun e => he e.symm)] at h2
      exact ⟨j, c', base, h1, h2⟩

/-! ### maps -/
theorem part_int {t off : Nat} {k : IntKind} {cs : Array Value} (hu : P.underlying t = some (.int k)) (h : off < cs.size) : (part t cs off).run P w = .ok (cs.getD off default) w := by
  have ha : aggP P t = some false := by simp [aggP, hu]
  have e2 : cs[off]? = some (cs.getD off default) := by
    rw [Array.getD_eq_getD_getElem?, Array.getElem?_eq_getElem h]
    rfl
  simp only [part, Sem.run_bind, aggP_run ha, Result.andThen_ok, Bool.false_eq_true, if_false]
  rw [e2]
  rfl
theorem drop_cons {l : List AV} {i : Nat} (h : i < l.length) : l.drop i = l.getD i .undef :: l.drop (i + 1) := by
  rw [List.drop_eq_getElem_cons h]
  simp [List.getD_eq_getElem?_getD, h]
theorem eqF {d : Nat} {cs cs' : Array Value} {l l' : List AV} (h1 : cs.size = l.length) (h2 : cs'.size = l'.length) (hv : ∀ j, j < l.length → VRel ι w M (l.getD j .undef) (cs.getD j default)) (hv' : ∀ j, j < l'.length → VRel ι w M (l'.getD j .undef) (cs'.getD j default)) :
    ∀ (fs : List Field) (i : Nat) (b : Bool), intFields P fs i = true → i + fs.length = l.length → i + fs.length = l'.length → keyL (l.drop i) (l'.drop i) = some b → (Op.eqFields (d + 1) cs cs' fs).run P w = .ok b w
  | [], i, b, _, hl, hl', h => by
    rw [List.drop_eq_nil_of_le (by simp at hl; omega), List.drop_eq_nil_of_le (by simp at hl'; omega)] at h
    simp only [keyL, Option.some.injEq] at h
    subst h
    simp [Op.eqFields]
  | f :: r, i, b, hf, hl, hl', h => by
    simp only [List.length_cons] at hl hl'
    rw [drop_cons (by omega), drop_cons (l := l') (by omega)] at h
    simp only [intFields, Bool.and_eq_true] at hf
    obtain ⟨hf1, hf2⟩ := hf
    split at hf1
    · rename_i kk hu hz
      simp only [Bool.and_eq_true, bne_iff_ne, ne_eq] at hf1
      obtain ⟨ho, hn⟩ := hf1
      have ho := Nat.eq_of_beq_eq_true ho
      have r1 := hv i (by omega)
      have r2 := hv' i (by omega)
      unfold keyL at h
      split at h
      · rename_i e1 e2; cases e1
      · rename_i k a lt k' a' lt' e1 e2
        simp only [List.cons.injEq] at e1 e2
        obtain ⟨e1, rfl⟩ := e1
        obtain ⟨e2, rfl⟩ := e2
        rw [e1] at r1
        rw [e2] at r2
        have r1 := r1.int_inv
        have r2 := r2.int_inv
        split at h
        · rename_i hkk
          subst hkk
          simp only [Op.eqFields, if_pos hn, Sem.run_bind]
          rw [ho, part_int hu (by omega), Result.andThen_ok, part_int hu (by omega), Result.andThen_ok, r1, r2, run_equalIn_int w d f.type k kk a a' hu, Result.andThen_ok]
          cases hab : a == a' with
          | true =>
            simp only [hab, cond_true] at h
            simp only [Bool.not_true, Bool.false_eq_true, if_false]
            exact eqF h1 h2 hv hv' r (i + 1) b hf2 (by omega) (by omega) h
          | false =>
            simp only [hab, cond_false] at h
            split at h
            · simp only [Option.some.injEq] at h
              subst h
              simp
            · cases h
        · cases h
      · cases h
    · cases hf1
theorem keyL_true : ∀ {l l' : List AV}, keyL l l' = some true → l = l' ∧ ∀ x ∈ l, ∃ k n, x = .int k n
  | [], l', h => by
    cases l' with
    | nil => exact ⟨rfl, fun x hx => by simp at hx⟩
    | cons _ _ => simp [keyL] at h
  | a :: l, l', h => by
    unfold keyL at h
    split at h
    · rename_i e; cases e
    · rename_i k n l0 k' n' l1 e
      cases e
      split at h
      · rename_i hk
        subst hk
        cases hab : n == n' with
        | true =>
          simp only [hab, cond_true] at h
          obtain ⟨rfl, h2⟩ := keyL_true h
          have := eq_of_beq hab
          subst this
          refine ⟨rfl, fun x hx => ?_⟩
          rcases List.mem_cons.1 hx with rfl | hx
          · exact ⟨_, _, rfl⟩
          · exact h2 x hx
        | false =>
          simp only [hab, cond_false] at h
          split at h <;> simp at h
      · cases h
    · cases h
theorem sameBits_self {n : Nat} : ∀ (cs : List Value), (∀ x ∈ cs, ∃ k m, x = .int k m) → ((cs.zip cs).all fun (x, y) => Instr.sameBits n x y) = true
  | [], _ => rfl
  | a :: r, h => by
    obtain ⟨k, m, rfl⟩ := h a (by simp)
    simp only [List.zip_cons_cons, List.all_cons, Bool.and_eq_true]
    refine ⟨?_, sameBits_self r fun x hx => h x (by simp [hx])⟩
    cases n <;> simp [Instr.sameBits]
theorem sameBits_of {td : TypeDesc} {K K' : Value} {n : Nat} (h : Instr.sameNow td K K' = some true) : Instr.sameBits n K' K = true := by
  unfold Instr.sameNow at h
  split at h
  · rename_i k a k' b
    split at h
    · rename_i he
      subst he
      simp only [Option.some.injEq, beq_iff_eq] at h
      subst h
      cases n <;> simp [Instr.sameBits]
    · cases h
  · rename_i a b
    simp only [Option.some.injEq] at h
    obtain ⟨a⟩ := a
    obtain ⟨b⟩ := b
    have h' : (a == b) = true := h
    have := eq_of_beq h'
    subst this
    cases n <;> simpa [Instr.sameBits] using h
  · simp only [Option.some.injEq] at h
    have := eq_of_beq h
    subst this
    cases n <;> simp [Instr.sameBits]
  · cases h
theorem keyEq_plain {td : TypeDesc} {kk : KeyK} {a b : AV} {c : Bool} (hk : kindK td = some kk) (h : keyEq kk a b = some c) :
    (∃ k n n', a = .int k n ∧ b = .int k n' ∧ c = (n == n')) ∨ (∃ s s', a = .str s ∧ b = .str s' ∧ c = Str.same s s') ∨ (∃ s s', a = .bool s ∧ b = .bool s' ∧ c = (s == s')) := by
  cases td <;> simp only [kindK, Option.some.injEq, reduceCtorEq] at hk <;> subst hk <;> cases a <;> cases b <;> simp [keyEq] at h
  · exact .inr (.inr ⟨_, _, rfl, rfl, h.symm⟩)
  · obtain ⟨rfl, rfl⟩ := h; exact .inl ⟨_, _, _, rfl, rfl, rfl⟩
  · exact .inr (.inl ⟨_, _, rfl, rfl, h.symm⟩)
theorem keyEq_st {n : Nat} {a b : AV} {c : Bool} (h : keyEq (.st n) a b = some c) : ∃ l l', a = .agg l ∧ b = .agg l' ∧ l.length = n ∧ l'.length = n ∧ keyL l l' = some c := by
  cases a <;> cases b <;> simp only [keyEq, reduceCtorEq] at h
  rename_i l l'
  cases hc : Nat.beq l.length n && Nat.beq l'.length n with
  | false => simp [hc] at h
  | true =>
    simp only [hc, cond_true] at h
    simp only [Bool.and_eq_true] at hc
    exact ⟨l, l', rfl, rfl, Nat.eq_of_beq_eq_true hc.1, Nat.eq_of_beq_eq_true hc.2, h⟩
theorem keyK_cases {kt : Nat} {kk : KeyK} (h : keyK P kt = some kk) : (∃ td, P.underlying kt = some td ∧ kindK td = some kk) ∨ ∃ fs : Array Field, P.underlying kt = some (.struct fs) ∧ intFields P fs.toList 0 = true ∧ P.stoodInHeld kt = false ∧ kk = .st fs.size := by
  unfold keyK at h
  split at h
  · rename_i fs hu
    cases hc : intFields P fs.toList 0 && !P.stoodInHeld kt with
    | false => simp [hc] at h
    | true =>
      simp only [hc, cond_true, Option.some.injEq] at h
      simp only [Bool.and_eq_true, Bool.not_eq_true'] at hc
      exact .inr ⟨fs, hu, hc.1, hc.2, h.symm⟩
  · rename_i td _ hu
    exact .inl ⟨td, hu, h⟩
  · cases h
theorem checkKey_ok {kt : Nat} {kk : KeyK} {b : Bool} {k : AV} {V : Value} (hk : keyK P kt = some kk) (hw : keyW kk k = true) (hV : VRel ι w M k V) : (Instr.checkKey b 10000 kt V).run P w = .ok () w := by
  rcases keyK_cases hk with ⟨td, hu, hkk⟩ | ⟨fs, hu, hf, _, rfl⟩
  · unfold Instr.checkKey
    cases td <;> simp only [kindK, reduceCtorEq] at hkk <;> simp [run_underlying hu]
  · unfold keyW at hw
    split at hw
    · rename_i n l he
      cases he
      simp only [Bool.and_eq_true] at hw
      have hl := Nat.eq_of_beq_eq_true hw.1
      obtain ⟨cs, rfl, hs, _⟩ := hV.agg_inv
      unfold Instr.checkKey
      simp only [Sem.run_bind, run_underlying hu, Result.andThen_ok]
      rw [← Array.forIn_toList]
      have hfl : 0 + fs.toList.length ≤ cs.size := by simp; omega
      generalize fs.toList = L at hf hfl
      generalize 0 = i at hf hfl
      induction L generalizing i with
      | nil => simp
      | cons f r ih =>
        simp only [List.length_cons] at hfl
        simp only [intFields, Bool.and_eq_true] at hf
        obtain ⟨hf1, hf2⟩ := hf
        split at hf1
        · rename_i kk hu2 hz
          simp only [Bool.and_eq_true, bne_iff_ne, ne_eq] at hf1
          obtain ⟨ho, hn⟩ := hf1
          have ho := Nat.eq_of_beq_eq_true ho
          have hck : ∀ v, (Instr.checkKey b 9999 f.type v).run P w = .ok () w := fun v => by unfold Instr.checkKey; simp [run_underlying hu2]
          have hp := part_int (P := P) (w := w) (cs := cs) (off := f.offset) hu2 (by omega)
          simp only [List.forIn_cons, Sem.run_bind, hn, ne_eq, not_false_eq_true, if_true, Result.andThen_ok, hp, hck, Sem.run_pure]
          exact ih (i + 1) hf2 (by omega)
        · cases hf1
    · cases hw
    · rename_i h1 h2 h3; exact absurd rfl (h2 _)
theorem find_rel {kt : Nat} {kk : KeyK} {k : AV} {K : Value} {l : List (AV × AV × Nat)} {L : List MapEntry} {r : Option (Nat × AV)} (hk : keyK P kt = some kk) (hK : VRel ι w M k K) (hl : L.length = l.length)
    (hr : ∀ (j : Nat) (x : AV × AV × Nat), l[j]? = some x → ∃ e, L[j]? = some e ∧ MERel ι w M x e) (h : findK kk k l = some r) :
    keyW kk k = true ∧ ∃ R, (Instr.findKey kt K L).run P w = .ok R w ∧ ((r = none ∧ R = none) ∨ ∃ j v V e, r = some (j, v) ∧ R = some (j, V) ∧ VRel ι w M v V ∧ L[j]? = some e ∧ Instr.sameBits 10000 e.key K = true) := by
  unfold findK at h
  cases hw : keyW kk k with
  | false => simp [hw] at h
  | true =>
  simp only [hw, cond_true] at h
  refine ⟨rfl, ?_⟩
  rcases keyK_cases hk with ⟨td, hu, hkk⟩ | ⟨fs, hu, hf, hst, rfl⟩
  · -- numbers, strings, truth values
    have key : ∀ (l : List (AV × AV × Nat)) (L : List MapEntry) (i : Nat) (r : Option (Nat × AV)), L.length = l.length → (∀ (j : Nat) (x : AV × AV × Nat), l[j]? = some x → ∃ e, L[j]? = some e ∧ MERel ι w M x e) → findM kk k l i = some r →
        ∃ R, Instr.findNow td K L i = some R ∧ ((r = none ∧ R = none) ∨ ∃ j v V e, r = some (j, v) ∧ R = some (j, V) ∧ VRel ι w M v V ∧ i ≤ j ∧ L[j - i]? = some e ∧ Instr.sameBits 10000 e.key K = true) := by
      intro l
      induction l with
      | nil =>
        intro L i r hl _ h
        have : L = [] := by cases L with
          | nil => rfl
          | cons _ _ => simp at hl
        subst this
        simp only [findM, Option.some.injEq] at h
        subst h
        exact ⟨none, rfl, .inl ⟨rfl, rfl⟩⟩
      | cons x l ih =>
        intro L i r hl hr h
        cases L with
        | nil => simp at hl
        | cons e L =>
          obtain ⟨e', he, h1, h2, _⟩ := hr 0 x rfl
          simp only [List.getElem?_cons_zero, Option.some.injEq] at he
          subst he
          have key : ∀ b, keyEq kk k x.1 = some b → Instr.sameNow td K e.key = some b := by
            intro b hb
            rcases keyEq_plain hkk hb with ⟨k1, n1, n2, rfl, e2, rfl⟩ | ⟨a1, a2, rfl, e2, rfl⟩ | ⟨a1, a2, rfl, e2, rfl⟩
            · rw [e2] at h1
              rw [hK.int_inv, h1.int_inv]
              cases td <;> simp only [kindK, Option.some.injEq, reduceCtorEq] at hkk <;> simp [keyEq, ← hkk] at hb
              simp [Instr.sameNow]
            · rw [e2] at h1
              rw [hK.str_inv, h1.str_inv]
              cases td <;> simp only [kindK, Option.some.injEq, reduceCtorEq] at hkk <;> simp [keyEq, ← hkk] at hb
              simp [Instr.sameNow, Str.same_eq]
            · rw [e2] at h1
              rw [hK.bool_inv, h1.bool_inv]
              cases td <;> simp only [kindK, Option.some.injEq, reduceCtorEq] at hkk <;> simp [keyEq, ← hkk] at hb
              simp [Instr.sameNow]
          unfold findM at h
          split at h
          · rename_i hq
            simp only [Option.some.injEq] at h
            subst h
            exact ⟨some (i, e.val), by simp [Instr.findNow, key _ hq], .inr ⟨i, x.2.1, e.val, e, rfl, rfl, h2, Nat.le_refl _, by simp, sameBits_of (key _ hq)⟩⟩
          · rename_i hq
            obtain ⟨R, h3, h4⟩ := ih L (i + 1) r (by simpa using hl) (fun j y hy => by
              obtain ⟨e2, h5, h6⟩ := hr (j + 1) y (by simpa using hy)
              exact ⟨e2, by simpa using h5, h6⟩) h
            refine ⟨R, by simp [Instr.findNow, key _ hq, h3], ?_⟩
            rcases h4 with h4 | ⟨j, v, V, e2, q1, q2, q3, q4, q5, q6⟩
            · exact .inl h4
            · refine .inr ⟨j, v, V, e2, q1, q2, q3, by omega, ?_, q6⟩
              rw [show j - i = (j - (i + 1)) + 1 by omega, List.getElem?_cons_succ]
              exact q5
          · cases h
    obtain ⟨R, h1, h2⟩ := key l L 0 r hl hr h
    refine ⟨R, by simp [Instr.findKey, run_underlying hu, h1], ?_⟩
    rcases h2 with h2 | ⟨j, v, V, e, q1, q2, q3, _, q5, q6⟩
    · exact .inl h2
    · exact .inr ⟨j, v, V, e, q1, q2, q3, by simpa using q5, q6⟩
  · -- structs of numbers
    have key : ∀ (l : List (AV × AV × Nat)) (L : List MapEntry) (i : Nat) (r : Option (Nat × AV)), L.length = l.length → (∀ (j : Nat) (x : AV × AV × Nat), l[j]? = some x → ∃ e, L[j]? = some e ∧ MERel ι w M x e) → findM (.st fs.size) k l i = some r →
        ∃ R, (Instr.findAsking kt K L i).run P w = .ok R w ∧ ((r = none ∧ R = none) ∨ ∃ j v V e, r = some (j, v) ∧ R = some (j, V) ∧ VRel ι w M v V ∧ i ≤ j ∧ L[j - i]? = some e ∧ Instr.sameBits 10000 e.key K = true) := by
      intro l
      induction l with
      | nil =>
        intro L i r hl _ h
        have : L = [] := by cases L with
          | nil => rfl
          | cons _ _ => simp at hl
        subst this
        simp only [findM, Option.some.injEq] at h
        subst h
        exact ⟨none, by simp [Instr.findAsking], .inl ⟨rfl, rfl⟩⟩
      | cons x l ih =>
        intro L i r hl hr h
        cases L with
        | nil => simp at hl
        | cons e L =>
          obtain ⟨e', he, h1, h2, _⟩ := hr 0 x rfl
          simp only [List.getElem?_cons_zero, Option.some.injEq] at he
          subst he
          have key : ∀ b, keyEq (.st fs.size) k x.1 = some b → (Op.equal kt K e.key).run P w = .ok b w ∧ (b = true → Instr.sameBits 10000 e.key K = true) := by
            intro b hb
            obtain ⟨la, lb, rfl, e2, c1, c2, hb⟩ := keyEq_st hb
            obtain ⟨cs, rfl, hs, hg⟩ := hK.agg_inv
            rw [e2] at h1
            obtain ⟨cs', hK', hs', hg'⟩ := h1.agg_inv
            rw [hK']
            have hfo : P.fieldsOf kt = fs := by simp [Program.fieldsOf, hu]
            refine ⟨?_, fun hb1 => ?_⟩
            · show (Op.equalIn (9998 + 1 + 1) kt (.agg cs) (.agg cs')).run P w = _
              rw [run_equalIn_struct w (9998 + 1) kt cs cs' (by rw [hfo]; exact hu) hst, hfo]
              exact eqF hs hs' hg hg' fs.toList 0 b hf (by simpa using c1.symm) (by simpa using c2.symm) (by simpa using hb)
            · subst hb1
              obtain ⟨rfl, hint⟩ := keyL_true hb
              have hce : cs' = cs := by
                apply Array.ext
                · omega
                · intro j j1 j2
                  have a1 := hg j (by omega)
                  have a2 := hg' j (by omega)
                  have hm : la.getD j .undef ∈ la := by
                    rw [List.getD_eq_getElem?_getD, List.getElem?_eq_getElem (by omega)]
                    exact List.getElem_mem _
                  obtain ⟨k, m, hkm⟩ := hint _ hm
                  rw [hkm] at a1 a2
                  have a1 := a1.int_inv
                  have a2 := a2.int_inv
                  simp only [Array.getD, j1, j2, dif_pos] at a1 a2
                  exact a2.trans a1.symm
              subst hce
              show Instr.sameBits (9999 + 1) (.agg cs') (.agg cs') = true
              simp only [Instr.sameBits, beq_self_eq_true, Bool.true_and]
              refine sameBits_self _ fun y hy => ?_
              obtain ⟨j, j1, rfl⟩ := List.getElem_of_mem hy
              have a1 := hg j (by simp at j1; omega)
              have hm : la.getD j .undef ∈ la := by
                rw [List.getD_eq_getElem?_getD, List.getElem?_eq_getElem (by simp at j1; omega)]
                exact List.getElem_mem _
              obtain ⟨k, m, hkm⟩ := hint _ hm
              rw [hkm] at a1
              have a1 := a1.int_inv
              have j2 : j < cs'.size := by simpa using j1
              simp only [Array.getD, j2, dif_pos] at a1
              exact ⟨k, m, by simpa using a1⟩
          unfold findM at h
          split at h
          · rename_i hq
            simp only [Option.some.injEq] at h
            subst h
            obtain ⟨k1, k2⟩ := key _ hq
            exact ⟨some (i, e.val), by simp [Instr.findAsking, k1], .inr ⟨i, x.2.1, e.val, e, rfl, rfl, h2, Nat.le_refl _, by simp, k2 rfl⟩⟩
          · rename_i hq
            obtain ⟨R, h3, h4⟩ := ih L (i + 1) r (by simpa using hl) (fun j y hy => by
              obtain ⟨e2, h5, h6⟩ := hr (j + 1) y (by simpa using hy)
              exact ⟨e2, by simpa using h5, h6⟩) h
            refine ⟨R, by simp [Instr.findAsking, (key _ hq).1, h3], ?_⟩
            rcases h4 with h4 | ⟨j, v, V, e2, q1, q2, q3, q4, q5, q6⟩
            · exact .inl h4
            · refine .inr ⟨j, v, V, e2, q1, q2, q3, by omega, ?_, q6⟩
              rw [show j - i = (j - (i + 1)) + 1 by omega, List.getElem?_cons_succ]
              exact q5
          · cases h
    obtain ⟨R, h1, h2⟩ := key l L 0 r hl hr h
    refine ⟨R, ?_, ?_⟩
    · cases L with
      | nil =>
        simp [Instr.findAsking] at h1
        subst h1
        simp [Instr.findKey, run_underlying hu, Instr.findNow]
      | cons e L => simp [Instr.findKey, run_underlying hu, Instr.findNow, Instr.sameNow, h1]
    · rcases h2 with h2 | ⟨j, v, V, e, q1, q2, q3, _, q5, q6⟩
      · exact .inl h2
      · exact .inr ⟨j, v, V, e, q1, q2, q3, by simpa using q5, q6⟩
end
end Go.Ab
set_option linter.unusedVariables false
set_option linter.unusedSimpArgs false
set_option autoImplicit false
namespace Go.Ab

section
variable {P : Program} {ι : Iota} {s : St} {w : World} {M : Nat → Prop} {ρ : AOpd → AV} {η : Operand → Value} {get : Nat → Option Chunk} {nx : Nat}

theorem ofVs_rel : ∀ (L : List Value) (l : List AV), ofVs L = some l → L.length = l.length ∧ ∀ j, j < l.length → VRel ι w M (l.getD j .undef) (L.getD j default)
  | [], l, h => by
    simp only [ofVs, Option.some.injEq] at h
    subst h
    exact ⟨rfl, fun j hj => by simp at hj⟩
  | v :: r, l, h => by
    simp only [ofVs] at h
    split at h
    · rename_i a l' h1 h2
      simp only [Option.some.injEq] at h
      subst h
      obtain ⟨h3, h4⟩ := ofVs_rel r l' h2
      refine ⟨by simp [h3], fun j hj => ?_⟩
      cases j with
      | zero => simpa using ofV_rel h1
      | succ j => simpa using h4 j (by simpa using hj)
    · cases h
theorem zeroOf_run {t : Nat} {z : AV} (h : zeroOf P t = some z) : ∃ V, (zeroValue t).run P w = .ok V w ∧ VRel ι w M z V := by
  unfold zeroOf at h
  split at h
  · rename_i i hi
    split at h
    · rename_i cs hz
      simp only [Option.map_eq_some_iff] at h
      obtain ⟨l, hl, rfl⟩ := h
      obtain ⟨h1, h2⟩ := ofVs_rel (ι := ι) (w := w) (M := M) _ _ hl
      refine ⟨.agg cs, by simp [zeroValue, typeInfo, hi, hz], .agg l cs (by simpa using h1) fun j hj => ?_⟩
      simpa [List.getD_eq_getElem?_getD, Array.getD_eq_getD_getElem?] using h2 j hj
    · rename_i V _ hz
      exact ⟨V, by simp [zeroValue, typeInfo, hi, hz], ofV_rel h⟩
    · cases h
  · cases h
/-- what a map holds -/
theorem ents_rel {x : AV} {X : Value} {l : List (AV × AV × Nat)} (hG : HGet ι w M get) (hx : VRel ι w M x X) (h : entsA get x = some l) :
    ∃ L : Array MapEntry, (X = .map none ∧ L = #[] ∨ ∃ b clk, X = .map (some b) ∧ w.heap[b]? = some (.map L clk)) ∧ L.toList.length = l.length ∧ ∀ (j : Nat) (y : AV × AV × Nat), l[j]? = some y → ∃ e, L.toList[j]? = some e ∧ MERel ι w M y e := by
  unfold entsA at h
  split at h
  · simp only [Option.some.injEq] at h
    subst h
    exact ⟨#[], .inl ⟨hx.nilm_inv, rfl⟩, rfl, fun j y hy => by simp at hy⟩
  · rename_i hh
    split at h
    · rename_i l' clk hg
      simp only [Option.some.injEq] at h
      subst h
      obtain ⟨b, hi, rfl⟩ := hx.mp_inv
      rcases hG hh _ _ hg hi with ⟨h4, _⟩ | ⟨b', base', h4, hC⟩
      · cases h4
      · simp only [Option.some.injEq, Prod.mk.injEq] at h4
        obtain ⟨rfl, rfl⟩ := h4
        obtain ⟨_, es, h5, h6, h7⟩ := hC
        refine ⟨es, .inr ⟨b, clk, rfl, h5⟩, by simpa using h6, fun j y hy => ?_⟩
        obtain ⟨e, h8, h9⟩ := h7 j y hy
        exact ⟨e, by simpa using h8, h9⟩
    · cases h
  · cases h
theorem look_sound {t kt et : Nat} {x k z v : AV} {X K : Value} {kk : KeyK} {ok : Bool} {e : Eff} (hG : HGet ι w M get) (hX : VRel ι w M x X) (hK : VRel ι w M k K)
    (hu : P.underlying t = some (.map kt et)) (hk : keyK P kt = some kk) (hz : zeroOf P et = some z) (h : lookA get kk ok z x k = .ok true v e) : PN P ι w M (do pure (.value (← Instr.lookup t X K ok)) : Sem Next) v e := by
  unfold lookA at h
  split at h
  · rename_i l hl
    obtain ⟨L, h1, h2, h3⟩ := ents_rel hG hX hl
    obtain ⟨Z, hZ, hZr⟩ := zeroOf_run (ι := ι) (w := w) (M := M) hz
    have fin : ∀ (u : AV) (U : Value) (b : Bool), VRel ι w M u U → VRel ι w M (bif ok then .tup [u, .bool b] else u) (if ok then .tuple #[U, .bool b] else U) := by
      intro u U b hu
      cases ok with
      | false => simpa using hu
      | true =>
        simp only [cond_true, if_true]
        refine .tup _ _ (by simp) fun j hj => ?_
        match j, hj with
        | 0, _ => simpa using hu
        | 1, _ => exact .g _ _ (.bool _)
        | j + 2, hj => exact absurd hj (by simp)
    have run : ∀ (R : Option (Nat × Value)), keyW kk k = true → (Instr.findKey kt K L.toList).run P w = .ok R w → (Instr.lookup t X K ok).run P w = .ok (match R with | some (_, V) => (if ok then .tuple #[V, .bool true] else V) | none => (if ok then .tuple #[Z, .bool false] else Z)) w := by
      intro R hw hf
      have hck := fun b => checkKey_ok (b := b) hk hw hK
      rcases h1 with ⟨rfl, rfl⟩ | ⟨b, clk, rfl, hb⟩
      · cases R <;> simp [Instr.lookup, run_underlying hu, hck, hf, hZ]
      · have hgo : (getObj b).run P w = .ok (.map L clk) w := by simp [getObj, Sem.run, hb]
        cases R <;> simp [Instr.lookup, run_underlying hu, hgo, hck, hf, hZ]
    split at h
    · rename_i i u hf
      simp only [Res.ok.injEq, true_and] at h
      obtain ⟨rfl, rfl⟩ := h
      obtain ⟨hw, R, h4, h5⟩ := find_rel hk hK h2 h3 hf
      rcases h5 with ⟨h5, _⟩ | ⟨j, v', V, e, h5, rfl, h6, _⟩
      · cases h5
      · simp only [Option.some.injEq, Prod.mk.injEq] at h5
        obtain ⟨rfl, rfl⟩ := h5
        exact PN.of (run _ hw h4) (fin _ _ _ h6)
    · rename_i hf
      simp only [Res.ok.injEq, true_and] at h
      obtain ⟨rfl, rfl⟩ := h
      obtain ⟨hw, R, h4, h5⟩ := find_rel hk hK h2 h3 hf
      rcases h5 with ⟨_, rfl⟩ | ⟨j, v', V, e, h5, _⟩
      · exact PN.of (run _ hw h4) (fin _ _ _ hZr)
      · cases h5
    · cases h
  · cases h

/-- a map's entries are changed -/
theorem set_map {n0 h b clk clk' : Nat} {l l' : List (AV × AV × Nat)} {L L' : Array MapEntry} (hR : Rep ι s w M) (hn : n0 ≤ s.next) (hg : s.get h = some (.map l clk)) (hi : ι h = some (some (b, 0))) (hb : w.heap[b]? = some (.map L clk)) (hlen : L'.size = l'.length)
    (hrel : ∀ (j : Nat) (x : AV × AV × Nat), l'[j]? = some x → ∃ e, L'[j]? = some e ∧ MERel ι w M x e) :
    Rep ι (s.app (.set h (.map l' clk'))) { w with heap := w.heap.setIfInBounds b (.map L' clk') } M ∧ Go n0 ι s w M ι (s.app (.set h (.map l' clk'))) { w with heap := w.heap.setIfInBounds b (.map L' clk') } M := by
  have hlt : b < w.heap.size := by
    rcases Nat.lt_or_ge b w.heap.size with h | h
    · exact h
    · rw [Array.getElem?_eq_none h] at hb; cases hb
  have e1 : ({ w with heap := w.heap.setIfInBounds b (.map L' clk') } : World).heap.size = w.heap.size := by simp
  have e2 : ∀ k, k ≠ b → ({ w with heap := w.heap.setIfInBounds b (.map L' clk') } : World).heap[k]? = w.heap[k]? := fun k hk => by
    simp [Array.getElem?_setIfInBounds, Ne.symm hk]
  have e3 : ({ w with heap := w.heap.setIfInBounds b (.map L' clk') } : World).heap[b]? = some (.map L' clk') := by
    simp [Array.getElem?_setIfInBounds, hlt]
  have e4 : ∀ k, ({ w with heap := w.heap.setIfInBounds b (.map L' clk') } : World).shape? k = w.shape? k := fun k => by
    unfold World.shape?
    by_cases hk : k = b
    · subst hk; rw [e3, hb]
    · rw [e2 k hk]
  have hMb : M b := hR.ownM ⟨h, _, 0, hg, hi⟩
  have hI := Imm.set (w := w) hMb e1 e2 e4
  refine ⟨Rep.set hR hg hi e1 e2 e4 ⟨rfl, L', e3, hlen, fun j x hx => ?_⟩, Go.set hR hn hg hi e1 e2 e4 rfl rfl rfl⟩
  obtain ⟨e, h1, h2, h3, h4⟩ := hrel j x hx
  exact ⟨e, h1, h2.mono hI (fun _ _ h => h), h3.mono hI (fun _ _ h => h), h4⟩
theorem mset_sound {n0 t kt et : Nat} {m k x v : AV} {X K Y : Value} {kk : KeyK} {e : Eff} (hR : Rep ι s w M) (hn : n0 ≤ s.next) (hX : VRel ι w M m X) (hK : VRel ι w M k K) (hY : VRel ι w M x Y)
    (hu : P.underlying t = some (.map kt et)) (hk : keyK P kt = some kk) (h : msetA s.get kk m k x = .ok true v e) :
    v = .undef ∧ ∃ w', (Instr.mapUpdate t X K Y).run P w = .ok () w' ∧ Rep ι (s.app e) w' M ∧ Go n0 ι s w M ι (s.app e) w' M := by
  unfold msetA at h
  split at h
  · rename_i hh
    split at h
    · rename_i l clk hg
      split at h
      · rename_i l' clk' hp
        simp only [Res.ok.injEq, true_and] at h
        obtain ⟨rfl, rfl⟩ := h
        refine ⟨rfl, ?_⟩
        obtain ⟨b, hi, rfl⟩ := hX.mp_inv
        rcases hR.hget hh _ _ hg hi with ⟨h4, _⟩ | ⟨b', base', h4, hC⟩
        · cases h4
        simp only [Option.some.injEq, Prod.mk.injEq] at h4
        obtain ⟨rfl, rfl⟩ := h4
        obtain ⟨_, L, hb, hs, hrel⟩ := hC
        have hrel' : ∀ (j : Nat) (x : AV × AV × Nat), l[j]? = some x → ∃ e, L.toList[j]? = some e ∧ MERel ι w M x e := fun j y hy => by
          obtain ⟨e, h1, h2⟩ := hrel j y hy
          exact ⟨e, by simpa using h1, h2⟩
        have hgo : (getObj b).run P w = .ok (.map L clk) w := by simp [getObj, Sem.run, hb]
        have hso : ∀ o, (setObj b o).run P w = .ok () { w with heap := w.heap.setIfInBounds b o } := fun o => by simp [setObj, Sem.run, hb]
        unfold putM at hp
        split at hp
        · rename_i i u hf
          simp only [Option.some.injEq, Prod.mk.injEq] at hp
          obtain ⟨rfl, rfl⟩ := hp
          obtain ⟨hkw, R, h5, h6⟩ := find_rel hk hK (by simpa using hs) hrel' hf
          have hck := fun b => checkKey_ok (b := b) hk hkw hK
          rcases h6 with ⟨h6, _⟩ | ⟨j, v', V, e0, h6, rfl, h7, h8, h9⟩
          · cases h6
          simp only [Option.some.injEq, Prod.mk.injEq] at h6
          obtain ⟨rfl, rfl⟩ := h6
          simp only [Array.getElem?_toList] at h8
          have hstay : (Instr.keyThatStays ((L[i]?.map (·.key)).getD K) K).run P w = .ok K w := by
            simp [Instr.keyThatStays, h8, h9]
          refine ⟨_, ?_, set_map (L' := L.modify i fun e => { e with key := K, val := Y }) hR hn hg hi hb (by simpa using hs) fun j y hy => ?_⟩
          · simp [Instr.mapUpdate, run_underlying hu, hgo, hck, h5, hstay, hso]
          · cases hlj : l[j]? with
            | none => simp [List.getElem?_modify, hlj] at hy
            | some y0 =>
              obtain ⟨e1, he1, m1, m2, m3⟩ := hrel _ _ hlj
              by_cases hij : i = j
              · subst hij
                simp [List.getElem?_modify, hlj] at hy
                subst hy
                exact ⟨{ e1 with key := K, val := Y }, by simp [Array.getElem?_modify, he1], hK, hY, m3⟩
              · simp [List.getElem?_modify, hlj, hij] at hy
                subst hy
                exact ⟨e1, by simp [Array.getElem?_modify, hij, he1], m1, m2, m3⟩
        · rename_i hf
          simp only [Option.some.injEq, Prod.mk.injEq] at hp
          obtain ⟨rfl, rfl⟩ := hp
          obtain ⟨hkw, R, h5, h6⟩ := find_rel hk hK (by simpa using hs) hrel' hf
          have hck := fun b => checkKey_ok (b := b) hk hkw hK
          rcases h6 with ⟨_, rfl⟩ | ⟨j, v', V, e0, h6, _⟩
          · refine ⟨_, ?_, set_map (L' := L.push { key := K, val := Y, born := clk }) hR hn hg hi hb (by simpa using hs) fun j y hy => ?_⟩
            · simp [Instr.mapUpdate, run_underlying hu, hgo, hck, h5, hso]
            · rw [List.getElem?_append] at hy
              rw [Array.getElem?_push]
              split at hy
              · rename_i hj
                rw [if_neg (by omega)]
                exact hrel _ _ hy
              · rename_i hj
                have hj0 : j - l.length = 0 := by
                  rcases Nat.eq_zero_or_pos (j - l.length) with h | h
                  · exact h
                  · rw [List.getElem?_eq_none (by simp; omega)] at hy; cases hy
                rw [hj0] at hy
                simp only [List.getElem?_cons_zero, Option.some.injEq] at hy
                subst hy
                rw [if_pos (by omega)]
                exact ⟨_, rfl, hK, hY, rfl⟩
          · cases h6
        · cases hp
      · cases h
    · cases h
  · cases h

theorem field_sound {t i : Nat} {fs : Array Field} {f : Field} {sz : Nat} {agg : Bool} {x : Operand} {a : AOpd} {v : AV} {e : Eff} (hρ : ORel ι w M ρ η) (hu : P.underlying t = some (.struct fs)) (hx : opd x = some a) (hf : fs[i]? = some f) (hz : sizeP P f.type = some sz) (ha : aggP P f.type = some agg)
    (h : moreD get nx ρ (.fldv f.offset sz agg a) = .ok true v e) : PN P ι w M (do pure (.value (← Instr.field t (η x) i)) : Sem Next) v e := by
  have hX := hρ _ _ hx
  simp only [moreD] at h
  split at h
  · rename_i l hl
    simp only [Res.ok.injEq, Bool.and_eq_true, Bool.or_eq_true] at h
    obtain ⟨⟨h1, h2⟩, rfl, rfl⟩ := h
    have h1 := Nat.le_of_ble_eq_true h1
    rw [hl] at hX
    obtain ⟨cs, hcs, hs, hg⟩ := hX.agg_inv
    cases agg with
    | true =>
      have hp : (part f.type cs f.offset).run P w = .ok (.agg (cs.extract f.offset (f.offset + sz))) w := by
        simp only [part, Sem.run_bind, aggP_run ha, sizeP_run hz, Result.andThen_ok, if_true]
        rfl
      refine PN.of (V := .agg (cs.extract f.offset (f.offset + sz))) (by simp only [Instr.field, Sem.run_bind, run_underlying hu, Result.andThen_ok, hf, hcs, asAgg, Sem.run_pure, hp]) ?_
      refine .agg _ _ (by simp; omega) fun j hj => ?_
      have hj' : j < sz := by simp at hj; omega
      have h3 := hg (f.offset + j) (by omega)
      have e1 : ((l.drop f.offset).take sz).getD j .undef = l.getD (f.offset + j) .undef := by
        simp [List.getD_eq_getElem?_getD, List.getElem?_take, hj', List.getElem?_drop]
      have e2 : (cs.extract f.offset (f.offset + sz)).getD j default = cs.getD (f.offset + j) default := by
        have : j < min (f.offset + sz) cs.size - f.offset := by omega
        rw [Array.getD_eq_getD_getElem?, Array.getD_eq_getD_getElem?, Array.getElem?_extract, if_pos this]
      rw [e1, e2]
      exact h3
    | false =>
      obtain rfl : sz = 1 := by
        rcases h2 with h2 | h2
        · cases h2
        · exact Nat.eq_of_beq_eq_true h2
      have h3 := hg f.offset (by omega)
      have e2 : cs[f.offset]? = some (cs.getD f.offset default) := by
        rw [Array.getD_eq_getD_getElem?, Array.getElem?_eq_getElem (by omega)]
        rfl
      have hp : (part f.type cs f.offset).run P w = .ok (cs.getD f.offset default) w := by
        simp only [part, Sem.run_bind, aggP_run ha, Result.andThen_ok, Bool.false_eq_true, if_false]
        rw [e2]
        rfl
      exact PN.of (V := cs.getD f.offset default) (by simp only [Instr.field, Sem.run_bind, run_underlying hu, Result.andThen_ok, hf, hcs, asAgg, Sem.run_pure, hp]) h3
  · cases h
theorem len_run_map {t e f : Nat} {ats : Array TypeId} {ty : TypeId} {X : Value} {L : Array MapEntry} (hu : (ats[0]?).bind P.underlying = some (.map e f)) (hX : X = .map none ∧ L = #[] ∨ ∃ b clk, X = .map (some b) ∧ w.heap[b]? = some (.map L clk)) :
    (Builtin.len_ ats ty #[X]).run P w = .ok (.int .i64 L.size) w := by
  simp only [Option.bind_eq_some_iff] at hu
  obtain ⟨t, h1, h2⟩ := hu
  rcases hX with ⟨rfl, rfl⟩ | ⟨b, clk, rfl, hb⟩
  · simp [Builtin.len_, h1, run_underlying h2, goInt]
  · have hgo : (getObj b).run P w = .ok (.map L clk) w := by simp [getObj, Sem.run, hb]
    simp [Builtin.len_, h1, run_underlying h2, goInt, hgo]
theorem mdel_sound {n0 kt et : Nat} {ats : Array TypeId} {ty : TypeId} {m k v : AV} {X K : Value} {kk : KeyK} {e : Eff} (hR : Rep ι s w M) (hn : n0 ≤ s.next) (hX : VRel ι w M m X) (hK : VRel ι w M k K)
    (hu : (ats[0]?).bind P.underlying = some (.map kt et)) (hk : keyK P kt = some kk) (h : mdelA s.get kk m k = .ok true v e) :
    v = .tup [] ∧ ∃ w', (Builtin.delete_ ats ty #[X, K]).run P w = .ok (.tuple #[]) w' ∧ Rep ι (s.app e) w' M ∧ Go n0 ι s w M ι (s.app e) w' M := by
  simp only [Option.bind_eq_some_iff] at hu
  obtain ⟨t, hat, hu⟩ := hu
  unfold mdelA at h
  split at h
  · rename_i hh
    split at h
    · rename_i l clk hg
      obtain ⟨b, hi, rfl⟩ := hX.mp_inv
      rcases hR.hget hh _ _ hg hi with ⟨h4, _⟩ | ⟨b', base', h4, hC⟩
      · cases h4
      simp only [Option.some.injEq, Prod.mk.injEq] at h4
      obtain ⟨rfl, rfl⟩ := h4
      obtain ⟨_, L, hb, hs, hrel⟩ := hC
      have hrel' : ∀ (j : Nat) (x : AV × AV × Nat), l[j]? = some x → ∃ e, L.toList[j]? = some e ∧ MERel ι w M x e := fun j y hy => by
        obtain ⟨e, h1, h2⟩ := hrel j y hy
        exact ⟨e, by simpa using h1, h2⟩
      have hgo : (getObj b).run P w = .ok (.map L clk) w := by simp [getObj, Sem.run, hb]
      have hso : ∀ o, (setObj b o).run P w = .ok () { w with heap := w.heap.setIfInBounds b o } := fun o => by simp [setObj, Sem.run, hb]
      split at h
      · rename_i i u hf
        simp only [Res.ok.injEq, true_and] at h
        obtain ⟨rfl, rfl⟩ := h
        refine ⟨rfl, ?_⟩
        obtain ⟨hkw, R, h5, h6⟩ := find_rel hk hK (by simpa using hs) hrel' hf
        have hck := fun b => checkKey_ok (b := b) hk hkw hK
        rcases h6 with ⟨h6, _⟩ | ⟨j, v', V, e0, h6, rfl, h7, h8, h9⟩
        · cases h6
        simp only [Option.some.injEq, Prod.mk.injEq] at h6
        obtain ⟨rfl, rfl⟩ := h6
        have hlt : i < L.size := by
          simp only [Array.getElem?_toList] at h8
          rcases Nat.lt_or_ge i L.size with q | q
          · exact q
          · rw [Array.getElem?_eq_none q] at h8; cases h8
        have hE : (L.eraseIdxIfInBounds i).toList = L.toList.eraseIdx i := by
          simp [Array.eraseIdxIfInBounds, hlt]
        refine ⟨_, ?_, set_map (L' := L.eraseIdxIfInBounds i) hR hn hg hi hb ?_ fun j y hy => ?_⟩
        · simp [Builtin.delete_, hat, run_underlying hu, hgo, hck, h5, hso]
        · rw [← Array.length_toList, hE, List.length_eraseIdx, List.length_eraseIdx]
          simp [hs]
        · rw [List.getElem?_eraseIdx] at hy
          rw [← Array.getElem?_toList, hE, List.getElem?_eraseIdx]
          split at hy
          · rename_i hj
            rw [if_pos hj]
            exact hrel' _ _ hy
          · rename_i hj
            rw [if_neg hj]
            exact hrel' _ _ hy
      · rename_i hf
        simp only [Res.ok.injEq, true_and] at h
        obtain ⟨rfl, rfl⟩ := h
        refine ⟨rfl, ?_⟩
        obtain ⟨hkw, R, h5, h6⟩ := find_rel hk hK (by simpa using hs) hrel' hf
        have hck := fun b => checkKey_ok (b := b) hk hkw hK
        rcases h6 with ⟨_, rfl⟩ | ⟨j, v', V, e0, h6, _⟩
        · refine ⟨_, ?_, set_map (L' := L) hR hn hg hi hb hs hrel⟩
          simp [Builtin.delete_, hat, run_underlying hu, hgo, hck, h5, hso]
        · cases h6
      · cases h
    · cases h
  · cases h
end
end Go.Ab
set_option linter.unusedVariables false
set_option linter.unusedSimpArgs false
set_option autoImplicit false
namespace Go.Ab

section
variable {P : Program} {ι : Iota} {s : St} {w : World} {M : Nat → Prop} {ρ : AOpd → AV} {η : Operand → Value} {get : Nat → Option Chunk} {nx : Nat}

theorem ment_sound {n0 t kt et : Nat} {m k z v : AV} {X K : Value} {kk : KeyK} {e : Eff} (hR : Rep ι s w M) (hn : n0 ≤ s.next) (hX : VRel ι w M m X) (hK : VRel ι w M k K)
    (hu : P.underlying t = some (.map kt et)) (hk : keyK P kt = some kk) (hz : zeroOf P et = some z) (h : mentA s.get kk z m k = .ok true v e) :
    ∃ V w', (Instr.mapEntry t X K).run P w = .ok V w' ∧ VRel ι w' M v V ∧ Rep ι (s.app e) w' M ∧ Go n0 ι s w M ι (s.app e) w' M := by
  unfold mentA at h
  split at h
  · rename_i hh
    split at h
    · rename_i l clk hg
      obtain ⟨b, hi, rfl⟩ := hX.mp_inv
      rcases hR.hget hh _ _ hg hi with ⟨h4, _⟩ | ⟨b', base', h4, hC⟩
      · cases h4
      simp only [Option.some.injEq, Prod.mk.injEq] at h4
      obtain ⟨rfl, rfl⟩ := h4
      obtain ⟨_, L, hb, hs, hrel⟩ := hC
      have hrel' : ∀ (j : Nat) (x : AV × AV × Nat), l[j]? = some x → ∃ e, L.toList[j]? = some e ∧ MERel ι w M x e := fun j y hy => by
        obtain ⟨e, h1, h2⟩ := hrel j y hy
        exact ⟨e, by simpa using h1, h2⟩
      have hgo : (getObj b).run P w = .ok (.map L clk) w := by simp [getObj, Sem.run, hb]
      have hso : ∀ o, (setObj b o).run P w = .ok () { w with heap := w.heap.setIfInBounds b o } := fun o => by simp [setObj, Sem.run, hb]
      split at h
      · rename_i i u hf
        obtain ⟨hkw, R, h5, h6⟩ := find_rel hk hK (by simpa using hs) hrel' hf
        have hck := fun b => checkKey_ok (b := b) hk hkw hK
        rcases h6 with ⟨h6, _⟩ | ⟨j, v', V, e0, h6, rfl, h7, h8, h9⟩
        · cases h6
        simp only [Option.some.injEq, Prod.mk.injEq] at h6
        obtain ⟨rfl, rfl⟩ := h6
        split at h
        · rename_i y hy
          simp only [Res.ok.injEq, true_and] at h
          obtain ⟨rfl, rfl⟩ := h
          simp only [Array.getElem?_toList] at h8
          have hstay : (Instr.keyThatStays ((L[i]?.map (·.key)).getD K) K).run P w = .ok K w := by
            simp [Instr.keyThatStays, h8, h9]
          have hstay2 : (Instr.keyThatStays e0.key K).run P w = .ok K w := by simp [Instr.keyThatStays, h9]
          obtain ⟨e1, he1, m1, m2, m3⟩ := hrel _ _ hy
          rw [h8] at he1
          simp only [Option.some.injEq] at he1
          subst he1
          obtain ⟨r1, r2⟩ := set_map (l' := l.modify i fun e => (k, e.2.1, e.2.2)) (clk' := clk) (L' := L.modify i fun e => { e with key := K }) hR hn hg hi hb (by simpa using hs) fun j y hy => by
            cases hlj : l[j]? with
            | none => simp [List.getElem?_modify, hlj] at hy
            | some y0 =>
              obtain ⟨e1, he1, m1, m2, m3⟩ := hrel _ _ hlj
              by_cases hij : i = j
              · subst hij
                simp [List.getElem?_modify, hlj] at hy
                subst hy
                exact ⟨{ e1 with key := K }, by simp [Array.getElem?_modify, he1], hK, m2, m3⟩
              · simp [List.getElem?_modify, hlj, hij] at hy
                subst hy
                exact ⟨e1, by simp [Array.getElem?_modify, hij, he1], m1, m2, m3⟩
          have hI := GoImm r2 fun b hb => hR.ownM hb
          refine ⟨.tuple #[V, .int .i64 e0.born], _, by simp [Instr.mapEntry, run_underlying hu, hgo, hck, h5, hstay2, hso, h8, goInt], ?_, r1, r2⟩
          refine .tup _ _ rfl fun j hj => ?_
          match j, hj with
          | 0, _ => simpa using h7.mono hI (fun _ _ h => h)
          | 1, _ => rw [← m3]; exact .g _ _ (.int _ _)
          | j + 2, hj => exact absurd hj (by simp)
        · cases h
      · rename_i hf
        obtain ⟨hkw, R, h5, h6⟩ := find_rel hk hK (by simpa using hs) hrel' hf
        have hck := fun b => checkKey_ok (b := b) hk hkw hK
        rcases h6 with ⟨_, rfl⟩ | ⟨j, v', V, e0, h6, _⟩
        · simp only [Res.ok.injEq, true_and] at h
          obtain ⟨rfl, rfl⟩ := h
          obtain ⟨Z, hZ, hZr⟩ := zeroOf_run (ι := ι) (w := w) (M := M) hz
          obtain ⟨r1, r2⟩ := set_map (l' := l ++ [(k, z, clk)]) (clk' := clk + 1) (L' := L.push { key := K, val := Z, born := clk }) hR hn hg hi hb (by simpa using hs) fun j y hy => by
            rw [List.getElem?_append] at hy
            rw [Array.getElem?_push]
            split at hy
            · rename_i hj
              rw [if_neg (by omega)]
              exact hrel _ _ hy
            · rename_i hj
              have hj0 : j - l.length = 0 := by
                rcases Nat.eq_zero_or_pos (j - l.length) with h | h
                · exact h
                · rw [List.getElem?_eq_none (by simp; omega)] at hy; cases hy
              rw [hj0] at hy
              simp only [List.getElem?_cons_zero, Option.some.injEq] at hy
              subst hy
              rw [if_pos (by omega)]
              exact ⟨_, rfl, hK, hZr, rfl⟩
          have hI := GoImm r2 fun b hb => hR.ownM hb
          refine ⟨.tuple #[Z, .int .i64 clk], _, by simp [Instr.mapEntry, run_underlying hu, hgo, hck, h5, hso, hZ, goInt], ?_, r1, r2⟩
          refine .tup _ _ rfl fun j hj => ?_
          match j, hj with
          | 0, _ => simpa using hZr.mono hI (fun _ _ h => h)
          | 1, _ => exact .g _ _ (.int _ _)
          | j + 2, hj => exact absurd hj (by simp)
        · cases h6
      · cases h
    · cases h
  · cases h
theorem mput_sound {n0 t : Nat} {m j x v : AV} {X J Y : Value} {e : Eff} (hR : Rep ι s w M) (hn : n0 ≤ s.next) (hX : VRel ι w M m X) (hJ : VRel ι w M j J) (hY : VRel ι w M x Y) (h : mputA s.get m j x = .ok true v e) :
    v = .undef ∧ ∃ w', (Instr.entryStore t X J Y).run P w = .ok () w' ∧ Rep ι (s.app e) w' M ∧ Go n0 ι s w M ι (s.app e) w' M := by
  unfold mputA at h
  split at h
  · rename_i hh kk n
    split at h
    · rename_i l clk hg
      split at h
      · rename_i i hf
        simp only [Res.ok.injEq, true_and] at h
        obtain ⟨rfl, rfl⟩ := h
        refine ⟨rfl, ?_⟩
        obtain ⟨b, hi, rfl⟩ := hX.mp_inv
        obtain rfl := hJ.int_inv
        rcases hR.hget hh _ _ hg hi with ⟨h4, _⟩ | ⟨b', base', h4, hC⟩
        · cases h4
        simp only [Option.some.injEq, Prod.mk.injEq] at h4
        obtain ⟨rfl, rfl⟩ := h4
        obtain ⟨_, L, hb, hs, hrel⟩ := hC
        have hgo : (getObj b).run P w = .ok (.map L clk) w := by simp [getObj, Sem.run, hb]
        have hso : ∀ o, (setObj b o).run P w = .ok () { w with heap := w.heap.setIfInBounds b o } := fun o => by simp [setObj, Sem.run, hb]
        have hfi : ∀ (l : List (AV × AV × Nat)) (L : List MapEntry), L.length = l.length → (∀ (j : Nat) (x : AV × AV × Nat), l[j]? = some x → ∃ e, L[j]? = some e ∧ MERel ι w M x e) → L.findIdx? (fun e => (e.born : Int) == n) = l.findIdx? fun e => (e.2.2 : Int) == n := by
          intro l
          induction l with
          | nil =>
            intro L hl _
            cases L with
            | nil => rfl
            | cons _ _ => simp at hl
          | cons y l ih =>
            intro L hl hr
            cases L with
            | nil => simp at hl
            | cons e L =>
              obtain ⟨e', he, _, _, h3⟩ := hr 0 y rfl
              simp only [List.getElem?_cons_zero, Option.some.injEq] at he
              subst he
              rw [List.findIdx?_cons, List.findIdx?_cons, h3, ih L (by simpa using hl) fun j y hy => by
                obtain ⟨e2, h5, h6⟩ := hr (j + 1) y (by simpa using hy)
                exact ⟨e2, by simpa using h5, h6⟩]
        have hidx : L.findIdx? (fun e => (e.born : Int) == n) = some i := by
          rw [← hf]
          unfold bornI
          rw [← hfi l L.toList (by simpa using hs) fun j y hy => by
            obtain ⟨e, h1, h2⟩ := hrel j y hy
            exact ⟨e, by simpa using h1, h2⟩]
          rw [show L = L.toList.toArray by simp, List.findIdx?_toArray]
        refine ⟨_, ?_, set_map (L' := L.modify i fun e => { e with val := Y }) hR hn hg hi hb (by simpa using hs) fun j y hy => ?_⟩
        · simp [Instr.entryStore, hgo, asInt, asIntOf, hidx, hso]
        · cases hlj : l[j]? with
          | none => simp [List.getElem?_modify, hlj] at hy
          | some y0 =>
            obtain ⟨e1, he1, m1, m2, m3⟩ := hrel _ _ hlj
            by_cases hij : i = j
            · subst hij
              simp [List.getElem?_modify, hlj] at hy
              subst hy
              exact ⟨{ e1 with val := Y }, by simp [Array.getElem?_modify, he1], m1, hY, m3⟩
            · simp [List.getElem?_modify, hlj, hij] at hy
              subst hy
              exact ⟨e1, by simp [Array.getElem?_modify, hij, he1], m1, m2, m3⟩
      · cases h
    · cases h
  · cases h

/-! ### cuts with three bounds -/
theorem slc3_sound {t e es n h off : Nat} {lo hi : Option AV} {c : Bool} {a b : Nat} {m : Int} {k : IntKind} {X MX HI : Value} {LO : Option Value} (hu : P.underlying t = some (.slice e)) (hz : sizeP P e = some es) (hX : VRel ι w M (.sl es h off n) X)
    (hlo : ∀ x, lo = some x → ∃ X, LO = some X ∧ VRel ι w M x X) (hlo' : lo = none → LO = none) {hv : AV} (hhi : hi = some hv) (hH : VRel ι w M hv HI) (hM : VRel ι w M (.int k m) MX)
    (hb : bnd lo hi n = some (true, a, b)) (h1 : (b : Int) ≤ m) (h2 : m ≤ n) :
    ∃ V, (Instr.sliceAt t X LO (some HI) (some MX)).run P w = .ok V w ∧ VRel ι w M (.sl es h (off + a * es) (b - a)) V := by
  obtain rfl := hM.int_inv
  have hm0 : 0 ≤ m := by omega
  obtain ⟨mm, rfl⟩ := Int.eq_ofNat_of_zero_le hm0
  -- the bounds
  have bnds : a ≤ b ∧ b ≤ n ∧ ∀ cap, n ≤ cap → (Instr.sliceBounds true n cap LO (some HI) (some (.int k mm))).run P w = .ok (a, b, mm) w := by
    subst hhi
    unfold bnd at hb
    split at hb
    · rename_i e1; cases e1
    · rename_i e1; cases e1
    · rename_i k' hh e1
      cases e1
      obtain rfl := hH.int_inv
      simp only [Option.some.injEq, Prod.mk.injEq, Bool.and_eq_true, decide_eq_true_eq] at hb
      obtain ⟨⟨q1, q2⟩, rfl, rfl⟩ := hb
      rw [hlo' rfl]
      refine ⟨by omega, by omega, fun cap hc => ?_⟩
      have q3 : (mm : Int) ≤ cap := by omega
      have q4 : hh ≤ (mm : Int) := by omega
      simp [Instr.sliceBounds, Instr.sliceBound, asIntOf, q1, q3, q4]
    · rename_i k' l k'' hh e1
      cases e1
      obtain rfl := hH.int_inv
      simp only [Option.some.injEq, Prod.mk.injEq, Bool.and_eq_true, decide_eq_true_eq] at hb
      obtain ⟨⟨⟨q0, q1⟩, q2⟩, rfl, rfl⟩ := hb
      obtain ⟨LX, hL, hr⟩ := hlo _ rfl
      obtain rfl := hr.int_inv
      rw [hL]
      refine ⟨by omega, by omega, fun cap hc => ?_⟩
      have q3 : (mm : Int) ≤ cap := by omega
      have q4 : hh ≤ (mm : Int) := by omega
      have q5 : 0 ≤ hh := by omega
      have q6 : l ≤ ((hh.toNat : Nat) : Int) := by omega
      simp only [Instr.sliceBounds, Instr.sliceBound, asIntOf, Sem.run_bind, Sem.run_pure, Result.andThen_ok, Sem.run_ite, q0, q3, q4, q5, q6, and_self, if_true, and_true, true_and]
      have q7 : l ≤ max hh 0 := by omega
      simp [q3, q4, q7]
    · cases hb
  obtain ⟨hab, hbn, hrun⟩ := bnds
  rcases hX.sl_inv with ⟨bb, base, o, cap, T, nn, hi', ho, hl, hs, hnn, rfl⟩ | ⟨hi', rfl, rfl⟩
  · have hrun := hrun cap hl
    refine ⟨.slice (if mm = a then some ⟨bb, o, none⟩ else (some ⟨bb, o, none⟩ : Option Addr).map (·.add (a * es))) (b - a) (mm - a), ?_, ?_⟩
    · simp [Instr.sliceAt, Instr.slice, run_underlying hu, hrun, sizeP_run hz]
    · have hmc : mm ≤ cap := by omega
      by_cases hma : mm = a
      · rw [if_pos hma]
        have hba : b - a = 0 := by omega
        rw [hba, show mm - a = 0 by omega]
        exact .sl es h _ 0 bb base o 0 T nn hi' (.inr rfl) (Nat.le_refl _) hs (by have := Nat.zero_le (cap * es); omega)
      · rw [if_neg hma, Option.map_some, add_eq _ _ rfl]
        have hac : a ≤ cap := by omega
        have hle : a * es + (mm - a) * es ≤ cap * es := by
          rw [← Nat.add_mul]
          exact Nat.mul_le_mul_right _ (by omega)
        refine .sl es h _ (b - a) bb base (o + a * es) (mm - a) T nn hi' ?_ (by omega) hs (by omega)
        rcases ho with ho | ho
        · left; omega
        · omega
  · have hrun := hrun 0 (Nat.le_refl _)
    obtain ⟨rfl, rfl⟩ : a = 0 ∧ b = 0 := by omega
    have : mm = 0 := by omega
    subst this
    refine ⟨.slice none 0 0, ?_, ?_⟩
    · rw [show ((0 : Nat) : Int) = 0 from rfl] at hrun ⊢
      simp [Instr.sliceAt, Instr.slice, run_underlying hu, hrun, sizeP_run hz]
    · simpa using VRel.slv (w := w) (M := M) es h (off + 0 * es) hi'
end
end Go.Ab
set_option linter.unusedVariables false
set_option linter.unusedSimpArgs false
set_option autoImplicit false
namespace Go.Ab

section
variable {P : Program} {ι : Iota} {s : St} {w : World} {M : Nat → Prop} {ρ : AOpd → AV} {η : Operand → Value} {get : Nat → Option Chunk} {nx : Nat}

theorem nilsl_eq {op : BinOp} {t : Nat} {x y : Operand} {el : Nat} {A : Value} {pos : Bool} (ho : op = .eql ∧ pos = true ∨ op = .neq ∧ pos = false) (hu : P.underlying t = some (.slice el)) {b : Bool}
    (h : (b = true ∧ A = .slice none 0 0) ∨ (b = false ∧ ∃ a n c, A = .slice (some a) n c)) :
    (do eqGuard op t x y A (.slice none 0 0); binOp op t A (.slice none 0 0) : Sem Value).run P w = .ok (.bool (if b then pos else !pos)) w := by
  have hk : eqK P t x y = .slice := by simp [eqK, hu]
  have hB : VRel (ι := fun _ => none) (M := fun _ => True) (w := w) .nils (.slice none 0 0) := .g _ _ .nils
  have fin : ∀ (a : AV) (r : Bool), VRel (fun _ => none) w (fun _ => True) a A → eqA .slice a .nils = some r → (do eqGuard op t x y A (.slice none 0 0); binOp op t A (.slice none 0 0) : Sem Value).run P w = .ok (.bool (if op = .eql then r else !r)) w := by
    intro a r hA hr
    have ho' : op = .eql ∨ op = .neq := by rcases ho with ⟨h, _⟩ | ⟨h, _⟩; exact .inl h; exact .inr h
    obtain ⟨h1, h2⟩ := eq_sound (P := P) (w := w) op ho' t x y a .nils A (.slice none 0 0) r hA hB (by rw [hk]; exact hr)
    rw [Sem.run_bind, h1, Result.andThen_ok, h2]
  rcases h with ⟨rfl, rfl⟩ | ⟨rfl, a, n, c, rfl⟩
  · rw [fin .nils true (.g _ _ .nils) rfl]
    rcases ho with ⟨rfl, rfl⟩ | ⟨rfl, rfl⟩ <;> rfl
  · rw [fin (.raw (.slice (some a) n c)) false (.g _ _ (.raw _)) rfl]
    rcases ho with ⟨rfl, rfl⟩ | ⟨rfl, rfl⟩ <;> rfl
theorem nilsl_sound {op : BinOp} {t el : Nat} {x y : Operand} {pos : Bool} {a : AOpd} {v : AV} {e : Eff} (hG : HGet ι w M get) (hρ : ORel ι w M ρ η) (ho : op = .eql ∧ pos = true ∨ op = .neq ∧ pos = false) (hu : P.underlying t = some (.slice el)) (ha : opd x = some a)
    (h : moreD get nx ρ (.nilsl pos a) = .ok true v e) : PN P ι w M (do pure (.value (← (do eqGuard op t x y (η x) (.slice none 0 0); binOp op t (η x) (.slice none 0 0) : Sem Value))) : Sem Next) v e := by
  have hX := hρ _ _ ha
  have key : ∀ (b : Bool), ((b = true ∧ η x = .slice none 0 0) ∨ (b = false ∧ ∃ a n c, η x = .slice (some a) n c)) → v = .bool (if b then pos else !pos) → e = .no → PN P ι w M (do pure (.value (← (do eqGuard op t x y (η x) (.slice none 0 0); binOp op t (η x) (.slice none 0 0) : Sem Value))) : Sem Next) v e := by
    intro b hb hv he
    subst hv
    subst he
    exact PN.of (nilsl_eq ho hu hb) (.g _ _ (.bool _))
  have ros : ∀ {v : AV} {es n : Nat} {f : Nat → AV}, v.rov = some (es, n, f) → 0 < n → VRel ι w M v (η x) → ∃ a n c, η x = .slice (some a) n c := by
    intro v es n f hv hn hr
    rcases hr.rov_inv hv with ⟨_, h0⟩ | ⟨ad, cap, g, hX, _⟩
    · omega
    · exact ⟨_, _, _, hX⟩
  simp only [moreD] at h
  split at h
  · rename_i hx
    rw [hx] at hX
    simp only [Res.ok.injEq, true_and] at h
    exact key true (.inl ⟨rfl, hX.nils_inv⟩) h.1.symm h.2.symm
  · rename_i es hh off n hx
    rw [hx] at hX
    split at h
    · rename_i c hc
      simp only [Res.ok.injEq, Bool.or_eq_true, blt_eq, decide_eq_true_eq] at h
      refine key false (.inr ⟨rfl, ?_⟩) h.2.1.symm h.2.2.symm
      rcases hX.sl_inv with ⟨b, base, o, cap, T, n', hi, _, _, _, _, hV⟩ | ⟨hi, hn, hV⟩
      · exact ⟨_, _, _, hV⟩
      · rcases hG hh c _ hc hi with ⟨_, h0⟩ | ⟨b, base, h0, _⟩
        · rcases h.1 with h1 | h1 <;> omega
        · cases h0
    · cases h
  · rename_i hx
    rw [hx] at hX
    simp only [Res.ok.injEq, true_and] at h
    exact key false (.inr ⟨rfl, ros rfl (by simp) hX⟩) h.1.symm h.2.symm
  · rename_i hx
    rw [hx] at hX
    simp only [Res.ok.injEq, true_and] at h
    exact key false (.inr ⟨rfl, ros rfl (by simp) hX⟩) h.1.symm h.2.symm
  · rename_i hx
    rw [hx] at hX
    simp only [Res.ok.injEq, true_and] at h
    exact key false (.inr ⟨rfl, _, _, _, hX.raw_inv⟩) h.1.symm h.2.symm
  · cases h
end
end Go.Ab
set_option linter.unusedVariables false
set_option linter.unusedSimpArgs false
set_option autoImplicit false
namespace Go.Ab

section
variable {P : Program} {ι : Iota} {s : St} {w : World} {M : Nat → Prop} {ρ : AOpd → AV} {η : Operand → Value} {get : Nat → Option Chunk} {nx : Nat}

/-- a new block for a new handle -/
theorem new_blk {n0 : Nat} {c : Chunk} {O : Obj} (hR : Rep ι s w M) (hn : n0 ≤ s.next)
    (hC : ∀ ι' M', Imm w M (w.alloc O) M' → (∀ h p, ι h = some p → ι' h = some p) → CRel ι' (w.alloc O) M' c w.heap.size 0) :
    ∃ ι' M', ι' s.next = some (some (w.heap.size, 0)) ∧ Rep ι' ⟨s.next + 1, (s.next, some c) :: s.m⟩ (w.alloc O) M' ∧ Go n0 ι s w M ι' ⟨s.next + 1, (s.next, some c) :: s.m⟩ (w.alloc O) M' ∧ (∀ h p, ι h = some p → ι' h = some p) ∧ Imm w M (w.alloc O) M' := by
  have hi : ι s.next = none := hR.fresh _ (Nat.le_refl _)
  have hg : s.get s.next = none := by
    cases h : s.get s.next with
    | none => rfl
    | some c => exact absurd (hR.none_of_get h) (by omega)
  have hR1 : Rep ι ⟨s.next + 1, s.m⟩ w M := hR.next (by omega)
  have hR2 := Rep.allocO (o := O) (h := s.next) hR1 hi (by simp) hg
  have hx := ι.set_ext s.next (some (w.heap.size, 0)) hi
  have hI := Imm.alloc (w := w) (M := M) O
  refine ⟨ι.set s.next (some (w.heap.size, 0)), addM M w.heap.size, ι.set_same _ _, ?_, ?_, hx, hI⟩
  · refine hR2.put (.inr ⟨w.heap.size, 0, ι.set_same _ _, .inr rfl, hC _ _ hI hx, fun j c' p hne hc' hp => ?_⟩)
    rw [ι.set_other _ _ _ hne] at hp
    have hM := hR.ownM ⟨j, c', p.2, hc', hp⟩
    have := hR.lt _ hM
    omega
  · have hgo := Go.alloc (n0 := n0) (h := s.next) (o := O) (p := some (w.heap.size, 0)) (ι := ι) (s := s) (w := w) (M := M) hn hn hg hi
    refine ⟨hgo.size, hgo.tape, hgo.os, hgo.output, hgo.block, hgo.shape, hgo.back, hgo.keep, fun b hb ho => ?_, by simp only; omega, hgo.ext⟩
    obtain ⟨j, c', base, h1, h2⟩ := ho
    rw [St.get_cons] at h1
    split at h1
    · rename_i he
      subst he
      rw [ι.set_same] at h2
      simp only [Option.some.injEq, Prod.mk.injEq] at h2
      omega
    · rename_i he
      rw [ι.set_other _ _ _ (fun e => he e.symm)] at h2
      exact ⟨j, c', base, h1, h2⟩

theorem s2b_sound0 {n0 src dst e : Nat} {st : ByteArray} {X : Value} (hR : Rep ι s w M) (hn : n0 ≤ s.next) (hX : X = .string st) (hs : P.underlying src = some .string) (hd : P.underlying dst = some (.slice e)) (he : P.underlying e = some (.int .u8)) :
    Does P n0 ι s w M (convert src dst X) (.sl 1 s.next 0 st.size) (s.app (.new (.rowI .u8 (st.data.toList.map fun b => (b.toNat : Int))))) := by
  subst hX
  have hrun := run_bytes_of_string (P := P) w src dst e st hs hd he
  generalize hcap : grownCap w st.size 0 e = cap at hrun
  have hle : st.size ≤ cap := by
    rw [← hcap]
    simp only [grownCap, Question.cut]
    omega
  have hds : st.data.size = st.size := rfl
  have hlen : (st.data.toList.map fun b => (b.toNat : Int)).length = st.size := by simp
  have hsz : (bytesRow st cap).size = cap := by
    simp only [bytesRow, Array.size_append, Array.size_map, Array.size_replicate, hds]
    omega
  obtain ⟨ι', M', h1, h2, h3, h4, h5⟩ := new_blk (n0 := n0) (c := .rowI .u8 (st.data.toList.map fun b => (b.toNat : Int))) (O := .cells (bytesRow st cap) e ((bytesRow st cap).size, (bytesRow st cap).size + 1)) hR.drew hn fun ι' M' hI hx => by
    refine (CRel.not_map (fun l k e => by cases e)).2 ⟨_, e, _, heap_alloc_new w.drew _, fun i hi => by simp only; omega, by simp only [Chunk.size, hsz, hlen]; omega, fun j hj => ?_⟩
    simp only [Chunk.size, hlen] at hj
    have hj' : j < st.data.size := hj
    rw [Nat.zero_add]
    have : (bytesRow st cap).getD j default = .int .u8 (st.data[j].toNat) := by
      rw [Array.getD_eq_getD_getElem?]
      simp only [bytesRow, Array.getElem?_append, Array.size_map, hj', if_true, Array.getElem?_map, Array.getElem?_eq_getElem hj', Option.map_some, Option.getD_some]
    rw [this]
    have hg : Chunk.get (.rowI .u8 (st.data.toList.map fun b => (b.toNat : Int))) j = .int .u8 (st.data[j].toNat) := by
      simp only [Chunk.get, List.getD_eq_getElem?_getD, List.getElem?_map, Array.getElem?_toList, Array.getElem?_eq_getElem hj', Option.map_some, Option.getD_some]
    rw [hg]
    exact .g _ _ (.int _ _)
  refine ⟨_, ι', _, M', hrun, ?_, h2, (Go.drew hn).trans h3 hR.lt, h4, Imm.drew.trans h5⟩
  refine .sl 1 s.next 0 st.size w.heap.size 0 0 cap e (bytesRow st cap).size h1 (.inl rfl) hle ?_ (by omega)
  unfold World.shape?
  rw [show (w.drew.alloc (.cells (bytesRow st cap) e ((bytesRow st cap).size, (bytesRow st cap).size + 1))).heap[w.heap.size]? = some (.cells (bytesRow st cap) e ((bytesRow st cap).size, (bytesRow st cap).size + 1)) from heap_alloc_new w.drew _]

theorem s2b_sound {n0 src dst e : Nat} {st : Str} {X : Value} (hR : Rep ι s w M) (hn : n0 ≤ s.next) (hX : VRel ι w M (.str st) X) (hs : P.underlying src = some .string) (hd : P.underlying dst = some (.slice e)) (he : P.underlying e = some (.int .u8)) :
    Does P n0 ι s w M (convert src dst X) (.sl 1 s.next 0 st.len) (s.app (.new (.rowI .u8 (strBytes st)))) := by
  have h := s2b_sound0 (st := st.b) hR hn hX.str_inv hs hd he
  rw [Str.b_size] at h
  have e : strBytes st = st.b.data.toList.map fun b => (b.toNat : Int) := Str.ints_eq _ _
  rw [e]
  exact h

/-! ### copy -/
theorem cover_spec {c r c' : Chunk} {off k : Nat} (h : c.over off k r = some c') (h1 : off + k ≤ c.size) (h2 : k ≤ r.size) :
    c.isMap = false ∧ c'.isMap = false ∧ c'.size = c.size ∧ ∀ j, j < c.size → c'.get j = if off ≤ j ∧ j < off + k then r.get (j - off) else c.get j := by
  have key : ∀ {α : Type} (l m : List α) (d : α), off + k ≤ l.length → k ≤ m.length → (l.take off ++ (m.take k ++ l.drop (off + k))).length = l.length ∧
      ∀ j, j < l.length → (l.take off ++ (m.take k ++ l.drop (off + k))).getD j d = if off ≤ j ∧ j < off + k then m.getD (j - off) d else l.getD j d := by
    intro α l m d h1 h2
    refine ⟨by simp; omega, fun j hj => ?_⟩
    simp only [List.getD_eq_getElem?_getD]
    congr 1
    rw [List.getElem?_append]
    simp only [List.length_take]
    by_cases a1 : j < off
    · rw [if_pos (by omega), if_neg (by omega), List.getElem?_take, if_pos a1]
    · rw [if_neg (by omega), List.getElem?_append]
      simp only [List.length_take]
      have e0 : min off l.length = off := by omega
      rw [e0]
      by_cases a2 : j < off + k
      · have c1 : j - off < min k m.length := by omega
        have c2 : j - off < k := by omega
        rw [if_pos c1, if_pos ⟨by omega, a2⟩, List.getElem?_take, if_pos c2]
      · have c1 : ¬ j - off < min k m.length := by omega
        have c2 : ¬ (off ≤ j ∧ j < off + k) := by omega
        have c3 : off + k + (j - off - min k m.length) = j := by omega
        rw [if_neg c1, if_neg c2, List.getElem?_drop, c3]
  unfold Chunk.over at h
  split at h
  · rename_i l m
    simp only [Option.some.injEq] at h
    subst h
    obtain ⟨q1, q2⟩ := key l m .undef h1 h2
    exact ⟨rfl, rfl, q1, q2⟩
  · rename_i k1 l k2 m
    split at h
    · rename_i hk
      subst hk
      simp only [Option.some.injEq] at h
      subst h
      obtain ⟨q1, q2⟩ := key l m 0 h1 h2
      refine ⟨rfl, rfl, q1, fun j hj => ?_⟩
      simp only [Chunk.get]
      rw [q2 j hj]
      split <;> rfl
    · cases h
  · rename_i l m
    simp only [Option.some.injEq] at h
    subst h
    obtain ⟨q1, q2⟩ := key l m false h1 h2
    refine ⟨rfl, rfl, q1, fun j hj => ?_⟩
    simp only [Chunk.get]
    rw [q2 j hj]
    split <;> rfl
  · rename_i n f r
    simp only [Option.some.injEq] at h
    subst h
    refine ⟨rfl, rfl, rfl, fun j hj => ?_⟩
    simp only [Chunk.get]
    by_cases a : off ≤ j ∧ j < off + k
    · rw [if_pos a]
      have b1 : Nat.ble off j = true := Nat.ble_eq_true_of_le a.1
      have b2 : Nat.blt j (off + k) = true := by rw [blt_eq]; simpa using a.2
      simp [b1, b2]
    · rw [if_neg a]
      have : (Nat.ble off j && Nat.blt j (off + k)) = false := by
        rw [Bool.eq_false_iff]
        intro hb
        simp only [Bool.and_eq_true, blt_eq, decide_eq_true_eq] at hb
        exact a ⟨Nat.le_of_ble_eq_true hb.1, hb.2⟩
      rw [this]; rfl
  · rename_i l κ m
    simp only [Option.some.injEq] at h
    subst h
    obtain ⟨q1, q2⟩ := key l (m.map fun n => AV.int κ n) .undef h1 (by simpa [Chunk.size] using h2)
    refine ⟨rfl, rfl, q1, fun j hj => ?_⟩
    simp only [Chunk.size] at h1 h2 hj
    simp only [Chunk.get]
    rw [q2 j hj]
    by_cases a : off ≤ j ∧ j < off + k
    · simp only [a, and_self, ↓reduceIte]
      exact mapI_get (by omega)
    · rw [if_neg a, if_neg a]
  · rename_i κ l m
    simp only [Option.some.injEq] at h
    subst h
    obtain ⟨q1, q2⟩ := key (l.map fun n => AV.int κ n) m .undef (by simpa [Chunk.size] using h1) h2
    refine ⟨rfl, rfl, by simpa [Chunk.size] using q1, fun j hj => ?_⟩
    simp only [Chunk.size] at h1 h2 hj
    simp only [Chunk.get]
    rw [q2 j (by simpa using hj)]
    by_cases a : off ≤ j ∧ j < off + k
    · rw [if_pos a, if_pos a]
    · rw [if_neg a, if_neg a]
      exact mapI_get hj
  · cases h
theorem first_run_k {es n k : Nat} {r : Chunk} {V : Value} (h : Src ι w M es r n V) (hk : k ≤ n) : ∃ cs : Array Value, (Builtin.firstCells es k V).run P w = .ok cs w ∧ cs.size = k * es ∧ (∀ j, j < k * es → VRel ι w M (r.get j) (cs.getD j default)) ∧ ∀ u ∈ cs.toList, u.oneCell' = true := by
  have hle : k * es ≤ n * es := Nat.mul_le_mul_right _ hk
  rcases h.2 with ⟨rfl, A, c, rfl⟩ | ⟨a, c, g, rfl, hs, hc, hg⟩
  · obtain rfl : k = 0 := by omega
    refine ⟨#[], ?_, by simp, fun j hj => by simp at hj, by simp⟩
    cases A with
    | none => simp [Builtin.firstCells]
    | some a => simp [Builtin.firstCells, loadCells, loadCellsFrom]
  · refine ⟨((List.range (k * es)).map g).toArray, ?_, ?_, fun j hj => ?_, fun u hu => ?_⟩
    · simp only [Builtin.firstCells]
      exact run_loadCells (P := P) w a (k * es) g (fun j hj => by rw [add_eq a j hs]; exact hc j (by omega))
    · simp
    · rw [getD_range_map _ _ _ hj]; exact (hg j (by omega)).1
    · simp at hu
      obtain ⟨j, hj, rfl⟩ := hu
      exact (hg j (by omega)).2
theorem src_len {es n : Nat} {r : Chunk} {V : Value} (h : Src ι w M es r n V) : (Builtin.lenOf V).run P w = .ok n w := by
  rcases h.2 with ⟨rfl, A, c, rfl⟩ | ⟨a, c, g, rfl, _⟩ <;> simp [Builtin.lenOf]
theorem cpy_sound {n0 el es ty : Nat} {ats : Array TypeId} {x y v : AV} {X Y : Value} {e : Eff} (hR : Rep ι s w M) (hn : n0 ≤ s.next) (hX : VRel ι w M x X) (hY : VRel ι w M y Y) (hu : (ats[0]?).bind P.underlying = some (.slice el)) (hz : sizeP P el = some es) (h0 : 0 < es)
    (h : cpyA s.get es x y = .ok true v e) : Does P n0 ι s w M (Builtin.copy_ ats ty #[X, Y]) v (s.app e) := by
  simp only [Option.bind_eq_some_iff] at hu
  obtain ⟨t, hat, hu⟩ := hu
  unfold cpyA at h
  split at h
  · rename_i ee hh off n
    split at h
    · rename_i c b r m hg hrf hl
      have run : ∀ (A : Option Addr) (cap : Nat) (cs : Array Value) (w' : World), X = .slice A n cap → (Builtin.lenOf Y).run P w = .ok m w → (Builtin.firstCells es (Nat.min m n) Y).run P w = .ok cs w →
          ((A = none ∧ w' = w) ∨ ∃ a, A = some a ∧ (storeCells a cs.toList).run P w = .ok () w') → (Builtin.copy_ ats ty #[X, Y]).run P w = .ok (.int .i64 (Nat.min m n)) w' := by
        intro A cap cs w' hXe h1 h2 h3
        subst hXe
        rcases h3 with ⟨rfl, rfl⟩ | ⟨a, rfl, h3⟩
        · simp [Builtin.copy_, hat, run_underlying hu, h1, sizeP_run hz, h2, goInt]
        · simp [Builtin.copy_, hat, run_underlying hu, h1, sizeP_run hz, h2, h3, goInt]
      cases hmin : Nat.beq (min n m) 0 with
      | true =>
        simp only [hmin, cond_true, Res.ok.injEq] at h
        obtain ⟨rfl, rfl, rfl⟩ := h
        have hm0 := Nat.eq_of_beq_eq_true hmin
        have hm1 : Nat.min m n = 0 := by show min m n = 0; omega
        have hSrc := rowFrom_src hY hR.hget hrf hl
        obtain ⟨cs, q1, q2, _⟩ := first_run_k (P := P) hSrc (k := 0) (Nat.zero_le _)
        have hcs : cs.toList = [] := by
          have : cs.size = 0 := by simpa using q2
          simpa using this
        have fin : ∃ A cap, X = .slice A n cap := by
          rcases hX.sl_inv with ⟨bb, base, o, cap, T, n', hi, _, _, _, _, hV⟩ | ⟨hi, hn0, hV⟩
          · exact ⟨_, _, hV⟩
          · exact ⟨none, 0, by rw [hV, hn0]⟩
        obtain ⟨A, cap, hXe⟩ := fin
        refine ⟨.int .i64 0, ι, w, M, ?_, .g _ _ (.int _ _), hR, Go.refl _ _ _ _ hn, fun _ _ h => h, Imm.refl _ _⟩
        have := run A cap cs w hXe (src_len hSrc) (by rw [hm1]; exact q1) (by
          cases A with
          | none => exact .inl ⟨rfl, rfl⟩
          | some a => exact .inr ⟨a, rfl, by rw [hcs]; simp [storeCells]⟩)
        rw [hm1] at this
        exact this
      | false =>
        simp only [hmin, cond_false] at h
        split at h
        · rename_i c' hov
          simp only [Res.ok.injEq, Bool.and_eq_true, decide_eq_true_eq] at h
          obtain ⟨⟨⟨rfl, he⟩, hsz⟩, rfl, rfl⟩ := h
          obtain rfl := Nat.eq_of_beq_eq_true he
          have hne : min n m ≠ 0 := fun e => by rw [e] at hmin; simp at hmin
          have hSrc := rowFrom_src hY hR.hget hrf hl
          have hme : Nat.min m n = min n m := by show min m n = min n m; omega
          obtain ⟨cs, q1, q2, q3, q4⟩ := first_run_k (P := P) hSrc (k := min n m) (by omega)
          rcases hX.sl_inv with ⟨bb, base, o, cap, T, n', hi, ho, hl', hs, hnn, hV⟩ | ⟨hi, hn0, hV⟩
          case inr => omega
          have hcap : cap ≠ 0 := by omega
          have ho : o = base + off := ho.resolve_right hcap
          have hle : min n m * ee ≤ n * ee := Nat.mul_le_mul_right _ (by omega)
          have hle2 : min n m * ee ≤ m * ee := Nat.mul_le_mul_right _ (by omega)
          obtain ⟨o1, o2, o3, o4⟩ := cover_spec hov (by omega) (by rw [hSrc.1]; exact hle2)
          have hle3 : n * ee ≤ cap * ee := Nat.mul_le_mul_right _ hl'
          rcases hR.hget hh c _ hg hi with ⟨h4, _⟩ | ⟨b', base', h4, hC⟩
          · cases h4
          simp only [Option.some.injEq, Prod.mk.injEq] at h4
          obtain ⟨rfl, rfl⟩ := h4
          obtain ⟨CS, T', fr, k1, k2, k3, k4⟩ := hC.cc o1
          have hks : o + min n m * ee ≤ CS.size := by omega
          have hst := storeCells_ok (P := P) (w := w) (b := bb) (o := o) cs.toList k1 k2 (by rw [Array.length_toList, q2]; exact hks) q4
          obtain ⟨r1, r2⟩ := set_core (off := off) (l := (List.range (min n m * ee)).map r.get) (vs := cs.toList) hR hn hi hg (by simp [q2]) (fun j hj => by
            simp only [List.length_map, List.length_range] at hj
            have e1 : ((List.range (min n m * ee)).map r.get).getD j .undef = r.get j := by
              simp [List.getD_eq_getElem?_getD, hj]
            rw [e1]
            have e2 : cs.toList.getD j default = cs.getD j default := by
              simp [List.getD_eq_getElem?_getD, Array.getD_eq_getD_getElem?]
            rw [e2]
            exact q3 j hj) (by simp; omega) ⟨o1, o2⟩ o3 (fun j hj => by
            rw [o4 j hj]
            simp only [List.length_map, List.length_range]
            by_cases hb : off ≤ j ∧ j < off + min n m * ee
            · rw [if_pos hb, if_pos hb]
              have : j - off < min n m * ee := by omega
              simp [List.getD_eq_getElem?_getD, this]
            · rw [if_neg hb, if_neg hb])
          rw [← ho] at r1 r2
          have := run _ cap cs _ hV (src_len hSrc) (by rw [hme]; exact q1) (.inr ⟨_, rfl, hst⟩)
          rw [hme] at this
          exact ⟨_, ι, _, M, this, .g _ _ (.int _ _), r1, r2, fun _ _ h => h, GoImm r2 fun b hb => hR.ownM hb⟩
        · cases h
    · cases h
  · cases h

/-! ### notes -/
def noteF : Bool → Array Value → Sem Value
  | false, _ => pure Extern.Race.none_
  | true, args => do let _ ← Extern.Race.at_ args; pure Extern.Race.none_
theorem noteOf_spec {f : Nat} {b : Bool} (h : noteOf P f = some b) : ∃ fn F, P.funcs[f]? = some fn ∧ (fn.name == "runtime.NumGoroutine") = false ∧ fn.body.isNone = true ∧ Extern.findNext fn = none ∧ Extern.find fn = some F ∧ ∀ args w, (F args).run P w = (noteF b args).run P w := by
  unfold noteOf at h
  split at h
  · rename_i fn hf
    split at h
    · cases h
    · rename_i hb
      split at h
      · cases h
      · rename_i ho
        have ho : fn.origin = "" := by simpa using ho
        have hb : fn.body.isNone = true := by simpa using hb
        have names : ∀ (nm : String) (F : Array Value → Sem Value), (∀ fn : Func, fn.name = nm → fn.origin = "" → Extern.findNext fn = none ∧ Extern.find fn = some F) → (nm == "runtime.NumGoroutine") = false → (∀ args w, (F args).run P w = (noteF b args).run P w) → fn.name = nm →
            ∃ fn F, P.funcs[f]? = some fn ∧ (fn.name == "runtime.NumGoroutine") = false ∧ fn.body.isNone = true ∧ Extern.findNext fn = none ∧ Extern.find fn = some F ∧ ∀ args w, (F args).run P w = (noteF b args).run P w := by
          intro nm F h1 h2 h3 h4
          obtain ⟨q1, q2⟩ := h1 fn h4 ho
          exact ⟨fn, F, hf, by rw [h4]; exact h2, hb, q1, q2, h3⟩
        split at h
        · rename_i hnm
          simp only [Option.some.injEq] at h
          subst h
          refine names "internal/race.Disable" (fun _ => do mark .disable; pure Extern.Race.none_) (fun fn h h2 => ?_) (by decide) (fun args w => by simp [noteF]) (by simpa using hnm)
          cases fn; simp only at h h2; subst h; subst h2
          exact ⟨by kernel_rfl, by kernel_rfl⟩
        · split at h
          · rename_i hnm
            simp only [Option.some.injEq] at h
            subst h
            refine names "internal/race.Enable" (fun _ => do mark .enable; pure Extern.Race.none_) (fun fn h h2 => ?_) (by decide) (fun args w => by simp [noteF]) (by simpa using hnm)
            cases fn; simp only at h h2; subst h; subst h2
            exact ⟨by kernel_rfl, by kernel_rfl⟩
          · split at h
            · rename_i hnm
              simp only [Option.some.injEq] at h
              subst h
              refine names "internal/race.Acquire" (Extern.Race.marked .acquire) (fun fn h h2 => ?_) (by decide) (fun args w => by simp [noteF, Extern.Race.marked]) (by simpa using hnm)
              cases fn; simp only at h h2; subst h; subst h2
              exact ⟨by kernel_rfl, by kernel_rfl⟩
            · split at h
              · rename_i hnm
                simp only [Option.some.injEq] at h
                subst h
                refine names "internal/race.ReleaseMerge" (Extern.Race.marked .releaseMerge) (fun fn h h2 => ?_) (by decide) (fun args w => by simp [noteF, Extern.Race.marked]) (by simpa using hnm)
                cases fn; simp only at h h2; subst h; subst h2
                exact ⟨by kernel_rfl, by kernel_rfl⟩
              · cases h
  · cases h
end
end Go.Ab
set_option linter.unusedVariables false
set_option linter.unusedSimpArgs false
set_option autoImplicit false
namespace Go.Ab

/-- an operation that makes a block -/
def MkO (P : Program) (ι : Iota) (w : World) (M : Nat → Prop) (s : Sem Next) (nx : Nat) (v : AV) (c : Chunk) : Prop :=
  ∃ V O, s.run P w = .ok (.value V) (w.alloc O) ∧ (∀ ι' M', Imm w M (w.alloc O) M' → (∀ h p, ι h = some p → ι' h = some p) → CRel ι' (w.alloc O) M' c w.heap.size 0) ∧
    ∀ ι' M', ι' nx = some (some (w.heap.size, 0)) → VRel ι' (w.alloc O) M' v V
section
variable {P : Program} {ι : Iota} {s : St} {w : World} {M : Nat → Prop} {ρ : AOpd → AV} {η : Operand → Value} {get : Nat → Option Chunk} {nx : Nat}

theorem MkO.of {o : Sem Next} {v : AV} {c : Chunk} (nm : c.isMap = false) (h : MkN P ι w M o nx v c) : MkO P ι w M o nx v c := by
  obtain ⟨V, cs, T, h1, h2, h3, h4⟩ := h
  refine ⟨V, .cells cs T, h1, fun ι' M' hI hx => (CRel.not_map (fun l k e => by subst e; cases nm)).2 ⟨cs, T, (0, 0), heap_alloc_new w _, fun i _ => by omega, by omega, fun j hj => ?_⟩, h4⟩
  rw [Nat.zero_add]
  exact (h3 j hj).mono hI hx
theorem one_arg {args : Array Operand} {x : AOpd} (hρ : ORel ι w M ρ η) (h : opds args.toList = some [x]) : ∃ X, args.map η = #[X] ∧ VRel ι w M (ρ x) X := by
  obtain ⟨hl, hr⟩ := opds_rel hρ _ _ h
  have hx := hr 0 (by simp)
  have hlen : args.size = 1 := by simpa using hl
  refine ⟨(args.toList.map η).getD 0 default, ?_, by simpa using hx⟩
  apply Array.ext
  · simp [hlen]
  · intro i h1 h2
    have : i = 0 := by simp at h2; omega
    subst this
    simp at h1
    simp [List.getD_eq_getElem?_getD, h1]
theorem two_args {args : Array Operand} {x y : AOpd} (hρ : ORel ι w M ρ η) (h : opds args.toList = some [x, y]) : ∃ X Y, args.map η = #[X, Y] ∧ VRel ι w M (ρ x) X ∧ VRel ι w M (ρ y) Y := by
  obtain ⟨hl, hr⟩ := opds_rel hρ _ _ h
  have hx := hr 0 (by simp)
  have hy := hr 1 (by simp)
  have hlen : args.size = 2 := by simpa using hl
  refine ⟨(args.toList.map η).getD 0 default, (args.toList.map η).getD 1 default, ?_, by simpa using hx, by simpa using hy⟩
  apply Array.ext
  · simp [hlen]
  · intro i h1 h2
    simp only [Array.size_map] at h1
    have : i = 0 ∨ i = 1 := by omega
    rcases this with rfl | rfl <;> simp [List.getD_eq_getElem?_getD, h1]
theorem no_args {args : Array Operand} (hρ : ORel ι w M ρ η) (h : opds args.toList = some []) : args.map η = #[] := by
  obtain ⟨hl, _⟩ := opds_rel hρ _ _ h
  have hlen : args.size = 0 := by simpa using hl
  apply Array.ext
  · simp [hlen]
  · intro i h1 h2
    simp at h2

/-! ### no change -/
theorem uptr_sound {src dst t n : Nat} {x : Operand} {a : AOpd} {v : AV} {e : Eff} (hG : HGet ι w M get) (hρ : ORel ι w M ρ η) (hs : P.underlying src = some (.pointer t)) (hd : P.underlying dst = some .unsafePointer) (ha : opd x = some a) (hz : sizeP P t = some n) (h0 : 0 < n)
    (h : moreD get nx ρ (.uptr a) = .ok true v e) : PN P ι w M (do pure (.value (← convert src dst (η x))) : Sem Next) v e := by
  have hX := hρ _ _ ha
  simp only [moreD] at h
  split at h
  · rename_i hh o hx
    rw [hx] at hX
    split at h
    · rename_i c hc
      simp only [Res.ok.injEq, blt_eq, decide_eq_true_eq] at h
      obtain ⟨hlt, rfl, rfl⟩ := h
      have hX' := hX
      obtain ⟨b, base, hi, hV⟩ := hX.ptr_inv
      rcases hG hh c _ hc hi with ⟨h4, _⟩ | ⟨b', base', h4, hC⟩
      · cases h4
      simp only [Option.some.injEq, Prod.mk.injEq] at h4
      obtain ⟨rfl, rfl⟩ := h4
      obtain ⟨cs, T, fr, k1, _, k3, _⟩ := hC.cc (by cases c <;> first | rfl | (simp only [Chunk.size] at hlt; omega))
      have hsh : w.shape? b = some (T, cs.size) := by unfold World.shape?; rw [k1]
      refine PN.of (V := .pointer (some ⟨b, base + o, none⟩)) ?_ (hV ▸ hX')
      rw [hV]
      have hoff : ¬ (base + o ≥ cs.size) := by omega
      have hn0 : n ≠ 0 := by omega
      simp [convert, run_underlying hs, run_underlying hd, Conv.unsafePointer, Conv.seenAt, viewAt, cellsIn, hsh, sizeP_run hz, hn0]
      omega
    · cases h
  · cases h
theorem mcall_pure {c : Call} {type : TypeId} {v : AV} {e : Eff} (hE : (compMoreCall P c).isE = false) (hρ : ORel ι w M ρ η) (hG : HGet ι w M get) (h : moreD get nx ρ (compMoreCall P c) = .ok true v e) : PN P ι w M (do let d ← resolve η c type; invoke d.target d.args) v e := by
  obtain ⟨callee, args, argTypes⟩ := c
  revert hE h
  unfold compMoreCall
  simp only
  split
  · intro _ h; cases h
  · rename_i x hargs
    split
    · rename_i el hu
      intro _ h
      obtain ⟨X, hmap, hX⟩ := one_arg hρ hargs
      simp only [moreD] at h
      split at h
      · rename_i hx
        rw [hx] at hX
        obtain rfl := hX.nils_inv
        simp only [Res.ok.injEq, true_and] at h
        obtain ⟨rfl, rfl⟩ := h
        simp only [Option.bind_eq_some_iff] at hu
        obtain ⟨t, h1, h2⟩ := hu
        exact ⟨⟨.int .i64 0, by simp [resolve, invoke, builtin, hmap, Builtin.cap_, h1, run_underlying h2, goInt], .g _ _ (.int _ _)⟩, rfl⟩
      · cases h
    · intro _ h; cases h
  · split <;> intro hE h <;> first | (cases h; done) | (simp [MOp.isE] at hE; done)
  · rename_i x hargs
    split
    · rename_i e1 f1 hu
      intro _ h
      obtain ⟨X, hmap, hX⟩ := one_arg hρ hargs
      simp only [moreD] at h
      split at h
      · rename_i l hl'
        simp only [Res.ok.injEq, true_and] at h
        obtain ⟨rfl, rfl⟩ := h
        obtain ⟨L, k1, k2, _⟩ := ents_rel hG hX hl'
        have hrun := len_run_map (P := P) (w := w) (t := 0) (ty := type) hu k1
        have hsz : L.size = l.length := by simpa using k2
        rw [hsz] at hrun
        exact ⟨⟨.int .i64 l.length, by simp [resolve, invoke, builtin, hmap, hrun], .g _ _ (.int .i64 _)⟩, rfl⟩
      · cases h
    · intro _ h; cases h
  · split
    · split <;> intro hE h <;> first | (cases h; done) | (simp [MOp.isE] at hE; done)
    · intro _ h; cases h
  · split
    · split
      · rename_i es _
        cases hb : Nat.blt 0 es <;> simp only [cond_false, cond_true] <;> intro hE h <;> first | (cases h; done) | (simp [MOp.isE] at hE; done)
      · intro _ h; cases h
    · intro _ h; cases h
  · intro _ h; cases h
theorem more_pure {o : Oper} {v : AV} {e : Eff} (hη : ∀ v, η (.const v) = v) (hE : (compMore P o.op).isE = false) (hA : (compMore P o.op).isA = false) (hρ : ORel ι w M ρ η) (hG : HGet ι w M get) (h : moreD get nx ρ (compMore P o.op) = .ok true v e) : PN P ι w M (execOp η o) v e := by
  obtain ⟨dst, op, type, pos, after, guard⟩ := o
  simp only at h hE hA
  revert hE hA h
  unfold compMore
  split
  · -- slices against nil
    rename_i t x c
    split
    · rename_i el a hu ha
      intro _ _ h
      have := nilsl_sound (op := .eql) (y := .const (.slice none 0 0)) hG hρ (.inl ⟨rfl, rfl⟩) hu ha h
      simpa [execOp, hη] using this
    · intro _ _ h; cases h
  · rename_i t x c
    split
    · rename_i el a hu ha
      intro _ _ h
      have := nilsl_sound (op := .neq) (y := .const (.slice none 0 0)) hG hρ (.inr ⟨rfl, rfl⟩) hu ha h
      simpa [execOp, hη] using this
    · intro _ _ h; cases h
  · -- a string's byte
    split
    · rename_i t x i _ _ _ a b h1 h2 h3
      intro _ _ h
      exact index_sound hρ h1 h2 h3 h
    · intro _ _ h; cases h
  · intro _ hA; simp [MOp.isA] at hA
  · -- a cut with three bounds
    rename_i t x lo hi mx
    split
    · rename_i el x' hi' mx' hu hx hhi hmx
      split
      · rename_i es hz
        have key : ∀ (lo' : Option AOpd) (LO : Option Value), (∀ l, lo' = some l → ∃ L, LO = some L ∧ VRel ι w M (ρ l) L) → (lo' = none → LO = none) → moreD get nx ρ (.slc3 es x' lo' hi' mx') = .ok true v e → PN P ι w M (do pure (.value (← Instr.sliceAt t (η x) LO (some (η hi)) (some (η mx)))) : Sem Next) v e := by
          intro lo' LO k1 k2 h
          have hX := hρ _ _ hx
          have hM := hρ _ _ hmx
          simp only [moreD] at h
          split at h
          · rename_i e1 hh off n kk m e2 e3
            rw [e2] at hX
            rw [e3] at hM
            split at h
            · rename_i c a b hb
              simp only [Res.ok.injEq, Bool.and_eq_true, decide_eq_true_eq] at h
              obtain ⟨⟨⟨⟨rfl, q1⟩, q2⟩, q3⟩, rfl, rfl⟩ := h
              obtain rfl := Nat.eq_of_beq_eq_true q1
              obtain ⟨V, r1, r2⟩ := slc3_sound (P := P) (lo := lo'.map ρ) (c := true) (LO := LO) hu hz hX (fun y hy => by
                obtain ⟨l, hl, rfl⟩ := Option.map_eq_some_iff.1 hy
                exact k1 l hl) (fun hn => k2 (by simpa using hn)) rfl (hρ _ _ hhi) hM hb q2 q3
              exact PN.of r1 r2
            · cases h
          · cases h
        split
        · intro _ _ h
          have := key none none (by simp) (by simp) h
          simpa [execOp] using this
        · rename_i l
          split
          · rename_i l' hl
            intro _ _ h
            have := key (some l') (some (η l)) (fun y hy => by simp only [Option.some.injEq] at hy; subst hy; exact ⟨_, rfl, hρ _ _ hl⟩) (by simp) h
            simpa [execOp] using this
          · intro _ _ h; cases h
      · intro _ _ h; cases h
    · intro _ _ h; cases h
  · split
    · split <;> intro hE _ h <;> first | (cases h; done) | (simp [MOp.isE] at hE; done)
    · intro _ _ h; cases h
  · split <;> intro hE _ h <;> first | (cases h; done) | (simp [MOp.isE] at hE; done)
  · -- lookups
    split
    · rename_i t x k ok _ _ _ kt et a b h1 h2 h3
      split
      · rename_i kk z h4 h5
        intro _ _ h
        exact look_sound hG (hρ _ _ h2) (hρ _ _ h3) h1 h4 h5 h
      · intro _ _ h; cases h
    · intro _ _ h; cases h
  iterate 2
    · split
      · split <;> intro hE _ h <;> first | (cases h; done) | (simp [MOp.isE] at hE; done)
      · intro _ _ h; cases h
  · split
    · rename_i f first _ l h1
      intro _ _ h
      simp only [moreD, Res.ok.injEq, true_and] at h
      obtain ⟨rfl, rfl⟩ := h
      obtain ⟨h2, h3⟩ := opds_rel hρ _ _ h1
      refine PN.of (V := .func (.func f) (first.map η) #[]) (by simp [Instr.makeFunc]) (.bfn _ _ _ ?_ fun j hj => ?_)
      · simpa using h2
      · simpa [List.getD_eq_getElem?_getD, Array.getD_eq_getD_getElem?] using h3 j hj
    · intro _ _ h; cases h
  · split
    · rename_i t x i _ _ fs a h1 h2
      split
      · rename_i f h3
        split
        · rename_i sz agg h4 h5
          intro _ _ h
          exact field_sound hρ h1 h2 h3 h4 h5 h
        · intro _ _ h; cases h
      · intro _ _ h; cases h
    · intro _ _ h; cases h
  · -- convert
    split
    · split <;> intro hE _ h <;> first | (cases h; done) | (simp [MOp.isE] at hE; done)
    · rename_i src dst x _ _ _ t a h1 h2 h3
      split
      · rename_i n hz
        cases hb : Nat.blt 0 n <;> simp only [cond_false, cond_true] <;> intro _ _ h
        · cases h
        · exact uptr_sound hG hρ h1 h2 h3 hz (by simpa using hb) h
      · intro _ _ h; cases h
    · intro _ _ h; cases h
  · intro hE _ h
    exact mcall_pure hE hρ hG h
  · split
    · split <;> intro hE _ h <;> first | (cases h; done) | (simp [MOp.isE] at hE; done)
    · intro _ _ h; cases h
  · intro _ _ h; cases h

theorem mcall_noA {c : Call} : (compMoreCall P c).isA = false := by
  unfold compMoreCall
  repeat' split
  all_goals first | rfl | (rename_i es _; cases Nat.blt 0 es <;> rfl)
theorem more_make {o : Oper} {v : AV} {e : Eff} (hA : (compMore P o.op).isA = true) (h : moreD get nx ρ (compMore P o.op) = .ok true v e) : ∃ c, e = .new c ∧ MkO P ι w M (execOp η o) nx v c := by
  obtain ⟨dst, op, type, pos, after, guard⟩ := o
  simp only at h hA
  revert hA h
  unfold compMore
  repeat' split
  case h_4 =>
    intro _ h
    simp only [moreD, Res.ok.injEq, true_and] at h
    obtain ⟨rfl, rfl⟩ := h
    exact ⟨_, rfl, .map (some w.heap.size), .map #[] 0, by simp [execOp, Instr.makeMap], fun ι' M' hI hx => ⟨rfl, #[], heap_alloc_new w _, rfl, fun j x hx => by simp at hx⟩, fun ι' M' hi => .mp _ _ hi⟩
  all_goals intro hA h
  all_goals first | (simp [MOp.isA] at hA; done) | (rw [mcall_noA] at hA; cases hA; done) | (rename_i n _; cases hb : Nat.blt 0 n <;> simp [hb, MOp.isA] at hA; done)
theorem mcall_eff {n0 : Nat} {c : Call} {type : TypeId} {v : AV} {e : Eff} (hη : ∀ f, η (.func f) = .func (.func f) #[] #[]) (hR : Rep ι s w M) (hρ : ORel ι w M ρ η) (hn : n0 ≤ s.next) (hE : (compMoreCall P c).isE = true) (h : moreD s.get s.next ρ (compMoreCall P c) = .ok true v e) : DoesN P n0 ι s w M (do let d ← resolve η c type; invoke d.target d.args) v (s.app e) := by
  obtain ⟨callee, args, argTypes⟩ := c
  revert hE h
  unfold compMoreCall
  simp only
  split
  · intro _ h; cases h
  · split <;> intro hE h <;> first | (cases h; done) | (simp [MOp.isE] at hE; done)
  · rename_i f l hargs
    have note : ∀ (b : Bool), noteOf P f = some b → (noteF b (args.map η)).run P w = .ok (.tuple #[]) w → DoesN P n0 ι s w M (do let d ← resolve η ⟨.value (.func f), args, argTypes⟩ type; invoke d.target d.args) (.tup []) s := by
      intro b hb hr
      obtain ⟨fn, F, k1, k2, k3, k4, k5, k6⟩ := noteOf_spec hb
      refine ⟨.tuple #[], ι, w, M, .inl ?_, .g _ _ (.tup [] #[] rfl fun j hj => absurd hj (by simp)), hR, Go.refl _ _ _ _ hn, fun _ _ h => h, Imm.refl _ _⟩
      have := run_callFunc_extern (args := args.map η) (w := w) k1 k2 k3 k4 k5
      rw [k6, hr] at this
      simpa [resolve, invoke, hη, Deferred.ofValue] using this
    split
    · rename_i hb
      intro _ h
      simp only [moreD, Res.ok.injEq, true_and] at h
      obtain ⟨rfl, rfl⟩ := h
      exact note false hb (by simp [noteF, Extern.Race.none_])
    · rename_i x hb
      intro _ h
      obtain ⟨X, hmap, hX⟩ := one_arg hρ hargs
      simp only [moreD] at h
      split at h
      · rename_i hh o hx
        rw [hx] at hX
        simp only [Res.ok.injEq, true_and] at h
        obtain ⟨rfl, rfl⟩ := h
        obtain ⟨b, base, _, hV⟩ := hX.ptr_inv
        refine note true hb ?_
        rw [hmap, hV]
        simp [noteF, Extern.Race.at_, Extern.Race.none_]
      · cases h
    · intro _ h; cases h
  · split <;> intro hE h <;> first | (cases h; done) | (simp [MOp.isE] at hE; done)
  · rename_i x k hargs
    split
    · rename_i kt et hu
      split
      · rename_i kk h4
        intro _ h
        obtain ⟨X, K, hmap, hx, hk⟩ := two_args hρ hargs
        obtain ⟨rfl, w', k1, k2, k3⟩ := mdel_sound (P := P) (ty := type) hR hn hx hk hu h4 h
        exact ⟨.tuple #[], ι, w', M, .inl (by simp [resolve, invoke, builtin, hmap, k1]), .tup [] #[] rfl (fun j hj => absurd hj (by simp)), k2, k3, fun _ _ h => h, GoImm k3 fun b hb => hR.ownM hb⟩
      · intro _ h; cases h
    · intro _ h; cases h
  · rename_i x y hargs
    split
    · rename_i el el2 hu _
      split
      · rename_i es hz
        cases hb : Nat.blt 0 es <;> simp only [cond_false, cond_true] <;> intro _ h
        · cases h
        · obtain ⟨X, Y, hmap, hx, hy⟩ := two_args hρ hargs
          obtain ⟨V, ι', w', M', k1, k2⟩ := cpy_sound (P := P) (ty := type) hR hn hx hy hu hz (by simpa using hb) h
          exact ⟨V, ι', w', M', .inl (by simp [resolve, invoke, builtin, hmap, k1]), k2⟩
      · intro _ h; cases h
    · intro _ h; cases h
  · intro _ h; cases h
theorem more_eff {n0 : Nat} {o : Oper} {v : AV} {e : Eff} (hη : ∀ f, η (.func f) = .func (.func f) #[] #[]) (hR : Rep ι s w M) (hρ : ORel ι w M ρ η) (hn : n0 ≤ s.next) (hE : (compMore P o.op).isE = true) (h : moreD s.get s.next ρ (compMore P o.op) = .ok true v e) : DoesN P n0 ι s w M (execOp η o) v (s.app e) := by
  obtain ⟨dst, op, type, pos, after, guard⟩ := o
  simp only at h hE
  revert hE h
  unfold compMore
  split
  · split <;> intro hE h <;> first | (cases h; done) | (simp [MOp.isE] at hE; done)
  · split <;> intro hE h <;> first | (cases h; done) | (simp [MOp.isE] at hE; done)
  · split <;> intro hE h <;> first | (cases h; done) | (simp [MOp.isE] at hE; done)
  · intro hE; simp [MOp.isE] at hE
  · split
    · split
      · split
        · intro hE; simp [MOp.isE] at hE
        · split <;> intro hE h <;> first | (cases h; done) | (simp [MOp.isE] at hE; done)
      · intro _ h; cases h
    · intro _ h; cases h
  · split
    · rename_i t m k _ _ _ kt et m' k' h1 h2 h3
      split
      · rename_i kk z h4 h5
        intro _ h
        obtain ⟨V, w', k1, k2, k3, k4⟩ := ment_sound (P := P) hR hn (hρ _ _ h2) (hρ _ _ h3) h1 h4 h5 h
        exact ⟨V, ι, w', M, .inl (by simp [execOp, k1]), k2, k3, k4, fun _ _ h => h, GoImm k4 fun b hb => hR.ownM hb⟩
      · intro _ h; cases h
    · intro _ h; cases h
  · split
    · rename_i t m j x _ _ _ m' j' x' h1 h2 h3
      intro _ h
      obtain ⟨rfl, w', k1, k2, k3⟩ := mput_sound (P := P) (t := t) hR hn (hρ _ _ h1) (hρ _ _ h2) (hρ _ _ h3) h
      exact ⟨undef, ι, w', M, .inr ⟨by simp [execOp, k1], rfl⟩, .undef _, k2, k3, fun _ _ h => h, GoImm k3 fun b hb => hR.ownM hb⟩
    · intro _ h; cases h
  · split
    · split <;> intro hE h <;> first | (cases h; done) | (simp [MOp.isE] at hE; done)
    · intro _ h; cases h
  iterate 2
    · split
      · rename_i t m k x _ _ _ _ kt _ a b c h1 h2 h3 h0
        split
        · rename_i kk h4
          intro _ h
          obtain ⟨rfl, w', k1, k2, k3⟩ := mset_sound (P := P) hR hn (hρ _ _ h2) (hρ _ _ h3) (hρ _ _ h0) h1 h4 h
          exact ⟨undef, ι, w', M, .inr ⟨by simp [execOp, k1], rfl⟩, .undef _, k2, k3, fun _ _ h => h, GoImm k3 fun b hb => hR.ownM hb⟩
        · intro _ h; cases h
      · intro _ h; cases h
  · split <;> intro hE h <;> first | (cases h; done) | (simp [MOp.isE] at hE; done)
  · split
    · split
      · split <;> intro hE h <;> first | (cases h; done) | (simp [MOp.isE] at hE; done)
      · intro _ h; cases h
    · intro _ h; cases h
  · split
    · rename_i src dst x _ _ _ el a h1 h2 h3
      split
      · rename_i h4
        intro _ h
        have hX := hρ _ _ h3
        simp only [moreD] at h
        split at h
        · rename_i st hs
          rw [hs] at hX
          simp only [Res.ok.injEq, true_and] at h
          obtain ⟨rfl, rfl⟩ := h
          exact DoesN.of (s2b_sound hR hn hX h1 h2 h4)
        · cases h
      · intro _ h; cases h
    · split
      · rename_i n _
        cases hb : Nat.blt 0 n <;> simp only [cond_false, cond_true] <;> intro hE h
        · cases h
        · simp [MOp.isE] at hE
      · intro _ h; cases h
    · intro _ h; cases h
  · intro hE h
    exact mcall_eff hη hR hρ hn hE h
  · split
    · split <;> intro hE h <;> cases h
    · intro _ h; cases h
  · intro _ h; cases h

theorem op_pure {o : Oper} {a : AOp} {v : AV} {e : Eff} (hη : ∀ v, η (.const v) = v) (hc : compOp P o.op = some a) (hE : a.isE = false) (hA : a.isA = false) (hρ : ORel ι w M ρ η) (hG : HGet ι w M get) (h : opD get nx ρ a = .ok true v e) :
    (∃ V, (execOp η o).run P w = .ok (.value V) w ∧ VRel ι w M v V) ∧ e = .no := by
  rcases compOp_cases hc with hc | rfl
  · exact op_pure0 hc hE hA hρ hG h
  · exact more_pure hη hE hA hρ hG h
theorem op_make {o : Oper} {a : AOp} {v : AV} {e : Eff} (hc : compOp P o.op = some a) (hA : a.isA = true) (hρ : ORel ι w M ρ η) (h : opD get nx ρ a = .ok true v e) :
    ∃ c, e = .new c ∧ MkO P ι w M (execOp η o) nx v c := by
  rcases compOp_cases hc with hc | rfl
  · obtain ⟨c, h1, h2, h3⟩ := op_make0 hc hA hρ h
    exact ⟨c, h1, MkO.of h2 h3⟩
  · exact more_make hA h
theorem more_calls {m : MOp} {f : Nat} {args : List AV} : moreD get nx ρ m ≠ .call f args := by
  intro h
  cases m <;> simp only [moreD, lookA, msetA, mdelA, mentA, mputA, cpyA, reduceCtorEq] at h
  all_goals repeat' (first | (cases h; done) | split at h)
  all_goals (rename_i b c d e f g; revert h; cases Nat.beq (min _ _) 0 <;> simp only [cond_true, cond_false] <;> intro h <;> first | (cases h; done) | (split at h <;> cases h))
theorem op_eff {o : Oper} {a : AOp} (hc : compOp P o.op = some a) (hE : a.isE = true) (hR : Rep ι s w M) (hρ : ORel ι w M ρ η) (hη : ∀ f, η (.func f) = .func (.func f) #[] #[]) {n0 : Nat} (hn : n0 ≤ s.next) :
    (∀ v e, opD s.get s.next ρ a = .ok true v e → DoesN P n0 ι s w M (execOp η o) v (s.app e)) ∧
    (∀ f args, opD s.get s.next ρ a = .call f args → hasBody P f = true → ∃ Vs, (execOp η o).run P w = .ok (.enter f Vs) w ∧ VRels ι w M args Vs) := by
  rcases compOp_cases hc with hc | rfl
  · exact op_eff0 hc hE hR hρ hη hn
  · exact ⟨fun v e h => more_eff hη hR hρ hn hE h, fun f args h => absurd (show moreD s.get s.next ρ (compMore P o.op) = .call f args from h) more_calls⟩
end
end Go.Ab
set_option linter.unusedVariables false
set_option linter.unusedSimpArgs false
set_option autoImplicit false
namespace Go.Ab

/-- slots hold what is known of them -/
def ERel (ι : Iota) (w : World) (M : Nat → Prop) (e : Env) (act : Act) : Prop := ∀ u, VRel ι w M (e.get u) (act.tmps.getD u undef)

/-- a deferred call: of this function, with these arguments -/
def DRel1 (P : Program) (ι : Iota) (w : World) (M : Nat → Prop) (x : Nat × List AV) (d : Deferred) : Prop :=
  ∃ fv cap Vs, d.target = .fn fv cap ∧ (hasBody P x.1 = true → ∀ w', (invoke d.target d.args).run P w' = .ok (.enter x.1 Vs) w') ∧ VRels ι w M x.2 Vs
def DRel (P : Program) (ι : Iota) (w : World) (M : Nat → Prop) : List (Nat × List AV) → List Deferred → Prop
  | [], [] => True
  | x :: r, d :: ds => DRel1 P ι w M x d ∧ DRel P ι w M r ds
  | _, _ => False
theorem DRel.mono {P : Program} {ι ι' : Iota} {w w' : World} {M M' : Nat → Prop} (hi : Imm w M w' M') (hx : ∀ h p, ι h = some p → ι' h = some p) : ∀ {l : List (Nat × List AV)} {ds : List Deferred}, DRel P ι w M l ds → DRel P ι' w' M' l ds
  | [], [], _ => trivial
  | x :: r, d :: ds, ⟨⟨fv, cap, Vs, h1, h2, h3⟩, h4⟩ => ⟨⟨fv, cap, Vs, h1, h2, h3.mono hi hx⟩, h4.mono hi hx⟩
theorem DRel.nil_any {P : Program} {ι ι' : Iota} {w w' : World} {M M' : Nat → Prop} {l : List (Nat × List AV)} {ds : List Deferred} (hl : l = []) (h : DRel P ι w M l ds) : DRel P ι' w' M' l ds := by
  subst hl
  cases ds with
  | nil => trivial
  | cons _ _ => exact h.elim
theorem DRel.nil_inv {P : Program} {ι : Iota} {w : World} {M : Nat → Prop} {l : List (Nat × List AV)} {ds : List Deferred} (hl : l = []) (h : DRel P ι w M l ds) : ds = [] := by
  subst hl
  cases ds with
  | nil => rfl
  | cons _ _ => exact h.elim

/-- where a call began; what it has deferred -/
structure From where
  P : Program
  ds : List (Nat × List AV)
  ι : Iota
  s : St
  w : World
  M : Nat → Prop
  lt : ∀ b, M b → b < w.heap.size
  n0 : Nat
  N : Nat

structure Inv (F : From) (e : Env) (s : St) (act : Act) (ι : Iota) (w : World) (M : Nat → Prop) : Prop where
  rep : Rep ι s w M
  env : ERel ι w M e act
  size : F.N ≤ act.tmps.size
  dfr : DRel F.P ι w M F.ds act.defers
  go : Go F.n0 F.ι F.s F.w F.M ι s w M

section
variable {P : Program} {ι : Iota} {s : St} {w : World} {M : Nat → Prop} {e : Env} {act : Act} {F : From}

theorem Env.get_cons (d u : Nat) (v : AV) (e : Env) : Env.get ((d, v) :: e) u = if d = u then v else e.get u := by
  simp only [Env.get]
  by_cases hu : d = u
  · subst hu; simp
  · rw [if_neg hu]
    have : Nat.beq d u = false := by
      rw [Bool.eq_false_iff]
      exact fun e => hu (Nat.eq_of_beq_eq_true e)
    simp [this]

theorem ERel.orel (hg : GlobOk w M) (h : ERel ι w M e act) : ORel ι w M (AOpd.ev e) act.eval := by
  intro x y hy
  cases x <;> simp only [opd, Option.some.injEq, reduceCtorEq] at hy
  · subst hy; exact h _
  · obtain ⟨a, ha, rfl⟩ := map_some hy; exact ofV_rel ha
  · obtain ⟨a, ha, rfl⟩ := map_some hy; exact .g _ _ (hg _ _ ha)
  · subst hy; exact .g _ _ (.fn _)
theorem ERel.mono {ι' : Iota} {w' : World} {M' : Nat → Prop} (hi : Imm w M w' M') (hx : ∀ h p, ι h = some p → ι' h = some p) (h : ERel ι w M e act) : ERel ι' w' M' e act := fun u => (h u).mono hi hx
theorem slotIn_lt {n d : Nat} (h : slotIn n (some d) = true) : d < n := by
  simp only [slotIn, blt_eq, decide_eq_true_eq] at h; exact h
theorem put_size (act : Act) (d : Option Nat) (V : Value) : (act.put d V).tmps.size = act.tmps.size := by cases d <;> simp [Act.put]
theorem put_defers (act : Act) (d : Option Nat) (V : Value) : (act.put d V).defers = act.defers := by cases d <;> rfl
theorem ERel.put {d : Option Nat} {v : AV} {V : Value} {N : Nat} (h : ERel ι w M e act) (hv : VRel ι w M v V) (hd : slotIn N d = true) (hN : N ≤ act.tmps.size) : ERel ι w M (putE e d v) (act.put d V) := by
  cases d with
  | none => exact h
  | some d =>
    have hlt := slotIn_lt hd
    intro u
    simp only [putE, Act.put, Env.get_cons]
    by_cases hu : d = u
    · subst hu
      rw [if_pos rfl]
      have : d < act.tmps.size := by omega
      simpa [Array.getD, this] using hv
    · rw [if_neg hu]
      have : (act.tmps.setIfInBounds d V).getD u undef = act.tmps.getD u undef := by
        simp only [Array.getD_eq_getD_getElem?, Array.getElem?_setIfInBounds_ne hu]
      rw [this]
      exact h u

theorem eval_func (act : Act) (f : Nat) : act.eval (.func f) = .func (.func f) #[] #[] := rfl

theorem get_next_none (hR : Rep ι s w M) : s.get s.next = none := by
  cases h : s.get s.next with
  | none => rfl
  | some c => exact absurd (hR.none_of_get h) (by omega)

theorem mk_does {n0 : Nat} {o : Sem Next} {v : AV} {c : Chunk} (hR : Rep ι s w M) (hn : n0 ≤ s.next) (h : MkO P ι w M o s.next v c) : DoesN P n0 ι s w M o v (s.app (.new c)) := by
  obtain ⟨V, O, h1, h3, h4⟩ := h
  obtain ⟨ι', M', q1, q2, q3, q4, q5⟩ := new_blk (n0 := n0) (c := c) (O := O) hR hn h3
  exact ⟨V, ι', _, M', .inl h1, h4 _ _ q1, q2, q3, q4, q5⟩

/-- every operation -/
theorem op_does {n0 : Nat} {o : Oper} {a : AOp} {v : AV} {eff : Eff} (hc : compOp P o.op = some a) (hR : Rep ι s w M) (hρ : ERel ι w M e act) (hn : n0 ≤ s.next) (h : opD s.get s.next (AOpd.ev e) a = .ok true v eff) :
    DoesN P n0 ι s w M (execOp act.eval o) v (s.app eff) := by
  cases hE : a.isE with
  | true => exact (op_eff hc hE hR (hρ.orel hR.glob) (eval_func act) hn).1 v eff h
  | false =>
    cases hA : a.isA with
    | true =>
      obtain ⟨c, rfl, hm⟩ := op_make hc hA (hρ.orel hR.glob) h
      exact mk_does hR hn hm
    | false =>
      obtain ⟨⟨V, h1, h2⟩, rfl⟩ := op_pure (fun _ => rfl) hc hE hA (hρ.orel hR.glob) hR.hget h
      exact ⟨V, ι, w, M, .inl h1, h2, hR, Go.refl ι s w M hn, fun _ _ h => h, Imm.refl w M⟩

theorem op_calls {o : Oper} {a : AOp} {f : Nat} {args : List AV} (hc : compOp P o.op = some a) (hR : Rep ι s w M) (hρ : ERel ι w M e act) (h : opD s.get s.next (AOpd.ev e) a = .call f args) (hb : hasBody P f = true) :
    ∃ Vs, (execOp act.eval o).run P w = .ok (.enter f Vs) w ∧ VRels ι w M args Vs := by
  cases hE : a.isE with
  | true => exact (op_eff hc hE hR (hρ.orel hR.glob) (eval_func act) (Nat.zero_le _)).2 f args h hb
  | false =>
    exfalso
    cases a <;> simp only [AOp.isE, reduceCtorEq] at hE <;> simp only [opD] at h
    all_goals first
      | (exact more_calls h)
      | (simp at h; done)
      | (split at h <;> first | (simp at h; done) | (split at h <;> first | (simp at h; done) | (split at h <;> simp at h; done)))
      | (simp only [sliceA] at h; split at h <;> first | (simp at h; done) | (split at h <;> first | (simp at h; done) | (split at h <;> simp at h; done)))
      | (simp only [idxA] at h; split at h <;> first | (simp at h; done) | (split at h <;> first | (simp at h; done) | (split at h <;> simp at h; done)))
      | (simp only [convA] at h; split at h <;> first | (simp at h; done) | (split at h <;> first | (simp at h; done) | (split at h <;> simp at h; done)))
      | (simp only [unA] at h; split at h <;> first | (simp at h; done) | (split at h <;> first | (simp at h; done) | (split at h <;> simp at h; done)))

theorem Inv.put {d : Option Nat} {v : AV} {V : Value} (h : Inv F e s act ι w M) (hv : VRel ι w M v V) (hd : slotIn F.N d = true) : Inv F (putE e d v) s (act.put d V) ι w M :=
  ⟨h.rep, h.env.put hv hd h.size, by rw [put_size]; exact h.size, by rw [put_defers]; exact h.dfr, h.go⟩

/-- a later world -/
theorem Inv.step {ι' : Iota} {s' : St} {w' : World} {M' : Nat → Prop} (h : Inv F e s act ι w M) (hR : Rep ι' s' w' M') (hg : Go F.n0 ι s w M ι' s' w' M') (hx : ∀ h p, ι h = some p → ι' h = some p) (hi : Imm w M w' M') : Inv F e s' act ι' w' M' :=
  ⟨hR, h.env.mono hi hx, h.size, h.dfr.mono hi hx, h.go.trans hg F.lt⟩

theorem Rep.ext_all {n0 : Nat} {ι' : Iota} {s' : St} {w' : World} {M' : Nat → Prop} (hR : Rep ι s w M) (hg : Go s.next ι s w M ι' s' w' M') : ∀ h p, ι h = some p → ι' h = some p := fun h p hp => by
  rcases Nat.lt_or_ge h s.next with hl | hl
  · rw [hg.ext h hl]; exact hp
  · rw [hR.fresh h hl] at hp; cases hp

theorem ins_sound {o : Oper} {i : AIns} {K : Env → St → Prop} {next : Act → World → Prop} {Q : Exit → Act → World → Prop} (hop : compOp P o.op = some i.op) (hdst : i.dst = o.dst) (hslot : slotIn F.N i.dst = true) (hI : Inv F e s act ι w M)
    (h : insW s s.get e i (fun v eff => putW e i.dst v fun e => appW s eff fun s => K e s) (fun f args => Tr P f args s fun v s => forceV v fun v => putW e i.dst v fun e => K e s))
    (hk : ∀ e' s' act' ι' w' M', Inv F e' s' act' ι' w' M' → K e' s' → next act' w') : o.wp P act w next Q := by
  unfold insW at h
  split at h
  · rename_i c v eff hd
    cases c with
    | false => simp at h
    | true =>
      simp only [cond_true, forceV_eq] at h
      have hK : K (putE e i.dst v) (s.app eff) := by
        cases hs : i.split with
        | false => simp only [hs, cond_false, putW_eq, appW_eq] at h; exact h
        | true =>
          simp only [hs, cond_true] at h
          cases v <;> simp only [] at h
          rename_i b
          cases b <;> simpa only [cond_true, cond_false, putW_eq, appW_eq] using h
      obtain ⟨V, ι', w', M', hrun, h1, h2, h3, h4, h5⟩ := op_does (n0 := F.n0) hop hI.rep hI.env hI.go.next hd
      have hI' := (hI.step h2 h3 h4 h5).put h1 hslot
      rw [hdst] at hI' hK
      unfold Oper.wp
      rcases hrun with hrun | ⟨hrun, rfl⟩
      · rw [hrun, Oper.upon_value]; exact hk _ _ _ _ _ _ hI' hK
      · rw [hrun, Oper.upon_skip]; exact hk _ _ _ _ _ _ hI' hK
  · rename_i f args hd
    unfold Tr at h
    obtain ⟨hb, h⟩ := h
    obtain ⟨Vs, hrun, hV⟩ := op_calls hop hI.rep hI.env hd hb
    unfold Oper.wp
    rw [hrun, Oper.upon_enter]
    refine Calls.mono (h ι w M Vs hI.rep hV) fun en w' he => ?_
    obtain ⟨V, ι', M', v, s', rfl, hK, h1, h2, h3⟩ := he
    simp only [forceV_eq, putW_eq] at hK
    have hx := Rep.ext_all (n0 := 0) hI.rep h3
    have hI' := (hI.step h2 (h3.weak hI.go.next) hx (GoImm h3 fun b hb => hI.rep.ownM hb)).put h1 hslot
    rw [hdst] at hI' hK
    exact hk _ _ _ _ _ _ hI' hK
  · exact h.elim

theorem VRel.skip {ι : Iota} {w : World} {M : Nat → Prop} : VRel ι w M (.tup []) Go.undef := .g _ _ (.tup _ #[] rfl fun j hj => absurd hj (Nat.not_lt_zero j))
/-- is it done? -/
theorem guard_sound {ops : List Oper} {o : Oper} {i : AIns} {k : Nat} (hi : insOf P ops k o = some i) (henv : ERel ι w M e act) {yes no : Prop} (h : guardW e i yes no) :
    (Region.wanted o (yielded ops.toArray act.tmps) = true ∧ yes) ∨ (Region.wanted o (yielded ops.toArray act.tmps) = false ∧ no) := by
  unfold insOf at hi
  split at hi
  · rename_i a ha
    split at hi
    · rename_i hg
      simp only [Option.some.injEq] at hi
      subst hi
      simp only [guardW] at h
      exact .inl ⟨by simp [Region.wanted, hg], h⟩
    · rename_i g hg
      split at hi
      · rename_i t ht
        simp only [Option.some.injEq] at hi
        subst hi
        simp only [guardW] at h
        have hv := henv t
        cases hb : e.get t <;> simp only [hb] at h
        case tup l =>
          rw [hb] at hv
          obtain ⟨cs, hV, _⟩ := hv.tup_inv
          have hy : yielded ops.toArray act.tmps g.1 = none := by
            have h1 : (ops.toArray[g.1]?).bind (·.dst) = some t := by simpa using ht
            simp only [yielded, h1, Option.bind_some]
            rw [Array.getD_eq_getD_getElem?] at hV
            cases h3 : act.tmps[t]? with
            | none => rfl
            | some x => rw [h3] at hV; simp at hV; rw [hV]
          refine .inr ⟨?_, h⟩
          obtain ⟨gi, want⟩ := g
          simp only at hy
          simp only [Region.wanted, hg, hy]
          rfl
        rename_i b
        rw [hb] at hv
        have hV := hv.bool_inv
        have hy : yielded ops.toArray act.tmps g.1 = some b := by
          have h1 : (ops.toArray[g.1]?).bind (·.dst) = some t := by simpa using ht
          have h2 : act.tmps[t]? = some (.bool b) := by
            rw [Array.getD_eq_getD_getElem?] at hV
            cases h3 : act.tmps[t]? with
            | none => rw [h3] at hV; simp [undef] at hV
            | some x => rw [h3] at hV; simp at hV; rw [hV]
          simp only [yielded, h1, Option.bind_some, h2]
        obtain ⟨gi, want⟩ := g
        simp only at hy h ht
        have hw : Region.wanted o (yielded ops.toArray act.tmps) = (b == want) := by
          simp only [Region.wanted, hg, hy]
          cases b <;> cases want <;> rfl
        rw [hw]
        cases b <;> cases want <;> simp only [cond_true, cond_false] at h
        · exact .inl ⟨rfl, h⟩
        · exact .inr ⟨rfl, h⟩
        · exact .inr ⟨rfl, h⟩
        · exact .inl ⟨rfl, h⟩
      · simp at hi
  · simp at hi
theorem insOf_op {ops : List Oper} {o : Oper} {i : AIns} {k : Nat} (hi : insOf P ops k o = some i) : compOp P o.op = some i.op ∧ i.dst = o.dst := by
  unfold insOf at hi
  split at hi
  · rename_i a ha
    split at hi
    · simp only [Option.some.injEq] at hi; subst hi; exact ⟨ha, rfl⟩
    · split at hi
      · simp only [Option.some.injEq] at hi; subst hi; exact ⟨ha, rfl⟩
      · simp at hi
  · simp at hi

theorem regW_sound {Q : Exit → Act → World → Prop} {K : Env → St → Prop} {ops : List Oper} : ∀ (l : List Oper) (k : Nat) (il : List AIns), insL P ops k l = some il → il.all (fun i => slotIn F.N i.dst) = true →
    ∀ {e s act ι w M}, Inv F e s act ι w M → regW P il e s K → (∀ e' s' act' ι' w' M', Inv F e' s' act' ι' w' M' → K e' s' → Q .normal act' w') → wpList P ops.toArray Q l act w
  | [], k, il, hl, hs, e, s, act, ι, w, M, hI, h, hk => by
    simp only [insL, Option.some.injEq] at hl
    subst hl
    exact hk _ _ _ _ _ _ hI h
  | o :: r, k, il, hl, hs, e, s, act, ι, w, M, hI, h, hk => by
    simp only [insL] at hl
    split at hl
    · rename_i i l hi hr
      simp only [Option.some.injEq] at hl
      subst hl
      simp only [List.all_cons, Bool.and_eq_true] at hs
      obtain ⟨h1, h2⟩ := insOf_op hi
      rw [regW_cons] at h
      unfold wpList
      rcases guard_sound hi hI.env h with ⟨hw, h⟩ | ⟨hw, h⟩
      · rw [if_pos hw]
        exact .inl (ins_sound h1 h2 hs.1 hI h fun e' s' act' ι' w' M' hI' hK => regW_sound r (k + 1) l hr hs.2 hI' hK hk)
      · rw [if_neg (by simp [hw])]
        rw [putW_eq] at h
        have hI' := hI.put (V := undef) (v := .tup []) VRel.skip hs.1
        rw [h2] at hI' h
        exact regW_sound r (k + 1) l hr hs.2 hI' h hk
    · simp at hl

end
end Go.Ab
set_option linter.unusedVariables false
set_option linter.unusedSimpArgs false
set_option autoImplicit false
namespace Go.Ab

/-- where the handles of the other state lie -/
def Iota.ren (ι : Iota) (ρ : Nat → Option Nat) (n : Nat) : Iota := fun h =>
  if h < n then (match ρ h with
    | some h' => ι h'
    | none => some none) else none

section
variable {ι : Iota} {s : St} {w : World} {M : Nat → Prop} {e : Env} {act : Act} {F : From} {ρ : Nat → Option Nat} {n : Nat}

theorem Iota.ren_some {h h' : Nat} (hn : h < n) (hr : ρ h = some h') : ι.ren ρ n h = ι h' := by simp [Iota.ren, hn, hr]
theorem Iota.ren_none {h : Nat} (hn : h < n) (hr : ρ h = none) : ι.ren ρ n h = some none := by simp [Iota.ren, hn, hr]
theorem Iota.ren_ge {h : Nat} (hn : n ≤ h) : ι.ren ρ n h = none := by simp [Iota.ren, Nat.not_lt.2 hn]

theorem renL_length : ∀ l : List AV, (renL ρ l).length = l.length
  | [] => rfl
  | v :: r => by simp [renL, renL_length r]
theorem renL_getD : ∀ (l : List AV) (j : Nat), j < l.length → (renL ρ l).getD j .undef = (l.getD j .undef).ren ρ
  | [], j, h => by simp at h
  | v :: r, 0, h => by simp [renL]
  | v :: r, j + 1, h => by simpa [renL] using renL_getD r j (by simpa using h)
theorem hokL_getD : ∀ (l : List AV) (j : Nat), j < l.length → hokL n ρ l = true → (l.getD j .undef).hok n ρ = true
  | [], j, h, _ => by simp at h
  | v :: r, 0, h, k => by simp only [hokL, Bool.and_eq_true] at k; simpa using k.1
  | v :: r, j + 1, h, k => by
    simp only [hokL, Bool.and_eq_true] at k
    simpa using hokL_getD r j (by simpa using h) k.2

theorem VRel.same {v : AV} {V : Value} {ι' : Iota} (h : VRel ι w M v V) (h1 : ∀ h o, v ≠ .ptr h o) (h2 : ∀ e h o m, v ≠ .sl e h o m) (h3 : ∀ l, v ≠ .agg l) (h4 : ∀ l, v ≠ .tup l) (h5 : ∀ t x, v ≠ .iface t x) (h6 : ∀ f l, v ≠ .fn f l) (h7 : ∀ h, v ≠ .mp h) (h8 : ∀ f l, v ≠ .bfn f l) (h9 : ∀ k e, v ≠ .sy k e := by simp) : VRel ι' w M v V := by
  cases h with
  | g _ _ h => exact .g _ _ h
  | ptr h o => exact absurd rfl (h1 h o)
  | sl e h o m => exact absurd rfl (h2 e h o m)
  | slv e h o => exact absurd rfl (h2 e h o 0)
  | agg l => exact absurd rfl (h3 l)
  | tup l => exact absurd rfl (h4 l)
  | iface t x => exact absurd rfl (h5 t x)
  | fn f l => exact absurd rfl (h6 f l)
  | mp h => exact absurd rfl (h7 h)
  | bfn f l => exact absurd rfl (h8 f l)
  | sy k e => exact absurd rfl (h9 k e)

mutual
theorem ren_rel : ∀ (v : AV) (V : Value), v.hok n ρ = true → VRel ι w M (v.ren ρ) V → VRel (ι.ren ρ n) w M v V
  | .ptr h o, V, hk, hr => by
    simp only [AV.hok, Bool.and_eq_true, blt_eq, decide_eq_true_eq] at hk
    obtain ⟨h1, h2⟩ := hk
    obtain ⟨h', h3⟩ := Option.isSome_iff_exists.1 h2
    simp only [AV.ren, h3] at hr
    obtain ⟨b, base, h4, rfl⟩ := hr.ptr_inv
    exact .ptr h o b base (by rw [Iota.ren_some h1 h3]; exact h4)
  | .mp h, V, hk, hr => by
    simp only [AV.hok, Bool.and_eq_true, blt_eq, decide_eq_true_eq] at hk
    obtain ⟨h1, h2⟩ := hk
    obtain ⟨h', h3⟩ := Option.isSome_iff_exists.1 h2
    simp only [AV.ren, h3] at hr
    obtain ⟨b, h4, rfl⟩ := hr.mp_inv
    exact .mp h b (by rw [Iota.ren_some h1 h3]; exact h4)
  | .bfn f l, V, hk, hr => by
    simp only [AV.hok] at hk
    simp only [AV.ren] at hr
    obtain ⟨cs, rfl, h1, h2⟩ := hr.bfn_inv
    rw [renL_length] at h1 h2
    exact .bfn f l cs h1 fun j hj => renL_rel l hk j hj _ (by rw [← renL_getD l j hj]; exact h2 j hj)
  | .sl e h o m, V, hk, hr => by
    simp only [AV.hok, Bool.and_eq_true, blt_eq, decide_eq_true_eq, Bool.or_eq_true] at hk
    obtain ⟨h1, h2⟩ := hk
    cases h3 : ρ h with
    | some h' =>
      simp only [AV.ren, h3] at hr
      rcases hr.sl_inv with ⟨b, base, oo, cap, T, N, h4, h5, h6, h7, h8, rfl⟩ | ⟨h4, rfl, rfl⟩
      · exact .sl e h o m b base oo cap T N (by rw [Iota.ren_some h1 h3]; exact h4) h5 h6 h7 h8
      · exact .slv e h o (by rw [Iota.ren_some h1 h3]; exact h4)
    | none =>
      simp only [AV.ren, h3] at hr
      obtain rfl := hr.nils_inv
      simp only [h3, Option.isSome_none, Bool.false_eq_true, false_or] at h2
      obtain rfl := Nat.eq_of_beq_eq_true h2
      exact .slv e h o (Iota.ren_none h1 h3)
  | .agg l, V, hk, hr => by
    simp only [AV.hok] at hk
    simp only [AV.ren] at hr
    obtain ⟨cs, rfl, h1, h2⟩ := hr.agg_inv
    rw [renL_length] at h1 h2
    exact .agg l cs h1 fun j hj => renL_rel l hk j hj _ (by rw [← renL_getD l j hj]; exact h2 j hj)
  | .tup l, V, hk, hr => by
    simp only [AV.hok] at hk
    simp only [AV.ren] at hr
    obtain ⟨cs, rfl, h1, h2⟩ := hr.tup_inv
    rw [renL_length] at h1 h2
    exact .tup l cs h1 fun j hj => renL_rel l hk j hj _ (by rw [← renL_getD l j hj]; exact h2 j hj)
  | .iface t v, V, hk, hr => by
    simp only [AV.hok] at hk
    simp only [AV.ren] at hr
    obtain ⟨V', rfl, h1⟩ := hr.iface_inv
    exact .iface t v V' (ren_rel v V' hk h1)
  | .fn f l, V, hk, hr => by
    simp only [AV.hok] at hk
    simp only [AV.ren] at hr
    obtain ⟨cs, rfl, h1, h2⟩ := hr.fn_inv
    rw [renL_length] at h1 h2
    exact .fn f l cs h1 fun j hj => renL_rel l hk j hj _ (by rw [← renL_getD l j hj]; exact h2 j hj)
  | .undef, V, hk, hr => .undef V
  | .sy k e, V, hk, hr => by
    simp only [AV.ren] at hr
    obtain ⟨h1, rfl⟩ := hr.sy_inv
    obtain ⟨h2, h3⟩ := SE.bwd (ι := ι) (ι' := ι.ren ρ n) (n := n) (fun h hl => by
      cases hr : ρ h with
      | none => exact Iota.ren_none hl hr
      | some h' => exact Iota.ren_some hl hr) hk h1
    exact .sy k e _ h2 h3
  | .aggI n k g, V, hk, hr => VRel.same (v := .aggI n k g) hr (by simp) (by simp) (by simp) (by simp) (by simp) (by simp) (by simp) (by simp)
  | .bool b, V, hk, hr => VRel.same (v := .bool b) hr (by simp) (by simp) (by simp) (by simp) (by simp) (by simp) (by simp) (by simp)
  | .int k m, V, hk, hr => VRel.same (v := .int k m) hr (by simp) (by simp) (by simp) (by simp) (by simp) (by simp) (by simp) (by simp)
  | .str x, V, hk, hr => VRel.same (v := .str x) hr (by simp) (by simp) (by simp) (by simp) (by simp) (by simp) (by simp) (by simp)
  | .nilp, V, hk, hr => VRel.same (v := .nilp) hr (by simp) (by simp) (by simp) (by simp) (by simp) (by simp) (by simp) (by simp)
  | .nils, V, hk, hr => VRel.same (v := .nils) hr (by simp) (by simp) (by simp) (by simp) (by simp) (by simp) (by simp) (by simp)
  | .nili, V, hk, hr => VRel.same (v := .nili) hr (by simp) (by simp) (by simp) (by simp) (by simp) (by simp) (by simp) (by simp)
  | .nilf, V, hk, hr => VRel.same (v := .nilf) hr (by simp) (by simp) (by simp) (by simp) (by simp) (by simp) (by simp) (by simp)
  | .nilm, V, hk, hr => VRel.same (v := .nilm) hr (by simp) (by simp) (by simp) (by simp) (by simp) (by simp) (by simp) (by simp)
  | .cptr v, V, hk, hr => VRel.same (v := .cptr v) hr (by simp) (by simp) (by simp) (by simp) (by simp) (by simp) (by simp) (by simp)
  | .roI k l, V, hk, hr => VRel.same (v := .roI k l) hr (by simp) (by simp) (by simp) (by simp) (by simp) (by simp) (by simp) (by simp)
  | .roB l, V, hk, hr => VRel.same (v := .roB l) hr (by simp) (by simp) (by simp) (by simp) (by simp) (by simp) (by simp) (by simp)
  | .ro e l, V, hk, hr => VRel.same (v := .ro e l) hr (by simp) (by simp) (by simp) (by simp) (by simp) (by simp) (by simp) (by simp)
  | .raw x, V, hk, hr => VRel.same (v := .raw x) hr (by simp) (by simp) (by simp) (by simp) (by simp) (by simp) (by simp) (by simp)
termination_by structural v => v
theorem renL_rel : ∀ (l : List AV), hokL n ρ l = true → ∀ j, j < l.length → ∀ V, VRel ι w M ((l.getD j .undef).ren ρ) V → VRel (ι.ren ρ n) w M (l.getD j .undef) V
  | [], hk, j, hj, V, hr => by simp at hj
  | v :: r, hk, 0, hj, V, hr => by
    simp only [hokL, Bool.and_eq_true] at hk
    exact ren_rel v V hk.1 (by simpa using hr)
  | v :: r, hk, j + 1, hj, V, hr => by
    simp only [hokL, Bool.and_eq_true] at hk
    exact renL_rel r hk.2 j (by simpa using hj) V (by simpa using hr)
termination_by structural l => l
end

theorem envSub_get : ∀ (E : Env), envSub ρ n e E → ∀ u, E.get u = .undef ∨ (e.get u = (E.get u).ren ρ ∧ (E.get u).hok n ρ = true)
  | [], _, u => .inl rfl
  | (d, v) :: r, h, u => by
    rw [Env.get_cons]
    simp only [envSub] at h
    by_cases hd : d = u
    · subst hd; rw [if_pos rfl]; exact .inr h.1
    · rw [if_neg hd]; exact envSub_get r h.2 u

theorem Chunk.ren_size (c : Chunk) : (c.ren ρ).size = c.size := by cases c <;> simp [Chunk.ren, Chunk.size, renL_length]
theorem ren_crel {c : Chunk} {b base : Nat} (hk : c.hok n ρ) (h : CRel ι w M (c.ren ρ) b base) : CRel (ι.ren ρ n) w M c b base := by
  by_cases hm : ∃ l k, c = .map l k
  · obtain ⟨l, k, rfl⟩ := hm
    obtain ⟨h0, es, h1, h2, h3⟩ := h
    refine ⟨h0, es, h1, by simpa using h2, fun j x hj => ?_⟩
    obtain ⟨e, q1, q2, q3, q4⟩ := h3 j (x.1.ren ρ, x.2.1.ren ρ, x.2.2) (by simp [hj])
    obtain ⟨k1, k2⟩ := hk x (List.mem_of_getElem? hj)
    exact ⟨e, q1, ren_rel _ _ k1 q2, ren_rel _ _ k2 q3, q4⟩
  have hnm : ∀ l k, c ≠ .map l k := fun l k e => hm ⟨l, k, e⟩
  have hnr : ∀ l k, c.ren ρ ≠ .map l k := fun l k e => by cases c <;> first | (exact absurd rfl (hnm _ _)) | (simp [Chunk.ren] at e)
  rw [CRel.not_map hnr] at h
  rw [CRel.not_map hnm]
  obtain ⟨cs, T, fr, h1, h2, h3, h4⟩ := h
  rw [Chunk.ren_size] at h3 h4
  refine ⟨cs, T, fr, h1, h2, h3, fun j hj => ?_⟩
  have := h4 j hj
  cases c with
  | obj l =>
    simp only [Chunk.ren, Chunk.get, Chunk.size, Chunk.hok] at *
    rw [renL_getD l j hj] at this
    exact renL_rel l hk j hj _ this
  | fn m f =>
    simp only [Chunk.ren, Chunk.get, Chunk.size, Chunk.hok] at *
    exact ren_rel _ _ (hk j hj) this
  | rowI k l => exact this.same (by simp [Chunk.ren, Chunk.get]) (by simp [Chunk.ren, Chunk.get]) (by simp [Chunk.ren, Chunk.get]) (by simp [Chunk.ren, Chunk.get]) (by simp [Chunk.ren, Chunk.get]) (by simp [Chunk.ren, Chunk.get]) (by simp [Chunk.ren, Chunk.get]) (by simp [Chunk.ren, Chunk.get]) (by simp [Chunk.ren, Chunk.get])
  | rowB l => exact this.same (by simp [Chunk.ren, Chunk.get]) (by simp [Chunk.ren, Chunk.get]) (by simp [Chunk.ren, Chunk.get]) (by simp [Chunk.ren, Chunk.get]) (by simp [Chunk.ren, Chunk.get]) (by simp [Chunk.ren, Chunk.get]) (by simp [Chunk.ren, Chunk.get]) (by simp [Chunk.ren, Chunk.get]) (by simp [Chunk.ren, Chunk.get])
  | blk n k g => exact this.same (by simp [Chunk.ren, Chunk.get]) (by simp [Chunk.ren, Chunk.get]) (by simp [Chunk.ren, Chunk.get]) (by simp [Chunk.ren, Chunk.get]) (by simp [Chunk.ren, Chunk.get]) (by simp [Chunk.ren, Chunk.get]) (by simp [Chunk.ren, Chunk.get]) (by simp [Chunk.ren, Chunk.get]) (by simp [Chunk.ren, Chunk.get])
  | map l k => exact absurd rfl (hnm l k)

theorem mem_get : ∀ (m : Mem) (h : Nat) (c : Chunk), m.get h = some c → (h, some c) ∈ m
  | [], h, c, hg => by simp [Mem.get] at hg
  | (k, d) :: r, h, c, hg => by
    rw [Mem.get_cons] at hg
    by_cases hk : k = h
    · subst hk; rw [if_pos rfl] at hg; subst hg; simp
    · rw [if_neg hk] at hg; exact List.mem_cons_of_mem _ (mem_get r h c hg)
theorem memSub_mem : ∀ (m : Mem), memSub ρ n s m → ∀ h c, (h, some c) ∈ m → c.hok n ρ ∧ h < n ∧ match ρ h with
      | some h' => s.get h' = some (c.ren ρ)
      | none => c.size = 0
  | [], _, h, c, hm => by simp at hm
  | (k, d) :: r, hs, h, c, hm => by
    rcases List.mem_cons.1 hm with he | hq
    · simp only [Prod.mk.injEq] at he
      obtain ⟨rfl, rfl⟩ := he
      simp only [memSub, blt_eq, decide_eq_true_eq] at hs
      exact hs.1
    · cases d with
      | none => exact memSub_mem r hs h c hq
      | some d => simp only [memSub] at hs; exact memSub_mem r hs.2 h c hq
theorem memN_iff (l : List Nat) (i : Nat) : memN l i = true ↔ i ∈ l := by
  simp only [memN, List.any_eq_true]
  constructor
  · rintro ⟨x, hx, h⟩
    have := Nat.eq_of_beq_eq_true h
    exact this ▸ hx
  · intro h
    exact ⟨i, h, by simp⟩
theorem live_mem : ∀ (m : Mem) (h : Nat) (c : Chunk) (h' : Nat), (h, some c) ∈ m → ρ h = some h' → h' ∈ liveOf ρ m
  | [], h, c, h', hm, hr => by simp at hm
  | (k, d) :: r, h, c, h', hm, hr => by
    rcases List.mem_cons.1 hm with he | hq
    · simp only [Prod.mk.injEq] at he
      obtain ⟨rfl, rfl⟩ := he
      simp [liveOf, hr]
    · have ih := live_mem r h c h' hq hr
      cases d with
      | none => exact ih
      | some d =>
        simp only [liveOf]
        split
        · exact List.mem_cons_of_mem _ ih
        · exact ih
theorem live_inj : ∀ (m : Mem), nodupN (liveOf ρ m) = true → ∀ h1 h2 c1 c2 h', (h1, some c1) ∈ m → (h2, some c2) ∈ m → ρ h1 = some h' → ρ h2 = some h' → h1 = h2
  | [], _, h1, h2, c1, c2, h', hm, _, _, _ => by simp at hm
  | (k, d) :: r, hn, h1, h2, c1, c2, h', hm1, hm2, hr1, hr2 => by
    have hr : nodupN (liveOf ρ r) = true := by
      cases d with
      | none => exact hn
      | some d =>
        simp only [liveOf] at hn
        split at hn
        · simp only [nodupN, Bool.and_eq_true] at hn; exact hn.2
        · exact hn
    rcases List.mem_cons.1 hm1 with he1 | hq1 <;> rcases List.mem_cons.1 hm2 with he2 | hq2
    · simp only [Prod.mk.injEq] at he1 he2
      rw [he1.1, he2.1]
    · simp only [Prod.mk.injEq] at he1
      obtain ⟨rfl, rfl⟩ := he1
      exfalso
      simp only [liveOf, hr1, nodupN, Bool.and_eq_true, Bool.not_eq_true'] at hn
      have := live_mem r h2 c2 h' hq2 hr2
      rw [← memN_iff, hn.1] at this
      cases this
    · simp only [Prod.mk.injEq] at he2
      obtain ⟨rfl, rfl⟩ := he2
      exfalso
      simp only [liveOf, hr2, nodupN, Bool.and_eq_true, Bool.not_eq_true'] at hn
      have := live_mem r h1 c1 h' hq1 hr1
      rw [← memN_iff, hn.1] at this
      cases this
    · exact live_inj r hr h1 h2 c1 c2 h' hq1 hq2 hr1 hr2

theorem rnm_lt {n0 : Nat} : ∀ (rn : List (Nat × Option Nat)), (rn.all fun p => Nat.ble n0 p.1) = true → ∀ h, h < n0 → rnm rn h = some h
  | [], _, h, _ => rfl
  | p :: r, hr, h, hl => by
    simp only [List.all_cons, Bool.and_eq_true] at hr
    simp only [rnm]
    have h1 := Nat.le_of_ble_eq_true hr.1
    have : Nat.beq p.1 h = false := by
      rw [Bool.eq_false_iff]
      intro h2
      have := Nat.eq_of_beq_eq_true h2
      omega
    rw [this, cond_false]
    exact rnm_lt r hr.2 h hl

theorem sub_sound {E : Env} {S : St} (hds : F.ds = []) (hI : Inv F e s act ι w M) (h : SubW F.n0 e s E S) : ∃ ι', Inv F E S act ι' w M := by
  obtain ⟨rn, h1, h2, h3, h4, h5⟩ := h
  have hn := Nat.le_of_ble_eq_true h2
  have hmem := memSub_mem S.m h5
  have key : ∀ h c, S.get h = some c → (ι.ren (rnm rn) S.next h = some none ∧ c.size = 0) ∨ ∃ h', rnm rn h = some h' ∧ ι.ren (rnm rn) S.next h = ι h' ∧ s.get h' = some (c.ren (rnm rn)) := fun h c hg => by
    obtain ⟨k1, k2, k3⟩ := hmem h c (mem_get _ _ _ hg)
    cases hr : rnm rn h with
    | none => rw [hr] at k3; exact .inl ⟨Iota.ren_none k2 hr, k3⟩
    | some h' => rw [hr] at k3; exact .inr ⟨h', rfl, Iota.ren_some k2 hr, k3⟩
  have hown : ∀ b, Own (ι.ren (rnm rn) S.next) S b → Own ι s b := fun b ho => by
    obtain ⟨h, c, base, k1, k2⟩ := ho
    rcases key h c k1 with ⟨k3, _⟩ | ⟨h', _, k3, k4⟩
    · rw [k2] at k3; cases k3
    · rw [k2] at k3; exact ⟨h', _, base, k4, k3.symm⟩
  refine ⟨ι.ren (rnm rn) S.next, ⟨fun h hh => Iota.ren_ge hh, fun h c hg => ?_, fun h h' c c' p p' hg hg' hne hp hp' => ?_, hI.rep.lt, hI.rep.glob⟩, fun u => ?_, hI.size, hI.dfr.nil_any hds, ?_⟩
  · rcases key h c hg with k | ⟨h', _, k3, k4⟩
    · exact .inl k
    · rw [k3]
      rcases hI.rep.own h' _ k4 with ⟨k5, k6⟩ | ⟨b, base, k5, k6, k7⟩
      · exact .inl ⟨k5, by rw [Chunk.ren_size] at k6; exact k6⟩
      · exact .inr ⟨b, base, k5, k6, ren_crel (hmem h c (mem_get _ _ _ hg)).1 k7⟩
  · rcases key h c hg with ⟨k3, _⟩ | ⟨h1', r1, k3, k4⟩
    · rw [hp] at k3; cases k3
    · rcases key h' c' hg' with ⟨k5, _⟩ | ⟨h2', r2, k5, k6⟩
      · rw [hp'] at k5; cases k5
      · rw [hp] at k3
        rw [hp'] at k5
        refine hI.rep.inj h1' h2' _ _ p p' k4 k6 (fun he => hne ?_) k3.symm k5.symm
        subst he
        exact live_inj S.m h3 h h' c c' h1' (mem_get _ _ _ hg) (mem_get _ _ _ hg') r1 r2
  · rcases envSub_get E h4 u with hu | ⟨hu1, hu2⟩
    · rw [hu]; exact .undef _
    · have := hI.env u
      rw [hu1] at this
      exact ren_rel _ _ hu2 this
  · have hg := hI.go
    exact ⟨hg.size, hg.tape, hg.os, hg.output, hg.block, hg.shape, hg.back, hg.keep, fun b hb ho => hg.own b hb (hown b ho), hn, fun h hl => by
      rw [Iota.ren_some (by omega) (rnm_lt rn h1 h hl)]
      exact hg.ext h hl⟩

end
end Go.Ab
set_option linter.unusedVariables false
set_option linter.unusedSimpArgs false
set_option autoImplicit false
namespace Go.Ab

def Ex.out : Ex → Exit
  | .normal => .normal
  | .exit id => .exit id
  | .ret => .ret

/-- regions whose order is open: shown elsewhere -/
def DrawOk (P : Program) : Prop :=
  ∀ (F : From) (id : Nat) (ops : Array Oper) (p : List AStep), compReg P ops.toList true = some (.draw p) → dstOk F.N (.draw p) = true →
    ∀ {e s act ι w M} (K : Env → St → Prop) (Q : Exit → Act → World → Prop), Inv F e s act ι w M → drawW P p e s [] K →
      (∀ e' s' act' ι' w' M', Inv F e' s' act' ι' w' M' → K e' s' → Q .normal act' w') → (Code.region id ops true).wp P Q act w

/-- a loop, with what the program doesn't show -/
theorem wp_loop_ghost {P : Program} {c : Code} {Q : Exit → Act → World → Prop} {a : Act} {w : World} {α : Type} (I : α → Act → World → Prop) (μ : α → Nat) (x0 : α) (h₀ : I x0 a w)
    (round : ∀ x a w, I x a w → c.wp P (Exit.then (fun a' w' => ∃ x', I x' a' w' ∧ μ x' < μ x) Q) a w) : (Code.loop c).wp P Q a w := by
  intro b k cs
  have key : ∀ n x a w, μ x = n → I x a w →
      ∃ e a' w', Q e a' w' ∧ Arrives P (lone (b.at a (.code c :: .inLoop c :: k)) cs w) b k cs e a' w' := by
    intro n
    induction n using Nat.strongRecOn with
    | _ n ih =>
      intro x a w hn hI
      obtain ⟨e, a₁, w₁, hq, harr⟩ := round x a w hI b (.inLoop c :: k) cs
      cases e with
      | normal =>
        obtain ⟨x', hI₁, hlt⟩ := hq
        obtain ⟨e₂, a₂, w₂, hq₂, harr₂⟩ := ih (μ x') (hn ▸ hlt) x' a₁ w₁ rfl hI₁
        exact ⟨e₂, a₂, w₂, hq₂, .of_steps (Steps.trans harr (.one step_inLoop)) harr₂⟩
      | exit id => exact ⟨_, a₁, w₁, hq, .pass (x := .inLoop c) rfl (fun _ _ => .inl (by simp)) harr⟩
      | goto l => exact ⟨_, a₁, w₁, hq, .pass (x := .inLoop c) rfl (fun _ _ => .inl (by simp)) harr⟩
      | ret => exact ⟨_, a₁, w₁, hq, .pass (x := .inLoop c) rfl (fun _ _ => .inl (by simp)) harr⟩
      | panic ch => exact ⟨_, a₁, w₁, hq, .pass (x := .inLoop c) rfl (fun _ _ => .inl (by simp)) harr⟩
      | outgrown => exact ⟨_, a₁, w₁, hq, .pass (x := .inLoop c) rfl (fun _ _ => .inl (by simp)) harr⟩
  obtain ⟨e, a', w', hq, harr⟩ := key _ x0 a w rfl h₀
  exact ⟨e, a', w', hq, .of_steps (.one step_loop) harr⟩

section
variable {P : Program} {F : From}

theorem wpA_seq (n0 : Nat) (a b : ACode) (e : Env) (s : St) (K : Ex → Env → St → Prop) : wpA P n0 (.seq a b) e s K = wpA P n0 a e s fun x e s => match x with
      | .normal => wpA P n0 b e s K
      | .exit j => K (.exit j) e s
      | .ret => K .ret e s := rfl
theorem wpA_cond (n0 : Nat) (c : AOpd) (a b : ACode) (e : Env) (s : St) (K : Ex → Env → St → Prop) : wpA P n0 (.cond c a b) e s K = match c.ev e with
      | .bool t => bif t then wpA P n0 a e s K else wpA P n0 b e s K
      | _ => False := rfl
theorem wpA_block (n0 id : Nat) (a : ACode) (e : Env) (s : St) (K : Ex → Env → St → Prop) : wpA P n0 (.block id a) e s K = wpA P n0 a e s fun x e s => match x with
      | .normal => K .normal e s
      | .exit j => bif Nat.beq j id then K .normal e s else K (.exit j) e s
      | .ret => K .ret e s := rfl
theorem wpA_loop (n0 : Nat) (a : ACode) (e : Env) (s : St) (K : Ex → Env → St → Prop) : wpA P n0 (.loop a) e s K = LoopW n0 (wpA P n0 a) e s K := rfl

theorem wpA_sound (hds : F.ds = []) (hD : DrawOk P) : ∀ (c : Code) (a : ACode), comp P c = some a → dstOk F.N a = true →
    ∀ {e s act ι w M} (K : Ex → Env → St → Prop) (Q : Exit → Act → World → Prop), Inv F e s act ι w M → wpA P F.n0 a e s K →
      (∀ x e' s' act' ι' w' M', Inv F e' s' act' ι' w' M' → K x e' s' → Q x.out act' w') → c.wp P Q act w := by
  intro c
  induction c with
  | skip =>
    intro a hc hd e s act ι w M K Q hI h hk
    simp only [comp, Option.some.injEq] at hc
    subst hc
    exact wp_skip (hk .normal _ _ _ _ _ _ hI h)
  | region id ops draw =>
    intro a hc hd e s act ι w M K Q hI h hk
    simp only [comp] at hc
    have hc' := hc
    unfold compReg at hc
    split at hc
    · rename_i l hl
      cases draw with
      | false =>
        simp only [cond_false, Option.some.injEq] at hc
        subst hc
        simp only [dstOk] at hd
        refine wp_region_list ?_
        have := regW_sound (Q := Q) (K := fun e s => K .normal e s) ops.toList 0 l hl hd hI h fun e' s' act' ι' w' M' hI' hK => hk .normal _ _ _ _ _ _ hI' hK
        simpa using this
      | true =>
        simp only [cond_true] at hc
        cases hp : planOk P ops.toList l (ancs ops.toList []) (plan (ancs ops.toList []) l l.length [] 0) with
        | true =>
          simp only [hp, cond_true, Option.some.injEq] at hc
          subst hc
          exact hD F id ops _ hc' hd (fun e s => K .normal e s) Q hI h fun e' s' act' ι' w' M' hI' hK => hk .normal _ _ _ _ _ _ hI' hK
        | false => simp [hp] at hc
    · simp at hc
  | seq x y ihx ihy =>
    intro a hc hd e s act ι w M K Q hI h hk
    simp only [comp] at hc
    split at hc
    · rename_i a' b' ha hb
      simp only [Option.some.injEq] at hc
      subst hc
      simp only [dstOk, Bool.and_eq_true] at hd
      rw [wpA_seq] at h
      refine wp_seq (ihx a' ha hd.1 _ _ hI h fun ex e' s' act' ι' w' M' hI' hK => ?_)
      cases ex with
      | normal => exact ihy b' hb hd.2 _ _ hI' hK hk
      | exit j => exact hk _ _ _ _ _ _ _ hI' hK
      | ret => exact hk _ _ _ _ _ _ _ hI' hK
    · simp at hc
  | cond cx x y ihx ihy =>
    intro a hc hd e s act ι w M K Q hI h hk
    simp only [comp] at hc
    split at hc
    · rename_i c' a' b' hcc ha hb
      simp only [Option.some.injEq] at hc
      subst hc
      simp only [dstOk, Bool.and_eq_true] at hd
      rw [wpA_cond] at h
      have hv := hI.env.orel hI.rep.glob _ _ hcc
      cases hb' : c'.ev e <;> simp only [hb'] at h
      rename_i t
      rw [hb'] at hv
      refine wp_cond hv.bool_inv ?_
      cases t
      · exact ihy b' hb hd.2 _ _ hI h hk
      · exact ihx a' ha hd.1 _ _ hI h hk
    · simp at hc
  | block id x ih =>
    intro a hc hd e s act ι w M K Q hI h hk
    simp only [comp] at hc
    obtain ⟨a', ha, rfl⟩ := map_some hc
    rw [wpA_block] at h
    refine wp_block (ih a' ha hd _ _ hI h fun ex e' s' act' ι' w' M' hI' hK => ?_)
    cases ex with
    | normal => exact hk .normal _ _ _ _ _ _ hI' hK
    | exit j =>
      simp only [Ex.out, Exit.inBlock]
      by_cases hj : j = id
      · subst hj
        have hb : Nat.beq j j = true := by simp
        simp only [hb, cond_true] at hK
        rw [if_pos rfl]
        exact hk .normal _ _ _ _ _ _ hI' hK
      · have hb : Nat.beq j id = false := by
          rw [Bool.eq_false_iff]
          exact fun e => hj (Nat.eq_of_beq_eq_true e)
        simp only [hb, cond_false] at hK
        rw [if_neg hj]
        exact hk (.exit j) _ _ _ _ _ _ hI' hK
    | ret => exact hk .ret _ _ _ _ _ _ hI' hK
  | loop x ih =>
    intro a hc hd e s act ι w M K Q hI h hk
    simp only [comp] at hc
    obtain ⟨a', ha, rfl⟩ := map_some hc
    rw [wpA_loop] at h
    unfold LoopW at h
    obtain ⟨α, E, S, μ, x0, h0, hr⟩ := h
    refine wp_loop_ghost (fun x act w => ∃ ι M, Inv F (E x) (S x) act ι w M) μ x0 ?_ fun x act w hx => ?_
    · obtain ⟨ι', hI'⟩ := sub_sound hds hI h0
      exact ⟨ι', M, hI'⟩
    · obtain ⟨ι1, M1, hI1⟩ := hx
      refine ih a' ha hd _ _ hI1 (hr x) fun ex e' s' act' ι' w' M' hI' hK => ?_
      cases ex with
      | normal =>
        obtain ⟨x', hs, hm⟩ := hK
        obtain ⟨ι2, hI2⟩ := sub_sound hds hI' hs
        exact ⟨x', ⟨ι2, M', hI2⟩, hm⟩
      | exit j => exact hk _ _ _ _ _ _ _ hI' hK
      | ret => exact hk _ _ _ _ _ _ _ hI' hK
  | exit id =>
    intro a hc hd e s act ι w M K Q hI h hk
    simp only [comp, Option.some.injEq] at hc
    subst hc
    exact wp_exit (hk (.exit id) _ _ _ _ _ _ hI h)
  | ret =>
    intro a hc hd e s act ι w M K Q hI h hk
    simp only [comp, Option.some.injEq] at hc
    subst hc
    exact wp_ret (hk .ret _ _ _ _ _ _ hI h)
  | rangeFunc f ps asg body _ _ => (intro a hc; simp [comp] at hc)
  | scope body ih =>
    intro a hc hd e s act ι w M K Q hI h hk
    refine wp_scope_straight (ih a hc hd _ _ hI h fun ex e' s' act' ι' w' M' hI' hK => ?_)
    cases ex <;> exact hk _ _ _ _ _ _ _ hI' hK
  | label l =>
    intro a hc hd e s act ι w M K Q hI h hk
    simp only [comp, Option.some.injEq] at hc
    subst hc
    exact wp_label (hk .normal _ _ _ _ _ _ hI h)
  | goto l => intro a hc; simp [comp] at hc
  | refuse why => intro a hc; simp [comp] at hc

theorem argsE_get : ∀ (l : List AV) (i u : Nat), (argsE i l).get u = if i ≤ u then l.getD (u - i) .undef else .undef
  | [], i, u => by simp [argsE, Env.get]
  | v :: r, i, u => by
    rw [argsE, Env.get_cons, argsE_get r (i + 1) u]
    by_cases h1 : i = u
    · subst h1; simp
    · rw [if_neg h1]
      by_cases h2 : i ≤ u
      · rw [if_pos h2, if_pos (by omega), show u - i = (u - (i + 1)) + 1 by omega]
        simp [List.getD_eq_getElem?_getD]
      · rw [if_neg h2, if_neg (by omega)]
theorem args_erel {ι : Iota} {w : World} {M : Nat → Prop} {args : List AV} {Vs : Array Value} {N : Nat} (h : VRels ι w M args Vs) : ERel ι w M (argsE 0 args) { tmps := Vs ++ Array.replicate (N - Vs.size) undef, defers := [] } := by
  intro u
  rw [argsE_get, if_pos (Nat.zero_le _), Nat.sub_zero]
  by_cases hu : u < args.length
  · have h1 : u < Vs.size := by rw [h.1]; exact hu
    have := h.2 u hu
    simpa [Array.getD_eq_getD_getElem?, Array.getElem?_append, h1] using this
  · rw [show args.getD u .undef = .undef by simp [List.getD_eq_getElem?_getD, List.getElem?_eq_none (Nat.le_of_not_lt hu)]]
    exact .undef _

theorem resW_nil (e : Env) (s : St) (K : List AV → Prop) : resW e s [] K = K [] := rfl
theorem resW_cons (e : Env) (s : St) (r : ARes) (l : List ARes) (K : List AV → Prop) : resW e s (r :: l) K = match r with
      | .t n => forceV (e.get n) fun v => resW e s l fun l => K (v :: l)
      | .cell n agg sz => match e.get n with
        | .ptr h off => match s.get h with
          | some c => bif (c.ld agg off sz).1 then forceV (c.ld agg off sz).2 fun v => resW e s l fun l => K (v :: l) else False
          | none => False
        | _ => False := rfl

def rv (tmps : Array Value) : ResultVar → Sem Value
  | .tmp t => pure (tmps.getD t undef)
  | .cell a t => do loadVar t (← asAddr (tmps.getD a undef))
theorem results_eq (fn : Func) (tmps : Array Value) : results fn tmps = (do let vs ← fn.results.mapM (rv tmps); pure (if h : vs.size = 1 then vs[0] else .tuple vs)) := by
  unfold results
  have : ∀ x, (match x with
    | .tmp t => pure (tmps.getD t undef)
    | .cell a t => (do loadVar t (← asAddr (tmps.getD a undef)) : Sem Value)) = rv tmps x := fun x => by cases x <;> rfl
  rfl
theorem res_sound {ι : Iota} {s : St} {w : World} {M : Nat → Prop} {e : Env} {act : Act} (hI : Inv F e s act ι w M) : ∀ (rs : List ResultVar) (ars : List ARes), compRes P rs = some ars → ∀ (K : List AV → Prop), resW e s ars K →
    ∃ (l : List AV) (vs : List Value), (rs.mapM (rv act.tmps)).run P w = .ok vs w ∧ VRels ι w M l vs.toArray ∧ K l
  | [], ars, hc, K, h => by
    simp only [compRes, Option.some.injEq] at hc
    subst hc
    exact ⟨[], [], by simp, ⟨rfl, fun j hj => by simp at hj⟩, h⟩
  | .tmp t :: r, ars, hc, K, h => by
    simp only [compRes] at hc
    obtain ⟨l, hl, rfl⟩ := map_some hc
    rw [resW_cons] at h
    simp only [forceV_eq] at h
    obtain ⟨l', vs, h1, h2, h3⟩ := res_sound hI r l hl _ h
    refine ⟨e.get t :: l', act.tmps.getD t undef :: vs, ?_, ?_, h3⟩
    · rw [List.mapM_cons]
      simp only [rv, Sem.run_bind, Sem.run_pure, Result.andThen_ok]
      rw [h1]
      simp
    · obtain ⟨k1, k2⟩ := h2
      refine ⟨by simpa using k1, fun j hj => ?_⟩
      cases j with
      | zero => simpa using hI.env t
      | succ j => simpa using k2 j (by simpa using hj)
  | .cell t ty :: r, ars, hc, K, h => by
    simp only [compRes] at hc
    split at hc
    · rename_i ag n l ha hz hl
      split at hc
      · rename_i hk
        simp only [Option.some.injEq] at hc
        subst hc
        have hk' : ag = true ∨ n = 1 := by simpa using hk
        rw [resW_cons] at h
        have hv := hI.env t
        cases hp : e.get t <;> simp only [hp] at h
        rename_i hh off
        rw [hp] at hv
        cases hg : s.get hh with
        | none => simp [hg] at h
        | some c =>
          simp only [hg] at h
          cases hld : (c.ld ag off n).1 with
          | false => simp [hld] at h
          | true =>
            simp only [hld, cond_true, forceV_eq] at h
            obtain ⟨l', vs, h1, h2, h3⟩ := res_sound hI r l hl _ h
            obtain ⟨V, h4, h5⟩ := load_ptr (P := P) (t := ty) (v := (c.ld ag off n).2) hv hI.rep.hget hg ha hz hk' (by rw [← hld])
            obtain ⟨b, base, _, hX⟩ := hv.ptr_inv
            refine ⟨(c.ld ag off n).2 :: l', V :: vs, ?_, ?_, h3⟩
            · rw [List.mapM_cons]
              rw [hX] at h4
              simp only [Instr.loadAt, Instr.sureAddr, Sem.run_bind, Sem.run_pure, Result.andThen_ok] at h4
              simp only [rv, hX, asAddr, Sem.run_bind, Sem.run_pure, Result.andThen_ok, h4]
              rw [h1]
              simp
            · obtain ⟨k1, k2⟩ := h2
              refine ⟨by simpa using k1, fun j hj => ?_⟩
              cases j with
              | zero => simpa using h5
              | succ j => simpa using k2 j (by simpa using hj)
      · simp at hc
    · simp at hc

theorem ret_rel {ι : Iota} {w : World} {M : Nat → Prop} {l : List AV} {vs : List Value} {K : AV → St → Prop} {s : St} (h : VRels ι w M l vs.toArray) (hK : retW K s l) :
    ∃ v, VRel ι w M v (if hh : vs.toArray.size = 1 then vs.toArray[0] else .tuple vs.toArray) ∧ K v s := by
  obtain ⟨h1, h2⟩ := h
  match l, hK with
  | [v], hK =>
    refine ⟨v, ?_, hK⟩
    have hs : vs.toArray.size = 1 := by simpa using h1
    rw [dif_pos hs]
    have := h2 0 (by simp)
    match vs, hs with
    | [V], _ => simpa using this
  | [], hK =>
    refine ⟨.tup [], ?_, hK⟩
    rw [dif_neg (by rw [h1]; simp)]
    exact .tup _ _ h1 h2
  | a :: b :: r, hK =>
    refine ⟨.tup (a :: b :: r), ?_, hK⟩
    rw [dif_neg (by rw [h1]; simp)]
    exact .tup _ _ h1 h2

/-- a function does what its verification condition says -/
theorem fn_sound (hD : DrawOk P) {f : Nat} {fn : Func} {a : ACode} {rs : List ARes} {args : List AV} {s : St} {K : AV → St → Prop} (hf : P.funcs[f]? = some fn) (hb : hasBody P f = true) (hc : compF P fn = some (a, rs)) (h : fnW P a rs args s K) : Tr P f args s K := by
  unfold compF at hc
  split at hc
  · rename_i c hbody
    split at hc
    · rename_i a' rs' ha hrs
      split at hc
      · rename_i hd
        simp only [Option.some.injEq, Prod.mk.injEq] at hc
        obtain ⟨rfl, rfl⟩ := hc
        unfold Tr
        refine ⟨hb, fun ι w M Vs hR hV => calls_of_wp hf hbody ?_⟩
        let F : From := ⟨P, [], ι, s, w, M, hR.lt, s.next, fn.ntmps⟩
        have hI : Inv F (argsE 0 args) s { tmps := Vs ++ Array.replicate (fn.ntmps - Vs.size) undef, defers := [] } ι w M :=
          ⟨hR, args_erel hV, by simp [F]; omega, trivial, Go.refl ι s w M (Nat.le_refl _)⟩
        refine wpA_sound (F := F) rfl hD c a' ha hd _ _ hI h fun x e' s' act' ι' w' M' hI' hK => ?_
        have fin : resW e' s' rs' (retW K s') → act'.defers = [] ∧ ∃ v, (results fn act'.tmps).run P w' = .ok v w' ∧ ∃ V ι' M' v' s', Ending.returned v = .returned V ∧ K v' s' ∧ VRel ι' w' M' v' V ∧ Rep ι' s' w' M' ∧ Go s.next ι s w M ι' s' w' M' := by
          intro hres
          refine ⟨hI'.dfr.nil_inv rfl, ?_⟩
          obtain ⟨l, vs, h1, h2, h3⟩ := res_sound (P := P) hI' _ _ hrs _ hres
          obtain ⟨v, h4, h5⟩ := ret_rel h2 h3
          refine ⟨_, ?_, _, ι', M', v, s', rfl, h5, h4, hI'.rep, hI'.go⟩
          rw [results_eq, Array.mapM_eq_mapM_toList]
          simp only [Sem.run_bind, map_eq_pure_bind]
          rw [h1]
          simp only [Result.andThen_ok, Sem.run_pure]
        cases x with
        | normal => exact fin hK
        | exit j => exact hK.elim
        | ret => exact fin hK
      · simp at hc
    · simp at hc
  · simp at hc

end
end Go.Ab
set_option linter.unusedVariables false
set_option linter.unusedSimpArgs false
set_option autoImplicit false
namespace Go.Ab

section
variable {P : Program} {ι : Iota} {s : St} {w : World} {M : Nat → Prop}

/-! ### states that know less -/
theorem Rep.sub {s' : St} (h : Rep ι s w M) (hg : ∀ h c, s'.get h = some c → s.get h = some c) (hn : s'.next = s.next) : Rep ι s' w M :=
  ⟨fun j hj => h.fresh j (by omega), fun j c hc => h.own j c (hg j c hc), fun j j' c c' p p' hc hc' => h.inj j j' c c' p p' (hg j c hc) (hg j' c' hc'), h.lt, h.glob⟩
theorem Own.sub {s' : St} (hg : ∀ h c, s'.get h = some c → s.get h = some c) {b : Nat} (h : Own ι s' b) : Own ι s b := by
  obtain ⟨j, c, base, h1, h2⟩ := h
  exact ⟨j, c, base, hg j c h1, h2⟩
theorem Go.sub {n0 : Nat} {ι0 : Iota} {s0 : St} {w0 : World} {M0 : Nat → Prop} {s' : St} (h : Go n0 ι0 s0 w0 M0 ι s w M) (hg : ∀ h c, s'.get h = some c → s.get h = some c) (hn : s.next ≤ s'.next) : Go n0 ι0 s0 w0 M0 ι s' w M :=
  ⟨h.size, h.tape, h.os, h.output, h.block, h.shape, h.back, h.keep, fun b hb ho => h.own b hb (ho.sub hg), Nat.le_trans h.next hn, h.ext⟩

/-- What a smaller state's step does to a bigger one. -/
theorem frame {n0 : Nat} {T m s' : St} {ι' : Iota} {w' : World} {M' : Nat → Prop} (Fr : Mem) (hT : Rep ι T w M) (hm : ∀ h c, m.get h = some c → T.get h = some c) (hn : m.next = T.next) (hR : Rep ι' s' w' M') (hG : Go n0 ι m w M ι' s' w' M')
    (hx : ∀ h p, ι h = some p → ι' h = some p) (hi : Imm w M w' M') (hF : ∀ h c, Fr.get h = some c → T.get h = some c ∧ m.get h = none) :
    Rep ι' ⟨s'.next, Fr ++ s'.m⟩ w' M' ∧ Go n0 ι T w M ι' ⟨s'.next, Fr ++ s'.m⟩ w' M' ∧ (∀ h c, (St.mk s'.next (Fr ++ s'.m)).get h = some c → Fr.get h = some c ∨ s'.get h = some c) := by
  have hget : ∀ (F : Mem) h c, (St.mk s'.next (F ++ s'.m)).get h = some c → F.get h = some c ∨ s'.get h = some c := by
    intro F
    induction F with
    | nil => intro h c hc; exact .inr hc
    | cons p r ih =>
      intro h c hc
      rw [List.cons_append, St.get_cons (c := p.2) (h := p.1)] at hc
      rw [show (p :: r : Mem) = (p.1, p.2) :: r from rfl, Mem.get_cons]
      split at hc
      · rename_i he; rw [if_pos he]; exact .inl hc
      · rename_i he
        rw [if_neg he]
        exact ih h c hc
  have hown : ∀ b, Own ι m b → Own ι T b := fun b h => h.sub hm
  -- the frame's blocks
  have hfr : ∀ h c, Fr.get h = some c → (ι h = some none ∧ c.size = 0) ∨ ∃ b base, ι h = some (some (b, base)) ∧ M b ∧ b < w.heap.size ∧ ¬ Own ι m b ∧ CRel ι w M c b base := fun h c hc => by
    obtain ⟨k1, k2⟩ := hF h c hc
    rcases hT.own h c k1 with k | ⟨b, base, k3, k4, k5⟩
    · exact .inl k
    · refine .inr ⟨b, base, k3, k4, hT.lt b k4, fun ho => ?_, k5⟩
      obtain ⟨j, c', base', k6, k7⟩ := ho
      have hne : h ≠ j := fun e => by subst e; rw [k2] at k6; cases k6
      exact hT.inj h j c c' _ _ k1 (hm j c' k6) hne k3 k7 rfl
  refine ⟨⟨hR.fresh, fun h c hc => ?_, fun h h' c c' p p' hc hc' hne hp hp' => ?_, hR.lt, hR.glob⟩, ⟨hG.size, hG.tape, hG.os, hG.output, fun b hb ho => hG.block b hb fun h => ho (hown b h), hG.shape, hG.back, fun b hM ho => hG.keep b hM fun h => ho (hown b h), fun b hb ho => ?_, hG.next, hG.ext⟩, hget Fr⟩
  · rcases hget Fr h c hc with k | k
    · rcases hfr h c k with ⟨k1, k2⟩ | ⟨b, base, k1, k2, k3, k4, k5⟩
      · exact .inl ⟨hx _ _ k1, k2⟩
      · exact .inr ⟨b, base, hx _ _ k1, hG.keep b k2 k4, k5.mono hi hx (hG.block b k3 k4)⟩
    · exact hR.own h c k
  · rcases hget Fr h c hc with k | k <;> rcases hget Fr h' c' hc' with k' | k'
    · obtain ⟨k1, _⟩ := hF h c k
      obtain ⟨k2, _⟩ := hF h' c' k'
      rcases hfr h c k with ⟨q, _⟩ | ⟨b, base, q, _⟩
      · rw [hx _ _ q] at hp; cases hp
      · rcases hfr h' c' k' with ⟨q', _⟩ | ⟨b', base', q', _⟩
        · rw [hx _ _ q'] at hp'; cases hp'
        · rw [hx _ _ q] at hp
          rw [hx _ _ q'] at hp'
          exact hT.inj h h' c c' p p' k1 k2 hne (q.trans hp) (q'.trans hp')
    · rcases hfr h c k with ⟨q, _⟩ | ⟨b, base, q, q1, q2, q3, _⟩
      · rw [hx _ _ q] at hp; cases hp
      · rw [hx _ _ q] at hp
        simp only [Option.some.injEq] at hp
        subst hp
        intro e
        have h9 : p' = (b, p'.2) := by rw [show b = p'.1 from e]
        rw [h9] at hp'
        exact q3 (hG.own b q2 ⟨h', c', p'.2, k', hp'⟩)
    · rcases hfr h' c' k' with ⟨q, _⟩ | ⟨b, base, q, q1, q2, q3, _⟩
      · rw [hx _ _ q] at hp'; cases hp'
      · rw [hx _ _ q] at hp'
        simp only [Option.some.injEq] at hp'
        subst hp'
        intro e
        have h9 : p = (b, p.2) := by rw [show b = p.1 from e.symm]
        rw [h9] at hp
        exact q3 (hG.own b q2 ⟨h, c, p.2, k, hp⟩)
    · exact hR.inj h h' c c' p p' k k' hne hp hp'
  · obtain ⟨j, c, base, k1, k2⟩ := ho
    rcases hget Fr j c k1 with k | k
    · obtain ⟨k3, _⟩ := hF j c k
      rcases hfr j c k with ⟨q, _⟩ | ⟨b', base', q, _⟩
      · rw [hx _ _ q] at k2; cases k2
      · rw [hx _ _ q] at k2
        simp only [Option.some.injEq, Prod.mk.injEq] at k2
        obtain ⟨rfl, rfl⟩ := k2
        exact ⟨j, c, base', k3, q⟩
    · exact hown b (hG.own b hb ⟨j, c, base, k, k2⟩)

/-! ### operations look at so much -/
theorem fillA_congr {ρ ρ' : AOpd → AV} : ∀ (l : List (Nat × Nat × AOpd)) (z : List AV), (∀ x ∈ l.map (·.2.2), ρ x = ρ' x) → fillA ρ z l = fillA ρ' z l
  | [], z, h => rfl
  | p :: r, z, h => by
    simp only [fillA]
    rw [h p.2.2 (by simp)]
    have ih := fun z => fillA_congr r z fun x hx => h x (by simp at hx ⊢; exact .inr hx)
    simp only [ih]
theorem fillI_congr {ρ ρ' : AOpd → AV} {n : Nat} : ∀ (l : List (Nat × Nat × AOpd)) (k : Nat → IntKind) (g : Nat → Int), (∀ x ∈ l.map (·.2.2), ρ x = ρ' x) → fillI ρ n k g l = fillI ρ' n k g l
  | [], k, g, h => rfl
  | p :: r, k, g, h => by
    simp only [fillI]
    rw [h p.2.2 (by simp)]
    have ih := fun k g => fillI_congr (n := n) r k g fun x hx => h x (by simp at hx ⊢; exact .inr hx)
    simp only [ih]
theorem map_congr {ρ ρ' : AOpd → AV} (l : List AOpd) (h : ∀ x ∈ l, ρ x = ρ' x) : l.map ρ = l.map ρ' := List.map_congr_left h
theorem moreD_congr {g : Nat → Option Chunk} {nx : Nat} {ρ ρ' : AOpd → AV} (m : MOp) (h : ∀ x ∈ m.opds, ρ x = ρ' x) : moreD g nx ρ m = moreD g nx ρ' m := by
  cases m with
  | bad => rfl
  | dfr x l => rfl
  | cpy es x y => simp only [moreD, h x (by simp [MOp.opds]), h y (by simp [MOp.opds])]
  | s2b x => simp only [moreD, h x (by simp [MOp.opds])]
  | ment kk z m k => simp only [moreD, h m (by simp [MOp.opds]), h k (by simp [MOp.opds])]
  | mput m j x => simp only [moreD, h m (by simp [MOp.opds]), h j (by simp [MOp.opds]), h x (by simp [MOp.opds])]
  | nop x =>
    cases x with
    | none => rfl
    | some x => simp only [moreD, h x (by simp [MOp.opds])]
  | uptr x => simp only [moreD, h x (by simp [MOp.opds])]
  | recov => rfl
  | capn x => simp only [moreD, h x (by simp [MOp.opds])]
  | nilsl pos x => simp only [moreD, h x (by simp [MOp.opds])]
  | slc3 es x lo hi mx =>
    have hl : lo.map ρ = lo.map ρ' := by
      cases lo with
      | none => rfl
      | some l => simp [h l (by simp [MOp.opds])]
    simp only [moreD, h x (by simp [MOp.opds]), h hi (by simp [MOp.opds]), h mx (by simp [MOp.opds]), hl]
  | sidx x i => simp only [moreD, h x (by simp [MOp.opds]), h i (by simp [MOp.opds])]
  | mkmap => rfl
  | mset kk m k x => simp only [moreD, h m (by simp [MOp.opds]), h k (by simp [MOp.opds]), h x (by simp [MOp.opds])]
  | mkb f l => simp only [moreD]; rw [map_congr l h]
  | fldv off sz agg x => simp only [moreD, h x (by simp [MOp.opds])]
  | mlen x => simp only [moreD, h x (by simp [MOp.opds])]
  | mdel kk m k => simp only [moreD, h m (by simp [MOp.opds]), h k (by simp [MOp.opds])]
  | look kk ok z x k => simp only [moreD, h x (by simp [MOp.opds]), h k (by simp [MOp.opds])]
theorem opD_congr {g : Nat → Option Chunk} {nx : Nat} {ρ ρ' : AOpd → AV} (a : AOp) (h : ∀ x ∈ a.opds, ρ x = ρ' x) : opD g nx ρ a = opD g nx ρ' a := by
  cases a with
  | slice sk x lo hi =>
    have h1 : ρ x = ρ' x := h x (by simp [AOp.opds])
    have h2 : lo.map ρ = lo.map ρ' := by
      cases lo with
      | none => rfl
      | some l => simp [h l (by simp [AOp.opds])]
    have h3 : hi.map ρ = hi.map ρ' := by
      cases hi with
      | none => rfl
      | some l => simp [h l (by simp [AOp.opds])]
    simp only [opD, h1, h2, h3]
  | build z ps => simp only [opD]; rw [fillA_congr ps z h]
  | buildI z ps => simp only [opD]; rw [fillI_congr ps _ _ h]
  | bslice es rk z ps n => simp only [opD]; rw [fillA_congr ps z h]
  | mkfn f l => simp only [opD]; rw [map_congr l h]
  | call f l => simp only [opD]; rw [map_congr l h]
  | callv x l => simp only [opD]; rw [h x (by simp [AOp.opds]), map_congr l fun y hy => h y (by simp [AOp.opds, hy])]
  | inv m x l => simp only [opD]; rw [h x (by simp [AOp.opds]), map_congr l fun y hy => h y (by simp [AOp.opds, hy])]
  | atom k l => simp only [opD]; rw [map_congr l h]
  | more m => exact moreD_congr (g := g) (nx := nx) m h
  | alloc z => rfl
  | mov x | box x | nilck x | un op x | conv k x | mkif t x | mkslice a b c d x | fld a b c x | ext x i | len b x => simp only [opD, h x (by simp [AOp.opds])]
  | load ag sz x => simp only [opD, h x (by simp [AOp.opds])]
  | pick x y z | mx3 x y z => simp only [opD, h x (by simp [AOp.opds]), h y (by simp [AOp.opds]), h z (by simp [AOp.opds])]
  | store n x y | bin o k x y | idx e a b x y | mn x y | mx x y | app e b x y | appz e b rk z x y => simp only [opD, h x (by simp [AOp.opds]), h y (by simp [AOp.opds])]

def addrA : AV → Option Nat
  | .ptr h _ => some h
  | .sl _ h _ _ => some h
  | .mp h => some h
  | _ => none
def offA : AV → Nat
  | .ptr _ o => o
  | .sl _ _ o _ => o
  | _ => 0
def agr (ρ : AOpd → AV) (k : LkK) (off : Nat) (c c' : Chunk) : Prop :=
  match k with
  | .all => c = c'
  | .cells ag sz => c.ld ag off sz = c'.ld ag off sz
  | .key kk z k => lk1 kk z (ρ k) c = lk1 kk z (ρ k) c'
/-- what is seen there is seen there still -/
def LookRel (ρ : AOpd → AV) (k : LkK) (v : AV) (g g' : Nat → Option Chunk) : Prop := ∀ h c, addrA v = some h → g h = some c → ∃ c', g' h = some c' ∧ agr ρ k (offA v) c c'
theorem agr.refl (ρ : AOpd → AV) (k : LkK) (off : Nat) (c : Chunk) : agr ρ k off c c := by cases k <;> rfl
theorem agr.trans {ρ : AOpd → AV} {k : LkK} {off : Nat} {c c1 c2 : Chunk} (h : agr ρ k off c c1) (h' : agr ρ k off c1 c2) : agr ρ k off c c2 := by cases k <;> exact Eq.trans h h'
theorem agr.congr {ρ ρ' : AOpd → AV} {k : LkK} {off : Nat} {c c' : Chunk} (hr : ∀ o ∈ k.keys, ρ o = ρ' o) (h : agr ρ k off c c') : agr ρ' k off c c' := by
  cases k with
  | all => exact h
  | cells ag sz => exact h
  | key kk z k => simp only [agr] at h ⊢; rw [← hr k (by simp [LkK.keys])]; exact h
theorem LookRel.of {ρ : AOpd → AV} {k : LkK} {v : AV} {g g' : Nat → Option Chunk} (h : ∀ x c, addrA v = some x → g x = some c → g' x = some c) : LookRel ρ k v g g' := fun x c ha hc => ⟨c, h x c ha hc, agr.refl _ _ _ _⟩
theorem LookRel.trans {ρ : AOpd → AV} {k : LkK} {v : AV} {g g1 g2 : Nat → Option Chunk} (h : LookRel ρ k v g g1) (h' : LookRel ρ k v g1 g2) : LookRel ρ k v g g2 := fun x c ha hc => by
  obtain ⟨c1, h1, h2⟩ := h x c ha hc
  obtain ⟨c2, h3, h4⟩ := h' x c1 ha h1
  exact ⟨c2, h3, h2.trans h4⟩
theorem LookRel.congr {ρ ρ' : AOpd → AV} {k : LkK} {v : AV} {g g' : Nat → Option Chunk} (hr : ∀ o ∈ k.keys, ρ o = ρ' o) (h : LookRel ρ k v g g') : LookRel ρ' k v g g' := fun x c ha hc => by
  obtain ⟨c1, h1, h2⟩ := h x c ha hc
  exact ⟨c1, h1, h2.congr hr⟩
theorem agrO.rel {ρ : AOpd → AV} {k : LkK} {off : Nat} {c c' : Option Chunk} (h : agrO ρ k off c c') {d : Chunk} (hd : c = some d) : ∃ d', c' = some d' ∧ agr ρ k off d d' := by
  subst hd
  cases k with
  | all => exact ⟨d, h.symm, rfl⟩
  | cells ag sz =>
    simp only [agrO] at h
    cases c' with
    | none => simp at h
    | some d' => exact ⟨d', rfl, by simpa [agr] using h⟩
  | key kk z k =>
    simp only [agrO] at h
    cases c' with
    | none => simp at h
    | some d' => exact ⟨d', rfl, by simpa [agr] using h⟩
theorem entsA_get {ρ : AOpd → AV} {v : AV} {g g' : Nat → Option Chunk} {l : List (AV × AV × Nat)} (hg : LookRel ρ .all v g g') (h : entsA g v = some l) : entsA g' v = some l ∧ ∀ x, addrA v = some x → ∃ c, g x = some c := by
  unfold entsA at h ⊢
  cases v <;> simp only [reduceCtorEq] at h ⊢
  case nilm => exact ⟨h, fun x hx => by simp [addrA] at hx⟩
  rename_i hh
  cases hc : g hh with
  | none => simp [hc] at h
  | some c =>
    obtain ⟨c', hc', ha⟩ := hg hh c rfl hc
    simp only [agr] at ha
    subst ha
    rw [hc']
    rw [hc] at h
    exact ⟨h, fun x hx => by simp only [addrA, Option.some.injEq] at hx; subst hx; exact ⟨c, hc⟩⟩
theorem look_get {ρ : AOpd → AV} {kk : KeyK} {z x v : AV} {k : AOpd} {e : Eff} {g g' : Nat → Option Chunk} (hg : LookRel ρ (.key kk z k) x g g') (h : lookA g kk false z x (ρ k) = .ok true v e) : lookA g' kk false z x (ρ k) = .ok true v e ∧ ∀ y, addrA x = some y → ∃ c, g y = some c := by
  unfold lookA entsA at h ⊢
  cases x <;> simp only [reduceCtorEq] at h ⊢
  case nilm => exact ⟨h, fun x hx => by simp [addrA] at hx⟩
  rename_i hh
  cases hc : g hh with
  | none => simp [hc] at h
  | some c =>
    obtain ⟨c', hc', ha⟩ := hg hh c rfl hc
    simp only [agr] at ha
    rw [hc']
    rw [hc] at h
    refine ⟨?_, fun x hx => by simp only [addrA, Option.some.injEq] at hx; subst hx; exact ⟨c, hc⟩⟩
    cases c <;> simp only [reduceCtorEq] at h
    rename_i l clk
    simp only [lk1] at ha
    cases hf : findK kk (ρ k) l with
    | none => simp [hf] at h
    | some r =>
      simp only [hf] at h ha
      cases c' <;> simp only [lk1, reduceCtorEq] at ha
      any_goals (cases r <;> simp at ha; done)
      rename_i l' clk'
      simp only
      cases hf' : findK kk (ρ k) l' with
      | none => cases r <;> simp [hf'] at ha
      | some r' =>
        simp only [hf'] at ha
        rcases r with _ | ⟨i, u⟩ <;> rcases r' with _ | ⟨i', u'⟩ <;> simp only [Option.some.injEq] at ha h ⊢ <;> first | exact h | (subst ha; exact h) | (rw [← ha]; exact h)
theorem moreD_get {g g' : Nat → Option Chunk} {nx : Nat} {ρ : AOpd → AV} {v : AV} {e : Eff} (m : MOp) (hE : m.isE = false) (hg : ∀ x, m.looks = some x → LookRel ρ (AOp.lookK (.more m)) (ρ x) g g') (h : moreD g nx ρ m = .ok true v e) :
    moreD g' nx ρ m = .ok true v e ∧ ∀ x h, m.looks = some x → addrA (ρ x) = some h → x ∈ m.opds ∧ (∃ c, g h = some c) := by
  cases m with
  | look kk ok z x k =>
    cases ok with
    | false =>
      obtain ⟨h1, h2⟩ := look_get (hg x rfl) h
      exact ⟨h1, fun y k hy hk => by simp only [MOp.looks, Option.some.injEq] at hy; subst hy; exact ⟨by simp [MOp.opds], h2 _ hk⟩⟩
    | true =>
    simp only [moreD, lookA] at h ⊢
    cases hl : entsA g (ρ x) with
    | none => simp [hl] at h
    | some l =>
      obtain ⟨h1, h2⟩ := entsA_get (hg x rfl) hl
      rw [h1]
      rw [hl] at h
      exact ⟨h, fun y k hy hk => by simp only [MOp.looks, Option.some.injEq] at hy; subst hy; exact ⟨by simp [MOp.opds], h2 _ hk⟩⟩
  | mlen x =>
    simp only [moreD] at h ⊢
    cases hl : entsA g (ρ x) with
    | none => simp [hl] at h
    | some l =>
      obtain ⟨h1, h2⟩ := entsA_get (hg x rfl) hl
      rw [h1]
      rw [hl] at h
      exact ⟨h, fun y k hy hk => by simp only [MOp.looks, Option.some.injEq] at hy; subst hy; exact ⟨by simp [MOp.opds], h2 _ hk⟩⟩
  | uptr x =>
    have hg := hg x rfl
    simp only [moreD] at h ⊢
    cases hx : ρ x <;> simp only [hx, reduceCtorEq] at h ⊢
    rename_i hh o
    cases hc : g hh with
    | none => simp [hc] at h
    | some c =>
      obtain ⟨c', hc', ha⟩ := hg hh c (by simp [hx, addrA]) hc
      simp only [AOp.lookK, agr] at ha
      subst ha
      rw [hc']
      rw [hc] at h
      exact ⟨h, fun y k hy hk => by simp only [MOp.looks, Option.some.injEq] at hy; subst hy; simp only [hx, addrA, Option.some.injEq] at hk; subst hk; exact ⟨by simp [MOp.opds], c, hc⟩⟩
  | nilsl pos x =>
    have hg := hg x rfl
    have look : (∀ e h o n, ρ x ≠ .sl e h o n) → moreD g nx ρ (.nilsl pos x) = moreD g' nx ρ (.nilsl pos x) := fun hne => by
      simp only [moreD]
      cases hx : ρ x <;> first | rfl | skip
      · exact absurd hx (hne _ _ _ _)
      · rename_i k l; cases l <;> rfl
      · rename_i l; cases l <;> rfl
      · rename_i V; cases V <;> first | rfl | (rename_i a n c; cases a <;> rfl)
    by_cases hsl : ∃ e h o n, ρ x = .sl e h o n
    · obtain ⟨es, hh, o, n, hx⟩ := hsl
      simp only [moreD, hx] at h ⊢
      cases hc : g hh with
      | none => simp [hc] at h
      | some c =>
        obtain ⟨c', hc', ha⟩ := hg hh c (by simp [hx, addrA]) hc
        simp only [AOp.lookK, agr] at ha
        subst ha
        rw [hc']
        rw [hc] at h
        exact ⟨h, fun y k hy hk => by simp only [MOp.looks, Option.some.injEq] at hy; subst hy; simp only [hx, addrA, Option.some.injEq] at hk; subst hk; exact ⟨by simp [MOp.opds], c, hc⟩⟩
    · have hne : ∀ e h o n, ρ x ≠ .sl e h o n := fun e h o n hx => hsl ⟨e, h, o, n, hx⟩
      refine ⟨by rw [← look hne]; exact h, fun y k hy hk => ?_⟩
      simp only [MOp.looks, Option.some.injEq] at hy
      subst hy
      exfalso
      simp only [moreD] at h
      cases hx : ρ x <;> simp only [hx, addrA, reduceCtorEq] at hk h
      · exact hne _ _ _ _ hx
  | mset kk m k x => simp [MOp.isE] at hE
  | mdel kk m k => simp [MOp.isE] at hE
  | dfr x l => simp [MOp.isE] at hE
  | cpy es x y => simp [MOp.isE] at hE
  | ment kk z m k => simp [MOp.isE] at hE
  | mput m j x => simp [MOp.isE] at hE
  | s2b x => simp [MOp.isE] at hE
  | nop x => simp [MOp.isE] at hE
  | _ => exact ⟨h, fun y k hy => by simp [MOp.looks] at hy⟩
theorem opD_get {g g' : Nat → Option Chunk} {nx : Nat} {ρ : AOpd → AV} {v : AV} {e : Eff} (a : AOp) (hE : a.isE = false) (hg : ∀ x, a.looks = some x → LookRel ρ a.lookK (ρ x) g g') (h : opD g nx ρ a = .ok true v e) :
    opD g' nx ρ a = .ok true v e ∧ ∀ x h, a.looks = some x → addrA (ρ x) = some h → x ∈ a.opds ∧ (∃ c, g h = some c) := by
  cases a with
  | load ag sz x =>
    simp only [opD] at h ⊢
    cases hx : ρ x <;> simp only [hx, reduceCtorEq] at h ⊢
    · rename_i hh off
      cases hc : g hh with
      | none => simp [hc] at h
      | some c =>
        obtain ⟨c', hc', ha⟩ := hg x rfl hh c (by simp [hx, addrA]) hc
        rw [hc']
        rw [hc] at h
        simp only [AOp.lookK, agr, hx, offA] at ha
        simp only [ha] at h
        exact ⟨h, fun y k hy hk => by simp only [AOp.looks, Option.some.injEq] at hy; subst hy; simp only [hx, addrA, Option.some.injEq] at hk; subst hk; exact ⟨by simp [AOp.opds], c, hc⟩⟩
    · exact ⟨h, fun y k hy hk => by simp only [AOp.looks, Option.some.injEq] at hy; subst hy; simp [hx, addrA] at hk⟩
  | conv k x =>
    cases k with
    | toStr =>
      simp only [opD] at h ⊢
      cases hx : ρ x <;> simp only [hx, convA, reduceCtorEq] at h ⊢
      case nils => exact ⟨h, fun y k hy hk => by simp only [AOp.looks, Option.some.injEq] at hy; subst hy; simp [hx, addrA] at hk⟩
      case roI k l =>
        refine ⟨?_, fun y k hy hk => by simp only [AOp.looks, Option.some.injEq] at hy; subst hy; simp [hx, addrA] at hk⟩
        cases k <;> exact h
      rename_i es hh off n
      cases hc : g hh with
      | none => simp [hc] at h
      | some c =>
        obtain ⟨c', hc', ha⟩ := hg x rfl hh c (by simp [hx, addrA]) hc
        simp only [AOp.lookK, agr] at ha
        subst ha
        rw [hc']
        rw [hc] at h
        exact ⟨h, fun y k hy hk => by simp only [AOp.looks, Option.some.injEq] at hy; subst hy; simp only [hx, addrA, Option.some.injEq] at hk; subst hk; exact ⟨by simp [AOp.opds], c, hc⟩⟩
    | same =>
      refine ⟨?_, fun y k hy => by simp [AOp.looks] at hy⟩
      simp only [opD] at h ⊢
      cases hx : ρ x <;> simp only [hx, convA, reduceCtorEq] at h ⊢ <;> exact h
    | int k =>
      refine ⟨?_, fun y k hy => by simp [AOp.looks] at hy⟩
      simp only [opD] at h ⊢
      cases hx : ρ x <;> simp only [hx, convA, reduceCtorEq] at h ⊢ <;> exact h
  | slice sk x lo hi =>
    cases sk with
    | arr n es =>
      simp only [opD] at h ⊢
      cases hx : ρ x <;> simp only [hx, sliceA, reduceCtorEq] at h ⊢
      rename_i hh off
      cases hc : g hh with
      | none => simp [hc] at h
      | some c =>
        obtain ⟨c', hc', ha⟩ := hg x rfl hh c (by simp [hx, addrA]) hc
        simp only [AOp.lookK, agr] at ha
        subst ha
        rw [hc']
        rw [hc] at h
        exact ⟨h, fun y k hy hk => by simp only [AOp.looks, Option.some.injEq] at hy; subst hy; simp only [hx, addrA, Option.some.injEq] at hk; subst hk; exact ⟨by simp [AOp.opds], c, hc⟩⟩
    | sl es =>
      refine ⟨?_, fun y k hy => by simp [AOp.looks] at hy⟩
      simp only [opD] at h ⊢
      cases hx : ρ x <;> simp only [hx, sliceA, reduceCtorEq] at h ⊢ <;> exact h
    | str =>
      refine ⟨?_, fun y k hy => by simp [AOp.looks] at hy⟩
      simp only [opD] at h ⊢
      cases hx : ρ x <;> simp only [hx, sliceA, reduceCtorEq] at h ⊢ <;> exact h
  | store n x y => simp [AOp.isE] at hE
  | app e b x y => simp [AOp.isE] at hE
  | appz e b rk z x y => simp [AOp.isE] at hE
  | call f l => simp [AOp.isE] at hE
  | callv x l => simp [AOp.isE] at hE
  | inv m x l => simp [AOp.isE] at hE
  | atom k l => simp [AOp.isE] at hE
  | more m => exact moreD_get m hE hg h
  | _ => exact ⟨h, fun y k hy => by simp [AOp.looks] at hy⟩

/-! ### pending blocks -/
def PNd (pd : Pend) : Prop := pd.Pairwise fun a b => a.2.1 ≠ b.2.1
theorem Pend.get_iff : ∀ (pd : Pend), PNd pd → ∀ h c, pd.get h = some c ↔ ∃ i, (i, h, c) ∈ pd
  | [], _, h, c => by simp [Pend.get]
  | p :: r, hn, h, c => by
    obtain ⟨h1, h2⟩ := List.pairwise_cons.1 hn
    simp only [Pend.get]
    cases hb : Nat.beq p.2.1 h with
    | true =>
      have he := Nat.eq_of_beq_eq_true hb
      simp only [cond_true, Option.some.injEq]
      constructor
      · intro hc; exact ⟨p.1, by rw [← he, ← hc]; simp⟩
      · rintro ⟨i, hi⟩
        rcases List.mem_cons.1 hi with k | k
        · rw [← k]
        · exact absurd he (h1 _ k)
    | false =>
      have hne : p.2.1 ≠ h := fun e => by subst e; simp at hb
      simp only [cond_false]
      rw [Pend.get_iff r h2]
      constructor
      · rintro ⟨i, hi⟩; exact ⟨i, List.mem_cons_of_mem _ hi⟩
      · rintro ⟨i, hi⟩
        rcases List.mem_cons.1 hi with k | k
        · exact absurd (by rw [← k]) hne
        · exact ⟨i, k⟩
theorem getP_iff {pd : Pend} (hn : PNd pd) (hs : ∀ q ∈ pd, s.get q.2.1 = none) (h : Nat) (c : Chunk) : getP s pd h = some c ↔ s.get h = some c ∨ ∃ i, (i, h, c) ∈ pd := by
  unfold getP
  cases hg : s.get h with
  | none => simp only [reduceCtorEq, false_or]; exact Pend.get_iff pd hn h c
  | some c' =>
    constructor
    · intro hc; exact .inl hc
    · rintro (hc | ⟨i, hi⟩)
      · exact hc
      · have := hs _ hi; simp only at this; rw [hg] at this; cases this
theorem absorb_rest (ab : List Nat) : ∀ (pd : Pend) (m : Mem), (absorb ab pd m).2 = pd.filter fun q => !memN ab q.1
  | [], m => rfl
  | p :: r, m => by
    simp only [absorb]
    have ih := absorb_rest ab r m
    cases hb : memN ab p.1 with
    | true => simp [hb, ih]
    | false => simp [hb, ih]
theorem absorb_get (ab : List Nat) : ∀ (pd : Pend) (m : Mem), PNd pd → (∀ q ∈ pd, m.get q.2.1 = none) → ∀ h c, (absorb ab pd m).1.get h = some c ↔ m.get h = some c ∨ ∃ i, (i, h, c) ∈ pd ∧ memN ab i = true
  | [], m, _, _, h, c => by simp [absorb]
  | p :: r, m, hn, hs, h, c => by
    obtain ⟨h1, h2⟩ := List.pairwise_cons.1 hn
    have ih := absorb_get ab r m h2 (fun q hq => hs q (List.mem_cons_of_mem _ hq)) h c
    simp only [absorb]
    cases hb : memN ab p.1 with
    | true =>
      simp only [cond_true, Mem.get_cons]
      by_cases he : p.2.1 = h
      · rw [if_pos he]
        have hs' := hs p (by simp)
        rw [he] at hs'
        simp only [Option.some.injEq, hs', reduceCtorEq, false_or]
        constructor
        · intro hc; exact ⟨p.1, by rw [← he, ← hc]; simp, hb⟩
        · rintro ⟨i, hi, _⟩
          rcases List.mem_cons.1 hi with k | k
          · rw [← k]
          · exact absurd he (h1 _ k)
      · rw [if_neg he, ih]
        constructor
        · rintro (k | ⟨i, hi, hm⟩)
          · exact .inl k
          · exact .inr ⟨i, List.mem_cons_of_mem _ hi, hm⟩
        · rintro (k | ⟨i, hi, hm⟩)
          · exact .inl k
          · rcases List.mem_cons.1 hi with k | k
            · exact absurd (by rw [← k]) he
            · exact .inr ⟨i, k, hm⟩
    | false =>
      simp only [cond_false]
      rw [ih]
      constructor
      · rintro (k | ⟨i, hi, hm⟩)
        · exact .inl k
        · exact .inr ⟨i, List.mem_cons_of_mem _ hi, hm⟩
      · rintro (k | ⟨i, hi, hm⟩)
        · exact .inl k
        · rcases List.mem_cons.1 hi with k | k
          · rw [← k] at hb; simp only at hb; rw [hm] at hb; cases hb
          · exact .inr ⟨i, k, hm⟩
theorem flush_get : ∀ (pd : Pend) (m : Mem) h c, (flush pd m).get h = some c → m.get h = some c ∨ ∃ i, (i, h, c) ∈ pd
  | [], m, h, c, hc => .inl hc
  | p :: r, m, h, c, hc => by
    simp only [flush, Mem.get_cons] at hc
    split at hc
    · rename_i he
      simp only [Option.some.injEq] at hc
      exact .inr ⟨p.1, by rw [← he, ← hc]; simp⟩
    · rcases flush_get r m h c hc with k | ⟨i, k⟩
      · exact .inl k
      · exact .inr ⟨i, List.mem_cons_of_mem _ k⟩

theorem watch_spec {e : Env} {g g' : Nat → Option Chunk} : ∀ (l : List (LkK × AOpd)) (K : Prop), watchW e g g' l K → (∀ x ∈ l, LookRel (AOpd.ev e) x.1 (x.2.ev e) g g') ∧ K
  | [], K, h => ⟨fun x hx => by simp at hx, h⟩
  | x :: r, K, h => by
    have hw : watchW e g g' (x :: r) K = match x.2.ev e with
      | .ptr h o => agrO (AOpd.ev e) x.1 o (g h) (g' h) ∧ watchW e g g' r K
      | .sl _ h o _ => agrO (AOpd.ev e) x.1 o (g h) (g' h) ∧ watchW e g g' r K
      | .mp h => agrO (AOpd.ev e) x.1 0 (g h) (g' h) ∧ watchW e g g' r K
      | _ => watchW e g g' r K := rfl
    rw [hw] at h
    have key : LookRel (AOpd.ev e) x.1 (x.2.ev e) g g' ∧ watchW e g g' r K := by
      cases hx : x.2.ev e <;> simp only [hx] at h <;> first
        | exact ⟨fun k c hk hc => by simp only [addrA, Option.some.injEq] at hk; subst hk; exact h.1.rel hc, h.2⟩
        | exact ⟨fun k c hk _ => by simp [addrA] at hk, h⟩
    obtain ⟨k1, k2⟩ := watch_spec r K key.2
    refine ⟨fun y hy => ?_, k2⟩
    rcases List.mem_cons.1 hy with rfl | hy
    · exact key.1
    · exact k1 y hy

end
end Go.Ab
set_option linter.unusedVariables false
set_option linter.unusedSimpArgs false
set_option autoImplicit false
namespace Go.Ab

section
variable {P : Program}

structure PlanF (P : Program) (ops : List Oper) (anc : List Nat) (ins : List AIns) (p : List AStep) : Prop where
  insOk : ∀ (i : Nat) (x : AIns), ins[i]? = some x → ∃ o, ops[i]? = some o ∧ insOf P ops i o = some x
  opsIn : ∀ (i : Nat) (o : Oper), ops[i]? = some o → ∃ x, ins[i]? = some x
  slot1 : ∀ (i k : Nat) (x y : AIns) (d : Nat), ins[i]? = some x → ins[k]? = some y → x.dst = some d → y.dst = some d → i = k
  slot2 : ∀ (i k : Nat) (x y : AIns) (d : Nat), ins[i]? = some x → ins[k]? = some y → x.dst = some d → d ∈ y.reads → i ≠ k ∧ ((anc.getD k 0).testBit i = true ∨ (anc.getD i 0).testBit k = true)
  slot3 : ∀ (i k : Nat) (x y : AIns) (d : Nat), ins[i]? = some x → ins[k]? = some y → x.dst = some d → AOpd.t d ∈ y.op.eyes → (anc.getD k 0).testBit i = true
  slot4 : ∀ (i : Nat) (x : AIns) (o : AOpd), ins[i]? = some x → x.op.looks = some o → ∃ u, o = .t u
  deps : ∀ (i : Nat) (o : Oper), ops[i]? = some o → anc.getD i 0 = orAll anc (depsOf o)
  steps : ∀ (pre : List AStep) (x : AStep) (post : List AStep), p = pre ++ x :: post → ins[x.i]? = some x.ins ∧ x = stepOf anc ins (pre.map (·.i)) x.i x.ins
  order : ∀ (pre : List AStep) (x : AStep) (post : List AStep), p = pre ++ x :: post → (∀ j, (anc.getD x.i 0).testBit j = true → j ∈ pre.map (·.i)) ∧ x.i ∉ pre.map (·.i) ∧ (x.e = true → ∀ y ∈ post, (anc.getD y.i 0).testBit x.i = true)
  cover : ∀ i, i < ops.length → ∃ x ∈ p, x.i = i

theorem insL_get {ops : List Oper} : ∀ (l : List Oper) (k : Nat) (il : List AIns), insL P ops k l = some il →
    (∀ (j : Nat) (o : Oper), l[j]? = some o → ∃ x, il[j]? = some x ∧ insOf P ops (k + j) o = some x) ∧ (∀ (j : Nat) (x : AIns), il[j]? = some x → ∃ o, l[j]? = some o ∧ insOf P ops (k + j) o = some x) ∧ il.length = l.length
  | [], k, il, h => by
    simp only [insL, Option.some.injEq] at h
    subst h
    exact ⟨fun j o hj => by simp at hj, fun j x hj => by simp at hj, rfl⟩
  | o :: r, k, il, h => by
    simp only [insL] at h
    split at h
    · rename_i a l ha hl
      simp only [Option.some.injEq] at h
      subst h
      obtain ⟨h1, h2, h3⟩ := insL_get r (k + 1) l hl
      refine ⟨fun j o' hj => ?_, fun j x hj => ?_, by simp [h3]⟩
      · cases j with
        | zero => simp only [List.getElem?_cons_zero, Option.some.injEq] at hj; subst hj; exact ⟨a, by simp, ha⟩
        | succ j =>
          obtain ⟨x, k1, k2⟩ := h1 j o' (by simpa using hj)
          exact ⟨x, by simpa using k1, by rw [show k + (j + 1) = k + 1 + j by omega]; exact k2⟩
      · cases j with
        | zero => simp only [List.getElem?_cons_zero, Option.some.injEq] at hj; subst hj; exact ⟨o, by simp, ha⟩
        | succ j =>
          obtain ⟨o', k1, k2⟩ := h2 j x (by simpa using hj)
          exact ⟨o', by simpa using k1, by rw [show k + (j + 1) = k + 1 + j by omega]; exact k2⟩
    · simp at h

theorem stepOf_i (anc : List Nat) (ins : List AIns) (before : List Nat) (i : Nat) (x : AIns) : (stepOf anc ins before i x).i = i ∧ (stepOf anc ins before i x).ins = x ∧ (stepOf anc ins before i x).e = x.op.isE := by
  unfold stepOf
  cases h : x.op.isE <;> simp
theorem plan_cons (anc : List Nat) (ins : List AIns) (n : Nat) (before : List Nat) (done : Nat) : plan anc ins (n + 1) before done = [] ∨
    ∃ i x, ins[i]? = some x ∧ plan anc ins (n + 1) before done = stepOf anc ins before i x :: plan anc ins n (before ++ [i]) (Nat.lor done (2 ^ i)) := by
  simp only [plan]
  split
  · rename_i i hi
    split
    · rename_i x hx; exact .inr ⟨i, x, hx, rfl⟩
    · exact .inl rfl
  · split
    · rename_i i r hr
      split
      · rename_i x hx; exact .inr ⟨i, x, hx, rfl⟩
      · exact .inl rfl
    · exact .inl rfl
theorem plan_steps (anc : List Nat) (ins : List AIns) : ∀ (n : Nat) (before : List Nat) (done : Nat) (pre : List AStep) (x : AStep) (post : List AStep), plan anc ins n before done = pre ++ x :: post →
    ins[x.i]? = some x.ins ∧ x = stepOf anc ins (before ++ pre.map (·.i)) x.i x.ins
  | 0, before, done, pre, x, post, h => by simp [plan] at h
  | n + 1, before, done, pre, x, post, h => by
    rcases plan_cons anc ins n before done with k | ⟨i, y, hy, k⟩
    · rw [k] at h; simp at h
    · rw [k] at h
      obtain ⟨q1, q2, q3⟩ := stepOf_i anc ins before i y
      cases pre with
      | nil =>
        simp only [List.nil_append, List.cons.injEq] at h
        rw [← h.1, q1, q2]
        exact ⟨hy, by simp⟩
      | cons z r =>
        simp only [List.cons_append, List.cons.injEq] at h
        obtain ⟨h1, h2⟩ := plan_steps anc ins n _ _ r x post h.2
        refine ⟨h1, ?_⟩
        rw [← h.1]
        simpa [q1] using h2

theorem lor_bit {a d : Nat} (h : Nat.lor a d = d) {j : Nat} (hj : a.testBit j = true) : d.testBit j = true := by
  have : (Nat.lor a d).testBit j = true := by
    show (a ||| d).testBit j = true
    rw [Nat.testBit_or, hj]; rfl
  rwa [h] at this
theorem order_spec (anc : List Nat) : ∀ (l : List AStep) (done : Nat), orderOk anc l done = true → ∀ (pre : List AStep) (x : AStep) (post : List AStep), l = pre ++ x :: post →
    (∀ j, (anc.getD x.i 0).testBit j = true → done.testBit j = true ∨ j ∈ pre.map (·.i)) ∧ (done.testBit x.i = false ∧ x.i ∉ pre.map (·.i)) ∧ (x.e = true → ∀ y ∈ post, (anc.getD y.i 0).testBit x.i = true)
  | [], done, h, pre, x, post, hl => by simp at hl
  | y :: r, done, h, pre, x, post, hl => by
    simp only [orderOk, Bool.and_eq_true, Bool.not_eq_true', Bool.or_eq_true, List.all_eq_true] at h
    obtain ⟨⟨⟨h1, h2⟩, h3⟩, h4⟩ := h
    have h1 := Nat.eq_of_beq_eq_true h1
    have hbit : ∀ j, (Nat.lor done (2 ^ y.i)).testBit j = (done.testBit j || decide (y.i = j)) := fun j => by
      show (done ||| 2 ^ y.i).testBit j = _
      rw [Nat.testBit_or, Nat.testBit_two_pow]
    cases pre with
    | nil =>
      simp only [List.nil_append, List.cons.injEq] at hl
      obtain ⟨rfl, rfl⟩ := hl
      refine ⟨fun j hj => .inl (lor_bit h1 hj), ⟨h2, by simp⟩, fun he z hz => ?_⟩
      rcases h3 with h3 | h3
      · rw [he] at h3; cases h3
      · exact h3 z hz
    | cons z q =>
      simp only [List.cons_append, List.cons.injEq] at hl
      obtain ⟨rfl, hl⟩ := hl
      obtain ⟨k1, ⟨k2, k3⟩, k4⟩ := order_spec anc r _ h4 q x post hl
      rw [hbit] at k2
      simp only [Bool.or_eq_false_iff, decide_eq_false_iff_not] at k2
      refine ⟨fun j hj => ?_, ⟨k2.1, ?_⟩, k4⟩
      · rcases k1 j hj with k | k
        · rw [hbit] at k
          simp only [Bool.or_eq_true, decide_eq_true_eq] at k
          rcases k with k | k
          · exact .inl k
          · exact .inr (by simp [k])
        · exact .inr (by simp only [List.map_cons, List.mem_cons]; exact .inr k)
      · simp only [List.map_cons, List.mem_cons, not_or]
        exact ⟨fun e => k2.2 e.symm, k3⟩

theorem orAll_bit (anc : List Nat) : ∀ (l : List Nat) (j : Nat), (orAll anc l).testBit j = true ↔ ∃ d ∈ l, d = j ∨ (anc.getD d 0).testBit j = true
  | [], j => by simp [orAll]
  | d :: r, j => by
    have : (orAll anc (d :: r)).testBit j = ((decide (d = j) || (anc.getD d 0).testBit j) || (orAll anc r).testBit j) := by
      show ((2 ^ d ||| anc.getD d 0) ||| orAll anc r).testBit j = _
      rw [Nat.testBit_or, Nat.testBit_or, Nat.testBit_two_pow]
    rw [this]
    simp only [Bool.or_eq_true, decide_eq_true_eq, orAll_bit anc r j, List.mem_cons]
    constructor
    · rintro (h | ⟨x, hx, h⟩)
      · exact ⟨d, .inl rfl, h⟩
      · exact ⟨x, .inr hx, h⟩
    · rintro ⟨x, rfl | hx, h⟩
      · exact .inl h
      · exact .inr ⟨x, hx, h⟩

theorem memN'_iff (l : List Nat) (d : Nat) : slotsOk.memN' l d = true ↔ d ∈ l := by
  simp only [slotsOk.memN', List.any_eq_true]
  constructor
  · rintro ⟨x, hx, h⟩
    exact Nat.eq_of_beq_eq_true h ▸ hx
  · intro h
    exact ⟨d, h, by simp⟩

theorem planF {ops : List Oper} {ins : List AIns} (hl : insL P ops 0 ops = some ins) {anc : List Nat} {p : List AStep} (hp : p = plan anc ins ins.length [] 0) (hk : planOk P ops ins anc p = true) : PlanF P ops anc ins p := by
  obtain ⟨h1, h2, h3⟩ := insL_get ops 0 ins hl
  simp only [planOk, Bool.and_eq_true, List.all_eq_true, List.mem_range, List.any_eq_true] at hk
  obtain ⟨⟨⟨⟨k1, k2⟩, k3⟩, k4⟩, k5⟩ := hk
  have hlt : ∀ (i : Nat) (x : AIns), ins[i]? = some x → i < ins.length := fun i x h => (List.getElem?_eq_some_iff.1 h).1
  have hsl : ∀ (i k : Nat) (x y : AIns) (d : Nat), ins[i]? = some x → ins[k]? = some y → x.dst = some d →
      (i = k ∨ y.dst ≠ some d) ∧ (d ∈ y.reads → i ≠ k ∧ ((anc.getD k 0).testBit i = true ∨ (anc.getD i 0).testBit k = true)) ∧ (AOpd.t d ∈ y.op.eyes → (anc.getD k 0).testBit i = true) := by
    intro i k x y d hi hk hd
    simp only [slotsOk, List.all_eq_true, List.mem_range] at k1
    have := k1 i (hlt i x hi) k (hlt k y hk)
    simp only [hi, hk, hd, Bool.and_eq_true, Bool.or_eq_true, Bool.not_eq_true'] at this
    obtain ⟨⟨q1, q2⟩, q3⟩ := this
    refine ⟨?_, fun hr => ?_, fun hr => ?_⟩
    · rcases q1 with q | q
      · exact .inl (Nat.eq_of_beq_eq_true q)
      · exact .inr fun e => by rw [e] at q; simp at q
    · rcases q2 with q | q
      · rw [(memN'_iff _ _).2 hr] at q; cases q
      · refine ⟨fun e => ?_, q.2⟩
        subst e
        simp at q
    · rcases q3 with q | q
      · rw [(memN'_iff _ _).2 (by simp only [slotsOf, List.mem_filterMap]; exact ⟨_, hr, rfl⟩)] at q; cases q
      · exact q
  refine ⟨fun i x hi => ?_, fun i o ho => ?_, fun i k x y d hi hk hd hd' => ?_, fun i k x y d hi hk hd hr => (hsl i k x y d hi hk hd).2.1 hr, fun i k x y d hi hk hd hr => (hsl i k x y d hi hk hd).2.2 hr, fun i x o hi ho => ?_, fun i o ho => ?_, fun pre x post h => ?_, fun pre x post h => ?_, fun i hi => ?_⟩
  · obtain ⟨o, q1, q2⟩ := h2 i x hi
    exact ⟨o, q1, by simpa using q2⟩
  · obtain ⟨x, q1, q2⟩ := h1 i o ho
    exact ⟨x, q1⟩
  · rcases (hsl i k x y d hi hk hd).1 with q | q
    · exact q
    · exact absurd hd' q
  · have := k5 x (List.mem_of_getElem? hi)
    rw [ho] at this
    cases o <;> simp only [Bool.false_eq_true] at this
    exact ⟨_, rfl⟩
  · have hlo := (List.getElem?_eq_some_iff.1 ho).1
    simp only [guardsOk, List.all_eq_true, List.mem_range] at k2
    have := k2 i hlo
    simp only [ho] at this
    exact Nat.eq_of_beq_eq_true this
  · have := plan_steps anc ins ins.length [] 0 pre x post (by rw [← hp]; exact h)
    simpa using this
  · obtain ⟨q1, ⟨_, q2⟩, q3⟩ := order_spec anc p 0 k3 pre x post h
    exact ⟨fun j hj => (q1 j hj).resolve_left (by simp), q2, q3⟩
  · obtain ⟨x, hx, hb⟩ := k4 i hi
    exact ⟨x, hx, Nat.eq_of_beq_eq_true hb⟩

end
end Go.Ab
set_option linter.unusedVariables false
set_option linter.unusedSimpArgs false
set_option autoImplicit false
namespace Go.Ab

def guardOk (e : Env) (i : AIns) : Option Bool :=
  match i.guard with
  | none => some true
  | some g => match e.get g.1 with
    | .bool b => some (b == g.2)
    | .tup _ => some false
    | _ => none
theorem guardW_spec {e : Env} {i : AIns} {yes no : Prop} (h : guardW e i yes no) : (guardOk e i = some true ∧ yes) ∨ (guardOk e i = some false ∧ no) := by
  unfold guardW at h
  unfold guardOk
  split at h
  · rename_i hg; exact .inl ⟨by simp [hg], h⟩
  · rename_i g hg
    split at h
    · rename_i b hb
      simp only [hg, hb]
      obtain ⟨gi, want⟩ := g
      cases b <;> cases want <;> simp only [cond_true, cond_false] at h
      · exact .inl ⟨rfl, h⟩
      · exact .inr ⟨rfl, h⟩
      · exact .inr ⟨rfl, h⟩
      · exact .inl ⟨rfl, h⟩
    · rename_i l hb
      simp only [hg, hb]
      exact .inr ⟨trivial, h⟩
    · exact h.elim
theorem guardW_of {e : Env} {i : AIns} {b : Bool} (h : guardOk e i = some b) : guardW e i (b = true) (b = false) := by
  unfold guardOk at h
  unfold guardW
  split at h
  · rename_i hg; simp only [Option.some.injEq] at h; simp [hg, h]
  · rename_i g hg
    split at h
    · rename_i t ht
      simp only [Option.some.injEq] at h
      simp only [hg, ht]
      obtain ⟨gi, want⟩ := g
      cases t <;> cases want <;> simp_all
    · rename_i l ht
      simp only [Option.some.injEq] at h
      simp only [hg, ht]
      simp_all
    · simp at h
theorem guardOk_congr {e e' : Env} {i : AIns} (h : ∀ u ∈ i.reads, e.get u = e'.get u) : guardOk e i = guardOk e' i := by
  unfold guardOk
  cases hg : i.guard with
  | none => rfl
  | some g =>
    simp only
    rw [h g.1 (by simp [AIns.reads, hg])]
theorem ev_congr {e e' : Env} {i : AIns} (h : ∀ u ∈ i.reads, e.get u = e'.get u) : ∀ x ∈ i.op.opds, AOpd.ev e x = AOpd.ev e' x := by
  intro x hx
  cases x with
  | t n =>
    refine h n ?_
    simp only [AIns.reads, List.mem_append, slotsOf, List.mem_filterMap]
    exact .inl ⟨.t n, hx, rfl⟩
  | c v => rfl
  | f n => rfl
theorem insW_spec {s : St} {get : Nat → Option Chunk} {e : Env} {i : AIns} {K : AV → Eff → Prop} {C : Nat → List AV → Prop} (h : insW s get e i K C) :
    (∃ v eff, opD get s.next (AOpd.ev e) i.op = .ok true v eff ∧ K v eff) ∨ (∃ f args, opD get s.next (AOpd.ev e) i.op = .call f args ∧ C f args) := by
  unfold insW at h
  split at h
  · rename_i c v eff hd
    cases c with
    | false => simp at h
    | true =>
      simp only [cond_true, forceV_eq] at h
      refine .inl ⟨v, eff, hd, ?_⟩
      cases hs : i.split with
      | false => simp only [hs, cond_false] at h; exact h
      | true =>
        simp only [hs, cond_true] at h
        cases v <;> simp only [] at h
        rename_i b
        cases b <;> exact h
  · rename_i f args hd
    exact .inr ⟨f, args, hd, h⟩
  · exact h.elim

section
variable {P : Program}

/-- a step that the plan has done, and the program hasn't -/
def Rec (anc : List Nat) (ins : List AIns) (e0 e : Env) (s : St) (pd : Pend) (x : AStep) : Prop :=
  ∃ (ei : Env) (gi : Nat → Option Chunk) (ni : Nat) (r : Option (Nat × Chunk)),
    (∀ u ∈ x.ins.reads, ((∃ (k : Nat) (y : AIns), ins[k]? = some y ∧ y.dst = some u ∧ (anc.getD x.i 0).testBit k = true) → ei.get u = e.get u) ∧
      ((¬ ∃ (k : Nat) (y : AIns), ins[k]? = some y ∧ y.dst = some u ∧ (anc.getD x.i 0).testBit k = true) → ei.get u = e0.get u)) ∧
    (∀ q ∈ pd, q.1 = x.i → r = some q.2) ∧
    ((guardOk ei x.ins = some false ∧ (∀ d, x.ins.dst = some d → e.get d = .tup []) ∧ r = none) ∨
     (guardOk ei x.ins = some true ∧ ∃ v eff, opD gi ni (AOpd.ev ei) x.ins.op = .ok true v eff ∧ (∀ d, x.ins.dst = some d → e.get d = v) ∧
       (∀ o, x.ins.op.looks = some o → AOpd.ev ei o = AOpd.ev e o) ∧
       (∀ o ∈ x.ins.op.lookK.keys, x.ins.op.looks.isSome = true → AOpd.ev ei o = AOpd.ev e o) ∧
       (∀ o, x.ins.op.looks = some o → LookRel (AOpd.ev ei) x.ins.op.lookK (AOpd.ev ei o) gi (getP s pd)) ∧
       ((eff = .no ∧ r = none) ∨ ∃ c, eff = .new c ∧ r = some (ni, c) ∧ (x.i, ni, c) ∈ pd)))

theorem Rec.mono {anc : List Nat} {ins : List AIns} {e0 e e' : Env} {s s' : St} {pd pd' : Pend} {x : AStep} (h : Rec anc ins e0 e s pd x)
    (h1 : ∀ (u k : Nat) (y : AIns), ins[k]? = some y → y.dst = some u → (anc.getD x.i 0).testBit k = true → e'.get u = e.get u) (h2 : ∀ d, x.ins.dst = some d → e'.get d = e.get d)
    (h3 : ∀ o, x.ins.op.looks = some o → AOpd.ev e' o = AOpd.ev e o) (h3' : ∀ o ∈ x.ins.op.lookK.keys, x.ins.op.looks.isSome = true → AOpd.ev e' o = AOpd.ev e o) (h4 : ∀ o, x.ins.op.looks = some o → LookRel (AOpd.ev e) x.ins.op.lookK (AOpd.ev e o) (getP s pd) (getP s' pd'))
    (h5 : ∀ q, q.1 = x.i → (q ∈ pd' ↔ q ∈ pd)) : Rec anc ins e0 e' s' pd' x := by
  obtain ⟨ei, gi, ni, r, k1, k2, k3⟩ := h
  refine ⟨ei, gi, ni, r, fun u hu => ⟨fun hw => ?_, (k1 u hu).2⟩, fun q hq hi => k2 q ((h5 q hi).1 hq) hi, ?_⟩
  · rw [(k1 u hu).1 hw]
    obtain ⟨k, y, q1, q2, q3⟩ := hw
    exact (h1 u k y q1 q2 q3).symm
  · rcases k3 with ⟨q1, q2, q3⟩ | ⟨q1, v, eff, q2, q3, q4, q4', q5, q6⟩
    · exact .inl ⟨q1, fun d hd => (h2 d hd).trans (q2 d hd), q3⟩
    · refine .inr ⟨q1, v, eff, q2, fun d hd => (h2 d hd).trans (q3 d hd), fun o ho => (q4 o ho).trans (h3 o ho).symm, fun o ho hs => (q4' o ho hs).trans (h3' o ho hs).symm, fun o ho => (q5 o ho).trans (by rw [q4 o ho]; exact (h4 o ho).congr fun y hy => (q4' y hy (by rw [ho]; rfl)).symm), ?_⟩
      rcases q6 with q6 | ⟨c, q6, q7, q8⟩
      · exact .inl q6
      · exact .inr ⟨c, q6, q7, (h5 _ rfl).2 q8⟩

/-- in between -/
structure J (P : Program) (F : From) (anc : List Nat) (ins : List AIns) (p : List AStep) (K : Env → St → Prop) (D : Nat → Bool) (pre rest : List AStep) (e0 e E : Env) (s T : St) (pd : Pend) (act : Act) (ι : Iota) (w : World) (M : Nat → Prop) : Prop where
  split : p = pre ++ rest
  dpre : ∀ i, D i = true → i ∈ pre.map (·.i)
  dcl : ∀ i j, D i = true → (anc.getD i 0).testBit j = true → D j = true
  eDone : ∀ x ∈ pre, x.e = true → D x.i = true
  W : drawW P rest e s pd K
  rep : Rep ι T w M
  tget : ∀ h c, T.get h = some c ↔ s.get h = some c ∨ ∃ i, (i, h, c) ∈ pd ∧ D i = true
  tnext : T.next = s.next
  pnd : PNd pd
  pnone : ∀ q ∈ pd, s.get q.2.1 = none
  plt : ∀ q ∈ pd, q.2.1 < s.next ∧ F.n0 ≤ q.2.1
  pun : ∀ q ∈ pd, D q.1 = false → ι q.2.1 = none
  pdn : ∀ q ∈ pd, D q.1 = true → ∃ p, ι q.2.1 = some (some p)
  ppre : ∀ q ∈ pd, q.1 ∈ pre.map (·.i)
  env : ERel ι w M E act
  eE1 : ∀ x ∈ pre, ∀ u, D x.i = false → x.ins.dst = some u → E.get u = e0.get u
  eE2 : ∀ u, (∀ x ∈ pre, D x.i = false → x.ins.dst ≠ some u) → E.get u = e.get u
  e00 : ∀ u, (∀ x ∈ pre, x.ins.dst ≠ some u) → e.get u = e0.get u
  recs : ∀ x ∈ pre, D x.i = false → Rec anc ins e0 e s pd x
  size : F.N ≤ act.tmps.size
  dfr : DRel F.P ι w M F.ds act.defers
  go : Go F.n0 F.ι F.s F.w F.M ι T w M

variable {F : From} {ops : List Oper} {anc : List Nat} {ins : List AIns} {p : List AStep} {K : Env → St → Prop} {D : Nat → Bool} {pre rest : List AStep} {e0 e E : Env} {s T : St} {pd : Pend} {act : Act} {ι : Iota} {w : World} {M : Nat → Prop}

theorem drawW_nil (e : Env) (s : St) (pd : Pend) : drawW P [] e s pd K = K e ⟨s.next, flush pd s.m⟩ := rfl
theorem drawW_cons (x : AStep) (r : List AStep) (e : Env) (s : St) (p : Pend) : drawW P (x :: r) e s p K = bif x.e then
      match absorb x.ab p s.m with
      | (m, p) => guardW e x.ins
          (insW ⟨s.next, m⟩ (St.get ⟨s.next, m⟩) e x.ins
            (fun v eff => appW ⟨s.next, m⟩ eff fun s' => watchW e (getP ⟨s.next, m⟩ p) (getP s' p) x.wt (putW e x.ins.dst v fun e => drawW P r e s' p K))
            (fun f args => Tr P f args ⟨s.next, m⟩ fun v s' => watchW e (getP ⟨s.next, m⟩ p) (getP s' p) x.wt (forceV v fun v => putW e x.ins.dst v fun e => drawW P r e s' p K)))
          (putW e x.ins.dst (.tup []) fun e => drawW P r e ⟨s.next, m⟩ p K)
    else guardW e x.ins
      (insW s (getP s p) e x.ins
        (fun v eff => putW e x.ins.dst v fun e => match eff with
          | .no => drawW P r e s p K
          | .new c => drawW P r e ⟨s.next + 1, s.m⟩ ((x.i, s.next, c) :: p) K
          | _ => False)
        (fun _ _ => False))
      (putW e x.ins.dst (.tup []) fun e => drawW P r e s p K) := rfl

theorem putE_get (e : Env) (d : Option Nat) (v : AV) (u : Nat) : (putE e d v).get u = if d = some u then v else e.get u := by
  cases d with
  | none => simp [putE]
  | some d =>
    simp only [putE, Env.get_cons, Option.some.injEq]

theorem PlanF.at (hp : PlanF P ops anc ins p) {x : AStep} (hx : x ∈ p) : ins[x.i]? = some x.ins := by
  obtain ⟨a, b, h⟩ := List.append_of_mem hx
  exact (hp.steps a x b h).1
theorem PlanF.before (hp : PlanF P ops anc ins p) (hs : p = pre ++ rest) {x : AStep} (hx : x ∈ pre) {j : Nat} (hj : (anc.getD x.i 0).testBit j = true) : j ∈ pre.map (·.i) := by
  obtain ⟨a, b, h⟩ := List.append_of_mem hx
  have := (hp.order a x (b ++ rest) (by rw [hs, h]; simp)).1 j hj
  rw [h]
  simp only [List.map_append, List.mem_append]
  exact .inl this
theorem PlanF.mem_i (hp : PlanF P ops anc ins p) {x y : AStep} (hx : x ∈ p) (hy : y ∈ p) (h : x.i = y.i) : x.ins = y.ins := by
  have h1 := hp.at hx
  have h2 := hp.at hy
  rw [h, h2] at h1
  simpa using h1.symm

/-- one step of the plan, ahead of the program -/
theorem adv_core (hp : PlanF P ops anc ins p) {y : AStep} {v : AV} {s' : St} {pd' : Pend} (h : J P F anc ins p K D pre (y :: rest) e0 e E s T pd act ι w M) (hye : y.e = false)
    (hW : drawW P rest (putE e y.ins.dst v) s' pd' K) (hs : (pd' = pd ∧ s' = s) ∨ ∃ c, pd' = (y.i, s.next, c) :: pd ∧ s' = ⟨s.next + 1, s.m⟩)
    (hrec : Rec anc ins e0 (putE e y.ins.dst v) s' pd' y) :
    J P F anc ins p K D (pre ++ [y]) rest e0 (putE e y.ins.dst v) E s' ⟨s'.next, T.m⟩ pd' act ι w M := by
  have hyi : y.i ∉ pre.map (·.i) := (hp.order pre y rest h.split).2.1
  have hyD : D y.i = false := by
    cases hd : D y.i with
    | false => rfl
    | true => exact absurd (h.dpre _ hd) hyi
  have hyp : y ∈ p := by rw [h.split]; simp
  have hpre : ∀ x ∈ pre, x ∈ p := fun x hx => by rw [h.split]; simp [hx]
  have hyins := hp.at hyp
  have hnd : ∀ x ∈ pre, ∀ d, x.ins.dst = some d → y.ins.dst ≠ some d := fun x hx d h1 h2 => by
    have := hp.slot1 _ _ _ _ d (hp.at (hpre x hx)) hyins h1 h2
    exact hyi (this ▸ List.mem_map_of_mem hx)
  have hnext : s.next ≤ s'.next := by
    rcases hs with ⟨_, rfl⟩ | ⟨c, _, rfl⟩
    · exact Nat.le_refl _
    · simp
  have hget : ∀ k, s'.get k = s.get k := fun k => by
    rcases hs with ⟨_, rfl⟩ | ⟨c, _, rfl⟩ <;> rfl
  have hpd : ∀ q, q ∈ pd' → q ∈ pd ∨ (q.1 = y.i ∧ q.2.1 = s.next ∧ s.next < s'.next) := fun q hq => by
    rcases hs with ⟨rfl, _⟩ | ⟨c, rfl, rfl⟩
    · exact .inl hq
    · rcases List.mem_cons.1 hq with rfl | hq
      · exact .inr ⟨rfl, rfl, by simp⟩
      · exact .inl hq
  have hpd' : ∀ q, q ∈ pd → q ∈ pd' := fun q hq => by
    rcases hs with ⟨rfl, _⟩ | ⟨c, rfl, rfl⟩
    · exact hq
    · exact List.mem_cons_of_mem _ hq
  have hsn : s.get s.next = none := by
    cases hg : s.get s.next with
    | none => rfl
    | some c =>
      have := (h.tget s.next c).2 (.inl hg)
      have := h.rep.none_of_get this
      rw [h.tnext] at this
      omega
  have hpn : PNd pd' := by
    rcases hs with ⟨rfl, _⟩ | ⟨c, rfl, _⟩
    · exact h.pnd
    · exact List.pairwise_cons.2 ⟨fun q hq e => by have := (h.plt q hq).1; simp only at e; omega, h.pnd⟩
  have hpno : ∀ q ∈ pd', s'.get q.2.1 = none := fun q hq => by
    rw [hget]
    rcases hpd q hq with k | ⟨_, k, _⟩
    · exact h.pnone q k
    · rw [k]; exact hsn
  have hgetP : ∀ k c, getP s pd k = some c → getP s' pd' k = some c := fun k c hc => by
    rw [getP_iff hpn hpno]
    rw [getP_iff h.pnd h.pnone] at hc
    rcases hc with hc | ⟨i, hi⟩
    · exact .inl (by rw [hget]; exact hc)
    · exact .inr ⟨i, hpd' _ hi⟩
  refine ⟨by rw [h.split]; simp, fun i hi => ?_, h.dcl, fun x hx he => ?_, hW, (h.rep.next (n := s'.next) (by rw [h.tnext]; exact hnext)), fun k c => ?_, rfl, hpn, hpno, fun q hq => ?_, fun q hq hd => ?_, fun q hq hd => ?_, fun q hq => ?_, h.env, fun x hx u hd hu => ?_, fun u hu => ?_, fun u hu => ?_, fun x hx hd => ?_, h.size, h.dfr, h.go.sub (fun _ _ h => h) (by rw [h.tnext]; exact hnext)⟩
  · simp only [List.map_append, List.mem_append]; exact .inl (h.dpre i hi)
  · rcases List.mem_append.1 hx with hx | hx
    · exact h.eDone x hx he
    · simp only [List.mem_singleton] at hx; subst hx; rw [hye] at he; cases he
  · show T.get k = some c ↔ _
    rw [h.tget, hget]
    constructor
    · rintro (k1 | ⟨i, k1, k2⟩)
      · exact .inl k1
      · exact .inr ⟨i, hpd' _ k1, k2⟩
    · rintro (k1 | ⟨i, k1, k2⟩)
      · exact .inl k1
      · rcases hpd _ k1 with k3 | ⟨k3, _⟩
        · exact .inr ⟨i, k3, k2⟩
        · simp only at k3; subst k3; rw [hyD] at k2; cases k2
  · rcases hpd q hq with k | ⟨_, k, k'⟩
    · have := h.plt q k; exact ⟨by omega, this.2⟩
    · rw [k]
      have := h.go.next
      rw [h.tnext] at this
      exact ⟨k', this⟩
  · rcases hpd q hq with k | ⟨_, k, _⟩
    · exact h.pun q k hd
    · rw [k]; exact h.rep.fresh _ (by rw [h.tnext]; exact Nat.le_refl _)
  · rcases hpd q hq with k | ⟨k, _⟩
    · exact h.pdn q k hd
    · rw [k, hyD] at hd; cases hd
  · simp only [List.map_append, List.mem_append, List.map_cons, List.map_nil, List.mem_singleton]
    rcases hpd q hq with k | ⟨k, _⟩
    · exact .inl (h.ppre q k)
    · exact .inr k
  · rcases List.mem_append.1 hx with hx | hx
    · exact h.eE1 x hx u hd hu
    · simp only [List.mem_singleton] at hx; subst hx
      rw [h.eE2 u fun z hz _ hzu => hnd z hz u hzu hu]
      exact h.e00 u fun z hz hzu => hnd z hz u hzu hu
  · rw [putE_get, if_neg (hu y (by simp) hyD)]
    exact h.eE2 u fun z hz hd => hu z (by simp [hz]) hd
  · rw [putE_get, if_neg (hu y (by simp))]
    exact h.e00 u fun z hz => hu z (by simp [hz])
  · rcases List.mem_append.1 hx with hx | hx
    · refine (h.recs x hx hd).mono (fun u k z k1 k2 k3 => ?_) (fun d hd' => ?_) (fun o ho => ?_) (fun o ho hs => ?_) (fun o _ => .of fun k c _ hc => hgetP k c hc) fun q hq => ?_
      · rw [putE_get, if_neg]
        intro hyu
        have := hp.slot1 _ _ _ _ u k1 hyins k2 hyu
        subst this
        exact hyi (hp.before h.split hx k3)
      · rw [putE_get, if_neg (hnd x hx d hd')]
      · cases o with
        | t u =>
          show (putE e y.ins.dst v).get u = e.get u
          rw [putE_get, if_neg]
          intro hyu
          exact hyi (hp.before h.split hx (hp.slot3 _ _ _ _ u hyins (hp.at (hpre x hx)) hyu (by simp [AOp.eyes, ho])))
        | c v => rfl
        | f n => rfl
      · cases o with
        | t u =>
          show (putE e y.ins.dst v).get u = e.get u
          rw [putE_get, if_neg]
          intro hyu
          refine hyi (hp.before h.split hx (hp.slot3 _ _ _ _ u hyins (hp.at (hpre x hx)) hyu ?_))
          unfold AOp.eyes
          split
          · exact List.mem_cons_of_mem _ ho
          · rename_i hn; rw [hn] at hs; cases hs
        | c v => rfl
        | f n => rfl
      · constructor
        · intro hq'
          rcases hpd q hq' with k | ⟨k, _⟩
          · exact k
          · exact absurd (by rw [← k, hq]; exact List.mem_map_of_mem hx) hyi
        · exact hpd' q
    · simp only [List.mem_singleton] at hx; subst hx; exact hrec

theorem advance1 (hp : PlanF P ops anc ins p) {y : AStep} (h : J P F anc ins p K D pre (y :: rest) e0 e E s T pd act ι w M) (hye : y.e = false) :
    ∃ e' s' T' pd', J P F anc ins p K D (pre ++ [y]) rest e0 e' E s' T' pd' act ι w M := by
  have hyi : y.i ∉ pre.map (·.i) := (hp.order pre y rest h.split).2.1
  have hyp : y ∈ p := by rw [h.split]; simp
  have hpre : ∀ x ∈ pre, x ∈ p := fun x hx => by rw [h.split]; simp [hx]
  have hyins := hp.at hyp
  -- what it reads
  have hreads : ∀ u ∈ y.ins.reads, (¬ ∃ (k : Nat) (z : AIns), ins[k]? = some z ∧ z.dst = some u ∧ (anc.getD y.i 0).testBit k = true) → e.get u = e0.get u := fun u hu hno => by
    refine h.e00 u fun x hx hxu => ?_
    rcases (hp.slot2 _ _ _ _ u (hp.at (hpre x hx)) hyins hxu hu).2 with k | k
    · exact hno ⟨x.i, x.ins, hp.at (hpre x hx), hxu, k⟩
    · exact hyi (hp.before h.split hx k)
  have hself : ∀ u ∈ y.ins.reads, y.ins.dst ≠ some u := fun u hu hd => (hp.slot2 _ _ _ _ u hyins hyins hd hu).1 rfl
  have hanc : ∀ (v : AV), ∀ u ∈ y.ins.reads, e.get u = (putE e y.ins.dst v).get u := fun v u hu => by rw [putE_get, if_neg (hself u hu)]
  have hnopd : ∀ q ∈ pd, q.1 ≠ y.i := fun q hq hqi => hyi (hqi ▸ h.ppre q hq)
  have hevs : ∀ (v : AV) (x : AOpd), x ∈ y.ins.op.opds → AOpd.ev e x = AOpd.ev (putE e y.ins.dst v) x := fun v => ev_congr (hanc v)
  have hlook : ∀ (a : AOp) o, a.looks = some o → o ∈ a.opds := fun a o ho => by
    cases a with
    | load ag n x => simp only [AOp.looks, Option.some.injEq] at ho; subst ho; simp [AOp.opds]
    | conv k x =>
      cases k with
      | toStr => simp only [AOp.looks, Option.some.injEq] at ho; subst ho; simp [AOp.opds]
      | same => simp [AOp.looks] at ho
      | int k => simp [AOp.looks] at ho
    | slice sk x lo hi =>
      cases sk with
      | arr n es => simp only [AOp.looks, Option.some.injEq] at ho; subst ho; simp [AOp.opds]
      | sl es => simp [AOp.looks] at ho
      | str => simp [AOp.looks] at ho
    | more m =>
      simp only [AOp.looks] at ho
      cases m <;> simp only [MOp.looks, Option.some.injEq, reduceCtorEq] at ho <;> subst ho <;> simp [AOp.opds, MOp.opds]
    | _ => simp [AOp.looks] at ho
  have hkey : ∀ (a : AOp) o, o ∈ a.lookK.keys → o ∈ a.opds := fun a o ho => by
    unfold AOp.lookK at ho
    split at ho <;> simp only [LkK.keys, List.mem_singleton, List.not_mem_nil] at ho
    subst ho
    simp [AOp.opds, MOp.opds]
  have hW := h.W
  rw [drawW_cons, hye, cond_false] at hW
  rcases guardW_spec hW with ⟨hg, hW⟩ | ⟨hg, hW⟩
  · rcases insW_spec hW with ⟨v, eff, hd, hW⟩ | ⟨f, args, _, hW⟩
    · rw [putW_eq] at hW
      have key : ∀ (s' : St) (pd' : Pend) (r : Option (Nat × Chunk)), drawW P rest (putE e y.ins.dst v) s' pd' K → ((pd' = pd ∧ s' = s) ∨ ∃ c, pd' = (y.i, s.next, c) :: pd ∧ s' = ⟨s.next + 1, s.m⟩) →
          (∀ k c, getP s pd k = some c → getP s' pd' k = some c) → (∀ q ∈ pd', q.1 = y.i → r = some q.2) → ((eff = .no ∧ r = none) ∨ ∃ c, eff = .new c ∧ r = some (s.next, c) ∧ (y.i, s.next, c) ∈ pd') →
          ∃ e' s' T' pd', J P F anc ins p K D (pre ++ [y]) rest e0 e' E s' T' pd' act ι w M := by
        intro s' pd' r hW' hs hgP hr heff
        refine ⟨_, _, _, _, adv_core hp h hye hW' hs ⟨e, getP s pd, s.next, r, fun u hu => ⟨fun _ => hanc v u hu, hreads u hu⟩, hr, .inr ⟨hg, v, eff, hd, fun d hd' => by rw [putE_get, if_pos hd'], fun o ho => hevs v o (hlook _ o ho), fun o ho _ => hevs v o (hkey _ o ho), fun o _ => .of fun k c _ hc => hgP k c hc, heff⟩⟩⟩
      cases eff with
      | no => exact key s pd none hW (.inl ⟨rfl, rfl⟩) (fun _ _ h => h) (fun q hq hqi => absurd hqi (hnopd q hq)) (.inl ⟨rfl, rfl⟩)
      | new c =>
        refine key _ _ (some (s.next, c)) hW (.inr ⟨c, rfl, rfl⟩) (fun k c' hc => ?_) (fun q hq hqi => ?_) (.inr ⟨c, rfl, rfl, by simp⟩)
        · unfold getP at hc ⊢
          have hgg : (St.mk (s.next + 1) s.m).get k = s.get k := rfl
          rw [hgg]
          cases hk : s.get k with
          | some c1 => rw [hk] at hc; exact hc
          | none =>
            rw [hk] at hc
            simp only at hc ⊢
            obtain ⟨i, hi⟩ := (Pend.get_iff pd h.pnd k c').1 hc
            have := (h.plt _ hi).1
            simp only at this
            simp only [Pend.get]
            have hb : Nat.beq s.next k = false := by
              rw [Bool.eq_false_iff]; intro hb; have := Nat.eq_of_beq_eq_true hb; omega
            rw [hb]
            exact hc
        · rcases List.mem_cons.1 hq with rfl | hq
          · rfl
          · exact absurd hqi (hnopd q hq)
      | set k c => exact hW.elim
      | app k c => exact hW.elim
    · exact hW.elim
  · rw [putW_eq] at hW
    exact ⟨_, _, _, _, adv_core hp h hye hW (.inl ⟨rfl, rfl⟩) ⟨e, getP s pd, s.next, none, fun u hu => ⟨fun _ => hanc _ u hu, hreads u hu⟩, fun q hq hqi => absurd hqi (hnopd q hq), .inl ⟨hg, fun d hd' => by rw [putE_get, if_pos hd'], rfl⟩⟩⟩

/-- as far as the plan goes alone -/
theorem advance (hp : PlanF P ops anc ins p) : ∀ (rest pre : List AStep) {e s T pd}, J P F anc ins p K D pre rest e0 e E s T pd act ι w M →
    ∃ pre' rest' e' s' T' pd', J P F anc ins p K D pre' rest' e0 e' E s' T' pd' act ι w M ∧ (rest' = [] ∨ ∃ y r, rest' = y :: r ∧ y.e = true)
  | [], pre, e, s, T, pd, h => ⟨pre, [], e, s, T, pd, h, .inl rfl⟩
  | y :: r, pre, e, s, T, pd, h => by
    cases hy : y.e with
    | true => exact ⟨pre, y :: r, e, s, T, pd, h, .inr ⟨y, r, rfl, hy⟩⟩
    | false =>
      obtain ⟨e', s', T', pd', h'⟩ := advance1 hp h hy
      exact advance hp r (pre ++ [y]) h'

end
end Go.Ab
set_option linter.unusedVariables false
set_option linter.unusedSimpArgs false
set_option autoImplicit false
namespace Go.Ab

section
variable {P : Program} {F : From} {ops : List Oper} {anc : List Nat} {ins : List AIns} {p : List AStep} {K : Env → St → Prop} {D D' : Nat → Bool} {pre rest : List AStep} {e0 e E : Env} {s T : St} {pd : Pend} {act : Act} {ι : Iota} {w : World} {M : Nat → Prop}

theorem PNd.inj : ∀ {pd : Pend}, PNd pd → ∀ {q q' : Nat × Nat × Chunk}, q ∈ pd → q' ∈ pd → q.2.1 = q'.2.1 → q = q'
  | [], _, q, q', h, _, _ => by simp at h
  | a :: r, hn, q, q', h, h', he => by
    obtain ⟨h1, h2⟩ := List.pairwise_cons.1 hn
    rcases List.mem_cons.1 h with rfl | k <;> rcases List.mem_cons.1 h' with rfl | k'
    · rfl
    · exact absurd he (h1 _ k')
    · exact absurd he.symm (h1 _ k)
    · exact PNd.inj h2 k k' he
theorem look_keys (a : AOp) (o : AOpd) (ho : o ∈ a.lookK.keys) : o ∈ a.opds := by
  unfold AOp.lookK at ho
  split at ho <;> simp only [LkK.keys, List.mem_singleton, List.not_mem_nil] at ho
  subst ho
  simp [AOp.opds, MOp.opds]
theorem addr_some {v : AV} {V : Value} {h : Nat} (hv : VRel ι w M v V) (ha : addrA v = some h) : ∃ p, ι h = some p := by
  cases v <;> simp only [addrA, Option.some.injEq, reduceCtorEq] at ha <;> subst ha
  · obtain ⟨b, base, hi, _⟩ := hv.ptr_inv; exact ⟨_, hi⟩
  · rcases hv.sl_inv with ⟨b, base, _, _, _, _, hi, _⟩ | ⟨hi, _⟩ <;> exact ⟨_, hi⟩
  · obtain ⟨b, hi, _⟩ := hv.mp_inv; exact ⟨_, hi⟩

/-- the program does one step that the plan has done -/
theorem J.exec (hp : PlanF P ops anc ins p) {x : AStep} {v : AV} {V : Value} {T' : St} {ι' : Iota} {w' : World} {M' : Nat → Prop} (h : J P F anc ins p K D pre rest e0 e E s T pd act ι w M) (hx : x ∈ pre) (hxD : D x.i = false)
    (hanc : ∀ j, (anc.getD x.i 0).testBit j = true → D j = true) (hD' : ∀ j, D' j = true ↔ j = x.i ∨ D j = true) (hslot : slotIn F.N x.ins.dst = true)
    (hv : ∀ d, x.ins.dst = some d → e.get d = v) (hV : VRel ι' w' M' v V) (hR : Rep ι' T' w' M') (hT : ∀ h c, T'.get h = some c ↔ s.get h = some c ∨ ∃ i, (i, h, c) ∈ pd ∧ D' i = true) (hTn : T'.next = s.next)
    (hgo : Go F.n0 ι T w M ι' T' w' M') (hext : ∀ h p, ι h = some p → ι' h = some p) (hi : Imm w M w' M') (hpun : ∀ q ∈ pd, D' q.1 = false → ι' q.2.1 = none) (hpdn : ∀ q ∈ pd, q.1 = x.i → ∃ p, ι' q.2.1 = some (some p)) :
    J P F anc ins p K D' pre rest e0 e (putE E x.ins.dst v) s T' pd (act.put x.ins.dst V) ι' w' M' := by
  have hpre : ∀ x ∈ pre, x ∈ p := fun x hx => by rw [h.split]; simp [hx]
  have hD : ∀ j, D' j = false → D j = false ∧ j ≠ x.i := fun j hj => by
    constructor
    · cases hd : D j with
      | false => rfl
      | true => rw [(hD' j).2 (.inr hd)] at hj; cases hj
    · intro e; rw [(hD' j).2 (.inl e)] at hj; cases hj
  refine ⟨h.split, fun i hi => ?_, fun i j hi hj => ?_, fun z hz he => (hD' _).2 (.inr (h.eDone z hz he)), h.W, hR, hT, hTn, h.pnd, h.pnone, h.plt, hpun, fun q hq hd => ?_, h.ppre, (h.env.mono hi hext).put hV hslot h.size, fun z hz u hd hu => ?_, fun u hu => ?_, h.e00, fun z hz hd => h.recs z hz (hD _ hd).1, by rw [put_size]; exact h.size, by rw [put_defers]; exact h.dfr.mono hi hext, h.go.trans hgo F.lt⟩
  · rcases (hD' i).1 hi with rfl | k
    · exact List.mem_map_of_mem hx
    · exact h.dpre i k
  · rcases (hD' i).1 hi with rfl | k
    · exact (hD' j).2 (.inr (hanc j hj))
    · exact (hD' j).2 (.inr (h.dcl i j k hj))
  · rcases (hD' _).1 hd with k | k
    · exact hpdn q hq k
    · obtain ⟨p, hp⟩ := h.pdn q hq k
      exact ⟨p, hext _ _ hp⟩
  · obtain ⟨k1, k2⟩ := hD _ hd
    rw [putE_get, if_neg]
    · exact h.eE1 z hz u k1 hu
    · intro hxu
      exact k2 (hp.slot1 _ _ _ _ u (hp.at (hpre z hz)) (hp.at (hpre x hx)) hu hxu)
  · rw [putE_get]
    split
    · rename_i hxu; exact (hv u hxu).symm
    · rename_i hxu
      refine h.eE2 u fun z hz hzd hzu => ?_
      by_cases hzx : z.i = x.i
      · exact hxu (by rw [← hp.mem_i (hpre z hz) (hpre x hx) hzx]; exact hzu)
      · refine hu z hz ?_ hzu
        cases hd : D' z.i with
        | false => rfl
        | true =>
          rcases (hD' _).1 hd with k | k
          · exact absurd k hzx
          · rw [hzd] at k; cases k

/-- a step that changes nothing that was there -/
theorem exec_plain (hp : PlanF P ops anc ins p) {x : AStep} {Q : Exit → Act → World → Prop} {next : Act → World → Prop} (h : J P F anc ins p K D pre rest e0 e E s T pd act ι w M) (hx : x ∈ pre) (hxD : D x.i = false)
    (hanc : ∀ j, (anc.getD x.i 0).testBit j = true → D j = true) (hD' : ∀ j, D' j = true ↔ j = x.i ∨ D j = true) (hslot : slotIn F.N x.ins.dst = true)
    (hk : ∀ E' T' act' ι' w' M', J P F anc ins p K D' pre rest e0 e E' s T' pd act' ι' w' M' → next act' w') : wpOp P ops.toArray Q x.i next act w := by
  have hpre : ∀ x ∈ pre, x ∈ p := fun x hx => by rw [h.split]; simp [hx]
  have hxins := hp.at (hpre x hx)
  obtain ⟨o, ho, hio⟩ := hp.insOk _ _ hxins
  obtain ⟨hop, hdst⟩ := insOf_op hio
  have hxe : x.ins.op.isE = false := by
    obtain ⟨a, b, hab⟩ := List.append_of_mem (hpre x hx)
    have h1 := (hp.steps a x b hab).2
    have h2 := (stepOf_i anc ins (a.map (·.i)) x.i x.ins).2.2
    rw [← h1] at h2
    cases he : x.e with
    | false => rw [← h2, he]
    | true => rw [h.eDone x hx he] at hxD; cases hxD
  obtain ⟨ei, gi, ni, r, k1, k2, k3⟩ := h.recs x hx hxD
  have hE : ∀ u ∈ x.ins.reads, ei.get u = E.get u := fun u hu => by
    by_cases hw : ∃ (k : Nat) (y : AIns), ins[k]? = some y ∧ y.dst = some u ∧ (anc.getD x.i 0).testBit k = true
    · rw [(k1 u hu).1 hw]
      obtain ⟨k, y, q1, q2, q3⟩ := hw
      refine (h.eE2 u fun z hz hzd hzu => ?_).symm
      have := hp.slot1 _ _ _ _ u (hp.at (hpre z hz)) q1 hzu q2
      rw [this, hanc k q3] at hzd
      cases hzd
    · rw [(k1 u hu).2 hw]
      by_cases hex : ∃ z ∈ pre, D z.i = false ∧ z.ins.dst = some u
      · obtain ⟨z, hz, hzd, hzu⟩ := hex
        exact (h.eE1 z hz u hzd hzu).symm
      · rw [h.eE2 u fun z hz hzd hzu => hex ⟨z, hz, hzd, hzu⟩]
        refine (h.e00 u fun z hz hzu => ?_).symm
        rcases (hp.slot2 _ _ _ _ u (hp.at (hpre z hz)) hxins hzu hu).2 with k | k
        · exact hw ⟨z.i, z.ins, hp.at (hpre z hz), hzu, k⟩
        · cases hzd : D z.i with
          | false => exact hex ⟨z, hz, hzd, hzu⟩
          | true => rw [h.dcl _ _ hzd k] at hxD; cases hxD
  have hTm : ∀ k c, T.get k = some c ↔ s.get k = some c ∨ ∃ i, (i, k, c) ∈ pd ∧ D i = true := h.tget
  -- the same blocks
  have hsame : (∀ q ∈ pd, q.1 ≠ x.i) → ∀ k c, T.get k = some c ↔ s.get k = some c ∨ ∃ i, (i, k, c) ∈ pd ∧ D' i = true := fun hno k c => by
    rw [hTm]
    constructor
    · rintro (q | ⟨i, q1, q2⟩)
      · exact .inl q
      · exact .inr ⟨i, q1, (hD' i).2 (.inr q2)⟩
    · rintro (q | ⟨i, q1, q2⟩)
      · exact .inl q
      · rcases (hD' i).1 q2 with q | q
        · exact absurd q (hno _ q1)
        · exact .inr ⟨i, q1, q⟩
  have hund : ∀ j, D' j = false → D j = false := fun j hj => by
    cases hd : D j with
    | false => rfl
    | true => rw [(hD' j).2 (.inr hd)] at hj; cases hj
  have stay : ∀ (v : AV) (V : Value), (∀ d, x.ins.dst = some d → e.get d = v) → VRel ι w M v V → (∀ q ∈ pd, q.1 ≠ x.i) → next (act.put x.ins.dst V) w := fun v V hv hV hno =>
    hk _ T _ ι w M (h.exec hp hx hxD hanc hD' hslot hv hV h.rep (hsame hno) h.tnext (Go.refl _ _ _ _ h.go.next) (fun _ _ h => h) (Imm.refl _ _) (fun q hq hd => h.pun q hq (hund _ hd)) fun q hq hqi => absurd hqi (hno q hq))
  have hgetO : ops.toArray[x.i]? = some o := by simpa using ho
  unfold wpOp
  rw [hgetO]
  simp only
  rcases k3 with ⟨q1, q2, q3⟩ | ⟨q1, v, eff, q2, q3, q4, q4', q5, q6⟩
  · rw [guardOk_congr hE] at q1
    rcases guard_sound hio h.env (guardW_of q1) with ⟨_, hc⟩ | ⟨hw, _⟩
    · cases hc
    · rw [if_neg (by simp [hw])]
      rw [← hdst]
      refine stay (.tup []) undef q2 VRel.skip fun q hq hqi => ?_
      have := k2 q hq hqi
      rw [q3] at this
      cases this
  · rw [guardOk_congr hE] at q1
    rcases guard_sound hio h.env (guardW_of q1) with ⟨hw, _⟩ | ⟨_, hc⟩
    case inr => cases hc
    rw [if_pos hw]
    refine .inl ?_
    have hev := ev_congr hE
    rw [opD_congr _ hev] at q2
    have hlk : ∀ o', x.ins.op.looks = some o' → LookRel (AOpd.ev E) x.ins.op.lookK (AOpd.ev E o') gi T.get := fun o' hlo k c ha hc => by
      obtain ⟨u, rfl⟩ := hp.slot4 _ _ _ hxins hlo
      obtain ⟨_, hq⟩ := opD_get (g' := gi) _ hxe (fun _ _ => .of fun _ _ _ h => h) q2
      have hmem := (hq _ k hlo ha).1
      have hee : AOpd.ev ei (.t u) = AOpd.ev E (.t u) := hev _ hmem
      obtain ⟨c', this, hag⟩ := q5 _ hlo k c (by rw [hee]; exact ha) hc
      rw [hee] at hag
      refine ⟨c', ?_, hag.congr fun o ho => hev _ (look_keys _ o ho)⟩
      rw [getP_iff h.pnd h.pnone] at this
      rw [hTm]
      rcases this with q | ⟨i, q⟩
      · exact .inl q
      · refine .inr ⟨i, q, ?_⟩
        cases hd : D i with
        | true => rfl
        | false =>
          obtain ⟨pp, hpp⟩ := addr_some (h.env u) ha
          have := h.pun _ q hd
          simp only at this
          rw [this] at hpp
          cases hpp
    obtain ⟨q2', _⟩ := opD_get (g' := T.get) _ hxe hlk q2
    unfold Oper.wp
    cases hA : x.ins.op.isA with
    | false =>
      obtain ⟨⟨V, hrun, hV⟩, rfl⟩ := op_pure (fun _ => rfl) hop hxe hA (h.env.orel h.rep.glob) h.rep.hget q2'
      rw [hrun, Oper.upon_value, ← hdst]
      refine stay v V q3 hV fun q hq hqi => ?_
      rcases q6 with ⟨_, q6⟩ | ⟨c, q6, _⟩
      · have := k2 q hq hqi; rw [q6] at this; cases this
      · cases q6
    | true =>
      obtain ⟨c, rfl, V, O, hrun, m2, m3⟩ := op_make hop hA (h.env.orel h.rep.glob) q2'
      rcases q6 with ⟨q6, _⟩ | ⟨c', q6, q7, q8⟩
      · cases q6
      · simp only [Eff.new.injEq] at q6
        subst q6
        have hni : ι ni = none := h.pun _ q8 hxD
        obtain ⟨hlt, hge⟩ := h.plt _ q8
        simp only at hlt hge
        have hTg : T.get ni = none := by
          cases hg : T.get ni with
          | none => rfl
          | some c1 =>
            rcases (hTm _ _).1 hg with q | ⟨i, q, q'⟩
            · have := h.pnone _ q8; simp only at this; rw [this] at q; cases q
            · have := PNd.inj h.pnd q8 q rfl
              simp only [Prod.mk.injEq] at this
              rw [← this.1, hxD] at q'; cases q'
        rw [hrun, Oper.upon_value, ← hdst]
        have hx' := ι.set_ext ni (some (w.heap.size, 0)) hni
        have hI := Imm.alloc (w := w) (M := M) O
        have hR2 := Rep.allocO (o := O) (h := ni) h.rep hni (by rw [h.tnext]; exact hlt) hTg
        have hR3 : Rep (ι.set ni (some (w.heap.size, 0))) ⟨T.next, (ni, some c) :: T.m⟩ (w.alloc O) (addM M w.heap.size) := by
          refine hR2.put (.inr ⟨w.heap.size, 0, ι.set_same _ _, .inr rfl, m2 _ _ hI hx', fun j c' pp hne hc' hpp => ?_⟩)
          rw [ι.set_other _ _ _ hne] at hpp
          have hM := h.rep.ownM ⟨j, c', pp.2, hc', hpp⟩
          have := h.rep.lt _ hM
          omega
        have hgo := Go.alloc (n0 := F.n0) (h := ni) (o := O) (p := some (w.heap.size, 0)) (ι := ι) (s := T) (w := w) (M := M) h.go.next hge hTg hni
        refine hk _ _ _ _ _ _ (h.exec hp hx hxD hanc hD' hslot q3 (m3 (ι.set ni (some (w.heap.size, 0))) _ (ι.set_same _ _)) hR3 (fun k c1 => ?_) h.tnext ⟨hgo.size, hgo.tape, hgo.os, hgo.output, hgo.block, hgo.shape, hgo.back, hgo.keep, fun b hb hown => ?_, hgo.next, hgo.ext⟩ hx' hI (fun q hq hd => ?_) fun q hq hqi => ?_)
        · rw [St.get_cons]
          by_cases hk' : ni = k
          · subst hk'
            rw [if_pos rfl]
            constructor
            · intro hc; cases hc; exact .inr ⟨x.i, q8, (hD' _).2 (.inl rfl)⟩
            · rintro (q | ⟨i, q, _⟩)
              · have := h.pnone _ q8; simp only at this; rw [this] at q; cases q
              · have := PNd.inj h.pnd q8 q rfl
                simp only [Prod.mk.injEq] at this
                rw [this.2.2]
          · rw [if_neg hk']
            show T.get k = some c1 ↔ _
            rw [hTm]
            constructor
            · rintro (q | ⟨i, q, q'⟩)
              · exact .inl q
              · exact .inr ⟨i, q, (hD' i).2 (.inr q')⟩
            · rintro (q | ⟨i, q, q'⟩)
              · exact .inl q
              · rcases (hD' i).1 q' with q'' | q''
                · have := k2 _ q q''
                  rw [q7] at this
                  simp only [Option.some.injEq, Prod.mk.injEq] at this
                  exact absurd this.1 hk'
                · exact .inr ⟨i, q, q''⟩
        · obtain ⟨j, c', base, h1, h2⟩ := hown
          rw [St.get_cons] at h1
          split at h1
          · rename_i he
            subst he
            rw [ι.set_same] at h2
            simp only [Option.some.injEq, Prod.mk.injEq] at h2
            omega
          · rename_i he
            rw [ι.set_other _ _ _ (fun e => he e.symm)] at h2
            exact ⟨j, c', base, h1, h2⟩
        · have hne : q.2.1 ≠ ni := fun e => by
            have := PNd.inj h.pnd hq q8 e
            rw [this] at hd
            rw [(hD' _).2 (.inl rfl)] at hd
            cases hd
          rw [ι.set_other _ _ _ hne]
          exact h.pun q hq (hund _ hd)
        · have := k2 q hq hqi
          rw [q7] at this
          simp only [Option.some.injEq] at this
          rw [← this]
          exact ⟨_, ι.set_same _ _⟩

end
end Go.Ab
