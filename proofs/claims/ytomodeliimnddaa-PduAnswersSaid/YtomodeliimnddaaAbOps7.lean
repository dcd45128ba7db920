/- The engine's soundness: every operation. -/
import Derived.Test.YtomodeliimnddaaAbOps6
set_option linter.unusedVariables false
set_option linter.unusedSimpArgs false
set_option autoImplicit false
namespace Go.Ab

section
variable {P : Program} {ι : Iota} {s : St} {w : World} {M : Nat → Prop} {ρ : AOpd → AV} {η : Operand → Value} {get : Nat → Option Chunk} {nx : Nat}

theorem map_some {α β : Type} {f : α → β} {o : Option α} {b : β} (h : o.map f = some b) : ∃ a, o = some a ∧ f a = b := Option.map_eq_some_iff.1 h

/-- the value of an operation that changes nothing -/
def Pv (P : Program) (ι : Iota) (w : World) (M : Nat → Prop) (o : Sem Next) (v : AV) (e : Eff) : Prop :=
  (∃ V, o.run P w = .ok (.value V) w ∧ VRel ι w M v V) ∧ e = .no
theorem Pv.of {o : Sem Value} {v : AV} {e : Eff} (h : (∃ V, o.run P w = .ok V w ∧ VRel ι w M v V) ∧ e = .no) : Pv P ι w M (do pure (.value (← o)) : Sem Next) v e := by
  obtain ⟨⟨V, h1, h2⟩, h3⟩ := h
  exact ⟨⟨V, by simp [h1], h2⟩, h3⟩

theorem pairs_eq (η : Operand → Value) (ps : Array (Nat × Operand)) : (ps.map fun (i, x) => (i, η x)) = ps.map fun p => (p.1, η p.2) := rfl

theorem opd_rel {x : Operand} {y : AOpd} (hρ : ORel ι w M ρ η) (h : opd x = some y) : VRel ι w M (ρ y) (η x) := hρ x y h

theorem sem_bind {α β : Type} {g : Sem α} {a : α} {w w' : World} (k : α → Sem β) (h : g.run P w = .ok a w') : (g >>= k).run P w = (k a).run P w' := by
  rw [Sem.run_bind, h, Result.andThen_ok]

theorem call_pure {c : Call} {a : AOp} {type : TypeId} {v : AV} {e : Eff} (hc : compCall P c = some a) (hE : a.isE = false) (hρ : ORel ι w M ρ η) (h : opD get nx ρ a = .ok true v e) :
    Pv P ι w M (do let d ← resolve η c type; invoke d.target d.args) v e := by
  obtain ⟨callee, args, argTypes⟩ := c
  unfold compCall at hc
  simp only at hc
  split at hc
  · -- len
    rename_i x hargs
    obtain ⟨hl, hr⟩ := opds_rel hρ _ _ hargs
    have hx := hr 0 (by simp)
    have hlen : args.size = 1 := by simpa using hl
    have hmap : args.map η = #[(args.toList.map η).getD 0 default] := by
      apply Array.ext
      · simp [hlen]
      · intro i h1 h2
        have : i = 0 := by simp at h2; omega
        subst this
        simp at h1
        simp [List.getD_eq_getElem?_getD, h1]
    generalize hX : (args.toList.map η).getD 0 default = X at hx hmap
    have hx : VRel ι w M (ρ x) X := by simpa using hx
    split at hc <;> simp only [Option.some.injEq, reduceCtorEq] at hc <;> subst hc
    · rename_i hu
      simp only [opD] at h
      cases hv : ρ x <;> simp only [hv, Res.ok.injEq, reduceCtorEq, true_and] at h
      obtain ⟨rfl, rfl⟩ := h
      rw [hv] at hx
      obtain rfl := hx.str_inv
      refine ⟨⟨_, ?_, .g _ _ (.int .i64 _)⟩, rfl⟩
      simp [resolve, invoke, builtin, hmap, len_run_str hu]
    · rename_i el hu
      simp only [opD] at h
      cases hn : lenA (ρ x) with
      | none => simp [hn] at h
      | some n =>
        simp only [hn, Res.ok.injEq, true_and] at h
        obtain ⟨rfl, rfl⟩ := h
        obtain ⟨A, cp, rfl⟩ := lenA_rel hx hn
        refine ⟨⟨_, ?_, .g _ _ (.int .i64 _)⟩, rfl⟩
        simp [resolve, invoke, builtin, hmap, len_run_slice (t := 0) hu]
  · -- min
    rename_i x y hargs
    simp only [Option.some.injEq] at hc
    subst hc
    obtain ⟨hl, hr⟩ := opds_rel hρ _ _ hargs
    have hx := hr 0 (by simp)
    have hy := hr 1 (by simp)
    have hlen : (args.toList.map η).length = 2 := by simpa using hl
    have hmap : (args.map η).toList = [(args.toList.map η).getD 0 default, (args.toList.map η).getD 1 default] := by
      rw [Array.toList_map]
      generalize args.toList.map η = L at hlen
      match L, hlen with
      | [a, b], _ => rfl
    generalize hX : (args.toList.map η).getD 0 default = X at hx hmap
    generalize hY : (args.toList.map η).getD 1 default = Y at hy hmap
    have hx : VRel ι w M (ρ x) X := by simpa using hx
    have hy : VRel ι w M (ρ y) Y := by simpa using hy
    simp only [opD] at h
    cases hv : ρ x <;> simp only [hv, reduceCtorEq] at h
    cases hv' : ρ y <;> simp only [hv', Res.ok.injEq, reduceCtorEq, true_and] at h
    obtain ⟨rfl, rfl⟩ := h
    rw [hv] at hx
    rw [hv'] at hy
    obtain rfl := hx.int_inv
    obtain rfl := hy.int_inv
    refine ⟨⟨_, ?_, .g _ _ (.int _ _)⟩, rfl⟩
    simp only [resolve, invoke, builtin, Builtin.min_, hmap, Sem.run_bind, Sem.run_pure, Result.andThen_ok]
    simp [Builtin.min2, List.foldlM]
  · -- max
    rename_i x y hargs
    simp only [Option.some.injEq] at hc
    subst hc
    obtain ⟨hl, hr⟩ := opds_rel hρ _ _ hargs
    have hx := hr 0 (by simp)
    have hy := hr 1 (by simp)
    have hlen : (args.toList.map η).length = 2 := by simpa using hl
    have hmap : (args.map η).toList = [(args.toList.map η).getD 0 default, (args.toList.map η).getD 1 default] := by
      rw [Array.toList_map]
      generalize args.toList.map η = L at hlen
      match L, hlen with
      | [a, b], _ => rfl
    generalize hX : (args.toList.map η).getD 0 default = X at hx hmap
    generalize hY : (args.toList.map η).getD 1 default = Y at hy hmap
    have hx : VRel ι w M (ρ x) X := by simpa using hx
    have hy : VRel ι w M (ρ y) Y := by simpa using hy
    simp only [opD] at h
    cases hv : ρ x <;> simp only [hv, reduceCtorEq] at h
    cases hv' : ρ y <;> simp only [hv', Res.ok.injEq, reduceCtorEq, true_and] at h
    obtain ⟨rfl, rfl⟩ := h
    rw [hv] at hx
    rw [hv'] at hy
    obtain rfl := hx.int_inv
    obtain rfl := hy.int_inv
    refine ⟨⟨_, ?_, .g _ _ (.int _ _)⟩, rfl⟩
    simp only [resolve, invoke, builtin, Builtin.max_, hmap, Sem.run_bind, Sem.run_pure, Result.andThen_ok]
    simp [Builtin.max2, List.foldlM]
  · -- append
    exfalso
    split at hc
    · split at hc
      · split at hc
        · simp at hc
        · split at hc
          · simp at hc
          · split at hc
            · simp only [Option.some.injEq] at hc; subst hc; simp [AOp.isE] at hE
            · simp at hc
      · simp at hc
    · simp at hc
  · exfalso
    split at hc
    · simp only [Option.some.injEq] at hc; subst hc; simp [AOp.isE] at hE
    · split at hc
      · simp only [Option.some.injEq] at hc; subst hc; simp [AOp.isE] at hE
      · simp at hc
  · exfalso
    obtain ⟨y, _, rfl⟩ := map_some hc
    simp [AOp.isE] at hE
  · exfalso
    obtain ⟨y, _, rfl⟩ := map_some hc
    simp [AOp.isE] at hE
  · simp at hc

theorem op_pure {o : Oper} {a : AOp} {v : AV} {e : Eff} (hc : compOp P o.op = some a) (hE : a.isE = false) (hA : a.isA = false) (hρ : ORel ι w M ρ η) (hG : HGet ι w M get) (h : opD get nx ρ a = .ok true v e) :
    Pv P ι w M (execOp η o) v e := by
  obtain ⟨dst, op, type, pos, after, guard⟩ := o
  simp only at hc
  unfold compOp at hc
  split at hc
  · -- move
    obtain ⟨y, hy, rfl⟩ := map_some hc
    simp only [opD, Res.ok.injEq, true_and] at h
    obtain ⟨rfl, rfl⟩ := h
    exact ⟨⟨_, by simp [execOp], hρ _ _ hy⟩, rfl⟩
  · obtain ⟨y, hy, rfl⟩ := map_some hc
    simp only [opD, Res.ok.injEq, true_and] at h
    obtain ⟨rfl, rfl⟩ := h
    exact ⟨⟨_, by simp [execOp], hρ _ _ hy⟩, rfl⟩
  · -- pick
    rename_i c a b
    split at hc
    · rename_i c' a' b' h1 h2 h3
      simp only [Option.some.injEq] at hc
      subst hc
      simp only [opD] at h
      have hcv := hρ _ _ h1
      cases hb : ρ c' <;> simp only [hb, Res.ok.injEq, reduceCtorEq, true_and] at h
      rename_i t
      obtain ⟨rfl, rfl⟩ := h
      rw [hb] at hcv
      have hcv := hcv.bool_inv
      cases t
      · exact ⟨⟨η b, by simp [execOp, asBool, hcv], hρ _ _ h3⟩, rfl⟩
      · exact ⟨⟨η a, by simp [execOp, asBool, hcv], hρ _ _ h2⟩, rfl⟩
    · simp at hc
  · obtain ⟨y, hy, rfl⟩ := map_some hc
    simp [AOp.isA] at hA
  · obtain ⟨y, hy, rfl⟩ := map_some hc
    simp [AOp.isA] at hA
  · -- build
    rename_i t ps
    have key : ∀ (z : List (Nat × AV)) (l : List (Nat × Nat × AOpd)), zrl P t = some z → ((∃ fs, P.underlying t = some (.struct fs) ∧ fs.toList.all (fun f => (sizeP P f.type).isSome) = true ∧ structParts P fs ps.toList = some l) ∨ (∃ n e es, P.underlying t = some (.array n e) ∧ sizeP P e = some es ∧ rowParts es ps.toList = some l)) →
        a = .build (rlList z) l → Pv P ι w M (execOp η ⟨dst, .build t ps, type, pos, after, guard⟩) v e := by
      intro z l hz ht ha
      subst ha
      simp only [opD] at h
      cases hf : fillA ρ (rlList z) l with
      | none => simp [hf] at h
      | some z' =>
        simp only [hf, Res.ok.injEq, true_and] at h
        obtain ⟨rfl, rfl⟩ := h
        exact Pv.of ⟨build_sound hρ hz ht hf, rfl⟩
    split at hc
    · rename_i fs z hu hz
      split at hc
      · rename_i hall
        obtain ⟨l, hl, rfl⟩ := map_some hc
        exact key z l hz (.inl ⟨fs, hu, hall, hl⟩) rfl
      · simp at hc
    · rename_i n el z hu hz
      split at hc
      · rename_i es hs
        obtain ⟨l, hl, rfl⟩ := map_some hc
        exact key z l hz (.inr ⟨n, el, es, hu, hs, hl⟩) rfl
      · simp at hc
    · simp at hc
  · -- buildSlice
    exfalso
    split at hc
    · split at hc
      · split at hc
        · obtain ⟨l, hl, rfl⟩ := map_some hc; simp [AOp.isA] at hA
        · simp at hc
      · simp at hc
    · simp at hc
  · -- load
    rename_i t x
    split at hc
    · rename_i ag n y h1 h2 h3
      split at hc
      · rename_i hk
        simp only [Option.some.injEq] at hc
        subst hc
        have hk' : ag = true ∨ n = 1 := by simpa using hk
        have hx := hρ _ _ h3
        simp only [opD] at h
        cases hv : ρ y <;> simp only [hv, reduceCtorEq] at h
        · rename_i hh off
          rw [hv] at hx
          cases hg : get hh with
          | none => simp [hg] at h
          | some c =>
            simp only [hg, Res.ok.injEq] at h
            obtain ⟨h4, h5, rfl⟩ := h
            exact Pv.of ⟨load_ptr hx hG hg h1 h2 hk' (by rw [← h4, ← h5]), rfl⟩
        · simp only [Res.ok.injEq] at h
          obtain ⟨h4, rfl, rfl⟩ := h
          rw [hv] at hx
          exact Pv.of ⟨load_cptr hx h1 h2 hk' h4, rfl⟩
      · simp at hc
    · simp at hc
  · -- store
    exfalso
    split at hc
    · simp only [Option.some.injEq] at hc; subst hc; simp [AOp.isE] at hE
    · simp at hc
  · -- nilCheck
    obtain ⟨y, hy, rfl⟩ := map_some hc
    have hx := hρ _ _ hy
    simp only [opD] at h
    cases hv : ρ y <;> simp only [hv, Res.ok.injEq, reduceCtorEq, true_and] at h <;> obtain ⟨rfl, rfl⟩ := h <;> rw [hv] at hx
    · obtain ⟨b, base, hi, hX⟩ := hx.ptr_inv
      exact ⟨⟨_, by simp [execOp, hX], hX ▸ hx⟩, rfl⟩
    · obtain ⟨ad, g, hX, _⟩ := hx.cptr_inv
      exact ⟨⟨_, by simp [execOp, hX], hX ▸ hx⟩, rfl⟩
    · obtain ⟨cs, hX, _⟩ := hx.fn_inv
      exact ⟨⟨_, by simp [execOp, hX], hX ▸ hx⟩, rfl⟩
  · -- binOp
    split at hc
    · rename_i x' y' h1 h2
      simp only [Option.some.injEq] at hc
      subst hc
      simp only [opD] at h
      split at h
      · rename_i c' v' hb
        simp only [Res.ok.injEq] at h
        obtain ⟨rfl, rfl, rfl⟩ := h
        exact Pv.of ⟨bin_sound _ _ _ _ _ _ _ _ _ (hρ _ _ h1) (hρ _ _ h2) hb, rfl⟩
      · simp at h
    · simp at hc
  · -- unOp
    obtain ⟨y, hy, rfl⟩ := map_some hc
    exact Pv.of (un_sound _ _ _ _ _ (hρ _ _ hy) h)
  · -- convert
    split at hc
    · rename_i k y h1 h2
      simp only [Option.some.injEq] at hc
      subst hc
      exact Pv.of (conv_sound (hρ _ _ h2) hG h1 h)
    · simp at hc
  · -- makeInterface
    rename_i t x
    split at hc
    · simp at hc
    · simp at hc
    · rename_i D hD1 hD2
      obtain ⟨y, hy, rfl⟩ := map_some hc
      simp only [opD, Res.ok.injEq, true_and] at h
      obtain ⟨rfl, rfl⟩ := h
      refine Pv.of ⟨⟨_, ?_, .iface _ _ _ (hρ _ _ hy)⟩, rfl⟩
      cases hu : P.underlying t with
      | none => exact absurd hu hD2
      | some D =>
        simp only [Instr.makeInterface, Sem.run_bind, run_underlying hu, Result.andThen_ok]
        cases D <;> first | (exact absurd hu (hD1 _)) | rfl
  · -- makeFunc
    rename_i f caps
    obtain ⟨l, hl, rfl⟩ := map_some hc
    simp only [opD, Res.ok.injEq, true_and] at h
    obtain ⟨rfl, rfl⟩ := h
    obtain ⟨h1, h2⟩ := opds_rel hρ _ _ hl
    refine Pv.of ⟨⟨.func (.func f) #[] (caps.map η), by simp [Instr.makeFunc], .fn f _ _ (by simpa using h1) fun j hj => ?_⟩, rfl⟩
    have := h2 j hj
    have hcs : (caps.map η).getD j default = (caps.toList.map η).getD j default := by
      simp [Array.getD_eq_getD_getElem?, List.getD_eq_getElem?_getD]
    rw [hcs]
    exact this
  · -- makeSlice
    exfalso
    split at hc
    · split at hc
      · split at hc
        · simp only [Option.some.injEq] at hc; subst hc; simp [AOp.isA] at hA
        · simp at hc
      · simp at hc
    · simp at hc
  · -- slice
    rename_i t x lo hi
    split at hc
    · rename_i sk y h1 h2
      have key : ∀ (lo' hi' : Option AOpd), (∀ l, lo' = some l → ∃ L, lo = some L ∧ opd L = some l) → (lo' = none → lo = none) → (∀ l, hi' = some l → ∃ L, hi = some L ∧ opd L = some l) → (hi' = none → hi = none) → a = .slice sk y lo' hi' →
          Pv P ι w M (execOp η ⟨dst, .slice t x lo hi none, type, pos, after, guard⟩) v e := by
        intro lo' hi' k1 k2 k3 k4 ha
        subst ha
        simp only [opD] at h
        refine Pv.of ?_
        refine slice_sound (hρ _ _ h2) hG (lo := lo'.map ρ) (hi := hi'.map ρ) (fun x hx => ?_) (fun hn => ?_) (fun x hx => ?_) (fun hn => ?_) h1 h
        · obtain ⟨l, hl, rfl⟩ := map_some hx
          obtain ⟨L, rfl, hL⟩ := k1 l hl
          exact ⟨_, rfl, hρ _ _ hL⟩
        · rw [k2 (by simpa using hn)]; rfl
        · obtain ⟨l, hl, rfl⟩ := map_some hx
          obtain ⟨L, rfl, hL⟩ := k3 l hl
          exact ⟨_, rfl, hρ _ _ hL⟩
        · rw [k4 (by simpa using hn)]; rfl
      split at hc
      · simp only [Option.some.injEq] at hc
        exact key none none (by simp) (by simp) (by simp) (by simp) hc.symm
      · rename_i l
        obtain ⟨l', hl', rfl⟩ := map_some hc
        exact key (some l') none (fun _ hh => by cases hh; exact ⟨l, rfl, hl'⟩) (by simp) (by simp) (by simp) rfl
      · rename_i l
        obtain ⟨l', hl', rfl⟩ := map_some hc
        exact key none (some l') (by simp) (by simp) (fun _ hh => by cases hh; exact ⟨l, rfl, hl'⟩) (by simp) rfl
      · rename_i l m
        split at hc
        · rename_i l' m' hl' hm'
          simp only [Option.some.injEq] at hc
          exact key (some l') (some m') (fun _ hh => by cases hh; exact ⟨l, rfl, hl'⟩) (by simp) (fun _ hh => by cases hh; exact ⟨m, rfl, hm'⟩) (by simp) hc.symm
        · simp at hc
    · simp at hc
  · -- fieldAddr
    rename_i t x i
    split at hc
    · rename_i fs y hu hy
      split at hc
      · rename_i f hf
        split at hc
        · rename_i n ag hn ha
          split at hc
          · simp at hc
          · rename_i hn0
            split at hc
            · rename_i hk
              simp only [Option.some.injEq] at hc
              subst hc
              have hk' : ag = true ∨ n = 1 := by simpa using hk
              have hx := hρ _ _ hy
              simp only [opD] at h
              split at h
              · rename_i hh o hv
                simp only [Res.ok.injEq, true_and] at h
                obtain ⟨rfl, rfl⟩ := h
                rw [hv] at hx
                exact Pv.of ⟨fld_ptr hu hf hn hn0 hx, rfl⟩
              · rename_i l hv
                simp only [Res.ok.injEq, Bool.and_eq_true, Bool.or_eq_true, Bool.not_eq_true'] at h
                obtain ⟨⟨h5, h6⟩, rfl, rfl⟩ := h
                rw [hv] at hx
                obtain ⟨ad, g, hX, hs, _⟩ := hx.cptr_inv
                rw [hX] at hx
                refine Pv.of ⟨⟨_, ?_, cptr_sub (A := .nilFunc) ad hk' hx (Nat.le_of_ble_eq_true h5) hs fun hag => ?_⟩, rfl⟩
                · rw [hX]; exact fld_run hu hf hn hn0 ad
                · rcases h6 with h6 | h6
                  · rw [hag] at h6; cases h6
                  · cases hg : l.getD f.offset .undef <;> first | rfl | (rw [hg] at h6; simp [AV.isAgg] at h6)
              · simp at h
            · simp at hc
        · simp at hc
      · simp at hc
    · simp at hc
  · -- indexAddr
    rename_i t x i
    split at hc
    · rename_i el x' i' hu hx hi
      split at hc
      · rename_i es ag hs ha
        split at hc
        · simp at hc
        · rename_i h0
          split at hc
          · rename_i hk
            simp only [Option.some.injEq] at hc
            subst hc
            have hk' : ag = true ∨ es = 1 := by simpa using hk
            have hX := hρ _ _ hx
            have hI := hρ _ _ hi
            refine Pv.of ?_
            simp only [opD, idxA] at h
            split at h
            · rename_i k n hv
              rw [hv] at hI
              obtain hI := hI.int_inv
              simp only [hI]
              split at h
              · rename_i ee hh off len hvx
                simp only [Res.ok.injEq, Bool.and_eq_true, decide_eq_true_eq] at h
                obtain ⟨⟨⟨h1, h2⟩, h3⟩, rfl, rfl⟩ := h
                obtain rfl := Nat.eq_of_beq_eq_true h3
                rw [hvx] at hX
                exact ⟨idx_sl hu hs hX h1 h2, rfl⟩
              · rename_i k' l hvx
                simp only [Res.ok.injEq, Bool.and_eq_true, decide_eq_true_eq, Bool.not_eq_true'] at h
                obtain ⟨⟨⟨h1, h2⟩, h3⟩, rfl, rfl⟩ := h
                rw [hvx] at hX
                obtain rfl : es = 1 := hk'.resolve_left (by simp [h3])
                exact ⟨idx_ro hu hs rfl hX h1 h2 rfl (fun j hj => by obtain rfl := Nat.lt_one_iff.1 hj; simp [AV.flat]), rfl⟩
              · rename_i l hvx
                simp only [Res.ok.injEq, Bool.and_eq_true, decide_eq_true_eq, Bool.not_eq_true'] at h
                obtain ⟨⟨⟨h1, h2⟩, h3⟩, rfl, rfl⟩ := h
                rw [hvx] at hX
                obtain rfl : es = 1 := hk'.resolve_left (by simp [h3])
                exact ⟨idx_ro hu hs rfl hX h1 h2 rfl (fun j hj => by obtain rfl := Nat.lt_one_iff.1 hj; simp [AV.flat]), rfl⟩
              · rename_i ee l hvx
                simp only [Res.ok.injEq, Bool.and_eq_true, decide_eq_true_eq] at h
                obtain ⟨⟨⟨h1, h2⟩, h3⟩, rfl, rfl⟩ := h
                obtain rfl := Nat.eq_of_beq_eq_true h3
                rw [hvx] at hX
                refine ⟨idx_ro hu hs rfl hX h1 h2 rfl (fun j hj => ?_), rfl⟩
                rw [ro_div _ _ _ h0, ro_mod, Nat.div_eq_of_lt hj, Nat.mod_eq_of_lt hj, Nat.add_zero]
              · rename_i hq hvx
                cases hq
              · simp at h
            · simp at h
          · simp at hc
      · simp at hc
    · rename_i m el x' i' hu hx hi
      split at hc
      · rename_i es ag hs ha
        split at hc
        · simp at hc
        · rename_i h0
          split at hc
          · rename_i hk
            simp only [Option.some.injEq] at hc
            subst hc
            have hX := hρ _ _ hx
            have hI := hρ _ _ hi
            refine Pv.of ?_
            simp only [opD, idxA] at h
            split at h
            · rename_i k n hv
              rw [hv] at hI
              obtain hI := hI.int_inv
              simp only [hI]
              cases hvx : ρ x' <;> simp only [hvx, Res.ok.injEq, reduceCtorEq, Bool.and_eq_true, decide_eq_true_eq, and_true] at h
              obtain ⟨⟨h1, h2⟩, rfl, rfl⟩ := h
              rw [hvx] at hX
              exact ⟨idx_arr hu hs hX h1 h2, rfl⟩
            · simp at h
          · simp at hc
      · simp at hc
    · simp at hc
  · -- extract
    rename_i x i
    obtain ⟨y, hy, rfl⟩ := map_some hc
    have hx := hρ _ _ hy
    simp only [opD] at h
    cases hv : ρ y <;> simp only [hv, Res.ok.injEq, reduceCtorEq] at h
    rename_i l
    obtain ⟨h1, rfl, rfl⟩ := h
    rw [hv] at hx
    obtain ⟨cs, hX, hl, hg⟩ := hx.tup_inv
    rw [blt_eq, decide_eq_true_eq] at h1
    have hi' : i < cs.size := by omega
    refine Pv.of ⟨⟨cs[i], ?_, ?_⟩, rfl⟩
    · simp [Instr.extract, hX, hi']
    · have := hg i h1
      simpa [Array.getD, hi'] using this
  · -- call
    exact call_pure hc hE hρ h
  · simp at hc

end
end Go.Ab
