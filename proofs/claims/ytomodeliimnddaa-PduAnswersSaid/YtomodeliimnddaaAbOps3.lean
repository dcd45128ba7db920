/- The engine's soundness: conversions, lengths, structs put together. -/
import Derived.Test.YtomodeliimnddaaAbOps2
import Derived.Laws.BytesArg
set_option linter.unusedVariables false
set_option linter.unusedSimpArgs false
set_option autoImplicit false
namespace Go.Ab

section
variable {P : Program} {ι : Iota} {w : World} {M : Nat → Prop}

theorem convK_spec {s d : Nat} {k : ConvK} (h : convK P s d = some k) : (∃ k' k'', P.underlying s = some (.int k') ∧ P.underlying d = some (.int k'') ∧ k = .int k'') ∨ (P.underlying s = some .string ∧ P.underlying d = some .string ∧ k = .same) ∨
    (∃ e, P.underlying s = some (.slice e) ∧ P.underlying e = some (.int .u8) ∧ P.underlying d = some .string ∧ k = .toStr) := by
  unfold convK at h
  split at h
  · rename_i k' k'' h1 h2
    exact .inl ⟨k', k'', h1, h2, (Option.some.inj h).symm⟩
  · rename_i h1 h2
    exact .inr (.inl ⟨h1, h2, (Option.some.inj h).symm⟩)
  · rename_i e h1 h2
    split at h
    · rename_i h3
      exact .inr (.inr ⟨e, h1, h3, h2, (Option.some.inj h).symm⟩)
    · simp at h
  · simp at h

theorem conv_sound {s d : Nat} {k : ConvK} {x v : AV} {X : Value} {get : Nat → Option Chunk} {e : Eff} (hX : VRel ι w M x X) (hG : HGet ι w M get) (hk : convK P s d = some k) (h : convA get k x = .ok true v e) :
    (∃ V, (convert s d X).run P w = .ok V w ∧ VRel ι w M v V) ∧ e = .no := by
  rcases convK_spec hk with ⟨k', k'', h1, h2, rfl⟩ | ⟨h1, h2, rfl⟩ | ⟨el, h1, h2, h3, rfl⟩
  · cases x <;> simp only [convA, Res.ok.injEq, reduceCtorEq, true_and] at h
    obtain ⟨rfl, rfl⟩ := h
    obtain rfl := hX.int_inv
    exact ⟨⟨_, by simp [convert, run_underlying h1, run_underlying h2, Conv.intToInt], .g _ _ (.int _ _)⟩, rfl⟩
  · cases x <;> simp only [convA, Res.ok.injEq, reduceCtorEq, true_and] at h
    obtain ⟨rfl, rfl⟩ := h
    obtain rfl := hX.str_inv
    exact ⟨⟨_, by simp [convert, run_underlying h1, run_underlying h2], .g _ _ (.str _)⟩, rfl⟩
  · cases x <;> simp only [convA, reduceCtorEq] at h
    case nils =>
      simp only [Res.ok.injEq, true_and] at h
      obtain ⟨rfl, rfl⟩ := h
      obtain rfl := hX.nils_inv
      exact ⟨⟨_, run_convert_bytes_nil w s el h1 h2 0 0 d h3, .g _ _ (.str _)⟩, rfl⟩
    case roI k l =>
      cases k <;> simp only [Res.ok.injEq, reduceCtorEq, true_and] at h
      obtain ⟨rfl, rfl⟩ := h
      rcases hX.rov_inv rfl with ⟨hn, rfl⟩ | ⟨a, cap, g, rfl, hs, hM, hb, hn, he, hc, hg⟩
      · have : l = [] := List.eq_nil_of_length_eq_zero hn
        subst this
        exact ⟨⟨_, run_convert_bytes_nil w s el h1 h2 0 0 d h3, .g _ _ (.str _)⟩, rfl⟩
      · refine ⟨⟨_, ?_, .g _ _ (.str _)⟩, rfl⟩
        obtain ⟨b, o, sp⟩ := a
        simp only at hs
        subst hs
        refine run_convert_bytes_arg w s el h1 h2 b o l.length cap l rfl (fun i hi => ?_) d h3
        have h4 := hc i (by simpa using hi)
        have h5 := hg i (by simpa using hi)
        rw [h4]
        cases h5' : g i with
        | int k n =>
          rw [h5'] at h5
          have := VRel.int_inv (ι := ι) (.g _ _ h5)
          simp only [Value.int.injEq] at this
          rw [this.1, this.2]
        | _ =>
          rw [h5'] at h5
          have := VRel.int_inv (ι := ι) (.g _ _ h5)
          simp at this
    case sl es hh off n =>
      cases hg : get hh with
      | none => simp [hg] at h
      | some c =>
        cases c with
        | rowI k l =>
          cases k <;> simp only [hg, Res.ok.injEq, reduceCtorEq, decide_eq_true_eq] at h
          obtain ⟨hle, rfl, rfl⟩ := h
          rcases hX.sl_inv with ⟨b, base, o, cap, T, N, hi', ho, hl, hs, hn, rfl⟩ | ⟨hv, rfl, rfl⟩
          · rcases Nat.eq_zero_or_pos n with h0 | h0
            · subst h0
              refine ⟨⟨_, ?_, .g _ _ (.str _)⟩, rfl⟩
              have := run_convert_bytes_arg (P := P) w s el h1 h2 b o 0 cap [] rfl (fun i hi => by omega) d h3
              simpa [bytesStr, strOfNums] using this
            · rcases hG hh _ _ hg hi' with ⟨h5, _⟩ | ⟨b', base', h5, hC⟩
              · cases h5
              · simp only [Option.some.injEq, Prod.mk.injEq] at h5
                obtain ⟨rfl, rfl⟩ := h5
                have ho' : o = base + off := by
                  rcases ho with h | h
                  · exact h
                  · omega
                subst ho'
                refine ⟨⟨_, ?_, .g _ _ (.str _)⟩, rfl⟩
                refine run_convert_bytes_arg w s el h1 h2 b (base + off) n cap ((l.drop off).take n) (by simp; omega) (fun i hi => ?_) d h3
                obtain ⟨V, h6, h7⟩ := hC.cell (j := off + i) (by simp only [Chunk.size]; omega)
                have := h7.int_inv
                subst this
                rw [getD_drop_take _ _ _ _ _ hi]
                rwa [← Nat.add_assoc] at h6
          · have : ((l.drop off).take 0) = [] := by simp
            rw [this]
            exact ⟨⟨_, run_convert_bytes_nil w s el h1 h2 0 0 d h3, .g _ _ (.str _)⟩, rfl⟩
        | _ => simp [hg] at h

/-! ### lengths -/
theorem lenA_raw {v : Value} {n : Nat} (h : lenA (.raw v) = some n) : ∃ a c, v = .slice (some a) 0 c ∧ n = 0 := by
  cases v with
  | slice a m c =>
    cases a with
    | none => simp [lenA] at h
    | some a =>
      cases m with
      | zero => simp [lenA] at h; exact ⟨a, c, rfl, h.symm⟩
      | succ m => simp [lenA] at h
  | _ => simp [lenA] at h
theorem VRel.raw_inv {v V : Value} (hr : VRel ι w M (.raw v) V) : V = v := by
  cases hr with
  | g _ _ h => cases h with
    | raw => rfl
    | slice _ es n f a cap g hv => simp [AV.rov] at hv
    | sliceNil _ es f hv => simp [AV.rov] at hv
theorem lenA_rel {x : AV} {X : Value} {n : Nat} (hX : VRel ι w M x X) (h : lenA x = some n) : ∃ A c, X = .slice A n c := by
  by_cases hraw : ∃ v, x = .raw v
  · obtain ⟨v, rfl⟩ := hraw
    obtain ⟨a, c, rfl, rfl⟩ := lenA_raw h
    obtain rfl := hX.raw_inv
    exact ⟨_, _, rfl⟩
  cases x <;> first | (exfalso; exact hraw ⟨_, rfl⟩) | skip
  all_goals simp only [lenA, Option.some.injEq, reduceCtorEq] at h
  all_goals subst h
  case nils => obtain rfl := hX.nils_inv; exact ⟨_, _, rfl⟩
  case sl => rcases hX.sl_inv with ⟨_, _, _, cap, _, _, _, _, _, _, _, rfl⟩ | ⟨_, rfl, rfl⟩ <;> exact ⟨_, _, rfl⟩
  case roI => rcases hX.rov_inv rfl with ⟨hn, rfl⟩ | ⟨a, cap, g, rfl, _⟩ <;> first | exact ⟨_, _, rfl⟩ | (rw [hn]; exact ⟨_, _, rfl⟩)
  case roB => rcases hX.rov_inv rfl with ⟨hn, rfl⟩ | ⟨a, cap, g, rfl, _⟩ <;> first | exact ⟨_, _, rfl⟩ | (rw [hn]; exact ⟨_, _, rfl⟩)
  case ro => rcases hX.rov_inv rfl with ⟨hn, rfl⟩ | ⟨a, cap, g, rfl, _⟩ <;> first | exact ⟨_, _, rfl⟩ | (rw [hn]; exact ⟨_, _, rfl⟩)
theorem len_run_slice {t e : Nat} {ts : Array TypeId} {ty : TypeId} (h0 : (ts[0]?).bind P.underlying = some (.slice e)) (A : Option Addr) (n c : Nat) : (Builtin.len_ ts ty #[.slice A n c]).run P w = .ok (.int .i64 n) w := by
  cases ht : ts[0]? with
  | none => simp [ht] at h0
  | some t => simp only [ht, Option.bind_some] at h0; simp [Builtin.len_, ht, run_underlying h0, goInt]
theorem len_run_str {ts : Array TypeId} {ty : TypeId} (h0 : (ts[0]?).bind P.underlying = some .string) (s : ByteArray) : (Builtin.len_ ts ty #[.string s]).run P w = .ok (.int .i64 s.size) w := by
  cases ht : ts[0]? with
  | none => simp [ht] at h0
  | some t => simp only [ht, Option.bind_some] at h0; simp [Builtin.len_, ht, run_underlying h0, goInt]

/-! ### a struct, a row put together -/
theorem putL_length : ∀ (vs z : List AV) (off : Nat), (putL z off vs).length = z.length
  | [], z, off => rfl
  | v :: r, z, off => by rw [putL, putL_length r]; simp
theorem putL_get : ∀ (vs z : List AV) (off j : Nat), off + vs.length ≤ z.length → (putL z off vs).getD j .undef = if off ≤ j ∧ j < off + vs.length then vs.getD (j - off) .undef else z.getD j .undef
  | [], z, off, j, h => by simp [putL]; omega
  | v :: r, z, off, j, h => by
    simp only [List.length_cons] at h
    rw [putL, putL_get r _ (off + 1) j (by simp; omega)]
    simp only [List.length_cons]
    by_cases h1 : off + 1 ≤ j ∧ j < off + 1 + r.length
    · rw [if_pos h1, if_pos (by omega), show j - off = (j - (off + 1)) + 1 by omega]
      simp [List.getD_eq_getElem?_getD]
    · rw [if_neg h1]
      by_cases h2 : j = off
      · subst h2
        have hlt : j < z.length := by omega
        rw [if_pos (by omega)]
        simp [List.getD_eq_getElem?_getD, List.getElem?_set, hlt]
      · rw [if_neg (by omega)]
        have : off ≠ j := fun e => h2 e.symm
        simp [List.getD_eq_getElem?_getD, List.getElem?_set, this]

/-- a list of cells and what lies there -/
def LRel (ι : Iota) (w : World) (M : Nat → Prop) (l : List AV) (cs : Array Value) : Prop := cs.size = l.length ∧ ∀ j, j < l.length → VRel ι w M (l.getD j .undef) (cs.getD j default)

theorem fold_put (vs : Array Value) (off : Nat) (cs : Array Value) (h : off + vs.size ≤ cs.size) :
    (vs.zipIdx.foldl (fun cs (p : Value × Nat) => cs.setIfInBounds (off + p.2) p.1) cs).size = cs.size ∧
      ∀ j, (vs.zipIdx.foldl (fun cs (p : Value × Nat) => cs.setIfInBounds (off + p.2) p.1) cs).getD j default = if off ≤ j ∧ j < off + vs.size then vs.getD (j - off) default else cs.getD j default := by
  have key : ∀ (l : List Value) (k : Nat) (cs : Array Value), off + k + l.length ≤ cs.size →
      ((l.zipIdx k).foldl (fun cs (p : Value × Nat) => cs.setIfInBounds (off + p.2) p.1) cs).size = cs.size ∧
      ∀ j, ((l.zipIdx k).foldl (fun cs (p : Value × Nat) => cs.setIfInBounds (off + p.2) p.1) cs).getD j default = if off + k ≤ j ∧ j < off + k + l.length then l.getD (j - off - k) default else cs.getD j default := by
    intro l
    induction l with
    | nil => intro k cs h; simp; omega
    | cons v r ih =>
      intro k cs h
      simp only [List.length_cons] at h
      simp only [List.zipIdx_cons, List.foldl_cons, List.length_cons]
      obtain ⟨h1, h2⟩ := ih (k + 1) (cs.setIfInBounds (off + k) v) (by simp; omega)
      refine ⟨by rw [h1]; simp, fun j => ?_⟩
      rw [h2]
      by_cases h3 : off + (k + 1) ≤ j ∧ j < off + (k + 1) + r.length
      · rw [if_pos h3, if_pos (by omega), show j - off - k = (j - off - (k + 1)) + 1 by omega]
        simp [List.getD_eq_getElem?_getD]
      · rw [if_neg h3]
        by_cases h4 : j = off + k
        · subst h4
          rw [if_pos (by omega)]
          simp [Array.getD, List.getD_eq_getElem?_getD]
          omega
        · rw [if_neg (by omega)]
          have h5 : off + k ≠ j := fun e => h4 e.symm
          simp only [Array.getD_eq_getD_getElem?, Array.getElem?_setIfInBounds_ne h5]
  have := key vs.toList 0 cs (by simpa using h)
  simp only [Nat.add_zero, Array.length_toList, Nat.sub_zero] at this
  rw [← Array.foldl_toList]
  simp only [Array.toList_zipIdx]
  refine ⟨this.1, fun j => ?_⟩
  rw [this.2 j]
  simp [Array.getD_eq_getD_getElem?, List.getD_eq_getElem?_getD]

/-- the machine's parts and ours -/
inductive Parts (place : Nat → Option (Nat × Nat)) : List (Nat × Operand) → List (Nat × Nat × AOpd) → Prop
  | nil : Parts place [] []
  | cons {i : Nat} {x : Operand} {off n : Nat} {y : AOpd} {r : List (Nat × Operand)} {l : List (Nat × Nat × AOpd)} (h : opd x = some y) (hp : place i = some (off, n)) (t : Parts place r l) : Parts place ((i, x) :: r) ((off, n, y) :: l)

theorem fill_sound {ρ : AOpd → AV} {η : Operand → Value} {place : Nat → Option (Nat × Nat)} (hρ : ORel ι w M ρ η) {ps : List (Nat × Operand)} {l : List (Nat × Nat × AOpd)} (hp : Parts place ps l) :
    ∀ (z z' : List AV) (cs : Array Value), LRel ι w M z cs → fillA ρ z l = some z' → ∃ cs', Instr.fill place cs (ps.map fun p => (p.1, η p.2)) = some cs' ∧ LRel ι w M z' cs' := by
  induction hp with
  | nil =>
    intro z z' cs hz h
    simp only [fillA, Option.some.injEq] at h
    subst h
    exact ⟨cs, by simp [Instr.fill], hz⟩
  | @cons i x off n y r l hx hpl ht ih =>
    intro z z' cs hz h
    have hr := hρ x y hx
    have hv : ∃ v, ρ y = v ∧ (v.one = true ∨ v.isAgg = true) ∧ (bif Nat.beq v.flat.length n && Nat.ble (off + n) z.length then fillA ρ (putL z off v.flat) l else none) = some z' := by
      refine ⟨ρ y, rfl, ?_⟩
      simp only [fillA] at h
      cases hy : ρ y <;> simp only [hy, reduceCtorEq] at h <;> first | exact ⟨.inl rfl, h⟩ | exact ⟨.inr rfl, h⟩
    obtain ⟨v, hv1, hv2, hv3⟩ := hv
    cases hc : (Nat.beq v.flat.length n && Nat.ble (off + n) z.length) with
    | false => simp [hc] at hv3
    | true =>
      simp only [hc, cond_true] at hv3
      simp only [Bool.and_eq_true] at hc
      have hn : v.flat.length = n := by simpa using hc.1
      have hle : off + n ≤ z.length := by simpa using hc.2
      rw [hv1] at hr
      obtain ⟨hs, hg⟩ := hr.cells hv2
      have hfp := fold_put (η x).cells off cs (by rw [hs, hz.1]; omega)
      obtain ⟨cs', h1, h2⟩ := ih (putL z off v.flat) z' ((η x).cells.zipIdx.foldl (fun cs (p : Value × Nat) => cs.setIfInBounds (off + p.2) p.1) cs)
        ⟨by rw [hfp.1, putL_length, hz.1], fun j hj => by
          rw [putL_length] at hj
          rw [hfp.2, putL_get _ _ _ _ (by omega), hs]
          by_cases hb : off ≤ j ∧ j < off + v.flat.length
          · rw [if_pos hb, if_pos hb]
            exact hg _ (by omega)
          · rw [if_neg hb, if_neg hb]
            exact hz.2 j hj⟩ hv3
      refine ⟨cs', ?_, h2⟩
      have hnot : ¬ ((η x).cells.size ≠ n ∨ off + (η x).cells.size > cs.size) := by rw [hs, hz.1]; omega
      simp only [List.map_cons, Instr.fill, hpl]
      rw [if_neg (by simpa using hnot)]
      exact h1

/-! ### constants, zeros -/
theorem blt_eq (a b : Nat) : Nat.blt a b = decide (a < b) := by
  rw [Bool.eq_iff_iff, decide_eq_true_eq]
  exact iff_of_eq Nat.ble_eq
theorem ofV_rel {V : Value} {v : AV} (h : ofV V = some v) : VRel ι w M v V := by
  unfold ofV at h
  split at h <;> simp only [Option.some.injEq, reduceCtorEq] at h <;> subst h
  · exact .g _ _ (.bool _)
  · exact .g _ _ (.int _ _)
  · exact .g _ _ (.str _)
  · exact .g _ _ .nilp
  · exact .g _ _ .nils
  · exact .g _ _ .nilm
  · exact .g _ _ .nilf
  · exact .g _ _ .nili
theorem sameC_rel {v a b : AV} {V : Value} (hb : ofV V = some v) (h : sameC v b = true) : VRel ι w M b V := by
  have hv := ofV_rel (ι := ι) (w := w) (M := M) hb
  cases v <;> cases b <;> simp only [sameC, Bool.false_eq_true, beq_iff_eq, Bool.and_eq_true, decide_eq_true_eq] at h
  case bool.bool => subst h; exact hv
  case int.int => obtain ⟨rfl, rfl⟩ := h; exact hv
  all_goals exact hv
theorem runs_rel : ∀ (l : List Value) (z : List (Nat × AV)), runs l = some z → rlLen z = l.length ∧ ∀ j, j < l.length → VRel ι w M (rlGet z j) (l.getD j default)
  | [], z, h => by
    simp only [runs, Option.some.injEq] at h
    subst h
    exact ⟨rfl, fun j hj => by simp at hj⟩
  | v :: r, z, h => by
    simp only [runs] at h
    cases ho : ofV v with
    | none => simp [ho] at h
    | some a =>
      cases hr : runs r with
      | none => simp [ho, hr] at h
      | some q =>
        obtain ⟨h1, h2⟩ := runs_rel r q hr
        cases q with
        | nil =>
          simp only [ho, hr, Option.some.injEq] at h
          subst h
          simp only [rlLen] at h1
          refine ⟨by simp only [rlLen, List.length_cons]; omega, fun j hj => ?_⟩
          have : j = 0 := by simp only [List.length_cons] at hj; omega
          subst this
          simpa [rlGet, blt_eq] using ofV_rel ho
        | cons p q =>
          simp only [ho, hr] at h
          split at h
          · rename_i hs
            simp only [Option.some.injEq] at h
            subst h
            simp only [rlLen] at h1
            refine ⟨by simp only [rlLen, List.length_cons]; omega, fun j hj => ?_⟩
            cases j with
            | zero =>
              have : Nat.blt 0 (p.1 + 1) = true := by simp [blt_eq]
              simp only [rlGet, this, cond_true]
              exact sameC_rel (a := a) ho hs
            | succ j =>
              have h3 := h2 j (by simpa using hj)
              simp only [rlGet] at h3 ⊢
              have h4 : Nat.blt (j + 1) (p.1 + 1) = Nat.blt j p.1 := by simp [blt_eq]
              rw [h4, Nat.add_sub_add_right]
              simpa using h3
          · simp only [Option.some.injEq] at h
            subst h
            simp only [rlLen] at h1
            refine ⟨by simp only [rlLen, List.length_cons]; omega, fun j hj => ?_⟩
            cases j with
            | zero => simpa [rlGet, blt_eq] using ofV_rel ho
            | succ j =>
              have h3 := h2 j (by simpa using hj)
              have h4 : Nat.blt (j + 1) 1 = false := by simp [blt_eq]
              simp only [rlGet, h4, cond_false, Nat.add_sub_cancel]
              simpa [rlGet] using h3
theorem rlList_get : ∀ (z : List (Nat × AV)) (j : Nat), (rlList z).getD j .undef = rlGet z j
  | [], j => by simp [rlList, rlGet]
  | p :: r, j => by
    simp only [rlList, rlGet]
    cases hb : Nat.blt j p.1 with
    | true =>
      have : j < p.1 := by simpa [blt_eq] using hb
      simp [List.getD_eq_getElem?_getD, List.getElem?_append, this]
    | false =>
      have : ¬ j < p.1 := by simpa [blt_eq] using hb
      rw [cond_false, ← rlList_get r (j - p.1)]
      simp [List.getD_eq_getElem?_getD, List.getElem?_append, this]
theorem rlList_length : ∀ (z : List (Nat × AV)), (rlList z).length = rlLen z
  | [] => rfl
  | p :: r => by simp [rlList, rlLen, rlList_length r]
theorem zrl_run {t : Nat} {z : List (Nat × AV)} (h : zrl P t = some z) : ∃ V, (zeroValue t).run P w = .ok V w ∧ LRel ι w M (rlList z) V.cells ∧ V.cells.size = rlLen z ∧ ∀ j, j < rlLen z → VRel ι w M (rlGet z j) (V.cells.getD j default) := by
  unfold zrl at h
  cases hi : P.info? t with
  | none => simp [hi] at h
  | some i =>
    cases hz : i.zero with
    | none => simp [hi, hz] at h
    | some V =>
      simp only [hi, hz] at h
      obtain ⟨h1, h2⟩ := runs_rel (ι := ι) (w := w) (M := M) _ _ h
      have h3 : ∀ j, j < rlLen z → VRel ι w M (rlGet z j) (V.cells.getD j default) := fun j hj => by
        have := h2 j (by omega)
        simpa [List.getD_eq_getElem?_getD, Array.getD_eq_getD_getElem?] using this
      simp only [Array.length_toList] at h1
      exact ⟨V, by simp [zeroValue, typeInfo, hi, hz], ⟨by rw [rlList_length]; omega, fun j hj => by rw [rlList_length] at hj; rw [rlList_get]; exact h3 j hj⟩, by omega, h3⟩

theorem mapM_run {α β : Type} (g : α → Sem β) (h : α → β) : ∀ l : List α, (∀ x ∈ l, (g x).run P w = .ok (h x) w) → (l.mapM g).run P w = .ok (l.map h) w
  | [], _ => by simp
  | x :: r, hx => by
    rw [List.mapM_cons, Sem.run_bind, hx x (by simp), Result.andThen_ok, Sem.run_bind, mapM_run g h r (fun y hy => hx y (by simp [hy])), Result.andThen_ok]
    rfl

theorem structParts_spec {fs : Array Field} {places : Array (Nat × Nat)} (hpl : ∀ (i : Nat) (f : Field), fs[i]? = some f → ∀ n, sizeP P f.type = some n → places[i]? = some (f.offset, n)) :
    ∀ (ps : List (Nat × Operand)) (l : List (Nat × Nat × AOpd)), structParts P fs ps = some l → Parts (fun i => places[i]?) ps l
  | [], l, h => by simp only [structParts, Option.some.injEq] at h; subst h; exact .nil
  | p :: r, l, h => by
    simp only [structParts] at h
    cases hf : fs[p.1]? with
    | none => simp [hf] at h
    | some f =>
      cases hx : opd p.2 with
      | none => simp [hf, hx] at h
      | some x =>
        cases hr : structParts P fs r with
        | none => simp [hf, hx, hr] at h
        | some q =>
          cases hn : sizeP P f.type with
          | none => simp [hf, hx, hr, hn] at h
          | some n =>
            simp only [hf, hx, hr, hn, Option.some.injEq] at h
            subst h
            exact .cons hx (hpl _ _ hf _ hn) (structParts_spec hpl r q hr)
theorem rowParts_spec (es : Nat) : ∀ (ps : List (Nat × Operand)) (l : List (Nat × Nat × AOpd)), rowParts es ps = some l → Parts (fun i => some (i * es, es)) ps l
  | [], l, h => by simp only [rowParts, Option.some.injEq] at h; subst h; exact .nil
  | p :: r, l, h => by
    simp only [rowParts] at h
    cases hx : opd p.2 with
    | none => simp [hx] at h
    | some x =>
      cases hr : rowParts es r with
      | none => simp [hx, hr] at h
      | some q =>
        simp only [hx, hr, Option.some.injEq] at h
        subst h
        exact .cons hx rfl (rowParts_spec es r q hr)

theorem build_sound {t : Nat} {ps : Array (Nat × Operand)} {z : List (Nat × AV)} {l : List (Nat × Nat × AOpd)} {ρ : AOpd → AV} {η : Operand → Value} {z' : List AV} (hρ : ORel ι w M ρ η) (hz : zrl P t = some z)
    (ht : (∃ fs, P.underlying t = some (.struct fs) ∧ fs.toList.all (fun f => (sizeP P f.type).isSome) = true ∧ structParts P fs ps.toList = some l) ∨ (∃ n e es, P.underlying t = some (.array n e) ∧ sizeP P e = some es ∧ rowParts es ps.toList = some l))
    (h : fillA ρ (rlList z) l = some z') : ∃ V, (Instr.build t (ps.map fun p => (p.1, η p.2))).run P w = .ok V w ∧ VRel ι w M (.agg z') V := by
  obtain ⟨Z, hZ, hL, _⟩ := zrl_run (ι := ι) (M := M) (w := w) hz
  rcases ht with ⟨fs, hu, hall, hp⟩ | ⟨n, e, es, hu, hs, hp⟩
  · let size : Nat → Nat := fun t => (sizeP P t).getD 0
    let places : Array (Nat × Nat) := fs.map fun f => (f.offset, size f.type)
    have hm : (fs.mapM fun f => (do pure (f.offset, ← sizeOf f.type) : Sem (Nat × Nat))).run P w = .ok places w := by
      have h1 := mapM_run (P := P) (w := w) (fun f : Field => (do pure (f.offset, ← sizeOf f.type) : Sem (Nat × Nat))) (fun f => (f.offset, size f.type)) fs.toList (fun f hf => by
        have : (sizeP P f.type).isSome = true := by simpa using (List.all_eq_true.1 hall) f hf
        obtain ⟨n, hn⟩ := Option.isSome_iff_exists.1 this
        rw [Sem.run_bind, sizeP_run hn, Result.andThen_ok]
        simp [size, hn])
      rw [Array.mapM_eq_mapM_toList, Sem.run_map, h1, Result.andThen_ok]
      simp only [places, Result.ok.injEq, and_true]
      apply Array.ext'
      simp
    obtain ⟨cs', h1, h2⟩ := fill_sound hρ (structParts_spec (places := places) (fun i f hf n hn => by simp [places, hf, size, hn]) _ _ hp) (rlList z) z' Z.cells hL h
    refine ⟨.agg cs', ?_, .agg _ _ h2.1 h2.2⟩
    simp only [Instr.build, Sem.run_bind, hZ, Result.andThen_ok, run_underlying hu, hm, Array.toList_map]
    rw [h1]
    rfl
  · obtain ⟨cs', h1, h2⟩ := fill_sound hρ (rowParts_spec es _ _ hp) (rlList z) z' Z.cells hL h
    refine ⟨.agg cs', ?_, .agg _ _ h2.1 h2.2⟩
    simp only [Instr.build, Sem.run_bind, hZ, Result.andThen_ok, run_underlying hu, sizeP_run hs, Array.toList_map]
    rw [h1]
    rfl

end
end Go.Ab
