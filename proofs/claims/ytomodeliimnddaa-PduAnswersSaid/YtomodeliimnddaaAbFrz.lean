/- The engine: rows that nobody writes any more become values. -/
import Derived.Test.YtomodeliimnddaaAbTr
set_option linter.unusedVariables false
set_option linter.unusedSimpArgs false
set_option autoImplicit false
namespace Go.Ab

/-- a slice of a row, as a value -/
def frzS (c : Chunk) (es off len : Nat) : Option AV :=
  match c with
  | .rowI k l => bif Nat.beq es 1 && Nat.ble (off + len) l.length then some (.roI k ((l.drop off).take len)) else none
  | .rowB l => bif Nat.beq es 1 && Nat.ble (off + len) l.length then some (.roB ((l.drop off).take len)) else none
  | _ => none
mutual
def AV.frz (h : Nat) (c : Chunk) : AV → AV
  | .sl e h' o n => bif Nat.beq h' h then (match frzS c e o n with
    | some v => v
    | none => .sl e h' o n) else .sl e h' o n
  | .agg l => .agg (frzL h c l)
  | .tup l => .tup (frzL h c l)
  | .iface t v => .iface t (AV.frz h c v)
  | .fn f l => .fn f (frzL h c l)
  | .ptr h o => .ptr h o
  | .undef => .undef
  | .bool b => .bool b
  | .int k n => .int k n
  | .str s => .str s
  | .nilp => .nilp
  | .nils => .nils
  | .nili => .nili
  | .nilf => .nilf
  | .nilm => .nilm
  | .cptr v => .cptr v
  | .roI k l => .roI k l
  | .roB l => .roB l
  | .ro e l => .ro e l
  | .raw v => .raw v
termination_by structural v => v
def frzL (h : Nat) (c : Chunk) : List AV → List AV
  | [] => []
  | v :: r => AV.frz h c v :: frzL h c r
termination_by structural l => l
end
def St.drop (s : St) (h : Nat) : St := ⟨s.next, (h, none) :: s.m⟩

section
variable {P : Program} {ι : Iota} {s : St} {w : World} {M : Nat → Prop}

/-- not to be written any more -/
def subM (ι : Iota) (h : Nat) (M : Nat → Prop) : Nat → Prop := fun b => M b ∧ ∀ base, ι h ≠ some (some (b, base))
theorem Imm.subM (h : Nat) : Imm w M w (subM ι h M) := ⟨Nat.le_refl _, fun b _ hb => ⟨fun k => hb k.1, rfl⟩, fun _ _ => rfl⟩

theorem frzS_rel {c : Chunk} {h e o n : Nat} {v : AV} {V : Value} (hR : Rep ι s w M) (hg : s.get h = some c) (hv : frzS c e o n = some v) (hr : VRel ι w M (.sl e h o n) V) : VRel ι w (subM ι h M) v V := by
  have key : ∀ (f : Nat → AV) (nl : Nat), e = 1 → v.rov = some (1, n, f) → (∀ i, v.elen i = 1) → (∀ j, j < n → f j = c.get (o + j)) → (∀ j, ∀ W, VRel ι w M (c.get j) W → GRel w (subM ι h M) (c.get j) W) → o + n ≤ c.size → VRel ι w (subM ι h M) v V := by
    intro f nl he hrov hel hf hG hle
    subst he
    rcases hr.sl_inv with ⟨b, base, oo, cap, T, N, hi, ho, hl, hs, hnn, rfl⟩ | ⟨hi, rfl, rfl⟩
    · rcases hR.own h c hg with ⟨k1, _⟩ | ⟨b', base', k1, k2, hC⟩
      · rw [hi] at k1; cases k1
      · rw [hi] at k1
        simp only [Option.some.injEq, Prod.mk.injEq] at k1
        obtain ⟨rfl, rfl⟩ := k1
        have hcc : ∀ j, j < n → ∃ W, w.cell? ⟨b, oo + j, none⟩ = some W ∧ VRel ι w M (c.get (o + j)) W := fun j hj => by
          have ho' : oo = base + o := by
            rcases ho with h | h
            · exact h
            · omega
          subst ho'
          have := hC.cell (j := o + j) (by omega)
          rwa [← Nat.add_assoc] at this
        let g : Nat → Value := fun j => if hj : j < n then (hcc j hj).choose else default
        refine .g _ _ (.slice v 1 n f ⟨b, oo, none⟩ cap g hrov rfl (fun hm => hm.2 base hi) (hR.lt b k2) hl (fun i _ => hel i) (fun j hj => ?_) fun j hj => ?_)
        · have hj : j < n := by omega
          simp only [g, hj, dif_pos]; exact (hcc j hj).choose_spec.1
        · have hj : j < n := by omega
          rw [hf j hj]
          simp only [g, hj, dif_pos]
          exact hG _ _ (hcc j hj).choose_spec.2
    · exact .g _ _ (.sliceNil v 1 f hrov)
  cases c with
  | rowI k l =>
    simp only [frzS] at hv
    cases hb : (Nat.beq e 1 && Nat.ble (o + n) l.length) with
    | false => simp [hb] at hv
    | true =>
      simp only [hb, cond_true, Option.some.injEq] at hv
      simp only [Bool.and_eq_true] at hb
      subst hv
      have hle := Nat.le_of_ble_eq_true hb.2
      refine key (fun j => .int k (((l.drop o).take n).getD j 0)) 0 (Nat.eq_of_beq_eq_true hb.1) ?_ (fun _ => rfl) (fun j hj => ?_) (fun j W hW => ?_) hle
      · simp only [AV.rov, List.length_take, List.length_drop]
        congr 3
        omega
      · simp only [Chunk.get]
        rw [getD_drop_take _ _ _ _ _ hj]
      · simp only [Chunk.get] at hW ⊢
        rw [hW.int_inv]
        exact .int _ _
  | rowB l =>
    simp only [frzS] at hv
    cases hb : (Nat.beq e 1 && Nat.ble (o + n) l.length) with
    | false => simp [hb] at hv
    | true =>
      simp only [hb, cond_true, Option.some.injEq] at hv
      simp only [Bool.and_eq_true] at hb
      subst hv
      have hle := Nat.le_of_ble_eq_true hb.2
      refine key (fun j => .bool (((l.drop o).take n).getD j false)) 0 (Nat.eq_of_beq_eq_true hb.1) ?_ (fun _ => rfl) (fun j hj => ?_) (fun j W hW => ?_) hle
      · simp only [AV.rov, List.length_take, List.length_drop]
        congr 3
        omega
      · simp only [Chunk.get]
        rw [getD_drop_take _ _ _ _ _ hj]
      · simp only [Chunk.get] at hW ⊢
        rw [hW.bool_inv]
        exact .bool _
  | obj l => simp [frzS] at hv
  | fn m f => simp [frzS] at hv

theorem frzL_length (h : Nat) (c : Chunk) : ∀ l : List AV, (frzL h c l).length = l.length
  | [] => rfl
  | v :: r => by simp [frzL, frzL_length h c r]
theorem frzL_getD (h : Nat) (c : Chunk) : ∀ (l : List AV) (j : Nat), j < l.length → (frzL h c l).getD j .undef = (l.getD j .undef).frz h c
  | [], j, hj => by simp at hj
  | v :: r, 0, hj => by simp [frzL]
  | v :: r, j + 1, hj => by simpa [frzL] using frzL_getD h c r j (by simpa using hj)
mutual
theorem frz_rel {c : Chunk} {h : Nat} (hR : Rep ι s w M) (hg : s.get h = some c) : ∀ (v : AV) (V : Value), VRel ι w M v V → VRel ι w (subM ι h M) (v.frz h c) V
  | .sl e h' o n, V, hr => by
    simp only [AV.frz]
    cases hb : Nat.beq h' h with
    | false => exact hr.mono (Imm.subM h) (fun _ _ h => h)
    | true =>
      have := Nat.eq_of_beq_eq_true hb
      subst this
      simp only [cond_true]
      cases hf : frzS c e o n with
      | none => exact hr.mono (Imm.subM h') (fun _ _ h => h)
      | some v => exact frzS_rel hR hg hf hr
  | .agg l, V, hr => by
    obtain ⟨cs, rfl, h1, h2⟩ := hr.agg_inv
    exact .agg _ cs (by rw [frzL_length]; exact h1) fun j hj => by
      rw [frzL_length] at hj
      rw [frzL_getD h c l j hj]
      exact frzL_rel hR hg l j hj _ (h2 j hj)
  | .tup l, V, hr => by
    obtain ⟨cs, rfl, h1, h2⟩ := hr.tup_inv
    exact .tup _ cs (by rw [frzL_length]; exact h1) fun j hj => by
      rw [frzL_length] at hj
      rw [frzL_getD h c l j hj]
      exact frzL_rel hR hg l j hj _ (h2 j hj)
  | .iface t v, V, hr => by
    obtain ⟨V', rfl, h1⟩ := hr.iface_inv
    exact .iface t _ V' (frz_rel hR hg v V' h1)
  | .fn f l, V, hr => by
    obtain ⟨cs, rfl, h1, h2⟩ := hr.fn_inv
    exact .fn f _ cs (by rw [frzL_length]; exact h1) fun j hj => by
      rw [frzL_length] at hj
      rw [frzL_getD h c l j hj]
      exact frzL_rel hR hg l j hj _ (h2 j hj)
  | .ptr h' o, V, hr => hr.mono (Imm.subM h) (fun _ _ h => h)
  | .undef, V, hr => .undef V
  | .bool b, V, hr => hr.mono (Imm.subM h) (fun _ _ h => h)
  | .int k m, V, hr => hr.mono (Imm.subM h) (fun _ _ h => h)
  | .str x, V, hr => hr.mono (Imm.subM h) (fun _ _ h => h)
  | .nilp, V, hr => hr.mono (Imm.subM h) (fun _ _ h => h)
  | .nils, V, hr => hr.mono (Imm.subM h) (fun _ _ h => h)
  | .nili, V, hr => hr.mono (Imm.subM h) (fun _ _ h => h)
  | .nilf, V, hr => hr.mono (Imm.subM h) (fun _ _ h => h)
  | .nilm, V, hr => hr.mono (Imm.subM h) (fun _ _ h => h)
  | .cptr v, V, hr => hr.mono (Imm.subM h) (fun _ _ h => h)
  | .roI k l, V, hr => hr.mono (Imm.subM h) (fun _ _ h => h)
  | .roB l, V, hr => hr.mono (Imm.subM h) (fun _ _ h => h)
  | .ro e l, V, hr => hr.mono (Imm.subM h) (fun _ _ h => h)
  | .raw x, V, hr => hr.mono (Imm.subM h) (fun _ _ h => h)
termination_by structural v => v
theorem frzL_rel {c : Chunk} {h : Nat} (hR : Rep ι s w M) (hg : s.get h = some c) : ∀ (l : List AV) (j : Nat), j < l.length → ∀ V, VRel ι w M (l.getD j .undef) V → VRel ι w (subM ι h M) ((l.getD j .undef).frz h c) V
  | [], j, hj, V, hr => by simp at hj
  | v :: r, 0, hj, V, hr => frz_rel hR hg v V (by simpa using hr)
  | v :: r, j + 1, hj, V, hr => by simpa using frzL_rel hR hg r j (by simpa using hj) V (by simpa using hr)
termination_by structural l => l
end

theorem drop_get {h k : Nat} {c : Chunk} (hc : (s.drop h).get k = some c) : k ≠ h ∧ s.get k = some c := by
  unfold St.drop at hc
  rw [St.get_cons] at hc
  split at hc
  · cases hc
  · rename_i hne; exact ⟨fun e => hne e.symm, hc⟩
theorem Rep.freeze {c : Chunk} {h : Nat} (hR : Rep ι s w M) (hg : s.get h = some c) : Rep ι (s.drop h) w (subM ι h M) := by
  refine ⟨hR.fresh, fun k c' hc => ?_, fun k k' c1 c2 p p' hc hc' hne hp hp' => hR.inj k k' c1 c2 p p' (drop_get hc).2 (drop_get hc').2 hne hp hp', fun b hb => hR.lt b hb.1⟩
  obtain ⟨hne, hc'⟩ := drop_get hc
  rcases hR.own k c' hc' with k1 | ⟨b, base, k1, k2, k3⟩
  · exact .inl k1
  · exact .inr ⟨b, base, k1, ⟨k2, fun base' hb => hR.inj k h c' c _ _ hc' hg hne k1 hb rfl⟩, k3.mono (Imm.subM h) (fun _ _ h => h) rfl⟩
theorem Go.freeze {c : Chunk} {h : Nat} (hg : s.get h = some c) {n0 : Nat} (hn : n0 ≤ s.next) : Go n0 ι s w M ι (s.drop h) w (subM ι h M) :=
  ⟨Nat.le_refl _, rfl, rfl, rfl, fun _ _ _ => rfl, fun _ _ => rfl, fun _ _ hm => hm.1, fun b hm ho => ⟨hm, fun base hb => ho ⟨h, c, base, hg, hb⟩⟩, fun b _ ho => by
    obtain ⟨k, c', base, k1, k2⟩ := ho
    exact ⟨k, c', base, (drop_get k1).2, k2⟩, hn, fun _ _ => rfl⟩

/-- a row given to a call that nobody writes from then on -/
theorem Tr.lend {f : Nat} {args : List AV} {s : St} {K : AV → St → Prop} (h : Nat) {c : Chunk} (hg : s.get h = some c) (ht : Tr P f (frzL h c args) (s.drop h) K) : Tr P f args s K := by
  unfold Tr at *
  obtain ⟨hb, ht⟩ := ht
  refine ⟨hb, fun ι w M Vs hR hV => ?_⟩
  have hV' : VRels ι w (subM ι h M) (frzL h c args) Vs := ⟨by rw [frzL_length]; exact hV.1, fun j hj => by
    rw [frzL_length] at hj
    rw [frzL_getD h c args j hj]
    exact frzL_rel hR hg args j hj _ (hV.2 j hj)⟩
  refine Calls.mono (ht ι w _ Vs (hR.freeze hg) hV') fun en w' he => ?_
  obtain ⟨V, ι', M', v, s', rfl, hK, h1, h2, h3⟩ := he
  exact ⟨V, ι', M', v, s', rfl, hK, h1, h2, (Go.freeze hg (Nat.le_refl _)).trans h3 hR.lt⟩

/-- what a result is as a value: rows frozen, one by one -/
inductive Frz : AV → St → AV → St → Prop
  | refl (v : AV) (s : St) : Frz v s v s
  | step (v : AV) (s : St) (h : Nat) (c : Chunk) (v' : AV) (s' : St) (hg : s.get h = some c) (ht : Frz (v.frz h c) (s.drop h) v' s') : Frz v s v' s'
theorem Frz.sound {v v' : AV} {s s' : St} (hf : Frz v s v' s') : ∀ {ι : Iota} {w : World} {M : Nat → Prop} {V : Value}, VRel ι w M v V → Rep ι s w M → ∃ M', VRel ι w M' v' V ∧ Rep ι s' w M' ∧ ∀ n0, n0 ≤ s.next → Go n0 ι s w M ι s' w M' := by
  induction hf with
  | refl v s => intro ι w M V hv hR; exact ⟨M, hv, hR, fun n0 hn => Go.refl _ _ _ _ hn⟩
  | step v s h c v' s' hg ht ih =>
    intro ι w M V hv hR
    obtain ⟨M', h1, h2, h3⟩ := ih (frz_rel hR hg v V hv) (hR.freeze hg)
    exact ⟨M', h1, h2, fun n0 hn => (Go.freeze hg hn).trans (h3 n0 hn) hR.lt⟩
theorem Tr.freeze {f : Nat} {args : List AV} {s : St} {K K' : AV → St → Prop} (ht : Tr P f args s K) (hk : ∀ v s', K v s' → ∃ v2 s2, Frz v s' v2 s2 ∧ K' v2 s2) : Tr P f args s K' := by
  unfold Tr at *
  obtain ⟨hb, ht⟩ := ht
  refine ⟨hb, fun ι w M Vs hR hV => Calls.mono (ht ι w M Vs hR hV) fun en w' he => ?_⟩
  obtain ⟨V, ι', M', v, s', rfl, hK, h1, h2, h3⟩ := he
  obtain ⟨v2, s2, hf, hK2⟩ := hk v s' hK
  obtain ⟨M2, k1, k2, k3⟩ := hf.sound h1 h2
  exact ⟨V, ι', M2, v2, s2, rfl, hK2, k1, k2, h3.trans (k3 _ h3.next) hR.lt⟩

/-- a result by other names, or known less well -/
theorem Tr.norm {f : Nat} {args : List AV} {s : St} {K K' : AV → St → Prop} (ht : Tr P f args s K) (hk : ∀ v s', K v s' → ∃ v2 s2, SubW s.next [(0, v)] s' [(0, v2)] s2 ∧ K' v2 s2) : Tr P f args s K' := by
  unfold Tr at *
  obtain ⟨hb, ht⟩ := ht
  refine ⟨hb, fun ι w M Vs hR hV => Calls.mono (ht ι w M Vs hR hV) fun en w' he => ?_⟩
  obtain ⟨V, ι', M', v, s', rfl, hK, h1, h2, h3⟩ := he
  obtain ⟨v2, s2, hs, hK2⟩ := hk v s' hK
  let F : From := ⟨ι, s, w, M, hR.lt, s.next, 0⟩
  have hI : Inv F [(0, v)] s' { tmps := #[V], defers := [] } ι' w' M' := by
    refine ⟨h2, fun u => ?_, Nat.zero_le _, rfl, h3⟩
    rw [Env.get_cons]
    by_cases hu : 0 = u
    · subst hu; simpa using h1
    · rw [if_neg hu]; exact .undef _
  obtain ⟨ι2, hI2⟩ := sub_sound hI hs
  have hv := hI2.env 0
  rw [Env.get_cons, if_pos rfl] at hv
  exact ⟨V, ι2, M', v2, s2, rfl, hK2, by simpa using hv, hI2.rep, hI2.go⟩

/-- whatever is known of a value as the first is known of it as the second -/
def Le (v v' : AV) : Prop := ∀ (ι : Iota) (w : World) (M : Nat → Prop) (V : Value), VRel ι w M v V → VRel ι w M v' V
theorem Le.refl (v : AV) : Le v v := fun _ _ _ _ h => h
theorem Le.nilI (k : IntKind) : Le .nils (.roI k []) := fun ι w M V h => by
  rw [h.nils_inv]
  exact .g _ _ (.sliceNil _ 1 (fun j => .int k (([] : List Int).getD j 0)) rfl)
theorem Le.nilB : Le .nils (.roB []) := fun ι w M V h => by
  rw [h.nils_inv]
  exact .g _ _ (.sliceNil _ 1 (fun j => .bool (([] : List Bool).getD j false)) rfl)
theorem Le.undef (v : AV) : Le v .undef := fun _ _ _ V _ => .undef V
/-- pointwise -/
def LeL : List AV → List AV → Prop
  | [], [] => True
  | v :: r, v' :: r' => Le v v' ∧ LeL r r'
  | _, _ => False
theorem LeL.get : ∀ {l l' : List AV}, LeL l l' → l.length = l'.length ∧ ∀ j, Le (l.getD j .undef) (l'.getD j .undef)
  | [], [], _ => ⟨rfl, fun j => Le.refl _⟩
  | v :: r, v' :: r', h => by
    obtain ⟨h1, h2⟩ := LeL.get h.2
    refine ⟨by simp [h1], fun j => ?_⟩
    cases j with
    | zero => simpa using h.1
    | succ j => simpa using h2 j
  | [], _ :: _, h => h.elim
  | _ :: _, [], h => h.elim
theorem Le.agg {l l' : List AV} (h : LeL l l') : Le (.agg l) (.agg l') := fun ι w M V hV => by
  obtain ⟨cs, rfl, h1, h2⟩ := hV.agg_inv
  obtain ⟨k1, k2⟩ := h.get
  exact .agg _ cs (by omega) fun j hj => k2 j _ _ _ _ (h2 j (by omega))
theorem Tr.le {f : Nat} {args args' : List AV} {s : St} {K : AV → St → Prop} (h : LeL args args') (ht : Tr P f args' s K) : Tr P f args s K := by
  unfold Tr at *
  obtain ⟨hb, ht⟩ := ht
  obtain ⟨k1, k2⟩ := h.get
  exact ⟨hb, fun ι w M Vs hR hV => ht ι w M Vs hR ⟨by rw [hV.1, k1], fun j hj => k2 j _ _ _ _ (hV.2 j (by omega))⟩⟩

theorem Le.tup {l l' : List AV} (h : LeL l l') : Le (.tup l) (.tup l') := fun ι w M V hV => by
  obtain ⟨cs, rfl, h1, h2⟩ := hV.tup_inv
  obtain ⟨k1, k2⟩ := h.get
  exact .tup _ cs (by omega) fun j hj => k2 j _ _ _ _ (h2 j (by omega))
theorem Tr.leRes {f : Nat} {args : List AV} {s : St} {K K' : AV → St → Prop} (ht : Tr P f args s K) (hk : ∀ v s', K v s' → ∃ v', Le v v' ∧ K' v' s') : Tr P f args s K' := by
  unfold Tr at *
  obtain ⟨hb, ht⟩ := ht
  refine ⟨hb, fun ι w M Vs hR hV => Calls.mono (ht ι w M Vs hR hV) fun en w' he => ?_⟩
  obtain ⟨V, ι', M', v, s', rfl, hK, h1, h2, h3⟩ := he
  obtain ⟨v', hle, hK'⟩ := hk v s' hK
  exact ⟨V, ι', M', v', s', rfl, hK', hle _ _ _ _ h1, h2, h3⟩

end
end Go.Ab
