/- The engine: rules for contracts: weaker ones; calls by other names in a bigger state; rows that nobody writes any more. -/
import Derived.Test.YtomodeliimnddaaAbDraw5
set_option linter.unusedVariables false
set_option linter.unusedSimpArgs false
set_option autoImplicit false
namespace Go.Ab

section
variable {P : Program}

theorem Tr.mono {f : Nat} {args : List AV} {s : St} {K K' : AV → St → Prop} (h : Tr P f args s K) (hk : ∀ v s', K v s' → K' v s') : Tr P f args s K' := by
  unfold Tr at *
  obtain ⟨hb, h⟩ := h
  refine ⟨hb, fun ι w M Vs hR hV => Calls.mono (h ι w M Vs hR hV) fun e w' he => ?_⟩
  obtain ⟨V, ι', M', v, s', he, hK, h1, h2, h3⟩ := he
  exact ⟨V, ι', M', v, s', he, hk _ _ hK, h1, h2, h3⟩

/-! ### by other names -/
section
variable {ι ι' : Iota} {w : World} {M : Nat → Prop} {ρ : Nat → Option Nat}
/-- what ι says of a handle, ι' says of its other name -/
def Fwd (ι ι' : Iota) (ρ : Nat → Option Nat) : Prop := ∀ h p, ι h = some p → match ρ h with
  | some h' => ι' h' = some p
  | none => p = none
mutual
theorem ren_fwd (hf : Fwd ι ι' ρ) : ∀ (v : AV) (V : Value), VRel ι w M v V → VRel ι' w M (v.ren ρ) V
  | .ptr h o, V, hr => by
    obtain ⟨b, base, h4, rfl⟩ := hr.ptr_inv
    have := hf h _ h4
    cases h3 : ρ h with
    | some h' => rw [h3] at this; simp only [AV.ren, h3]; exact .ptr h' o b base this
    | none => rw [h3] at this; cases this
  | .sl e h o m, V, hr => by
    rcases hr.sl_inv with ⟨b, base, oo, cap, T, N, h4, h5, h6, h7, h8, rfl⟩ | ⟨h4, rfl, rfl⟩
    · have := hf h _ h4
      cases h3 : ρ h with
      | some h' => rw [h3] at this; simp only [AV.ren, h3]; exact .sl e h' o m b base oo cap T N this h5 h6 h7 h8
      | none => rw [h3] at this; cases this
    · have := hf h _ h4
      cases h3 : ρ h with
      | some h' => rw [h3] at this; simp only [AV.ren, h3]; exact .slv e h' o this
      | none => simp only [AV.ren, h3]; exact .g _ _ .nils
  | .agg l, V, hr => by
    obtain ⟨cs, rfl, h1, h2⟩ := hr.agg_inv
    exact .agg _ cs (by rw [renL_length]; exact h1) fun j hj => by
      rw [renL_length] at hj
      rw [renL_getD l j hj]
      exact renL_fwd hf l j hj _ (h2 j hj)
  | .tup l, V, hr => by
    obtain ⟨cs, rfl, h1, h2⟩ := hr.tup_inv
    exact .tup _ cs (by rw [renL_length]; exact h1) fun j hj => by
      rw [renL_length] at hj
      rw [renL_getD l j hj]
      exact renL_fwd hf l j hj _ (h2 j hj)
  | .iface t v, V, hr => by
    obtain ⟨V', rfl, h1⟩ := hr.iface_inv
    exact .iface t _ V' (ren_fwd hf v V' h1)
  | .fn f l, V, hr => by
    obtain ⟨cs, rfl, h1, h2⟩ := hr.fn_inv
    exact .fn f _ cs (by rw [renL_length]; exact h1) fun j hj => by
      rw [renL_length] at hj
      rw [renL_getD l j hj]
      exact renL_fwd hf l j hj _ (h2 j hj)
  | .undef, V, hr => .undef V
  | .bool b, V, hr => VRel.same (v := .bool b) hr (by simp) (by simp) (by simp) (by simp) (by simp) (by simp)
  | .int k m, V, hr => VRel.same (v := .int k m) hr (by simp) (by simp) (by simp) (by simp) (by simp) (by simp)
  | .str x, V, hr => VRel.same (v := .str x) hr (by simp) (by simp) (by simp) (by simp) (by simp) (by simp)
  | .nilp, V, hr => VRel.same (v := .nilp) hr (by simp) (by simp) (by simp) (by simp) (by simp) (by simp)
  | .nils, V, hr => VRel.same (v := .nils) hr (by simp) (by simp) (by simp) (by simp) (by simp) (by simp)
  | .nili, V, hr => VRel.same (v := .nili) hr (by simp) (by simp) (by simp) (by simp) (by simp) (by simp)
  | .nilf, V, hr => VRel.same (v := .nilf) hr (by simp) (by simp) (by simp) (by simp) (by simp) (by simp)
  | .nilm, V, hr => VRel.same (v := .nilm) hr (by simp) (by simp) (by simp) (by simp) (by simp) (by simp)
  | .cptr v, V, hr => VRel.same (v := .cptr v) hr (by simp) (by simp) (by simp) (by simp) (by simp) (by simp)
  | .roI k l, V, hr => VRel.same (v := .roI k l) hr (by simp) (by simp) (by simp) (by simp) (by simp) (by simp)
  | .roB l, V, hr => VRel.same (v := .roB l) hr (by simp) (by simp) (by simp) (by simp) (by simp) (by simp)
  | .ro e l, V, hr => VRel.same (v := .ro e l) hr (by simp) (by simp) (by simp) (by simp) (by simp) (by simp)
  | .raw x, V, hr => VRel.same (v := .raw x) hr (by simp) (by simp) (by simp) (by simp) (by simp) (by simp)
termination_by structural v => v
theorem renL_fwd (hf : Fwd ι ι' ρ) : ∀ (l : List AV) (j : Nat), j < l.length → ∀ V, VRel ι w M (l.getD j .undef) V → VRel ι' w M ((l.getD j .undef).ren ρ) V
  | [], j, hj, V, hr => by simp at hj
  | v :: r, 0, hj, V, hr => ren_fwd hf v V (by simpa using hr)
  | v :: r, j + 1, hj, V, hr => by simpa using renL_fwd hf r j (by simpa using hj) V (by simpa using hr)
termination_by structural l => l
end
theorem crel_fwd (hf : Fwd ι ι' ρ) {c : Chunk} {b base : Nat} (h : CRel ι w M c b base) : CRel ι' w M (c.ren ρ) b base := by
  obtain ⟨cs, T, fr, h1, h2, h3, h4⟩ := h
  refine ⟨cs, T, fr, h1, h2, by rw [Chunk.ren_size]; exact h3, fun j hj => ?_⟩
  rw [Chunk.ren_size] at hj
  have := h4 j hj
  cases c with
  | obj l =>
    simp only [Chunk.ren, Chunk.get, Chunk.size] at *
    rw [renL_getD l j hj]
    exact renL_fwd hf l j hj _ this
  | fn m f => exact ren_fwd hf _ _ this
  | rowI k l => exact ren_fwd hf _ _ this
  | rowB l => exact ren_fwd hf _ _ this
end

/-- the names behind a call: those that were, the call's own -/
def back (ρ : Nat → Option Nat) (n0 n : Nat) (h : Nat) : Option Nat := bif Nat.blt h n0 then ρ h else some (n + (h - n0))
def memRen (ρ : Nat → Option Nat) : Mem → Mem
  | [] => []
  | (h, c) :: r => match ρ h with
    | some h' => (h', c.map (·.ren ρ)) :: memRen ρ r
    | none => memRen ρ r
def dropL : List Nat → Mem → Mem
  | [], m => m
  | h :: r, m => (h, none) :: dropL r m
def backSt (ρ : Nat → Option Nat) (s0 s s0' : St) : St :=
  ⟨s.next + (s0'.next - s0.next), memRen (back ρ s0.next s.next) s0'.m ++ dropL (liveOf ρ s0.m) s.m⟩

theorem dropL_get : ∀ (l : List Nat) (m : Mem) (k : Nat) (c : Chunk), (dropL l m).get k = some c → m.get k = some c ∧ k ∉ l
  | [], m, k, c, h => ⟨h, by simp⟩
  | a :: r, m, k, c, h => by
    simp only [dropL, Mem.get_cons] at h
    split at h
    · cases h
    · rename_i hne
      obtain ⟨h1, h2⟩ := dropL_get r m k c h
      exact ⟨h1, by simp only [List.mem_cons, not_or]; exact ⟨fun e => hne e.symm, h2⟩⟩
theorem memRen_get (ρ : Nat → Option Nat) (m2 : Mem) : ∀ (m : Mem) (k : Nat) (c : Chunk), (memRen ρ m ++ m2).get k = some c → (∃ h c0, m.get h = some c0 ∧ ρ h = some k ∧ c = c0.ren ρ) ∨ m2.get k = some c
  | [], k, c, h => .inr h
  | (a, d) :: r, k, c, h => by
    simp only [memRen] at h
    cases ha : ρ a with
    | none =>
      rw [ha] at h
      rcases memRen_get ρ m2 r k c h with ⟨h1, c0, k1, k2, k3⟩ | k1
      · refine .inl ⟨h1, c0, ?_, k2, k3⟩
        rw [Mem.get_cons, if_neg (fun e => by rw [← e, ha] at k2; cases k2)]
        exact k1
      · exact .inr k1
    | some a' =>
      rw [ha] at h
      simp only [List.cons_append, Mem.get_cons] at h
      split at h
      · rename_i he
        subst he
        obtain ⟨c0, hd, hc⟩ := map_some h
        exact .inl ⟨a, c0, by rw [Mem.get_cons, if_pos rfl]; exact hd, ha, hc.symm⟩
      · rename_i he
        rcases memRen_get ρ m2 r k c h with ⟨h1, c0, k1, k2, k3⟩ | k1
        · refine .inl ⟨h1, c0, ?_, k2, k3⟩
          rw [Mem.get_cons, if_neg (fun e => by rw [← e, ha] at k2; exact he (by simpa using k2))]
          exact k1
        · exact .inr k1

/-- A call in a bigger state, by other names. -/
theorem Tr.call {f : Nat} {args0 args : List AV} {s0 s : St} {K0 K : AV → St → Prop} (rn : List (Nat × Option Nat)) (h : Tr P f args0 s0 K0) (ha : args = renL (rnm rn) args0) (hok : hokL s0.next (rnm rn) args0 = true)
    (hm : memSub (rnm rn) s0.next s s0.m) (hn : nodupN (liveOf (rnm rn) s0.m) = true) (hK : ∀ v0 s0', K0 v0 s0' → K (v0.ren (back (rnm rn) s0.next s.next)) (backSt (rnm rn) s0 s s0')) : Tr P f args s K := by
  subst ha
  unfold Tr at *
  obtain ⟨hb, h⟩ := h
  refine ⟨hb, fun ι w M Vs hR hV => ?_⟩
  generalize hρ : rnm rn = ρ at *
  have hmem := memSub_mem s0.m hm
  have key : ∀ k c, s0.get k = some c → (ι.ren ρ s0.next k = some none ∧ c.size = 0) ∨ ∃ h', ρ k = some h' ∧ ι.ren ρ s0.next k = ι h' ∧ s.get h' = some (c.ren ρ) := fun k c hg => by
    obtain ⟨k1, k2, k3⟩ := hmem k c (mem_get _ _ _ hg)
    cases hr : ρ k with
    | none => rw [hr] at k3; exact .inl ⟨Iota.ren_none k2 hr, k3⟩
    | some h' => rw [hr] at k3; exact .inr ⟨h', rfl, Iota.ren_some k2 hr, k3⟩
  have hownL : ∀ b, Own (ι.ren ρ s0.next) s0 b → ∃ h' c base, h' ∈ liveOf ρ s0.m ∧ s.get h' = some c ∧ ι h' = some (some (b, base)) := fun b ho => by
    obtain ⟨k, c, base, k1, k2⟩ := ho
    rcases key k c k1 with ⟨k3, _⟩ | ⟨h', k5, k3, k4⟩
    · rw [k2] at k3; cases k3
    · rw [k2] at k3; exact ⟨h', _, base, live_mem _ _ _ _ (mem_get _ _ _ k1) k5, k4, k3.symm⟩
  have hown : ∀ b, Own (ι.ren ρ s0.next) s0 b → Own ι s b := fun b ho => by
    obtain ⟨h', c, base, _, k1, k2⟩ := hownL b ho
    exact ⟨h', c, base, k1, k2⟩
  have hR0 : Rep (ι.ren ρ s0.next) s0 w M := by
    refine ⟨fun h hh => Iota.ren_ge hh, fun h c hg => ?_, fun h h' c c' p p' hg hg' hne hp hp' => ?_, hR.lt⟩
    · rcases key h c hg with k | ⟨h', _, k3, k4⟩
      · exact .inl k
      · rw [k3]
        rcases hR.own h' _ k4 with ⟨k5, k6⟩ | ⟨b, base, k5, k6, k7⟩
        · exact .inl ⟨k5, by rw [Chunk.ren_size] at k6; exact k6⟩
        · exact .inr ⟨b, base, k5, k6, ren_crel (hmem h c (mem_get _ _ _ hg)).1 k7⟩
    · rcases key h c hg with ⟨k3, _⟩ | ⟨h1', r1, k3, k4⟩
      · rw [hp] at k3; cases k3
      · rcases key h' c' hg' with ⟨k5, _⟩ | ⟨h2', r2, k5, k6⟩
        · rw [hp'] at k5; cases k5
        · rw [hp] at k3
          rw [hp'] at k5
          refine hR.inj h1' h2' _ _ p p' k4 k6 (fun he => hne ?_) k3.symm k5.symm
          subst he
          exact live_inj s0.m hn h h' c c' h1' (mem_get _ _ _ hg) (mem_get _ _ _ hg') r1 r2
  have hV0 : VRels (ι.ren ρ s0.next) w M args0 Vs := by
    obtain ⟨k1, k2⟩ := hV
    rw [renL_length] at k1 k2
    exact ⟨k1, fun j hj => renL_rel args0 hok j hj _ (by rw [← renL_getD args0 j hj]; exact k2 j hj)⟩
  refine Calls.mono (h _ w M Vs hR0 hV0) fun en w1 he => ?_
  obtain ⟨V, ι1, M1, v0, s0', rfl, hK0, h1, h2, h3⟩ := he
  -- the names behind it
  let ι' : Iota := fun k => if k < s.next then ι k else ι1 (s0.next + (k - s.next))
  have hlo : ∀ k, k < s.next → ι' k = ι k := fun k hk => by simp [ι', hk]
  have hhi : ∀ k, s.next ≤ k → ι' k = ι1 (s0.next + (k - s.next)) := fun k hk => by simp [ι', Nat.not_lt.2 hk]
  have hf : Fwd ι1 ι' (back ρ s0.next s.next) := fun k p hp => by
    unfold back
    rw [blt_eq]
    by_cases hk : k < s0.next
    · simp only [hk, decide_true, cond_true]
      rw [h3.ext k hk] at hp
      cases hr : ρ k with
      | none => rw [Iota.ren_none hk hr] at hp; cases hp; rfl
      | some k' =>
        rw [Iota.ren_some hk hr] at hp
        have hlt : k' < s.next := by
          rcases Nat.lt_or_ge k' s.next with hl | hl
          · exact hl
          · rw [hR.fresh k' hl] at hp; cases hp
        simp only
        rw [hlo k' hlt]; exact hp
    · simp only [hk, decide_false, cond_false]
      rw [hhi _ (by omega), show s0.next + (s.next + (k - s0.next) - s.next) = k by omega]
      exact hp
  have hx : ∀ k p, ι k = some p → ι' k = some p := fun k p hp => by
    rcases Nat.lt_or_ge k s.next with hl | hl
    · rw [hlo k hl]; exact hp
    · rw [hR.fresh k hl] at hp; cases hp
  have hI : Imm w M w1 M1 := GoImm h3 fun b hb => hR.ownM (hown b hb)
  have hn1 : s0.next ≤ s0'.next := h3.next
  have hget : ∀ k c, (backSt ρ s0 s s0').get k = some c → (∃ h0 c0, s0'.get h0 = some c0 ∧ back ρ s0.next s.next h0 = some k ∧ c = c0.ren (back ρ s0.next s.next)) ∨ (s.get k = some c ∧ k ∉ liveOf ρ s0.m) := fun k c hc => by
    rcases memRen_get _ _ _ _ _ hc with k1 | k1
    · exact .inl k1
    · exact .inr (dropL_get _ _ _ _ k1)
  -- the caller's other blocks
  have hoth : ∀ k c b base, s.get k = some c → k ∉ liveOf ρ s0.m → ι k = some (some (b, base)) → ¬ Own (ι.ren ρ s0.next) s0 b := fun k c b base hk hl hi ho => by
    obtain ⟨h', c', base', k1, k2, k3⟩ := hownL b ho
    have hne : h' ≠ k := fun e => hl (e ▸ k1)
    exact hR.inj h' k c' c _ _ k2 hk hne k3 hi rfl
  have htie : ∀ h0 c0 k p, s0'.get h0 = some c0 → back ρ s0.next s.next h0 = some k → ι' k = some p → ι1 h0 = some p := fun h0 c0 k p hg hb hp => by
    rcases h2.own h0 c0 hg with ⟨q, _⟩ | ⟨b, base, q, _⟩
    · have := hf h0 _ q; rw [hb] at this; rw [this] at hp; rw [q, hp]
    · have := hf h0 _ q; rw [hb] at this; rw [this] at hp; rw [q, hp]
  refine ⟨V, ι', M1, _, backSt ρ s0 s s0', rfl, hK v0 s0' hK0, ren_fwd hf v0 V h1, ⟨fun k hk => ?_, fun k c hc => ?_, fun k k' c c' p p' hc hc' hne hp hp' => ?_, h2.lt⟩, ⟨h3.size, h3.tape, h3.os, h3.output, fun b hb ho => h3.block b hb fun h => ho (hown b h), h3.shape, h3.back, fun b hM ho => h3.keep b hM fun h => ho (hown b h), fun b hb ho => ?_, by simp only [backSt]; omega, fun k hk => hlo k hk⟩⟩
  · simp only [backSt] at hk
    rw [hhi k (by omega)]
    exact h2.fresh _ (by omega)
  · rcases hget k c hc with ⟨h0, c0, q1, q2, rfl⟩ | ⟨q1, q2⟩
    · rcases h2.own h0 c0 q1 with ⟨r1, r2⟩ | ⟨b, base, r1, r2, r3⟩
      · have := hf h0 _ r1; rw [q2] at this
        exact .inl ⟨this, by rw [Chunk.ren_size]; exact r2⟩
      · have := hf h0 _ r1; rw [q2] at this
        exact .inr ⟨b, base, this, r2, crel_fwd hf r3⟩
    · rcases hR.own k c q1 with ⟨r1, r2⟩ | ⟨b, base, r1, r2, r3⟩
      · exact .inl ⟨hx _ _ r1, r2⟩
      · have hno := hoth k c b base q1 q2 r1
        exact .inr ⟨b, base, hx _ _ r1, h3.keep b r2 hno, r3.mono hI hx (h3.block b (hR.lt b r2) hno)⟩
  · rcases hget k c hc with ⟨h0, c0, q1, q2, _⟩ | ⟨q1, q2⟩ <;> rcases hget k' c' hc' with ⟨h0', c0', q1', q2', _⟩ | ⟨q1', q2'⟩
    · refine h2.inj h0 h0' c0 c0' p p' q1 q1' (fun e => hne ?_) (htie _ _ _ _ q1 q2 hp) (htie _ _ _ _ q1' q2' hp')
      subst e
      rw [q2] at q2'
      simpa using q2'
    · have hp2 : ι k' = some (some p') := by
        have hlt := hR.none_of_get q1'
        rw [hlo k' hlt] at hp'; exact hp'
      have hMb : M p'.1 := hR.ownM ⟨k', c', p'.2, q1', hp2⟩
      intro e
      exact hoth k' c' p'.1 p'.2 q1' q2' hp2 (h3.own p'.1 (hR.lt _ hMb) ⟨h0, c0, p.2, q1, by rw [htie _ _ _ _ q1 q2 hp, ← e]⟩)
    · have hp2 : ι k = some (some p) := by
        have hlt := hR.none_of_get q1
        rw [hlo k hlt] at hp; exact hp
      have hMb : M p.1 := hR.ownM ⟨k, c, p.2, q1, hp2⟩
      intro e
      exact hoth k c p.1 p.2 q1 q2 hp2 (h3.own p.1 (hR.lt _ hMb) ⟨h0', c0', p'.2, q1', by rw [htie _ _ _ _ q1' q2' hp', e]⟩)
    · have hlt := hR.none_of_get q1
      have hlt' := hR.none_of_get q1'
      rw [hlo k hlt] at hp
      rw [hlo k' hlt'] at hp'
      exact hR.inj k k' c c' p p' q1 q1' hne hp hp'
  · obtain ⟨k, c, base, k1, k2⟩ := ho
    rcases hget k c k1 with ⟨h0, c0, q1, q2, _⟩ | ⟨q1, q2⟩
    · exact hown b (h3.own b hb ⟨h0, c0, base, q1, htie _ _ _ _ q1 q2 k2⟩)
    · have hlt := hR.none_of_get q1
      rw [hlo k hlt] at k2
      exact ⟨k, c, base, q1, k2⟩

end
end Go.Ab
