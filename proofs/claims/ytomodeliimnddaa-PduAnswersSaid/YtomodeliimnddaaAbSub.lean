/- The engine's soundness: a state by other names. -/
import Derived.Test.YtomodeliimnddaaAbReg
set_option linter.unusedVariables false
set_option linter.unusedSimpArgs false
set_option autoImplicit false
namespace Go.Ab

/-- where the handles of the other state lie -/
def Iota.ren (ι : Iota) (ρ : Nat → Option Nat) (n : Nat) : Iota := fun h =>
  if h < n then (match ρ h with
    | some h' => ι h'
    | none => some none) else none

section
variable {ι : Iota} {s : St} {w : World} {M : Nat → Prop} {e : Env} {act : Act} {F : From} {ρ : Nat → Option Nat} {n : Nat}

theorem Iota.ren_some {h h' : Nat} (hn : h < n) (hr : ρ h = some h') : ι.ren ρ n h = ι h' := by simp [Iota.ren, hn, hr]
theorem Iota.ren_none {h : Nat} (hn : h < n) (hr : ρ h = none) : ι.ren ρ n h = some none := by simp [Iota.ren, hn, hr]
theorem Iota.ren_ge {h : Nat} (hn : n ≤ h) : ι.ren ρ n h = none := by simp [Iota.ren, Nat.not_lt.2 hn]

theorem renL_length : ∀ l : List AV, (renL ρ l).length = l.length
  | [] => rfl
  | v :: r => by simp [renL, renL_length r]
theorem renL_getD : ∀ (l : List AV) (j : Nat), j < l.length → (renL ρ l).getD j .undef = (l.getD j .undef).ren ρ
  | [], j, h => by simp at h
  | v :: r, 0, h => by simp [renL]
  | v :: r, j + 1, h => by simpa [renL] using renL_getD r j (by simpa using h)
theorem hokL_getD : ∀ (l : List AV) (j : Nat), j < l.length → hokL n ρ l = true → (l.getD j .undef).hok n ρ = true
  | [], j, h, _ => by simp at h
  | v :: r, 0, h, k => by simp only [hokL, Bool.and_eq_true] at k; simpa using k.1
  | v :: r, j + 1, h, k => by
    simp only [hokL, Bool.and_eq_true] at k
    simpa using hokL_getD r j (by simpa using h) k.2

theorem VRel.same {v : AV} {V : Value} {ι' : Iota} (h : VRel ι w M v V) (h1 : ∀ h o, v ≠ .ptr h o) (h2 : ∀ e h o m, v ≠ .sl e h o m) (h3 : ∀ l, v ≠ .agg l) (h4 : ∀ l, v ≠ .tup l) (h5 : ∀ t x, v ≠ .iface t x) (h6 : ∀ f l, v ≠ .fn f l) : VRel ι' w M v V := by
  cases h with
  | g _ _ h => exact .g _ _ h
  | ptr h o => exact absurd rfl (h1 h o)
  | sl e h o m => exact absurd rfl (h2 e h o m)
  | slv e h o => exact absurd rfl (h2 e h o 0)
  | agg l => exact absurd rfl (h3 l)
  | tup l => exact absurd rfl (h4 l)
  | iface t x => exact absurd rfl (h5 t x)
  | fn f l => exact absurd rfl (h6 f l)

mutual
theorem ren_rel : ∀ (v : AV) (V : Value), v.hok n ρ = true → VRel ι w M (v.ren ρ) V → VRel (ι.ren ρ n) w M v V
  | .ptr h o, V, hk, hr => by
    simp only [AV.hok, Bool.and_eq_true, blt_eq, decide_eq_true_eq] at hk
    obtain ⟨h1, h2⟩ := hk
    obtain ⟨h', h3⟩ := Option.isSome_iff_exists.1 h2
    simp only [AV.ren, h3] at hr
    obtain ⟨b, base, h4, rfl⟩ := hr.ptr_inv
    exact .ptr h o b base (by rw [Iota.ren_some h1 h3]; exact h4)
  | .sl e h o m, V, hk, hr => by
    simp only [AV.hok, Bool.and_eq_true, blt_eq, decide_eq_true_eq, Bool.or_eq_true] at hk
    obtain ⟨h1, h2⟩ := hk
    cases h3 : ρ h with
    | some h' =>
      simp only [AV.ren, h3] at hr
      rcases hr.sl_inv with ⟨b, base, oo, cap, T, N, h4, h5, h6, h7, h8, rfl⟩ | ⟨h4, rfl, rfl⟩
      · exact .sl e h o m b base oo cap T N (by rw [Iota.ren_some h1 h3]; exact h4) h5 h6 h7 h8
      · exact .slv e h o (by rw [Iota.ren_some h1 h3]; exact h4)
    | none =>
      simp only [AV.ren, h3] at hr
      obtain rfl := hr.nils_inv
      simp only [h3, Option.isSome_none, Bool.false_eq_true, false_or] at h2
      obtain rfl := Nat.eq_of_beq_eq_true h2
      exact .slv e h o (Iota.ren_none h1 h3)
  | .agg l, V, hk, hr => by
    simp only [AV.hok] at hk
    simp only [AV.ren] at hr
    obtain ⟨cs, rfl, h1, h2⟩ := hr.agg_inv
    rw [renL_length] at h1 h2
    exact .agg l cs h1 fun j hj => renL_rel l hk j hj _ (by rw [← renL_getD l j hj]; exact h2 j hj)
  | .tup l, V, hk, hr => by
    simp only [AV.hok] at hk
    simp only [AV.ren] at hr
    obtain ⟨cs, rfl, h1, h2⟩ := hr.tup_inv
    rw [renL_length] at h1 h2
    exact .tup l cs h1 fun j hj => renL_rel l hk j hj _ (by rw [← renL_getD l j hj]; exact h2 j hj)
  | .iface t v, V, hk, hr => by
    simp only [AV.hok] at hk
    simp only [AV.ren] at hr
    obtain ⟨V', rfl, h1⟩ := hr.iface_inv
    exact .iface t v V' (ren_rel v V' hk h1)
  | .fn f l, V, hk, hr => by
    simp only [AV.hok] at hk
    simp only [AV.ren] at hr
    obtain ⟨cs, rfl, h1, h2⟩ := hr.fn_inv
    rw [renL_length] at h1 h2
    exact .fn f l cs h1 fun j hj => renL_rel l hk j hj _ (by rw [← renL_getD l j hj]; exact h2 j hj)
  | .undef, V, hk, hr => .undef V
  | .bool b, V, hk, hr => VRel.same (v := .bool b) hr (by simp) (by simp) (by simp) (by simp) (by simp) (by simp)
  | .int k m, V, hk, hr => VRel.same (v := .int k m) hr (by simp) (by simp) (by simp) (by simp) (by simp) (by simp)
  | .str x, V, hk, hr => VRel.same (v := .str x) hr (by simp) (by simp) (by simp) (by simp) (by simp) (by simp)
  | .nilp, V, hk, hr => VRel.same (v := .nilp) hr (by simp) (by simp) (by simp) (by simp) (by simp) (by simp)
  | .nils, V, hk, hr => VRel.same (v := .nils) hr (by simp) (by simp) (by simp) (by simp) (by simp) (by simp)
  | .nili, V, hk, hr => VRel.same (v := .nili) hr (by simp) (by simp) (by simp) (by simp) (by simp) (by simp)
  | .nilf, V, hk, hr => VRel.same (v := .nilf) hr (by simp) (by simp) (by simp) (by simp) (by simp) (by simp)
  | .nilm, V, hk, hr => VRel.same (v := .nilm) hr (by simp) (by simp) (by simp) (by simp) (by simp) (by simp)
  | .cptr v, V, hk, hr => VRel.same (v := .cptr v) hr (by simp) (by simp) (by simp) (by simp) (by simp) (by simp)
  | .roI k l, V, hk, hr => VRel.same (v := .roI k l) hr (by simp) (by simp) (by simp) (by simp) (by simp) (by simp)
  | .roB l, V, hk, hr => VRel.same (v := .roB l) hr (by simp) (by simp) (by simp) (by simp) (by simp) (by simp)
  | .ro e l, V, hk, hr => VRel.same (v := .ro e l) hr (by simp) (by simp) (by simp) (by simp) (by simp) (by simp)
  | .raw x, V, hk, hr => VRel.same (v := .raw x) hr (by simp) (by simp) (by simp) (by simp) (by simp) (by simp)
termination_by structural v => v
theorem renL_rel : ∀ (l : List AV), hokL n ρ l = true → ∀ j, j < l.length → ∀ V, VRel ι w M ((l.getD j .undef).ren ρ) V → VRel (ι.ren ρ n) w M (l.getD j .undef) V
  | [], hk, j, hj, V, hr => by simp at hj
  | v :: r, hk, 0, hj, V, hr => by
    simp only [hokL, Bool.and_eq_true] at hk
    exact ren_rel v V hk.1 (by simpa using hr)
  | v :: r, hk, j + 1, hj, V, hr => by
    simp only [hokL, Bool.and_eq_true] at hk
    exact renL_rel r hk.2 j (by simpa using hj) V (by simpa using hr)
termination_by structural l => l
end

theorem envSub_get : ∀ (E : Env), envSub ρ n e E → ∀ u, E.get u = .undef ∨ (e.get u = (E.get u).ren ρ ∧ (E.get u).hok n ρ = true)
  | [], _, u => .inl rfl
  | (d, v) :: r, h, u => by
    rw [Env.get_cons]
    simp only [envSub] at h
    by_cases hd : d = u
    · subst hd; rw [if_pos rfl]; exact .inr h.1
    · rw [if_neg hd]; exact envSub_get r h.2 u

theorem Chunk.ren_size (c : Chunk) : (c.ren ρ).size = c.size := by cases c <;> simp [Chunk.ren, Chunk.size, renL_length]
theorem ren_crel {c : Chunk} {b base : Nat} (hk : c.hok n ρ) (h : CRel ι w M (c.ren ρ) b base) : CRel (ι.ren ρ n) w M c b base := by
  obtain ⟨cs, T, fr, h1, h2, h3, h4⟩ := h
  rw [Chunk.ren_size] at h3 h4
  refine ⟨cs, T, fr, h1, h2, h3, fun j hj => ?_⟩
  have := h4 j hj
  cases c with
  | obj l =>
    simp only [Chunk.ren, Chunk.get, Chunk.size, Chunk.hok] at *
    rw [renL_getD l j hj] at this
    exact renL_rel l hk j hj _ this
  | fn m f =>
    simp only [Chunk.ren, Chunk.get, Chunk.size, Chunk.hok] at *
    exact ren_rel _ _ (hk j hj) this
  | rowI k l => exact this.same (by simp [Chunk.ren, Chunk.get]) (by simp [Chunk.ren, Chunk.get]) (by simp [Chunk.ren, Chunk.get]) (by simp [Chunk.ren, Chunk.get]) (by simp [Chunk.ren, Chunk.get]) (by simp [Chunk.ren, Chunk.get])
  | rowB l => exact this.same (by simp [Chunk.ren, Chunk.get]) (by simp [Chunk.ren, Chunk.get]) (by simp [Chunk.ren, Chunk.get]) (by simp [Chunk.ren, Chunk.get]) (by simp [Chunk.ren, Chunk.get]) (by simp [Chunk.ren, Chunk.get])

theorem mem_get : ∀ (m : Mem) (h : Nat) (c : Chunk), m.get h = some c → (h, some c) ∈ m
  | [], h, c, hg => by simp [Mem.get] at hg
  | (k, d) :: r, h, c, hg => by
    rw [Mem.get_cons] at hg
    by_cases hk : k = h
    · subst hk; rw [if_pos rfl] at hg; subst hg; simp
    · rw [if_neg hk] at hg; exact List.mem_cons_of_mem _ (mem_get r h c hg)
theorem memSub_mem : ∀ (m : Mem), memSub ρ n s m → ∀ h c, (h, some c) ∈ m → c.hok n ρ ∧ h < n ∧ match ρ h with
      | some h' => s.get h' = some (c.ren ρ)
      | none => c.size = 0
  | [], _, h, c, hm => by simp at hm
  | (k, d) :: r, hs, h, c, hm => by
    rcases List.mem_cons.1 hm with he | hq
    · simp only [Prod.mk.injEq] at he
      obtain ⟨rfl, rfl⟩ := he
      simp only [memSub, blt_eq, decide_eq_true_eq] at hs
      exact hs.1
    · cases d with
      | none => exact memSub_mem r hs h c hq
      | some d => simp only [memSub] at hs; exact memSub_mem r hs.2 h c hq
theorem memN_iff (l : List Nat) (i : Nat) : memN l i = true ↔ i ∈ l := by
  simp only [memN, List.any_eq_true]
  constructor
  · rintro ⟨x, hx, h⟩
    have := Nat.eq_of_beq_eq_true h
    exact this ▸ hx
  · intro h
    exact ⟨i, h, by simp⟩
theorem live_mem : ∀ (m : Mem) (h : Nat) (c : Chunk) (h' : Nat), (h, some c) ∈ m → ρ h = some h' → h' ∈ liveOf ρ m
  | [], h, c, h', hm, hr => by simp at hm
  | (k, d) :: r, h, c, h', hm, hr => by
    rcases List.mem_cons.1 hm with he | hq
    · simp only [Prod.mk.injEq] at he
      obtain ⟨rfl, rfl⟩ := he
      simp [liveOf, hr]
    · have ih := live_mem r h c h' hq hr
      cases d with
      | none => exact ih
      | some d =>
        simp only [liveOf]
        split
        · exact List.mem_cons_of_mem _ ih
        · exact ih
theorem live_inj : ∀ (m : Mem), nodupN (liveOf ρ m) = true → ∀ h1 h2 c1 c2 h', (h1, some c1) ∈ m → (h2, some c2) ∈ m → ρ h1 = some h' → ρ h2 = some h' → h1 = h2
  | [], _, h1, h2, c1, c2, h', hm, _, _, _ => by simp at hm
  | (k, d) :: r, hn, h1, h2, c1, c2, h', hm1, hm2, hr1, hr2 => by
    have hr : nodupN (liveOf ρ r) = true := by
      cases d with
      | none => exact hn
      | some d =>
        simp only [liveOf] at hn
        split at hn
        · simp only [nodupN, Bool.and_eq_true] at hn; exact hn.2
        · exact hn
    rcases List.mem_cons.1 hm1 with he1 | hq1 <;> rcases List.mem_cons.1 hm2 with he2 | hq2
    · simp only [Prod.mk.injEq] at he1 he2
      rw [he1.1, he2.1]
    · simp only [Prod.mk.injEq] at he1
      obtain ⟨rfl, rfl⟩ := he1
      exfalso
      simp only [liveOf, hr1, nodupN, Bool.and_eq_true, Bool.not_eq_true'] at hn
      have := live_mem r h2 c2 h' hq2 hr2
      rw [← memN_iff, hn.1] at this
      cases this
    · simp only [Prod.mk.injEq] at he2
      obtain ⟨rfl, rfl⟩ := he2
      exfalso
      simp only [liveOf, hr2, nodupN, Bool.and_eq_true, Bool.not_eq_true'] at hn
      have := live_mem r h1 c1 h' hq1 hr1
      rw [← memN_iff, hn.1] at this
      cases this
    · exact live_inj r hr h1 h2 c1 c2 h' hq1 hq2 hr1 hr2

theorem rnm_lt {n0 : Nat} : ∀ (rn : List (Nat × Option Nat)), (rn.all fun p => Nat.ble n0 p.1) = true → ∀ h, h < n0 → rnm rn h = some h
  | [], _, h, _ => rfl
  | p :: r, hr, h, hl => by
    simp only [List.all_cons, Bool.and_eq_true] at hr
    simp only [rnm]
    have h1 := Nat.le_of_ble_eq_true hr.1
    have : Nat.beq p.1 h = false := by
      rw [Bool.eq_false_iff]
      intro h2
      have := Nat.eq_of_beq_eq_true h2
      omega
    rw [this, cond_false]
    exact rnm_lt r hr.2 h hl

theorem sub_sound {E : Env} {S : St} (hI : Inv F e s act ι w M) (h : SubW F.n0 e s E S) : ∃ ι', Inv F E S act ι' w M := by
  obtain ⟨rn, h1, h2, h3, h4, h5⟩ := h
  have hn := Nat.le_of_ble_eq_true h2
  have hmem := memSub_mem S.m h5
  have key : ∀ h c, S.get h = some c → (ι.ren (rnm rn) S.next h = some none ∧ c.size = 0) ∨ ∃ h', rnm rn h = some h' ∧ ι.ren (rnm rn) S.next h = ι h' ∧ s.get h' = some (c.ren (rnm rn)) := fun h c hg => by
    obtain ⟨k1, k2, k3⟩ := hmem h c (mem_get _ _ _ hg)
    cases hr : rnm rn h with
    | none => rw [hr] at k3; exact .inl ⟨Iota.ren_none k2 hr, k3⟩
    | some h' => rw [hr] at k3; exact .inr ⟨h', rfl, Iota.ren_some k2 hr, k3⟩
  have hown : ∀ b, Own (ι.ren (rnm rn) S.next) S b → Own ι s b := fun b ho => by
    obtain ⟨h, c, base, k1, k2⟩ := ho
    rcases key h c k1 with ⟨k3, _⟩ | ⟨h', _, k3, k4⟩
    · rw [k2] at k3; cases k3
    · rw [k2] at k3; exact ⟨h', _, base, k4, k3.symm⟩
  refine ⟨ι.ren (rnm rn) S.next, ⟨fun h hh => Iota.ren_ge hh, fun h c hg => ?_, fun h h' c c' p p' hg hg' hne hp hp' => ?_, hI.rep.lt⟩, fun u => ?_, hI.size, hI.dfr, ?_⟩
  · rcases key h c hg with k | ⟨h', _, k3, k4⟩
    · exact .inl k
    · rw [k3]
      rcases hI.rep.own h' _ k4 with ⟨k5, k6⟩ | ⟨b, base, k5, k6, k7⟩
      · exact .inl ⟨k5, by rw [Chunk.ren_size] at k6; exact k6⟩
      · exact .inr ⟨b, base, k5, k6, ren_crel (hmem h c (mem_get _ _ _ hg)).1 k7⟩
  · rcases key h c hg with ⟨k3, _⟩ | ⟨h1', r1, k3, k4⟩
    · rw [hp] at k3; cases k3
    · rcases key h' c' hg' with ⟨k5, _⟩ | ⟨h2', r2, k5, k6⟩
      · rw [hp'] at k5; cases k5
      · rw [hp] at k3
        rw [hp'] at k5
        refine hI.rep.inj h1' h2' _ _ p p' k4 k6 (fun he => hne ?_) k3.symm k5.symm
        subst he
        exact live_inj S.m h3 h h' c c' h1' (mem_get _ _ _ hg) (mem_get _ _ _ hg') r1 r2
  · rcases envSub_get E h4 u with hu | ⟨hu1, hu2⟩
    · rw [hu]; exact .undef _
    · have := hI.env u
      rw [hu1] at this
      exact ren_rel _ _ hu2 this
  · have hg := hI.go
    exact ⟨hg.size, hg.tape, hg.os, hg.output, hg.block, hg.shape, hg.back, hg.keep, fun b hb ho => hg.own b hb (hown b ho), hn, fun h hl => by
      rw [Iota.ren_some (by omega) (rnm_lt rn h1 h hl)]
      exact hg.ext h hl⟩

end
end Go.Ab
