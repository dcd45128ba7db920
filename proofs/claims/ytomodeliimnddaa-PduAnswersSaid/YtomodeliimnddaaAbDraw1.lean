/- The engine's soundness: regions whose order is open: what the plan says; memory put together. -/
import Derived.Test.YtomodeliimnddaaAbCode
set_option linter.unusedVariables false
set_option linter.unusedSimpArgs false
set_option autoImplicit false
namespace Go.Ab

section
variable {P : Program} {ι : Iota} {s : St} {w : World} {M : Nat → Prop}

/-! ### states that know less -/
theorem Rep.sub {s' : St} (h : Rep ι s w M) (hg : ∀ h c, s'.get h = some c → s.get h = some c) (hn : s'.next = s.next) : Rep ι s' w M :=
  ⟨fun j hj => h.fresh j (by omega), fun j c hc => h.own j c (hg j c hc), fun j j' c c' p p' hc hc' => h.inj j j' c c' p p' (hg j c hc) (hg j' c' hc'), h.lt⟩
theorem Own.sub {s' : St} (hg : ∀ h c, s'.get h = some c → s.get h = some c) {b : Nat} (h : Own ι s' b) : Own ι s b := by
  obtain ⟨j, c, base, h1, h2⟩ := h
  exact ⟨j, c, base, hg j c h1, h2⟩
theorem Go.sub {n0 : Nat} {ι0 : Iota} {s0 : St} {w0 : World} {M0 : Nat → Prop} {s' : St} (h : Go n0 ι0 s0 w0 M0 ι s w M) (hg : ∀ h c, s'.get h = some c → s.get h = some c) (hn : s.next ≤ s'.next) : Go n0 ι0 s0 w0 M0 ι s' w M :=
  ⟨h.size, h.tape, h.os, h.output, h.block, h.shape, h.back, h.keep, fun b hb ho => h.own b hb (ho.sub hg), Nat.le_trans h.next hn, h.ext⟩

/-- What a smaller state's step does to a bigger one. -/
theorem frame {n0 : Nat} {T m s' : St} {ι' : Iota} {w' : World} {M' : Nat → Prop} (Fr : Mem) (hT : Rep ι T w M) (hm : ∀ h c, m.get h = some c → T.get h = some c) (hn : m.next = T.next) (hR : Rep ι' s' w' M') (hG : Go n0 ι m w M ι' s' w' M')
    (hx : ∀ h p, ι h = some p → ι' h = some p) (hi : Imm w M w' M') (hF : ∀ h c, Fr.get h = some c → T.get h = some c ∧ m.get h = none) :
    Rep ι' ⟨s'.next, Fr ++ s'.m⟩ w' M' ∧ Go n0 ι T w M ι' ⟨s'.next, Fr ++ s'.m⟩ w' M' ∧ (∀ h c, (St.mk s'.next (Fr ++ s'.m)).get h = some c → Fr.get h = some c ∨ s'.get h = some c) := by
  have hget : ∀ (F : Mem) h c, (St.mk s'.next (F ++ s'.m)).get h = some c → F.get h = some c ∨ s'.get h = some c := by
    intro F
    induction F with
    | nil => intro h c hc; exact .inr hc
    | cons p r ih =>
      intro h c hc
      rw [List.cons_append, St.get_cons (c := p.2) (h := p.1)] at hc
      rw [show (p :: r : Mem) = (p.1, p.2) :: r from rfl, Mem.get_cons]
      split at hc
      · rename_i he; rw [if_pos he]; exact .inl hc
      · rename_i he
        rw [if_neg he]
        exact ih h c hc
  have hown : ∀ b, Own ι m b → Own ι T b := fun b h => h.sub hm
  -- the frame's blocks
  have hfr : ∀ h c, Fr.get h = some c → (ι h = some none ∧ c.size = 0) ∨ ∃ b base, ι h = some (some (b, base)) ∧ M b ∧ b < w.heap.size ∧ ¬ Own ι m b ∧ CRel ι w M c b base := fun h c hc => by
    obtain ⟨k1, k2⟩ := hF h c hc
    rcases hT.own h c k1 with k | ⟨b, base, k3, k4, k5⟩
    · exact .inl k
    · refine .inr ⟨b, base, k3, k4, hT.lt b k4, fun ho => ?_, k5⟩
      obtain ⟨j, c', base', k6, k7⟩ := ho
      have hne : h ≠ j := fun e => by subst e; rw [k2] at k6; cases k6
      exact hT.inj h j c c' _ _ k1 (hm j c' k6) hne k3 k7 rfl
  refine ⟨⟨hR.fresh, fun h c hc => ?_, fun h h' c c' p p' hc hc' hne hp hp' => ?_, hR.lt⟩, ⟨hG.size, hG.tape, hG.os, hG.output, fun b hb ho => hG.block b hb fun h => ho (hown b h), hG.shape, hG.back, fun b hM ho => hG.keep b hM fun h => ho (hown b h), fun b hb ho => ?_, hG.next, hG.ext⟩, hget Fr⟩
  · rcases hget Fr h c hc with k | k
    · rcases hfr h c k with ⟨k1, k2⟩ | ⟨b, base, k1, k2, k3, k4, k5⟩
      · exact .inl ⟨hx _ _ k1, k2⟩
      · exact .inr ⟨b, base, hx _ _ k1, hG.keep b k2 k4, k5.mono hi hx (hG.block b k3 k4)⟩
    · exact hR.own h c k
  · rcases hget Fr h c hc with k | k <;> rcases hget Fr h' c' hc' with k' | k'
    · obtain ⟨k1, _⟩ := hF h c k
      obtain ⟨k2, _⟩ := hF h' c' k'
      rcases hfr h c k with ⟨q, _⟩ | ⟨b, base, q, _⟩
      · rw [hx _ _ q] at hp; cases hp
      · rcases hfr h' c' k' with ⟨q', _⟩ | ⟨b', base', q', _⟩
        · rw [hx _ _ q'] at hp'; cases hp'
        · rw [hx _ _ q] at hp
          rw [hx _ _ q'] at hp'
          exact hT.inj h h' c c' p p' k1 k2 hne (q.trans hp) (q'.trans hp')
    · rcases hfr h c k with ⟨q, _⟩ | ⟨b, base, q, q1, q2, q3, _⟩
      · rw [hx _ _ q] at hp; cases hp
      · rw [hx _ _ q] at hp
        simp only [Option.some.injEq] at hp
        subst hp
        intro e
        have h9 : p' = (b, p'.2) := by rw [show b = p'.1 from e]
        rw [h9] at hp'
        exact q3 (hG.own b q2 ⟨h', c', p'.2, k', hp'⟩)
    · rcases hfr h' c' k' with ⟨q, _⟩ | ⟨b, base, q, q1, q2, q3, _⟩
      · rw [hx _ _ q] at hp'; cases hp'
      · rw [hx _ _ q] at hp'
        simp only [Option.some.injEq] at hp'
        subst hp'
        intro e
        have h9 : p = (b, p.2) := by rw [show b = p.1 from e.symm]
        rw [h9] at hp
        exact q3 (hG.own b q2 ⟨h, c, p.2, k, hp⟩)
    · exact hR.inj h h' c c' p p' k k' hne hp hp'
  · obtain ⟨j, c, base, k1, k2⟩ := ho
    rcases hget Fr j c k1 with k | k
    · obtain ⟨k3, _⟩ := hF j c k
      rcases hfr j c k with ⟨q, _⟩ | ⟨b', base', q, _⟩
      · rw [hx _ _ q] at k2; cases k2
      · rw [hx _ _ q] at k2
        simp only [Option.some.injEq, Prod.mk.injEq] at k2
        obtain ⟨rfl, rfl⟩ := k2
        exact ⟨j, c, base', k3, q⟩
    · exact hown b (hG.own b hb ⟨j, c, base, k, k2⟩)

/-! ### operations look at so much -/
theorem fillA_congr {ρ ρ' : AOpd → AV} : ∀ (l : List (Nat × Nat × AOpd)) (z : List AV), (∀ x ∈ l.map (·.2.2), ρ x = ρ' x) → fillA ρ z l = fillA ρ' z l
  | [], z, h => rfl
  | p :: r, z, h => by
    simp only [fillA]
    rw [h p.2.2 (by simp)]
    have ih := fun z => fillA_congr r z fun x hx => h x (by simp at hx ⊢; exact .inr hx)
    simp only [ih]
theorem map_congr {ρ ρ' : AOpd → AV} (l : List AOpd) (h : ∀ x ∈ l, ρ x = ρ' x) : l.map ρ = l.map ρ' := List.map_congr_left h
theorem opD_congr {g : Nat → Option Chunk} {nx : Nat} {ρ ρ' : AOpd → AV} (a : AOp) (h : ∀ x ∈ a.opds, ρ x = ρ' x) : opD g nx ρ a = opD g nx ρ' a := by
  cases a with
  | slice sk x lo hi =>
    have h1 : ρ x = ρ' x := h x (by simp [AOp.opds])
    have h2 : lo.map ρ = lo.map ρ' := by
      cases lo with
      | none => rfl
      | some l => simp [h l (by simp [AOp.opds])]
    have h3 : hi.map ρ = hi.map ρ' := by
      cases hi with
      | none => rfl
      | some l => simp [h l (by simp [AOp.opds])]
    simp only [opD, h1, h2, h3]
  | build z ps => simp only [opD]; rw [fillA_congr ps z h]
  | bslice es rk z ps n => simp only [opD]; rw [fillA_congr ps z h]
  | mkfn f l => simp only [opD]; rw [map_congr l h]
  | call f l => simp only [opD]; rw [map_congr l h]
  | callv x l => simp only [opD]; rw [h x (by simp [AOp.opds]), map_congr l fun y hy => h y (by simp [AOp.opds, hy])]
  | inv m x l => rfl
  | atom k l => rfl
  | alloc z => rfl
  | mov x | box x | nilck x | un op x | conv k x | mkif t x | mkslice a b c d x | fld a b c x | ext x i | len b x => simp only [opD, h x (by simp [AOp.opds])]
  | load ag sz x => simp only [opD, h x (by simp [AOp.opds])]
  | pick x y z => simp only [opD, h x (by simp [AOp.opds]), h y (by simp [AOp.opds]), h z (by simp [AOp.opds])]
  | store n x y | bin o k x y | idx e a b x y | mn x y | mx x y | app e b x y => simp only [opD, h x (by simp [AOp.opds]), h y (by simp [AOp.opds])]

def addrA : AV → Option Nat
  | .ptr h _ => some h
  | .sl _ h _ _ => some h
  | _ => none
theorem opD_get {g g' : Nat → Option Chunk} {nx : Nat} {ρ : AOpd → AV} {v : AV} {e : Eff} (a : AOp) (hE : a.isE = false) (hg : ∀ x h c, a.looks = some x → addrA (ρ x) = some h → g h = some c → g' h = some c) (h : opD g nx ρ a = .ok true v e) :
    opD g' nx ρ a = .ok true v e ∧ ∀ x h, a.looks = some x → addrA (ρ x) = some h → x ∈ a.opds ∧ (∃ c, g h = some c) := by
  cases a with
  | load ag sz x =>
    simp only [opD] at h ⊢
    cases hx : ρ x <;> simp only [hx, reduceCtorEq] at h ⊢
    · rename_i hh off
      cases hc : g hh with
      | none => simp [hc] at h
      | some c =>
        have := hg x hh c rfl (by simp [hx, addrA]) hc
        rw [this]
        rw [hc] at h
        exact ⟨h, fun y k hy hk => by simp only [AOp.looks, Option.some.injEq] at hy; subst hy; simp only [hx, addrA, Option.some.injEq] at hk; subst hk; exact ⟨by simp [AOp.opds], c, hc⟩⟩
    · exact ⟨h, fun y k hy hk => by simp only [AOp.looks, Option.some.injEq] at hy; subst hy; simp [hx, addrA] at hk⟩
  | conv k x =>
    cases k with
    | toStr =>
      simp only [opD] at h ⊢
      cases hx : ρ x <;> simp only [hx, convA, reduceCtorEq] at h ⊢
      case nils => exact ⟨h, fun y k hy hk => by simp only [AOp.looks, Option.some.injEq] at hy; subst hy; simp [hx, addrA] at hk⟩
      case roI k l =>
        refine ⟨?_, fun y k hy hk => by simp only [AOp.looks, Option.some.injEq] at hy; subst hy; simp [hx, addrA] at hk⟩
        cases k <;> exact h
      rename_i es hh off n
      cases hc : g hh with
      | none => simp [hc] at h
      | some c =>
        have := hg x hh c rfl (by simp [hx, addrA]) hc
        rw [this]
        rw [hc] at h
        exact ⟨h, fun y k hy hk => by simp only [AOp.looks, Option.some.injEq] at hy; subst hy; simp only [hx, addrA, Option.some.injEq] at hk; subst hk; exact ⟨by simp [AOp.opds], c, hc⟩⟩
    | same =>
      refine ⟨?_, fun y k hy => by simp [AOp.looks] at hy⟩
      simp only [opD] at h ⊢
      cases hx : ρ x <;> simp only [hx, convA, reduceCtorEq] at h ⊢ <;> exact h
    | int k =>
      refine ⟨?_, fun y k hy => by simp [AOp.looks] at hy⟩
      simp only [opD] at h ⊢
      cases hx : ρ x <;> simp only [hx, convA, reduceCtorEq] at h ⊢ <;> exact h
  | slice sk x lo hi =>
    cases sk with
    | arr n es =>
      simp only [opD] at h ⊢
      cases hx : ρ x <;> simp only [hx, sliceA, reduceCtorEq] at h ⊢
      rename_i hh off
      cases hc : g hh with
      | none => simp [hc] at h
      | some c =>
        have := hg x hh c rfl (by simp [hx, addrA]) hc
        rw [this]
        rw [hc] at h
        exact ⟨h, fun y k hy hk => by simp only [AOp.looks, Option.some.injEq] at hy; subst hy; simp only [hx, addrA, Option.some.injEq] at hk; subst hk; exact ⟨by simp [AOp.opds], c, hc⟩⟩
    | sl es =>
      refine ⟨?_, fun y k hy => by simp [AOp.looks] at hy⟩
      simp only [opD] at h ⊢
      cases hx : ρ x <;> simp only [hx, sliceA, reduceCtorEq] at h ⊢ <;> exact h
    | str =>
      refine ⟨?_, fun y k hy => by simp [AOp.looks] at hy⟩
      simp only [opD] at h ⊢
      cases hx : ρ x <;> simp only [hx, sliceA, reduceCtorEq] at h ⊢ <;> exact h
  | store n x y => simp [AOp.isE] at hE
  | app e b x y => simp [AOp.isE] at hE
  | call f l => simp [AOp.isE] at hE
  | callv x l => simp [AOp.isE] at hE
  | inv m x l => simp [AOp.isE] at hE
  | atom k l => simp [AOp.isE] at hE
  | _ => exact ⟨h, fun y k hy => by simp [AOp.looks] at hy⟩

/-! ### pending blocks -/
def PNd (pd : Pend) : Prop := pd.Pairwise fun a b => a.2.1 ≠ b.2.1
theorem Pend.get_iff : ∀ (pd : Pend), PNd pd → ∀ h c, pd.get h = some c ↔ ∃ i, (i, h, c) ∈ pd
  | [], _, h, c => by simp [Pend.get]
  | p :: r, hn, h, c => by
    obtain ⟨h1, h2⟩ := List.pairwise_cons.1 hn
    simp only [Pend.get]
    cases hb : Nat.beq p.2.1 h with
    | true =>
      have he := Nat.eq_of_beq_eq_true hb
      simp only [cond_true, Option.some.injEq]
      constructor
      · intro hc; exact ⟨p.1, by rw [← he, ← hc]; simp⟩
      · rintro ⟨i, hi⟩
        rcases List.mem_cons.1 hi with k | k
        · rw [← k]
        · exact absurd he (h1 _ k)
    | false =>
      have hne : p.2.1 ≠ h := fun e => by subst e; simp at hb
      simp only [cond_false]
      rw [Pend.get_iff r h2]
      constructor
      · rintro ⟨i, hi⟩; exact ⟨i, List.mem_cons_of_mem _ hi⟩
      · rintro ⟨i, hi⟩
        rcases List.mem_cons.1 hi with k | k
        · exact absurd (by rw [← k]) hne
        · exact ⟨i, k⟩
theorem getP_iff {pd : Pend} (hn : PNd pd) (hs : ∀ q ∈ pd, s.get q.2.1 = none) (h : Nat) (c : Chunk) : getP s pd h = some c ↔ s.get h = some c ∨ ∃ i, (i, h, c) ∈ pd := by
  unfold getP
  cases hg : s.get h with
  | none => simp only [reduceCtorEq, false_or]; exact Pend.get_iff pd hn h c
  | some c' =>
    constructor
    · intro hc; exact .inl hc
    · rintro (hc | ⟨i, hi⟩)
      · exact hc
      · have := hs _ hi; simp only at this; rw [hg] at this; cases this
theorem absorb_rest (ab : List Nat) : ∀ (pd : Pend) (m : Mem), (absorb ab pd m).2 = pd.filter fun q => !memN ab q.1
  | [], m => rfl
  | p :: r, m => by
    simp only [absorb]
    have ih := absorb_rest ab r m
    cases hb : memN ab p.1 with
    | true => simp [hb, ih]
    | false => simp [hb, ih]
theorem absorb_get (ab : List Nat) : ∀ (pd : Pend) (m : Mem), PNd pd → (∀ q ∈ pd, m.get q.2.1 = none) → ∀ h c, (absorb ab pd m).1.get h = some c ↔ m.get h = some c ∨ ∃ i, (i, h, c) ∈ pd ∧ memN ab i = true
  | [], m, _, _, h, c => by simp [absorb]
  | p :: r, m, hn, hs, h, c => by
    obtain ⟨h1, h2⟩ := List.pairwise_cons.1 hn
    have ih := absorb_get ab r m h2 (fun q hq => hs q (List.mem_cons_of_mem _ hq)) h c
    simp only [absorb]
    cases hb : memN ab p.1 with
    | true =>
      simp only [cond_true, Mem.get_cons]
      by_cases he : p.2.1 = h
      · rw [if_pos he]
        have hs' := hs p (by simp)
        rw [he] at hs'
        simp only [Option.some.injEq, hs', reduceCtorEq, false_or]
        constructor
        · intro hc; exact ⟨p.1, by rw [← he, ← hc]; simp, hb⟩
        · rintro ⟨i, hi, _⟩
          rcases List.mem_cons.1 hi with k | k
          · rw [← k]
          · exact absurd he (h1 _ k)
      · rw [if_neg he, ih]
        constructor
        · rintro (k | ⟨i, hi, hm⟩)
          · exact .inl k
          · exact .inr ⟨i, List.mem_cons_of_mem _ hi, hm⟩
        · rintro (k | ⟨i, hi, hm⟩)
          · exact .inl k
          · rcases List.mem_cons.1 hi with k | k
            · exact absurd (by rw [← k]) he
            · exact .inr ⟨i, k, hm⟩
    | false =>
      simp only [cond_false]
      rw [ih]
      constructor
      · rintro (k | ⟨i, hi, hm⟩)
        · exact .inl k
        · exact .inr ⟨i, List.mem_cons_of_mem _ hi, hm⟩
      · rintro (k | ⟨i, hi, hm⟩)
        · exact .inl k
        · rcases List.mem_cons.1 hi with k | k
          · rw [← k] at hb; simp only at hb; rw [hm] at hb; cases hb
          · exact .inr ⟨i, k, hm⟩
theorem flush_get : ∀ (pd : Pend) (m : Mem) h c, (flush pd m).get h = some c → m.get h = some c ∨ ∃ i, (i, h, c) ∈ pd
  | [], m, h, c, hc => .inl hc
  | p :: r, m, h, c, hc => by
    simp only [flush, Mem.get_cons] at hc
    split at hc
    · rename_i he
      simp only [Option.some.injEq] at hc
      exact .inr ⟨p.1, by rw [← he, ← hc]; simp⟩
    · rcases flush_get r m h c hc with k | ⟨i, k⟩
      · exact .inl k
      · exact .inr ⟨i, List.mem_cons_of_mem _ k⟩

theorem watch_spec {e : Env} {g g' : Nat → Option Chunk} : ∀ (l : List AOpd) (K : Prop), watchW e g g' l K → (∀ x ∈ l, ∀ h, addrA (x.ev e) = some h → g h = g' h) ∧ K
  | [], K, h => ⟨fun x hx => by simp at hx, h⟩
  | x :: r, K, h => by
    have hw : watchW e g g' (x :: r) K = match x.ev e with
      | .ptr h _ => g h = g' h ∧ watchW e g g' r K
      | .sl _ h _ _ => g h = g' h ∧ watchW e g g' r K
      | _ => watchW e g g' r K := rfl
    rw [hw] at h
    have key : (∀ h, addrA (x.ev e) = some h → g h = g' h) ∧ watchW e g g' r K := by
      cases hx : x.ev e <;> simp only [hx] at h <;> first
        | exact ⟨fun k hk => by simp only [addrA, Option.some.injEq] at hk; subst hk; exact h.1, h.2⟩
        | exact ⟨fun k hk => by simp [addrA] at hk, h⟩
    obtain ⟨k1, k2⟩ := watch_spec r K key.2
    refine ⟨fun y hy => ?_, k2⟩
    rcases List.mem_cons.1 hy with rfl | hy
    · exact key.1
    · exact k1 y hy

end
end Go.Ab
