/- The engine's soundness: regions whose order is open: what the plan says; memory put together. The engine's soundness: regions whose order is open: what the plan says. The engine's soundness: regions whose order is open: what holds in between; the plan goes on ahead. The engine's soundness: regions whose order is open: the program catches up. The engine's soundness: regions whose order is open: what changes memory; every order. The engine: rules for contracts: weaker ones; calls by other names in a bigger state; rows that nobody writes any more. The engine: rows that nobody writes any more become values. The engine: the same verification conditions, with values brought to their form at each step, so that terms stay small. The engine: verification conditions with places where ways come together, and rows that are values from a place on. -/
import Derived.Test.YtomodeliimnddaaHEngB
set_option linter.unusedVariables false
set_option linter.unusedSimpArgs false
set_option autoImplicit false
namespace Go.Ab
section
variable {P : Program} {ι : Iota} {s : St} {w : World} {M : Nat → Prop}
/-! ### states that know less -/
theorem Rep.sub {s' : St} (h : Rep ι s w M) (hg : ∀ h c, s'.get h = some c → s.get h = some c) (hn : s'.next = s.next) : Rep ι s' w M :=
  ⟨fun j hj => h.fresh j (by omega), fun j c hc => h.own j c (hg j c hc), fun j j' c c' p p' hc hc' => h.inj j j' c c' p p' (hg j c hc) (hg j' c' hc'), h.lt⟩
theorem Own.sub {s' : St} (hg : ∀ h c, s'.get h = some c → s.get h = some c) {b : Nat} (h : Own ι s' b) : Own ι s b := by
  obtain ⟨j, c, base, h1, h2⟩ := h
  exact ⟨j, c, base, hg j c h1, h2⟩
theorem Go.sub {n0 : Nat} {ι0 : Iota} {s0 : St} {w0 : World} {M0 : Nat → Prop} {s' : St} (h : Go n0 ι0 s0 w0 M0 ι s w M) (hg : ∀ h c, s'.get h = some c → s.get h = some c) (hn : s.next ≤ s'.next) : Go n0 ι0 s0 w0 M0 ι s' w M :=
  ⟨h.size, h.tape, h.os, h.output, h.block, h.shape, h.back, h.keep, fun b hb ho => h.own b hb (ho.sub hg), Nat.le_trans h.next hn, h.ext⟩
theorem frame {n0 : Nat} {T m s' : St} {ι' : Iota} {w' : World} {M' : Nat → Prop} (Fr : Mem) (hT : Rep ι T w M) (hm : ∀ h c, m.get h = some c → T.get h = some c) (hn : m.next = T.next) (hR : Rep ι' s' w' M') (hG : Go n0 ι m w M ι' s' w' M')
    (hx : ∀ h p, ι h = some p → ι' h = some p) (hi : Imm w M w' M') (hF : ∀ h c, Fr.get h = some c → T.get h = some c ∧ m.get h = none) :
    Rep ι' ⟨s'.next, Fr ++ s'.m⟩ w' M' ∧ Go n0 ι T w M ι' ⟨s'.next, Fr ++ s'.m⟩ w' M' ∧ (∀ h c, (St.mk s'.next (Fr ++ s'.m)).get h = some c → Fr.get h = some c ∨ s'.get h = some c) := by
  have hget : ∀ (F : Mem) h c, (St.mk s'.next (F ++ s'.m)).get h = some c → F.get h = some c ∨ s'.get h = some c := by
    intro F
    induction F with
    | nil => intro h c hc; exact .inr hc
    | cons p r ih =>
      intro h c hc
      rw [List.cons_append, St.get_cons (c := p.2) (h := p.1)] at hc
      rw [show (p :: r : Mem) = (p.1, p.2) :: r from rfl, Mem.get_cons]
      split at hc
      · rename_i he; rw [if_pos he]; exact .inl hc
      · rename_i he
        rw [if_neg he]
        exact ih h c hc
  have hown : ∀ b, Own ι m b → Own ι T b := fun b h => h.sub hm
  -- the frame's blocks
  have hfr : ∀ h c, Fr.get h = some c → (ι h = some none ∧ c.size = 0) ∨ ∃ b base, ι h = some (some (b, base)) ∧ M b ∧ b < w.heap.size ∧ ¬ Own ι m b ∧ CRel ι w M c b base := fun h c hc => by
    obtain ⟨k1, k2⟩ := hF h c hc
    rcases hT.own h c k1 with k | ⟨b, base, k3, k4, k5⟩
    · exact .inl k
    · refine .inr ⟨b, base, k3, k4, hT.lt b k4, fun ho => ?_, k5⟩
      obtain ⟨j, c', base', k6, k7⟩ := ho
      have hne : h ≠ j := fun e => by subst e; rw [k2] at k6; cases k6
      exact hT.inj h j c c' _ _ k1 (hm j c' k6) hne k3 k7 rfl
  refine ⟨⟨hR.fresh, fun h c hc => ?_, fun h h' c c' p p' hc hc' hne hp hp' => ?_, hR.lt⟩, ⟨hG.size, hG.tape, hG.os, hG.output, fun b hb ho => hG.block b hb fun h => ho (hown b h), hG.shape, hG.back, fun b hM ho => hG.keep b hM fun h => ho (hown b h), fun b hb ho => ?_, hG.next, hG.ext⟩, hget Fr⟩
  · rcases hget Fr h c hc with k | k
    · rcases hfr h c k with ⟨k1, k2⟩ | ⟨b, base, k1, k2, k3, k4, k5⟩
      · exact .inl ⟨hx _ _ k1, k2⟩
      · exact .inr ⟨b, base, hx _ _ k1, hG.keep b k2 k4, k5.mono hi hx (hG.block b k3 k4)⟩
    · exact hR.own h c k
  · rcases hget Fr h c hc with k | k <;> rcases hget Fr h' c' hc' with k' | k'
    · obtain ⟨k1, _⟩ := hF h c k
      obtain ⟨k2, _⟩ := hF h' c' k'
      rcases hfr h c k with ⟨q, _⟩ | ⟨b, base, q, _⟩
      · rw [hx _ _ q] at hp; cases hp
      · rcases hfr h' c' k' with ⟨q', _⟩ | ⟨b', base', q', _⟩
        · rw [hx _ _ q'] at hp'; cases hp'
        · rw [hx _ _ q] at hp
          rw [hx _ _ q'] at hp'
          exact hT.inj h h' c c' p p' k1 k2 hne (q.trans hp) (q'.trans hp')
    · rcases hfr h c k with ⟨q, _⟩ | ⟨b, base, q, q1, q2, q3, _⟩
      · rw [hx _ _ q] at hp; cases hp
      · rw [hx _ _ q] at hp
        simp only [Option.some.injEq] at hp
        subst hp
        intro e
        have h9 : p' = (b, p'.2) := by rw [show b = p'.1 from e]
        rw [h9] at hp'
        exact q3 (hG.own b q2 ⟨h', c', p'.2, k', hp'⟩)
    · rcases hfr h' c' k' with ⟨q, _⟩ | ⟨b, base, q, q1, q2, q3, _⟩
      · rw [hx _ _ q] at hp'; cases hp'
      · rw [hx _ _ q] at hp'
        simp only [Option.some.injEq] at hp'
        subst hp'
        intro e
        have h9 : p = (b, p.2) := by rw [show b = p.1 from e.symm]
        rw [h9] at hp
        exact q3 (hG.own b q2 ⟨h, c, p.2, k, hp⟩)
    · exact hR.inj h h' c c' p p' k k' hne hp hp'
  · obtain ⟨j, c, base, k1, k2⟩ := ho
    rcases hget Fr j c k1 with k | k
    · obtain ⟨k3, _⟩ := hF j c k
      rcases hfr j c k with ⟨q, _⟩ | ⟨b', base', q, _⟩
      · rw [hx _ _ q] at k2; cases k2
      · rw [hx _ _ q] at k2
        simp only [Option.some.injEq, Prod.mk.injEq] at k2
        obtain ⟨rfl, rfl⟩ := k2
        exact ⟨j, c, base', k3, q⟩
    · exact hown b (hG.own b hb ⟨j, c, base, k, k2⟩)
/-! ### operations look at so much -/
theorem fillA_congr {ρ ρ' : AOpd → AV} : ∀ (l : List (Nat × Nat × AOpd)) (z : List AV), (∀ x ∈ l.map (·.2.2), ρ x = ρ' x) → fillA ρ z l = fillA ρ' z l
  | [], z, h => rfl
  | p :: r, z, h => by
    simp only [fillA]
    rw [h p.2.2 (by simp)]
    have ih := fun z => fillA_congr r z fun x hx => h x (by simp at hx ⊢; exact .inr hx)
    simp only [ih]
theorem fillI_congr {ρ ρ' : AOpd → AV} {n : Nat} : ∀ (l : List (Nat × Nat × AOpd)) (k : Nat → IntKind) (g : Nat → Int), (∀ x ∈ l.map (·.2.2), ρ x = ρ' x) → fillI ρ n k g l = fillI ρ' n k g l
  | [], k, g, h => rfl
  | p :: r, k, g, h => by
    simp only [fillI]
    rw [h p.2.2 (by simp)]
    have ih := fun k g => fillI_congr (n := n) r k g fun x hx => h x (by simp at hx ⊢; exact .inr hx)
    simp only [ih]
theorem map_congr {ρ ρ' : AOpd → AV} (l : List AOpd) (h : ∀ x ∈ l, ρ x = ρ' x) : l.map ρ = l.map ρ' := List.map_congr_left h
theorem opD_congr {g : Nat → Option Chunk} {nx : Nat} {ρ ρ' : AOpd → AV} (a : AOp) (h : ∀ x ∈ a.opds, ρ x = ρ' x) : opD g nx ρ a = opD g nx ρ' a := by
  cases a with
  | slice sk x lo hi =>
    have h1 : ρ x = ρ' x := h x (by simp [AOp.opds])
    have h2 : lo.map ρ = lo.map ρ' := by
      cases lo with
      | none => rfl
      | some l => simp [h l (by simp [AOp.opds])]
    have h3 : hi.map ρ = hi.map ρ' := by
      cases hi with
      | none => rfl
      | some l => simp [h l (by simp [AOp.opds])]
    simp only [opD, h1, h2, h3]
  | build z ps => simp only [opD]; rw [fillA_congr ps z h]
  | buildI z ps => simp only [opD]; rw [fillI_congr ps _ _ h]
  | bslice es rk z ps n => simp only [opD]; rw [fillA_congr ps z h]
  | mkfn f l => simp only [opD]; rw [map_congr l h]
  | call f l => simp only [opD]; rw [map_congr l h]
  | callv x l => simp only [opD]; rw [h x (by simp [AOp.opds]), map_congr l fun y hy => h y (by simp [AOp.opds, hy])]
  | inv m x l => simp only [opD]; rw [h x (by simp [AOp.opds]), map_congr l fun y hy => h y (by simp [AOp.opds, hy])]
  | atom k l => simp only [opD]; rw [map_congr l h]
  | alloc z => rfl
  | mov x | box x | nilck x | un op x | conv k x | mkif t x | mkslice a b c d x | fld a b c x | ext x i | len b x => simp only [opD, h x (by simp [AOp.opds])]
  | load ag sz x => simp only [opD, h x (by simp [AOp.opds])]
  | pick x y z | mx3 x y z => simp only [opD, h x (by simp [AOp.opds]), h y (by simp [AOp.opds]), h z (by simp [AOp.opds])]
  | store n x y | bin o k x y | idx e a b x y | mn x y | mx x y | app e b x y | appz e b rk z x y => simp only [opD, h x (by simp [AOp.opds]), h y (by simp [AOp.opds])]
def addrA : AV → Option Nat
  | .ptr h _ => some h
  | .sl _ h _ _ => some h
  | _ => none
theorem opD_get {g g' : Nat → Option Chunk} {nx : Nat} {ρ : AOpd → AV} {v : AV} {e : Eff} (a : AOp) (hE : a.isE = false) (hg : ∀ x h c, a.looks = some x → addrA (ρ x) = some h → g h = some c → g' h = some c) (h : opD g nx ρ a = .ok true v e) :
    opD g' nx ρ a = .ok true v e ∧ ∀ x h, a.looks = some x → addrA (ρ x) = some h → x ∈ a.opds ∧ (∃ c, g h = some c) := by
  cases a with
  | load ag sz x =>
    simp only [opD] at h ⊢
    cases hx : ρ x <;> simp only [hx, reduceCtorEq] at h ⊢
    · rename_i hh off
      cases hc : g hh with
      | none => simp [hc] at h
      | some c =>
        have := hg x hh c rfl (by simp [hx, addrA]) hc
        rw [this]
        rw [hc] at h
        exact ⟨h, fun y k hy hk => by simp only [AOp.looks, Option.some.injEq] at hy; subst hy; simp only [hx, addrA, Option.some.injEq] at hk; subst hk; exact ⟨by simp [AOp.opds], c, hc⟩⟩
    · exact ⟨h, fun y k hy hk => by simp only [AOp.looks, Option.some.injEq] at hy; subst hy; simp [hx, addrA] at hk⟩
  | conv k x =>
    cases k with
    | toStr =>
      simp only [opD] at h ⊢
      cases hx : ρ x <;> simp only [hx, convA, reduceCtorEq] at h ⊢
      case nils => exact ⟨h, fun y k hy hk => by simp only [AOp.looks, Option.some.injEq] at hy; subst hy; simp [hx, addrA] at hk⟩
      case roI k l =>
        refine ⟨?_, fun y k hy hk => by simp only [AOp.looks, Option.some.injEq] at hy; subst hy; simp [hx, addrA] at hk⟩
        cases k <;> exact h
      rename_i es hh off n
      cases hc : g hh with
      | none => simp [hc] at h
      | some c =>
        have := hg x hh c rfl (by simp [hx, addrA]) hc
        rw [this]
        rw [hc] at h
        exact ⟨h, fun y k hy hk => by simp only [AOp.looks, Option.some.injEq] at hy; subst hy; simp only [hx, addrA, Option.some.injEq] at hk; subst hk; exact ⟨by simp [AOp.opds], c, hc⟩⟩
    | same =>
      refine ⟨?_, fun y k hy => by simp [AOp.looks] at hy⟩
      simp only [opD] at h ⊢
      cases hx : ρ x <;> simp only [hx, convA, reduceCtorEq] at h ⊢ <;> exact h
    | int k =>
      refine ⟨?_, fun y k hy => by simp [AOp.looks] at hy⟩
      simp only [opD] at h ⊢
      cases hx : ρ x <;> simp only [hx, convA, reduceCtorEq] at h ⊢ <;> exact h
  | slice sk x lo hi =>
    cases sk with
    | arr n es =>
      simp only [opD] at h ⊢
      cases hx : ρ x <;> simp only [hx, sliceA, reduceCtorEq] at h ⊢
      rename_i hh off
      cases hc : g hh with
      | none => simp [hc] at h
      | some c =>
        have := hg x hh c rfl (by simp [hx, addrA]) hc
        rw [this]
        rw [hc] at h
        exact ⟨h, fun y k hy hk => by simp only [AOp.looks, Option.some.injEq] at hy; subst hy; simp only [hx, addrA, Option.some.injEq] at hk; subst hk; exact ⟨by simp [AOp.opds], c, hc⟩⟩
    | sl es =>
      refine ⟨?_, fun y k hy => by simp [AOp.looks] at hy⟩
      simp only [opD] at h ⊢
      cases hx : ρ x <;> simp only [hx, sliceA, reduceCtorEq] at h ⊢ <;> exact h
    | str =>
      refine ⟨?_, fun y k hy => by simp [AOp.looks] at hy⟩
      simp only [opD] at h ⊢
      cases hx : ρ x <;> simp only [hx, sliceA, reduceCtorEq] at h ⊢ <;> exact h
  | store n x y => simp [AOp.isE] at hE
  | app e b x y => simp [AOp.isE] at hE
  | appz e b rk z x y => simp [AOp.isE] at hE
  | call f l => simp [AOp.isE] at hE
  | callv x l => simp [AOp.isE] at hE
  | inv m x l => simp [AOp.isE] at hE
  | atom k l => simp [AOp.isE] at hE
  | _ => exact ⟨h, fun y k hy => by simp [AOp.looks] at hy⟩
/-! ### pending blocks -/
def PNd (pd : Pend) : Prop := pd.Pairwise fun a b => a.2.1 ≠ b.2.1
theorem Pend.get_iff : ∀ (pd : Pend), PNd pd → ∀ h c, pd.get h = some c ↔ ∃ i, (i, h, c) ∈ pd
  | [], _, h, c => by simp [Pend.get]
  | p :: r, hn, h, c => by
    obtain ⟨h1, h2⟩ := List.pairwise_cons.1 hn
    simp only [Pend.get]
    cases hb : Nat.beq p.2.1 h with
    | true =>
      have he := Nat.eq_of_beq_eq_true hb
      simp only [cond_true, Option.some.injEq]
      constructor
      · intro hc; exact ⟨p.1, by rw [← he, ← hc]; simp⟩
      · rintro ⟨i, hi⟩
        rcases List.mem_cons.1 hi with k | k
        · rw [← k]
        · exact absurd he (h1 _ k)
    | false =>
      have hne : p.2.1 ≠ h := fun e => by subst e; simp at hb
      simp only [cond_false]
      rw [Pend.get_iff r h2]
      constructor
      · rintro ⟨i, hi⟩; exact ⟨i, List.mem_cons_of_mem _ hi⟩
      · rintro ⟨i, hi⟩
        rcases List.mem_cons.1 hi with k | k
        · exact absurd (by rw [← k]) hne
        · exact ⟨i, k⟩
theorem getP_iff {pd : Pend} (hn : PNd pd) (hs : ∀ q ∈ pd, s.get q.2.1 = none) (h : Nat) (c : Chunk) : getP s pd h = some c ↔ s.get h = some c ∨ ∃ i, (i, h, c) ∈ pd := by
  unfold getP
  cases hg : s.get h with
  | none => simp only [reduceCtorEq, false_or]; exact Pend.get_iff pd hn h c
  | some c' =>
    constructor
    · intro hc; exact .inl hc
    · rintro (hc | ⟨i, hi⟩)
      · exact hc
      · have := hs _ hi; simp only at this; rw [hg] at this; cases this
theorem absorb_rest (ab : List Nat) : ∀ (pd : Pend) (m : Mem), (absorb ab pd m).2 = pd.filter fun q => !memN ab q.1
  | [], m => rfl
  | p :: r, m => by
    simp only [absorb]
    have ih := absorb_rest ab r m
    cases hb : memN ab p.1 with
    | true => simp [hb, ih]
    | false => simp [hb, ih]
theorem absorb_get (ab : List Nat) : ∀ (pd : Pend) (m : Mem), PNd pd → (∀ q ∈ pd, m.get q.2.1 = none) → ∀ h c, (absorb ab pd m).1.get h = some c ↔ m.get h = some c ∨ ∃ i, (i, h, c) ∈ pd ∧ memN ab i = true
  | [], m, _, _, h, c => by simp [absorb]
  | p :: r, m, hn, hs, h, c => by
    obtain ⟨h1, h2⟩ := List.pairwise_cons.1 hn
    have ih := absorb_get ab r m h2 (fun q hq => hs q (List.mem_cons_of_mem _ hq)) h c
    simp only [absorb]
    cases hb : memN ab p.1 with
    | true =>
      simp only [cond_true, Mem.get_cons]
      by_cases he : p.2.1 = h
      · rw [if_pos he]
        have hs' := hs p (by simp)
        rw [he] at hs'
        simp only [Option.some.injEq, hs', reduceCtorEq, false_or]
        constructor
        · intro hc; exact ⟨p.1, by rw [← he, ← hc]; simp, hb⟩
        · rintro ⟨i, hi, _⟩
          rcases List.mem_cons.1 hi with k | k
          · rw [← k]
          · exact absurd he (h1 _ k)
      · rw [if_neg he, ih]
        constructor
        · rintro (k | ⟨i, hi, hm⟩)
          · exact .inl k
          · exact .inr ⟨i, List.mem_cons_of_mem _ hi, hm⟩
        · rintro (k | ⟨i, hi, hm⟩)
          · exact .inl k
          · rcases List.mem_cons.1 hi with k | k
            · exact absurd (by rw [← k]) he
            · exact .inr ⟨i, k, hm⟩
    | false =>
      simp only [cond_false]
      rw [ih]
      constructor
      · rintro (k | ⟨i, hi, hm⟩)
        · exact .inl k
        · exact .inr ⟨i, List.mem_cons_of_mem _ hi, hm⟩
      · rintro (k | ⟨i, hi, hm⟩)
        · exact .inl k
        · rcases List.mem_cons.1 hi with k | k
          · rw [← k] at hb; simp only at hb; rw [hm] at hb; cases hb
          · exact .inr ⟨i, k, hm⟩
theorem flush_get : ∀ (pd : Pend) (m : Mem) h c, (flush pd m).get h = some c → m.get h = some c ∨ ∃ i, (i, h, c) ∈ pd
  | [], m, h, c, hc => .inl hc
  | p :: r, m, h, c, hc => by
    simp only [flush, Mem.get_cons] at hc
    split at hc
    · rename_i he
      simp only [Option.some.injEq] at hc
      exact .inr ⟨p.1, by rw [← he, ← hc]; simp⟩
    · rcases flush_get r m h c hc with k | ⟨i, k⟩
      · exact .inl k
      · exact .inr ⟨i, List.mem_cons_of_mem _ k⟩
theorem watch_spec {e : Env} {g g' : Nat → Option Chunk} : ∀ (l : List AOpd) (K : Prop), watchW e g g' l K → (∀ x ∈ l, ∀ h, addrA (x.ev e) = some h → g h = g' h) ∧ K
  | [], K, h => ⟨fun x hx => by simp at hx, h⟩
  | x :: r, K, h => by
    have hw : watchW e g g' (x :: r) K = match x.ev e with
      | .ptr h _ => g h = g' h ∧ watchW e g g' r K
      | .sl _ h _ _ => g h = g' h ∧ watchW e g g' r K
      | _ => watchW e g g' r K := rfl
    rw [hw] at h
    have key : (∀ h, addrA (x.ev e) = some h → g h = g' h) ∧ watchW e g g' r K := by
      cases hx : x.ev e <;> simp only [hx] at h <;> first
        | exact ⟨fun k hk => by simp only [addrA, Option.some.injEq] at hk; subst hk; exact h.1, h.2⟩
        | exact ⟨fun k hk => by simp [addrA] at hk, h⟩
    obtain ⟨k1, k2⟩ := watch_spec r K key.2
    refine ⟨fun y hy => ?_, k2⟩
    rcases List.mem_cons.1 hy with rfl | hy
    · exact key.1
    · exact k1 y hy
end
end Go.Ab
set_option linter.unusedVariables false
set_option linter.unusedSimpArgs false
set_option autoImplicit false
namespace Go.Ab
section
variable {P : Program}
structure PlanF (P : Program) (ops : List Oper) (anc : List Nat) (ins : List AIns) (p : List AStep) : Prop where
  insOk : ∀ (i : Nat) (x : AIns), ins[i]? = some x → ∃ o, ops[i]? = some o ∧ insOf P ops i o = some x
  opsIn : ∀ (i : Nat) (o : Oper), ops[i]? = some o → ∃ x, ins[i]? = some x
  slot1 : ∀ (i k : Nat) (x y : AIns) (d : Nat), ins[i]? = some x → ins[k]? = some y → x.dst = some d → y.dst = some d → i = k
  slot2 : ∀ (i k : Nat) (x y : AIns) (d : Nat), ins[i]? = some x → ins[k]? = some y → x.dst = some d → d ∈ y.reads → i ≠ k ∧ ((anc.getD k 0).testBit i = true ∨ (anc.getD i 0).testBit k = true)
  slot3 : ∀ (i k : Nat) (x y : AIns) (d : Nat), ins[i]? = some x → ins[k]? = some y → x.dst = some d → y.op.looks = some (.t d) → (anc.getD k 0).testBit i = true
  slot4 : ∀ (i : Nat) (x : AIns) (o : AOpd), ins[i]? = some x → x.op.looks = some o → ∃ u, o = .t u
  deps : ∀ (i : Nat) (o : Oper), ops[i]? = some o → anc.getD i 0 = orAll anc (depsOf o)
  steps : ∀ (pre : List AStep) (x : AStep) (post : List AStep), p = pre ++ x :: post → ins[x.i]? = some x.ins ∧ x = stepOf anc ins (pre.map (·.i)) x.i x.ins
  order : ∀ (pre : List AStep) (x : AStep) (post : List AStep), p = pre ++ x :: post → (∀ j, (anc.getD x.i 0).testBit j = true → j ∈ pre.map (·.i)) ∧ x.i ∉ pre.map (·.i) ∧ (x.e = true → ∀ y ∈ post, (anc.getD y.i 0).testBit x.i = true)
  cover : ∀ i, i < ops.length → ∃ x ∈ p, x.i = i
theorem insL_get {ops : List Oper} : ∀ (l : List Oper) (k : Nat) (il : List AIns), insL P ops k l = some il →
    (∀ (j : Nat) (o : Oper), l[j]? = some o → ∃ x, il[j]? = some x ∧ insOf P ops (k + j) o = some x) ∧ (∀ (j : Nat) (x : AIns), il[j]? = some x → ∃ o, l[j]? = some o ∧ insOf P ops (k + j) o = some x) ∧ il.length = l.length
  | [], k, il, h => by
    simp only [insL, Option.some.injEq] at h
    subst h
    exact ⟨fun j o hj => by simp at hj, fun j x hj => by simp at hj, rfl⟩
  | o :: r, k, il, h => by
    simp only [insL] at h
    split at h
    · rename_i a l ha hl
      simp only [Option.some.injEq] at h
      subst h
      obtain ⟨h1, h2, h3⟩ := insL_get r (k + 1) l hl
      refine ⟨fun j o' hj => ?_, fun j x hj => ?_, by simp [h3]⟩
      · cases j with
        | zero => simp only [List.getElem?_cons_zero, Option.some.injEq] at hj; subst hj; exact ⟨a, by simp, ha⟩
        | succ j =>
          obtain ⟨x, k1, k2⟩ := h1 j o' (by simpa using hj)
          exact ⟨x, by simpa using k1, by rw [show k + (j + 1) = k + 1 + j by omega]; exact k2⟩
      · cases j with
        | zero => simp only [List.getElem?_cons_zero, Option.some.injEq] at hj; subst hj; exact ⟨o, by simp, ha⟩
        | succ j =>
          obtain ⟨o', k1, k2⟩ := h2 j x (by simpa using hj)
          exact ⟨o', by simpa using k1, by rw [show k + (j + 1) = k + 1 + j by omega]; exact k2⟩
    · simp at h
theorem stepOf_i (anc : List Nat) (ins : List AIns) (before : List Nat) (i : Nat) (x : AIns) : (stepOf anc ins before i x).i = i ∧ (stepOf anc ins before i x).ins = x ∧ (stepOf anc ins before i x).e = x.op.isE := by
  unfold stepOf
  cases h : x.op.isE <;> simp
theorem plan_cons (anc : List Nat) (ins : List AIns) (n : Nat) (before : List Nat) (done : Nat) : plan anc ins (n + 1) before done = [] ∨
    ∃ i x, ins[i]? = some x ∧ plan anc ins (n + 1) before done = stepOf anc ins before i x :: plan anc ins n (before ++ [i]) (Nat.lor done (2 ^ i)) := by
  simp only [plan]
  split
  · rename_i i hi
    split
    · rename_i x hx; exact .inr ⟨i, x, hx, rfl⟩
    · exact .inl rfl
  · split
    · rename_i i r hr
      split
      · rename_i x hx; exact .inr ⟨i, x, hx, rfl⟩
      · exact .inl rfl
    · exact .inl rfl
theorem plan_steps (anc : List Nat) (ins : List AIns) : ∀ (n : Nat) (before : List Nat) (done : Nat) (pre : List AStep) (x : AStep) (post : List AStep), plan anc ins n before done = pre ++ x :: post →
    ins[x.i]? = some x.ins ∧ x = stepOf anc ins (before ++ pre.map (·.i)) x.i x.ins
  | 0, before, done, pre, x, post, h => by simp [plan] at h
  | n + 1, before, done, pre, x, post, h => by
    rcases plan_cons anc ins n before done with k | ⟨i, y, hy, k⟩
    · rw [k] at h; simp at h
    · rw [k] at h
      obtain ⟨q1, q2, q3⟩ := stepOf_i anc ins before i y
      cases pre with
      | nil =>
        simp only [List.nil_append, List.cons.injEq] at h
        rw [← h.1, q1, q2]
        exact ⟨hy, by simp⟩
      | cons z r =>
        simp only [List.cons_append, List.cons.injEq] at h
        obtain ⟨h1, h2⟩ := plan_steps anc ins n _ _ r x post h.2
        refine ⟨h1, ?_⟩
        rw [← h.1]
        simpa [q1] using h2
theorem lor_bit {a d : Nat} (h : Nat.lor a d = d) {j : Nat} (hj : a.testBit j = true) : d.testBit j = true := by
  have : (Nat.lor a d).testBit j = true := by
    show (a ||| d).testBit j = true
    rw [Nat.testBit_or, hj]; rfl
  rwa [h] at this
theorem order_spec (anc : List Nat) : ∀ (l : List AStep) (done : Nat), orderOk anc l done = true → ∀ (pre : List AStep) (x : AStep) (post : List AStep), l = pre ++ x :: post →
    (∀ j, (anc.getD x.i 0).testBit j = true → done.testBit j = true ∨ j ∈ pre.map (·.i)) ∧ (done.testBit x.i = false ∧ x.i ∉ pre.map (·.i)) ∧ (x.e = true → ∀ y ∈ post, (anc.getD y.i 0).testBit x.i = true)
  | [], done, h, pre, x, post, hl => by simp at hl
  | y :: r, done, h, pre, x, post, hl => by
    simp only [orderOk, Bool.and_eq_true, Bool.not_eq_true', Bool.or_eq_true, List.all_eq_true] at h
    obtain ⟨⟨⟨h1, h2⟩, h3⟩, h4⟩ := h
    have h1 := Nat.eq_of_beq_eq_true h1
    have hbit : ∀ j, (Nat.lor done (2 ^ y.i)).testBit j = (done.testBit j || decide (y.i = j)) := fun j => by
      show (done ||| 2 ^ y.i).testBit j = _
      rw [Nat.testBit_or, Nat.testBit_two_pow]
    cases pre with
    | nil =>
      simp only [List.nil_append, List.cons.injEq] at hl
      obtain ⟨rfl, rfl⟩ := hl
      refine ⟨fun j hj => .inl (lor_bit h1 hj), ⟨h2, by simp⟩, fun he z hz => ?_⟩
      rcases h3 with h3 | h3
      · rw [he] at h3; cases h3
      · exact h3 z hz
    | cons z q =>
      simp only [List.cons_append, List.cons.injEq] at hl
      obtain ⟨rfl, hl⟩ := hl
      obtain ⟨k1, ⟨k2, k3⟩, k4⟩ := order_spec anc r _ h4 q x post hl
      rw [hbit] at k2
      simp only [Bool.or_eq_false_iff, decide_eq_false_iff_not] at k2
      refine ⟨fun j hj => ?_, ⟨k2.1, ?_⟩, k4⟩
      · rcases k1 j hj with k | k
        · rw [hbit] at k
          simp only [Bool.or_eq_true, decide_eq_true_eq] at k
          rcases k with k | k
          · exact .inl k
          · exact .inr (by simp [k])
        · exact .inr (by simp only [List.map_cons, List.mem_cons]; exact .inr k)
      · simp only [List.map_cons, List.mem_cons, not_or]
        exact ⟨fun e => k2.2 e.symm, k3⟩
theorem orAll_bit (anc : List Nat) : ∀ (l : List Nat) (j : Nat), (orAll anc l).testBit j = true ↔ ∃ d ∈ l, d = j ∨ (anc.getD d 0).testBit j = true
  | [], j => by simp [orAll]
  | d :: r, j => by
    have : (orAll anc (d :: r)).testBit j = ((decide (d = j) || (anc.getD d 0).testBit j) || (orAll anc r).testBit j) := by
      show ((2 ^ d ||| anc.getD d 0) ||| orAll anc r).testBit j = _
      rw [Nat.testBit_or, Nat.testBit_or, Nat.testBit_two_pow]
    rw [this]
    simp only [Bool.or_eq_true, decide_eq_true_eq, orAll_bit anc r j, List.mem_cons]
    constructor
    · rintro (h | ⟨x, hx, h⟩)
      · exact ⟨d, .inl rfl, h⟩
      · exact ⟨x, .inr hx, h⟩
    · rintro ⟨x, rfl | hx, h⟩
      · exact .inl h
      · exact .inr ⟨x, hx, h⟩
theorem memN'_iff (l : List Nat) (d : Nat) : slotsOk.memN' l d = true ↔ d ∈ l := by
  simp only [slotsOk.memN', List.any_eq_true]
  constructor
  · rintro ⟨x, hx, h⟩
    exact Nat.eq_of_beq_eq_true h ▸ hx
  · intro h
    exact ⟨d, h, by simp⟩
theorem planF {ops : List Oper} {ins : List AIns} (hl : insL P ops 0 ops = some ins) {anc : List Nat} {p : List AStep} (hp : p = plan anc ins ins.length [] 0) (hk : planOk P ops ins anc p = true) : PlanF P ops anc ins p := by
  obtain ⟨h1, h2, h3⟩ := insL_get ops 0 ins hl
  simp only [planOk, Bool.and_eq_true, List.all_eq_true, List.mem_range, List.any_eq_true] at hk
  obtain ⟨⟨⟨⟨k1, k2⟩, k3⟩, k4⟩, k5⟩ := hk
  have hlt : ∀ (i : Nat) (x : AIns), ins[i]? = some x → i < ins.length := fun i x h => (List.getElem?_eq_some_iff.1 h).1
  have hsl : ∀ (i k : Nat) (x y : AIns) (d : Nat), ins[i]? = some x → ins[k]? = some y → x.dst = some d →
      (i = k ∨ y.dst ≠ some d) ∧ (d ∈ y.reads → i ≠ k ∧ ((anc.getD k 0).testBit i = true ∨ (anc.getD i 0).testBit k = true)) ∧ (y.op.looks = some (.t d) → (anc.getD k 0).testBit i = true) := by
    intro i k x y d hi hk hd
    simp only [slotsOk, List.all_eq_true, List.mem_range] at k1
    have := k1 i (hlt i x hi) k (hlt k y hk)
    simp only [hi, hk, hd, Bool.and_eq_true, Bool.or_eq_true, Bool.not_eq_true'] at this
    obtain ⟨⟨q1, q2⟩, q3⟩ := this
    refine ⟨?_, fun hr => ?_, fun hr => ?_⟩
    · rcases q1 with q | q
      · exact .inl (Nat.eq_of_beq_eq_true q)
      · exact .inr fun e => by rw [e] at q; simp at q
    · rcases q2 with q | q
      · rw [(memN'_iff _ _).2 hr] at q; cases q
      · refine ⟨fun e => ?_, q.2⟩
        subst e
        simp at q
    · rw [hr] at q3
      simp only [Bool.or_eq_true, Bool.not_eq_true'] at q3
      rcases q3 with q | q
      · simp at q
      · exact q
  refine ⟨fun i x hi => ?_, fun i o ho => ?_, fun i k x y d hi hk hd hd' => ?_, fun i k x y d hi hk hd hr => (hsl i k x y d hi hk hd).2.1 hr, fun i k x y d hi hk hd hr => (hsl i k x y d hi hk hd).2.2 hr, fun i x o hi ho => ?_, fun i o ho => ?_, fun pre x post h => ?_, fun pre x post h => ?_, fun i hi => ?_⟩
  · obtain ⟨o, q1, q2⟩ := h2 i x hi
    exact ⟨o, q1, by simpa using q2⟩
  · obtain ⟨x, q1, q2⟩ := h1 i o ho
    exact ⟨x, q1⟩
  · rcases (hsl i k x y d hi hk hd).1 with q | q
    · exact q
    · exact absurd hd' q
  · have := k5 x (List.mem_of_getElem? hi)
    rw [ho] at this
    cases o <;> simp only [Bool.false_eq_true] at this
    exact ⟨_, rfl⟩
  · have hlo := (List.getElem?_eq_some_iff.1 ho).1
    simp only [guardsOk, List.all_eq_true, List.mem_range] at k2
    have := k2 i hlo
    simp only [ho] at this
    exact Nat.eq_of_beq_eq_true this
  · have := plan_steps anc ins ins.length [] 0 pre x post (by rw [← hp]; exact h)
    simpa using this
  · obtain ⟨q1, ⟨_, q2⟩, q3⟩ := order_spec anc p 0 k3 pre x post h
    exact ⟨fun j hj => (q1 j hj).resolve_left (by simp), q2, q3⟩
  · obtain ⟨x, hx, hb⟩ := k4 i hi
    exact ⟨x, hx, Nat.eq_of_beq_eq_true hb⟩
end
end Go.Ab
set_option linter.unusedVariables false
set_option linter.unusedSimpArgs false
set_option autoImplicit false
namespace Go.Ab
def guardOk (e : Env) (i : AIns) : Option Bool :=
  match i.guard with
  | none => some true
  | some g => match e.get g.1 with
    | .bool b => some (b == g.2)
    | .tup _ => some false
    | _ => none
theorem guardW_spec {e : Env} {i : AIns} {yes no : Prop} (h : guardW e i yes no) : (guardOk e i = some true ∧ yes) ∨ (guardOk e i = some false ∧ no) := by
  unfold guardW at h
  unfold guardOk
  split at h
  · rename_i hg; exact .inl ⟨by simp [hg], h⟩
  · rename_i g hg
    split at h
    · rename_i b hb
      simp only [hg, hb]
      obtain ⟨gi, want⟩ := g
      cases b <;> cases want <;> simp only [cond_true, cond_false] at h
      · exact .inl ⟨rfl, h⟩
      · exact .inr ⟨rfl, h⟩
      · exact .inr ⟨rfl, h⟩
      · exact .inl ⟨rfl, h⟩
    · rename_i l hb
      simp only [hg, hb]
      exact .inr ⟨trivial, h⟩
    · exact h.elim
theorem guardW_of {e : Env} {i : AIns} {b : Bool} (h : guardOk e i = some b) : guardW e i (b = true) (b = false) := by
  unfold guardOk at h
  unfold guardW
  split at h
  · rename_i hg; simp only [Option.some.injEq] at h; simp [hg, h]
  · rename_i g hg
    split at h
    · rename_i t ht
      simp only [Option.some.injEq] at h
      simp only [hg, ht]
      obtain ⟨gi, want⟩ := g
      cases t <;> cases want <;> simp_all
    · rename_i l ht
      simp only [Option.some.injEq] at h
      simp only [hg, ht]
      simp_all
    · simp at h
theorem guardOk_congr {e e' : Env} {i : AIns} (h : ∀ u ∈ i.reads, e.get u = e'.get u) : guardOk e i = guardOk e' i := by
  unfold guardOk
  cases hg : i.guard with
  | none => rfl
  | some g =>
    simp only
    rw [h g.1 (by simp [AIns.reads, hg])]
theorem ev_congr {e e' : Env} {i : AIns} (h : ∀ u ∈ i.reads, e.get u = e'.get u) : ∀ x ∈ i.op.opds, AOpd.ev e x = AOpd.ev e' x := by
  intro x hx
  cases x with
  | t n =>
    refine h n ?_
    simp only [AIns.reads, List.mem_append, slotsOf, List.mem_filterMap]
    exact .inl ⟨.t n, hx, rfl⟩
  | c v => rfl
  | f n => rfl
theorem insW_spec {s : St} {get : Nat → Option Chunk} {e : Env} {i : AIns} {K : AV → Eff → Prop} {C : Nat → List AV → Prop} (h : insW s get e i K C) :
    (∃ v eff, opD get s.next (AOpd.ev e) i.op = .ok true v eff ∧ K v eff) ∨ (∃ f args, opD get s.next (AOpd.ev e) i.op = .call f args ∧ C f args) := by
  unfold insW at h
  split at h
  · rename_i c v eff hd
    cases c with
    | false => simp at h
    | true =>
      simp only [cond_true, forceV_eq] at h
      refine .inl ⟨v, eff, hd, ?_⟩
      cases hs : i.split with
      | false => simp only [hs, cond_false] at h; exact h
      | true =>
        simp only [hs, cond_true] at h
        cases v <;> simp only [] at h
        rename_i b
        cases b <;> exact h
  · rename_i f args hd
    exact .inr ⟨f, args, hd, h⟩
  · exact h.elim
section
variable {P : Program}
def Rec (anc : List Nat) (ins : List AIns) (e0 e : Env) (s : St) (pd : Pend) (x : AStep) : Prop :=
  ∃ (ei : Env) (gi : Nat → Option Chunk) (ni : Nat) (r : Option (Nat × Chunk)),
    (∀ u ∈ x.ins.reads, ((∃ (k : Nat) (y : AIns), ins[k]? = some y ∧ y.dst = some u ∧ (anc.getD x.i 0).testBit k = true) → ei.get u = e.get u) ∧
      ((¬ ∃ (k : Nat) (y : AIns), ins[k]? = some y ∧ y.dst = some u ∧ (anc.getD x.i 0).testBit k = true) → ei.get u = e0.get u)) ∧
    (∀ q ∈ pd, q.1 = x.i → r = some q.2) ∧
    ((guardOk ei x.ins = some false ∧ (∀ d, x.ins.dst = some d → e.get d = .tup []) ∧ r = none) ∨
     (guardOk ei x.ins = some true ∧ ∃ v eff, opD gi ni (AOpd.ev ei) x.ins.op = .ok true v eff ∧ (∀ d, x.ins.dst = some d → e.get d = v) ∧
       (∀ o, x.ins.op.looks = some o → AOpd.ev ei o = AOpd.ev e o) ∧
       (∀ o h c, x.ins.op.looks = some o → addrA (AOpd.ev ei o) = some h → gi h = some c → getP s pd h = some c) ∧
       ((eff = .no ∧ r = none) ∨ ∃ c, eff = .new c ∧ r = some (ni, c) ∧ (x.i, ni, c) ∈ pd)))
theorem Rec.mono {anc : List Nat} {ins : List AIns} {e0 e e' : Env} {s s' : St} {pd pd' : Pend} {x : AStep} (h : Rec anc ins e0 e s pd x)
    (h1 : ∀ (u k : Nat) (y : AIns), ins[k]? = some y → y.dst = some u → (anc.getD x.i 0).testBit k = true → e'.get u = e.get u) (h2 : ∀ d, x.ins.dst = some d → e'.get d = e.get d)
    (h3 : ∀ o, x.ins.op.looks = some o → AOpd.ev e' o = AOpd.ev e o) (h4 : ∀ o h c, x.ins.op.looks = some o → addrA (AOpd.ev e o) = some h → getP s pd h = some c → getP s' pd' h = some c)
    (h5 : ∀ q, q.1 = x.i → (q ∈ pd' ↔ q ∈ pd)) : Rec anc ins e0 e' s' pd' x := by
  obtain ⟨ei, gi, ni, r, k1, k2, k3⟩ := h
  refine ⟨ei, gi, ni, r, fun u hu => ⟨fun hw => ?_, (k1 u hu).2⟩, fun q hq hi => k2 q ((h5 q hi).1 hq) hi, ?_⟩
  · rw [(k1 u hu).1 hw]
    obtain ⟨k, y, q1, q2, q3⟩ := hw
    exact (h1 u k y q1 q2 q3).symm
  · rcases k3 with ⟨q1, q2, q3⟩ | ⟨q1, v, eff, q2, q3, q4, q5, q6⟩
    · exact .inl ⟨q1, fun d hd => (h2 d hd).trans (q2 d hd), q3⟩
    · refine .inr ⟨q1, v, eff, q2, fun d hd => (h2 d hd).trans (q3 d hd), fun o ho => (q4 o ho).trans (h3 o ho).symm, fun o h c ho ha hc => h4 o h c ho (by rw [← q4 o ho]; exact ha) (q5 o h c ho ha hc), ?_⟩
      rcases q6 with q6 | ⟨c, q6, q7, q8⟩
      · exact .inl q6
      · exact .inr ⟨c, q6, q7, (h5 _ rfl).2 q8⟩
structure J (P : Program) (F : From) (anc : List Nat) (ins : List AIns) (p : List AStep) (K : Env → St → Prop) (D : Nat → Bool) (pre rest : List AStep) (e0 e E : Env) (s T : St) (pd : Pend) (act : Act) (ι : Iota) (w : World) (M : Nat → Prop) : Prop where
  split : p = pre ++ rest
  dpre : ∀ i, D i = true → i ∈ pre.map (·.i)
  dcl : ∀ i j, D i = true → (anc.getD i 0).testBit j = true → D j = true
  eDone : ∀ x ∈ pre, x.e = true → D x.i = true
  W : drawW P rest e s pd K
  rep : Rep ι T w M
  tget : ∀ h c, T.get h = some c ↔ s.get h = some c ∨ ∃ i, (i, h, c) ∈ pd ∧ D i = true
  tnext : T.next = s.next
  pnd : PNd pd
  pnone : ∀ q ∈ pd, s.get q.2.1 = none
  plt : ∀ q ∈ pd, q.2.1 < s.next ∧ F.n0 ≤ q.2.1
  pun : ∀ q ∈ pd, D q.1 = false → ι q.2.1 = none
  pdn : ∀ q ∈ pd, D q.1 = true → ∃ p, ι q.2.1 = some (some p)
  ppre : ∀ q ∈ pd, q.1 ∈ pre.map (·.i)
  env : ERel ι w M E act
  eE1 : ∀ x ∈ pre, ∀ u, D x.i = false → x.ins.dst = some u → E.get u = e0.get u
  eE2 : ∀ u, (∀ x ∈ pre, D x.i = false → x.ins.dst ≠ some u) → E.get u = e.get u
  e00 : ∀ u, (∀ x ∈ pre, x.ins.dst ≠ some u) → e.get u = e0.get u
  recs : ∀ x ∈ pre, D x.i = false → Rec anc ins e0 e s pd x
  size : F.N ≤ act.tmps.size
  dfr : act.defers = []
  go : Go F.n0 F.ι F.s F.w F.M ι T w M
variable {F : From} {ops : List Oper} {anc : List Nat} {ins : List AIns} {p : List AStep} {K : Env → St → Prop} {D : Nat → Bool} {pre rest : List AStep} {e0 e E : Env} {s T : St} {pd : Pend} {act : Act} {ι : Iota} {w : World} {M : Nat → Prop}
theorem drawW_nil (e : Env) (s : St) (pd : Pend) : drawW P [] e s pd K = K e ⟨s.next, flush pd s.m⟩ := rfl
theorem drawW_cons (x : AStep) (r : List AStep) (e : Env) (s : St) (p : Pend) : drawW P (x :: r) e s p K = bif x.e then
      match absorb x.ab p s.m with
      | (m, p) => guardW e x.ins
          (insW ⟨s.next, m⟩ (St.get ⟨s.next, m⟩) e x.ins
            (fun v eff => appW ⟨s.next, m⟩ eff fun s' => watchW e (getP ⟨s.next, m⟩ p) (getP s' p) x.wt (putW e x.ins.dst v fun e => drawW P r e s' p K))
            (fun f args => Tr P f args ⟨s.next, m⟩ fun v s' => watchW e (getP ⟨s.next, m⟩ p) (getP s' p) x.wt (forceV v fun v => putW e x.ins.dst v fun e => drawW P r e s' p K)))
          (putW e x.ins.dst (.tup []) fun e => drawW P r e ⟨s.next, m⟩ p K)
    else guardW e x.ins
      (insW s (getP s p) e x.ins
        (fun v eff => putW e x.ins.dst v fun e => match eff with
          | .no => drawW P r e s p K
          | .new c => drawW P r e ⟨s.next + 1, s.m⟩ ((x.i, s.next, c) :: p) K
          | _ => False)
        (fun _ _ => False))
      (putW e x.ins.dst (.tup []) fun e => drawW P r e s p K) := rfl
theorem putE_get (e : Env) (d : Option Nat) (v : AV) (u : Nat) : (putE e d v).get u = if d = some u then v else e.get u := by
  cases d with
  | none => simp [putE]
  | some d =>
    simp only [putE, Env.get_cons, Option.some.injEq]
theorem PlanF.at (hp : PlanF P ops anc ins p) {x : AStep} (hx : x ∈ p) : ins[x.i]? = some x.ins := by
  obtain ⟨a, b, h⟩ := List.append_of_mem hx
  exact (hp.steps a x b h).1
theorem PlanF.before (hp : PlanF P ops anc ins p) (hs : p = pre ++ rest) {x : AStep} (hx : x ∈ pre) {j : Nat} (hj : (anc.getD x.i 0).testBit j = true) : j ∈ pre.map (·.i) := by
  obtain ⟨a, b, h⟩ := List.append_of_mem hx
  have := (hp.order a x (b ++ rest) (by rw [hs, h]; simp)).1 j hj
  rw [h]
  simp only [List.map_append, List.mem_append]
  exact .inl this
theorem PlanF.mem_i (hp : PlanF P ops anc ins p) {x y : AStep} (hx : x ∈ p) (hy : y ∈ p) (h : x.i = y.i) : x.ins = y.ins := by
  have h1 := hp.at hx
  have h2 := hp.at hy
  rw [h, h2] at h1
  simpa using h1.symm
theorem adv_core (hp : PlanF P ops anc ins p) {y : AStep} {v : AV} {s' : St} {pd' : Pend} (h : J P F anc ins p K D pre (y :: rest) e0 e E s T pd act ι w M) (hye : y.e = false)
    (hW : drawW P rest (putE e y.ins.dst v) s' pd' K) (hs : (pd' = pd ∧ s' = s) ∨ ∃ c, pd' = (y.i, s.next, c) :: pd ∧ s' = ⟨s.next + 1, s.m⟩)
    (hrec : Rec anc ins e0 (putE e y.ins.dst v) s' pd' y) :
    J P F anc ins p K D (pre ++ [y]) rest e0 (putE e y.ins.dst v) E s' ⟨s'.next, T.m⟩ pd' act ι w M := by
  have hyi : y.i ∉ pre.map (·.i) := (hp.order pre y rest h.split).2.1
  have hyD : D y.i = false := by
    cases hd : D y.i with
    | false => rfl
    | true => exact absurd (h.dpre _ hd) hyi
  have hyp : y ∈ p := by rw [h.split]; simp
  have hpre : ∀ x ∈ pre, x ∈ p := fun x hx => by rw [h.split]; simp [hx]
  have hyins := hp.at hyp
  have hnd : ∀ x ∈ pre, ∀ d, x.ins.dst = some d → y.ins.dst ≠ some d := fun x hx d h1 h2 => by
    have := hp.slot1 _ _ _ _ d (hp.at (hpre x hx)) hyins h1 h2
    exact hyi (this ▸ List.mem_map_of_mem hx)
  have hnext : s.next ≤ s'.next := by
    rcases hs with ⟨_, rfl⟩ | ⟨c, _, rfl⟩
    · exact Nat.le_refl _
    · simp
  have hget : ∀ k, s'.get k = s.get k := fun k => by
    rcases hs with ⟨_, rfl⟩ | ⟨c, _, rfl⟩ <;> rfl
  have hpd : ∀ q, q ∈ pd' → q ∈ pd ∨ (q.1 = y.i ∧ q.2.1 = s.next ∧ s.next < s'.next) := fun q hq => by
    rcases hs with ⟨rfl, _⟩ | ⟨c, rfl, rfl⟩
    · exact .inl hq
    · rcases List.mem_cons.1 hq with rfl | hq
      · exact .inr ⟨rfl, rfl, by simp⟩
      · exact .inl hq
  have hpd' : ∀ q, q ∈ pd → q ∈ pd' := fun q hq => by
    rcases hs with ⟨rfl, _⟩ | ⟨c, rfl, rfl⟩
    · exact hq
    · exact List.mem_cons_of_mem _ hq
  have hsn : s.get s.next = none := by
    cases hg : s.get s.next with
    | none => rfl
    | some c =>
      have := (h.tget s.next c).2 (.inl hg)
      have := h.rep.none_of_get this
      rw [h.tnext] at this
      omega
  have hpn : PNd pd' := by
    rcases hs with ⟨rfl, _⟩ | ⟨c, rfl, _⟩
    · exact h.pnd
    · exact List.pairwise_cons.2 ⟨fun q hq e => by have := (h.plt q hq).1; simp only at e; omega, h.pnd⟩
  have hpno : ∀ q ∈ pd', s'.get q.2.1 = none := fun q hq => by
    rw [hget]
    rcases hpd q hq with k | ⟨_, k, _⟩
    · exact h.pnone q k
    · rw [k]; exact hsn
  have hgetP : ∀ k c, getP s pd k = some c → getP s' pd' k = some c := fun k c hc => by
    rw [getP_iff hpn hpno]
    rw [getP_iff h.pnd h.pnone] at hc
    rcases hc with hc | ⟨i, hi⟩
    · exact .inl (by rw [hget]; exact hc)
    · exact .inr ⟨i, hpd' _ hi⟩
  refine ⟨by rw [h.split]; simp, fun i hi => ?_, h.dcl, fun x hx he => ?_, hW, (h.rep.next (n := s'.next) (by rw [h.tnext]; exact hnext)), fun k c => ?_, rfl, hpn, hpno, fun q hq => ?_, fun q hq hd => ?_, fun q hq hd => ?_, fun q hq => ?_, h.env, fun x hx u hd hu => ?_, fun u hu => ?_, fun u hu => ?_, fun x hx hd => ?_, h.size, h.dfr, h.go.sub (fun _ _ h => h) (by rw [h.tnext]; exact hnext)⟩
  · simp only [List.map_append, List.mem_append]; exact .inl (h.dpre i hi)
  · rcases List.mem_append.1 hx with hx | hx
    · exact h.eDone x hx he
    · simp only [List.mem_singleton] at hx; subst hx; rw [hye] at he; cases he
  · show T.get k = some c ↔ _
    rw [h.tget, hget]
    constructor
    · rintro (k1 | ⟨i, k1, k2⟩)
      · exact .inl k1
      · exact .inr ⟨i, hpd' _ k1, k2⟩
    · rintro (k1 | ⟨i, k1, k2⟩)
      · exact .inl k1
      · rcases hpd _ k1 with k3 | ⟨k3, _⟩
        · exact .inr ⟨i, k3, k2⟩
        · simp only at k3; subst k3; rw [hyD] at k2; cases k2
  · rcases hpd q hq with k | ⟨_, k, k'⟩
    · have := h.plt q k; exact ⟨by omega, this.2⟩
    · rw [k]
      have := h.go.next
      rw [h.tnext] at this
      exact ⟨k', this⟩
  · rcases hpd q hq with k | ⟨_, k, _⟩
    · exact h.pun q k hd
    · rw [k]; exact h.rep.fresh _ (by rw [h.tnext]; exact Nat.le_refl _)
  · rcases hpd q hq with k | ⟨k, _⟩
    · exact h.pdn q k hd
    · rw [k, hyD] at hd; cases hd
  · simp only [List.map_append, List.mem_append, List.map_cons, List.map_nil, List.mem_singleton]
    rcases hpd q hq with k | ⟨k, _⟩
    · exact .inl (h.ppre q k)
    · exact .inr k
  · rcases List.mem_append.1 hx with hx | hx
    · exact h.eE1 x hx u hd hu
    · simp only [List.mem_singleton] at hx; subst hx
      rw [h.eE2 u fun z hz _ hzu => hnd z hz u hzu hu]
      exact h.e00 u fun z hz hzu => hnd z hz u hzu hu
  · rw [putE_get, if_neg (hu y (by simp) hyD)]
    exact h.eE2 u fun z hz hd => hu z (by simp [hz]) hd
  · rw [putE_get, if_neg (hu y (by simp))]
    exact h.e00 u fun z hz => hu z (by simp [hz])
  · rcases List.mem_append.1 hx with hx | hx
    · refine (h.recs x hx hd).mono (fun u k z k1 k2 k3 => ?_) (fun d hd' => ?_) (fun o ho => ?_) (fun o k c _ _ hc => hgetP k c hc) fun q hq => ?_
      · rw [putE_get, if_neg]
        intro hyu
        have := hp.slot1 _ _ _ _ u k1 hyins k2 hyu
        subst this
        exact hyi (hp.before h.split hx k3)
      · rw [putE_get, if_neg (hnd x hx d hd')]
      · cases o with
        | t u =>
          show (putE e y.ins.dst v).get u = e.get u
          rw [putE_get, if_neg]
          intro hyu
          exact hyi (hp.before h.split hx (hp.slot3 _ _ _ _ u hyins (hp.at (hpre x hx)) hyu ho))
        | c v => rfl
        | f n => rfl
      · constructor
        · intro hq'
          rcases hpd q hq' with k | ⟨k, _⟩
          · exact k
          · exact absurd (by rw [← k, hq]; exact List.mem_map_of_mem hx) hyi
        · exact hpd' q
    · simp only [List.mem_singleton] at hx; subst hx; exact hrec
theorem advance1 (hp : PlanF P ops anc ins p) {y : AStep} (h : J P F anc ins p K D pre (y :: rest) e0 e E s T pd act ι w M) (hye : y.e = false) :
    ∃ e' s' T' pd', J P F anc ins p K D (pre ++ [y]) rest e0 e' E s' T' pd' act ι w M := by
  have hyi : y.i ∉ pre.map (·.i) := (hp.order pre y rest h.split).2.1
  have hyp : y ∈ p := by rw [h.split]; simp
  have hpre : ∀ x ∈ pre, x ∈ p := fun x hx => by rw [h.split]; simp [hx]
  have hyins := hp.at hyp
  -- what it reads
  have hreads : ∀ u ∈ y.ins.reads, (¬ ∃ (k : Nat) (z : AIns), ins[k]? = some z ∧ z.dst = some u ∧ (anc.getD y.i 0).testBit k = true) → e.get u = e0.get u := fun u hu hno => by
    refine h.e00 u fun x hx hxu => ?_
    rcases (hp.slot2 _ _ _ _ u (hp.at (hpre x hx)) hyins hxu hu).2 with k | k
    · exact hno ⟨x.i, x.ins, hp.at (hpre x hx), hxu, k⟩
    · exact hyi (hp.before h.split hx k)
  have hself : ∀ u ∈ y.ins.reads, y.ins.dst ≠ some u := fun u hu hd => (hp.slot2 _ _ _ _ u hyins hyins hd hu).1 rfl
  have hanc : ∀ (v : AV), ∀ u ∈ y.ins.reads, e.get u = (putE e y.ins.dst v).get u := fun v u hu => by rw [putE_get, if_neg (hself u hu)]
  have hnopd : ∀ q ∈ pd, q.1 ≠ y.i := fun q hq hqi => hyi (hqi ▸ h.ppre q hq)
  have hevs : ∀ (v : AV) (x : AOpd), x ∈ y.ins.op.opds → AOpd.ev e x = AOpd.ev (putE e y.ins.dst v) x := fun v => ev_congr (hanc v)
  have hlook : ∀ (a : AOp) o, a.looks = some o → o ∈ a.opds := fun a o ho => by
    cases a with
    | load ag n x => simp only [AOp.looks, Option.some.injEq] at ho; subst ho; simp [AOp.opds]
    | conv k x =>
      cases k with
      | toStr => simp only [AOp.looks, Option.some.injEq] at ho; subst ho; simp [AOp.opds]
      | same => simp [AOp.looks] at ho
      | int k => simp [AOp.looks] at ho
    | slice sk x lo hi =>
      cases sk with
      | arr n es => simp only [AOp.looks, Option.some.injEq] at ho; subst ho; simp [AOp.opds]
      | sl es => simp [AOp.looks] at ho
      | str => simp [AOp.looks] at ho
    | _ => simp [AOp.looks] at ho
  have hW := h.W
  rw [drawW_cons, hye, cond_false] at hW
  rcases guardW_spec hW with ⟨hg, hW⟩ | ⟨hg, hW⟩
  · rcases insW_spec hW with ⟨v, eff, hd, hW⟩ | ⟨f, args, _, hW⟩
    · rw [putW_eq] at hW
      have key : ∀ (s' : St) (pd' : Pend) (r : Option (Nat × Chunk)), drawW P rest (putE e y.ins.dst v) s' pd' K → ((pd' = pd ∧ s' = s) ∨ ∃ c, pd' = (y.i, s.next, c) :: pd ∧ s' = ⟨s.next + 1, s.m⟩) →
          (∀ k c, getP s pd k = some c → getP s' pd' k = some c) → (∀ q ∈ pd', q.1 = y.i → r = some q.2) → ((eff = .no ∧ r = none) ∨ ∃ c, eff = .new c ∧ r = some (s.next, c) ∧ (y.i, s.next, c) ∈ pd') →
          ∃ e' s' T' pd', J P F anc ins p K D (pre ++ [y]) rest e0 e' E s' T' pd' act ι w M := by
        intro s' pd' r hW' hs hgP hr heff
        refine ⟨_, _, _, _, adv_core hp h hye hW' hs ⟨e, getP s pd, s.next, r, fun u hu => ⟨fun _ => hanc v u hu, hreads u hu⟩, hr, .inr ⟨hg, v, eff, hd, fun d hd' => by rw [putE_get, if_pos hd'], fun o ho => hevs v o (hlook _ o ho), fun o k c _ _ hc => hgP k c hc, heff⟩⟩⟩
      cases eff with
      | no => exact key s pd none hW (.inl ⟨rfl, rfl⟩) (fun _ _ h => h) (fun q hq hqi => absurd hqi (hnopd q hq)) (.inl ⟨rfl, rfl⟩)
      | new c =>
        refine key _ _ (some (s.next, c)) hW (.inr ⟨c, rfl, rfl⟩) (fun k c' hc => ?_) (fun q hq hqi => ?_) (.inr ⟨c, rfl, rfl, by simp⟩)
        · unfold getP at hc ⊢
          have hgg : (St.mk (s.next + 1) s.m).get k = s.get k := rfl
          rw [hgg]
          cases hk : s.get k with
          | some c1 => rw [hk] at hc; exact hc
          | none =>
            rw [hk] at hc
            simp only at hc ⊢
            obtain ⟨i, hi⟩ := (Pend.get_iff pd h.pnd k c').1 hc
            have := (h.plt _ hi).1
            simp only at this
            simp only [Pend.get]
            have hb : Nat.beq s.next k = false := by
              rw [Bool.eq_false_iff]; intro hb; have := Nat.eq_of_beq_eq_true hb; omega
            rw [hb]
            exact hc
        · rcases List.mem_cons.1 hq with rfl | hq
          · rfl
          · exact absurd hqi (hnopd q hq)
      | set k c => exact hW.elim
      | app k c => exact hW.elim
    · exact hW.elim
  · rw [putW_eq] at hW
    exact ⟨_, _, _, _, adv_core hp h hye hW (.inl ⟨rfl, rfl⟩) ⟨e, getP s pd, s.next, none, fun u hu => ⟨fun _ => hanc _ u hu, hreads u hu⟩, fun q hq hqi => absurd hqi (hnopd q hq), .inl ⟨hg, fun d hd' => by rw [putE_get, if_pos hd'], rfl⟩⟩⟩
theorem advance (hp : PlanF P ops anc ins p) : ∀ (rest pre : List AStep) {e s T pd}, J P F anc ins p K D pre rest e0 e E s T pd act ι w M →
    ∃ pre' rest' e' s' T' pd', J P F anc ins p K D pre' rest' e0 e' E s' T' pd' act ι w M ∧ (rest' = [] ∨ ∃ y r, rest' = y :: r ∧ y.e = true)
  | [], pre, e, s, T, pd, h => ⟨pre, [], e, s, T, pd, h, .inl rfl⟩
  | y :: r, pre, e, s, T, pd, h => by
    cases hy : y.e with
    | true => exact ⟨pre, y :: r, e, s, T, pd, h, .inr ⟨y, r, rfl, hy⟩⟩
    | false =>
      obtain ⟨e', s', T', pd', h'⟩ := advance1 hp h hy
      exact advance hp r (pre ++ [y]) h'
end
end Go.Ab
set_option linter.unusedVariables false
set_option linter.unusedSimpArgs false
set_option autoImplicit false
namespace Go.Ab
section
variable {P : Program} {F : From} {ops : List Oper} {anc : List Nat} {ins : List AIns} {p : List AStep} {K : Env → St → Prop} {D D' : Nat → Bool} {pre rest : List AStep} {e0 e E : Env} {s T : St} {pd : Pend} {act : Act} {ι : Iota} {w : World} {M : Nat → Prop}
theorem PNd.inj : ∀ {pd : Pend}, PNd pd → ∀ {q q' : Nat × Nat × Chunk}, q ∈ pd → q' ∈ pd → q.2.1 = q'.2.1 → q = q'
  | [], _, q, q', h, _, _ => by simp at h
  | a :: r, hn, q, q', h, h', he => by
    obtain ⟨h1, h2⟩ := List.pairwise_cons.1 hn
    rcases List.mem_cons.1 h with rfl | k <;> rcases List.mem_cons.1 h' with rfl | k'
    · rfl
    · exact absurd he (h1 _ k')
    · exact absurd he.symm (h1 _ k)
    · exact PNd.inj h2 k k' he
theorem addr_some {v : AV} {V : Value} {h : Nat} (hv : VRel ι w M v V) (ha : addrA v = some h) : ∃ p, ι h = some p := by
  cases v <;> simp only [addrA, Option.some.injEq, reduceCtorEq] at ha <;> subst ha
  · obtain ⟨b, base, hi, _⟩ := hv.ptr_inv; exact ⟨_, hi⟩
  · rcases hv.sl_inv with ⟨b, base, _, _, _, _, hi, _⟩ | ⟨hi, _⟩ <;> exact ⟨_, hi⟩
theorem J.exec (hp : PlanF P ops anc ins p) {x : AStep} {v : AV} {V : Value} {T' : St} {ι' : Iota} {w' : World} {M' : Nat → Prop} (h : J P F anc ins p K D pre rest e0 e E s T pd act ι w M) (hx : x ∈ pre) (hxD : D x.i = false)
    (hanc : ∀ j, (anc.getD x.i 0).testBit j = true → D j = true) (hD' : ∀ j, D' j = true ↔ j = x.i ∨ D j = true) (hslot : slotIn F.N x.ins.dst = true)
    (hv : ∀ d, x.ins.dst = some d → e.get d = v) (hV : VRel ι' w' M' v V) (hR : Rep ι' T' w' M') (hT : ∀ h c, T'.get h = some c ↔ s.get h = some c ∨ ∃ i, (i, h, c) ∈ pd ∧ D' i = true) (hTn : T'.next = s.next)
    (hgo : Go F.n0 ι T w M ι' T' w' M') (hext : ∀ h p, ι h = some p → ι' h = some p) (hi : Imm w M w' M') (hpun : ∀ q ∈ pd, D' q.1 = false → ι' q.2.1 = none) (hpdn : ∀ q ∈ pd, q.1 = x.i → ∃ p, ι' q.2.1 = some (some p)) :
    J P F anc ins p K D' pre rest e0 e (putE E x.ins.dst v) s T' pd (act.put x.ins.dst V) ι' w' M' := by
  have hpre : ∀ x ∈ pre, x ∈ p := fun x hx => by rw [h.split]; simp [hx]
  have hD : ∀ j, D' j = false → D j = false ∧ j ≠ x.i := fun j hj => by
    constructor
    · cases hd : D j with
      | false => rfl
      | true => rw [(hD' j).2 (.inr hd)] at hj; cases hj
    · intro e; rw [(hD' j).2 (.inl e)] at hj; cases hj
  refine ⟨h.split, fun i hi => ?_, fun i j hi hj => ?_, fun z hz he => (hD' _).2 (.inr (h.eDone z hz he)), h.W, hR, hT, hTn, h.pnd, h.pnone, h.plt, hpun, fun q hq hd => ?_, h.ppre, (h.env.mono hi hext).put hV hslot h.size, fun z hz u hd hu => ?_, fun u hu => ?_, h.e00, fun z hz hd => h.recs z hz (hD _ hd).1, by rw [put_size]; exact h.size, by rw [put_defers]; exact h.dfr, h.go.trans hgo F.lt⟩
  · rcases (hD' i).1 hi with rfl | k
    · exact List.mem_map_of_mem hx
    · exact h.dpre i k
  · rcases (hD' i).1 hi with rfl | k
    · exact (hD' j).2 (.inr (hanc j hj))
    · exact (hD' j).2 (.inr (h.dcl i j k hj))
  · rcases (hD' _).1 hd with k | k
    · exact hpdn q hq k
    · obtain ⟨p, hp⟩ := h.pdn q hq k
      exact ⟨p, hext _ _ hp⟩
  · obtain ⟨k1, k2⟩ := hD _ hd
    rw [putE_get, if_neg]
    · exact h.eE1 z hz u k1 hu
    · intro hxu
      exact k2 (hp.slot1 _ _ _ _ u (hp.at (hpre z hz)) (hp.at (hpre x hx)) hu hxu)
  · rw [putE_get]
    split
    · rename_i hxu; exact (hv u hxu).symm
    · rename_i hxu
      refine h.eE2 u fun z hz hzd hzu => ?_
      by_cases hzx : z.i = x.i
      · exact hxu (by rw [← hp.mem_i (hpre z hz) (hpre x hx) hzx]; exact hzu)
      · refine hu z hz ?_ hzu
        cases hd : D' z.i with
        | false => rfl
        | true =>
          rcases (hD' _).1 hd with k | k
          · exact absurd k hzx
          · rw [hzd] at k; cases k
theorem exec_plain (hp : PlanF P ops anc ins p) {x : AStep} {Q : Exit → Act → World → Prop} {next : Act → World → Prop} (h : J P F anc ins p K D pre rest e0 e E s T pd act ι w M) (hx : x ∈ pre) (hxD : D x.i = false)
    (hanc : ∀ j, (anc.getD x.i 0).testBit j = true → D j = true) (hD' : ∀ j, D' j = true ↔ j = x.i ∨ D j = true) (hslot : slotIn F.N x.ins.dst = true)
    (hk : ∀ E' T' act' ι' w' M', J P F anc ins p K D' pre rest e0 e E' s T' pd act' ι' w' M' → next act' w') : wpOp P ops.toArray Q x.i next act w := by
  have hpre : ∀ x ∈ pre, x ∈ p := fun x hx => by rw [h.split]; simp [hx]
  have hxins := hp.at (hpre x hx)
  obtain ⟨o, ho, hio⟩ := hp.insOk _ _ hxins
  obtain ⟨hop, hdst⟩ := insOf_op hio
  have hxe : x.ins.op.isE = false := by
    obtain ⟨a, b, hab⟩ := List.append_of_mem (hpre x hx)
    have h1 := (hp.steps a x b hab).2
    have h2 := (stepOf_i anc ins (a.map (·.i)) x.i x.ins).2.2
    rw [← h1] at h2
    cases he : x.e with
    | false => rw [← h2, he]
    | true => rw [h.eDone x hx he] at hxD; cases hxD
  obtain ⟨ei, gi, ni, r, k1, k2, k3⟩ := h.recs x hx hxD
  have hE : ∀ u ∈ x.ins.reads, ei.get u = E.get u := fun u hu => by
    by_cases hw : ∃ (k : Nat) (y : AIns), ins[k]? = some y ∧ y.dst = some u ∧ (anc.getD x.i 0).testBit k = true
    · rw [(k1 u hu).1 hw]
      obtain ⟨k, y, q1, q2, q3⟩ := hw
      refine (h.eE2 u fun z hz hzd hzu => ?_).symm
      have := hp.slot1 _ _ _ _ u (hp.at (hpre z hz)) q1 hzu q2
      rw [this, hanc k q3] at hzd
      cases hzd
    · rw [(k1 u hu).2 hw]
      by_cases hex : ∃ z ∈ pre, D z.i = false ∧ z.ins.dst = some u
      · obtain ⟨z, hz, hzd, hzu⟩ := hex
        exact (h.eE1 z hz u hzd hzu).symm
      · rw [h.eE2 u fun z hz hzd hzu => hex ⟨z, hz, hzd, hzu⟩]
        refine (h.e00 u fun z hz hzu => ?_).symm
        rcases (hp.slot2 _ _ _ _ u (hp.at (hpre z hz)) hxins hzu hu).2 with k | k
        · exact hw ⟨z.i, z.ins, hp.at (hpre z hz), hzu, k⟩
        · cases hzd : D z.i with
          | false => exact hex ⟨z, hz, hzd, hzu⟩
          | true => rw [h.dcl _ _ hzd k] at hxD; cases hxD
  have hTm : ∀ k c, T.get k = some c ↔ s.get k = some c ∨ ∃ i, (i, k, c) ∈ pd ∧ D i = true := h.tget
  -- the same blocks
  have hsame : (∀ q ∈ pd, q.1 ≠ x.i) → ∀ k c, T.get k = some c ↔ s.get k = some c ∨ ∃ i, (i, k, c) ∈ pd ∧ D' i = true := fun hno k c => by
    rw [hTm]
    constructor
    · rintro (q | ⟨i, q1, q2⟩)
      · exact .inl q
      · exact .inr ⟨i, q1, (hD' i).2 (.inr q2)⟩
    · rintro (q | ⟨i, q1, q2⟩)
      · exact .inl q
      · rcases (hD' i).1 q2 with q | q
        · exact absurd q (hno _ q1)
        · exact .inr ⟨i, q1, q⟩
  have hund : ∀ j, D' j = false → D j = false := fun j hj => by
    cases hd : D j with
    | false => rfl
    | true => rw [(hD' j).2 (.inr hd)] at hj; cases hj
  have stay : ∀ (v : AV) (V : Value), (∀ d, x.ins.dst = some d → e.get d = v) → VRel ι w M v V → (∀ q ∈ pd, q.1 ≠ x.i) → next (act.put x.ins.dst V) w := fun v V hv hV hno =>
    hk _ T _ ι w M (h.exec hp hx hxD hanc hD' hslot hv hV h.rep (hsame hno) h.tnext (Go.refl _ _ _ _ h.go.next) (fun _ _ h => h) (Imm.refl _ _) (fun q hq hd => h.pun q hq (hund _ hd)) fun q hq hqi => absurd hqi (hno q hq))
  have hgetO : ops.toArray[x.i]? = some o := by simpa using ho
  unfold wpOp
  rw [hgetO]
  simp only
  rcases k3 with ⟨q1, q2, q3⟩ | ⟨q1, v, eff, q2, q3, q4, q5, q6⟩
  · rw [guardOk_congr hE] at q1
    rcases guard_sound hio h.env (guardW_of q1) with ⟨_, hc⟩ | ⟨hw, _⟩
    · cases hc
    · rw [if_neg (by simp [hw])]
      rw [← hdst]
      refine stay (.tup []) undef q2 VRel.skip fun q hq hqi => ?_
      have := k2 q hq hqi
      rw [q3] at this
      cases this
  · rw [guardOk_congr hE] at q1
    rcases guard_sound hio h.env (guardW_of q1) with ⟨hw, _⟩ | ⟨_, hc⟩
    case inr => cases hc
    rw [if_pos hw]
    refine .inl ?_
    have hev := ev_congr hE
    rw [opD_congr _ hev] at q2
    have hlk : ∀ o' k c, x.ins.op.looks = some o' → addrA (AOpd.ev E o') = some k → gi k = some c → T.get k = some c := fun o' k c hlo ha hc => by
      obtain ⟨u, rfl⟩ := hp.slot4 _ _ _ hxins hlo
      obtain ⟨_, hq⟩ := opD_get (g' := gi) _ hxe (fun _ _ _ _ _ h => h) q2
      have hmem := (hq _ k hlo ha).1
      have ha' : addrA (AOpd.ev ei (.t u)) = some k := by rw [hev _ hmem]; exact ha
      have := q5 _ k c hlo ha' hc
      rw [getP_iff h.pnd h.pnone] at this
      rw [hTm]
      rcases this with q | ⟨i, q⟩
      · exact .inl q
      · refine .inr ⟨i, q, ?_⟩
        cases hd : D i with
        | true => rfl
        | false =>
          obtain ⟨pp, hpp⟩ := addr_some (h.env u) ha
          have := h.pun _ q hd
          simp only at this
          rw [this] at hpp
          cases hpp
    obtain ⟨q2', _⟩ := opD_get (g' := T.get) _ hxe hlk q2
    unfold Oper.wp
    cases hA : x.ins.op.isA with
    | false =>
      obtain ⟨⟨V, hrun, hV⟩, rfl⟩ := op_pure hop hxe hA h.env.orel h.rep.hget q2'
      rw [hrun, Oper.upon_value, ← hdst]
      refine stay v V q3 hV fun q hq hqi => ?_
      rcases q6 with ⟨_, q6⟩ | ⟨c, q6, _⟩
      · have := k2 q hq hqi; rw [q6] at this; cases this
      · cases q6
    | true =>
      obtain ⟨c, rfl, V, cs, ty, hrun, m1, m2, m3⟩ := op_make hop hA h.env.orel q2'
      rcases q6 with ⟨q6, _⟩ | ⟨c', q6, q7, q8⟩
      · cases q6
      · simp only [Eff.new.injEq] at q6
        subst q6
        have hni : ι ni = none := h.pun _ q8 hxD
        obtain ⟨hlt, hge⟩ := h.plt _ q8
        simp only at hlt hge
        have hTg : T.get ni = none := by
          cases hg : T.get ni with
          | none => rfl
          | some c1 =>
            rcases (hTm _ _).1 hg with q | ⟨i, q, q'⟩
            · have := h.pnone _ q8; simp only at this; rw [this] at q; cases q
            · have := PNd.inj h.pnd q8 q rfl
              simp only [Prod.mk.injEq] at this
              rw [← this.1, hxD] at q'; cases q'
        rw [hrun, Oper.upon_value, ← hdst]
        have hx' := ι.set_ext ni (some (w.heap.size, 0)) hni
        have hI := Imm.alloc (w := w) (M := M) (.cells cs ty)
        have hR2 := Rep.alloc (cs := cs) (T := ty) (h := ni) h.rep hni (by rw [h.tnext]; exact hlt) hTg
        have hR3 : Rep (ι.set ni (some (w.heap.size, 0))) ⟨T.next, (ni, some c) :: T.m⟩ (w.alloc (.cells cs ty)) (addM M w.heap.size) := by
          refine hR2.put (.inr ⟨w.heap.size, 0, ι.set_same _ _, .inr rfl, ⟨cs, ty, (0, 0), heap_alloc_new w _, fun i _ => by omega, by omega, fun j hj => ?_⟩, fun j c' pp hne hc' hpp => ?_⟩)
          · rw [Nat.zero_add]
            exact (m2 j hj).mono hI hx'
          · rw [ι.set_other _ _ _ hne] at hpp
            have hM := h.rep.ownM ⟨j, c', pp.2, hc', hpp⟩
            have := h.rep.lt _ hM
            omega
        have hgo := Go.alloc (n0 := F.n0) (h := ni) (o := .cells cs ty) (p := some (w.heap.size, 0)) (ι := ι) (s := T) (w := w) (M := M) h.go.next hge hTg hni
        refine hk _ _ _ _ _ _ (h.exec hp hx hxD hanc hD' hslot q3 (m3 (ι.set ni (some (w.heap.size, 0))) _ (ι.set_same _ _)) hR3 (fun k c1 => ?_) h.tnext ⟨hgo.size, hgo.tape, hgo.os, hgo.output, hgo.block, hgo.shape, hgo.back, hgo.keep, fun b hb hown => ?_, hgo.next, hgo.ext⟩ hx' hI (fun q hq hd => ?_) fun q hq hqi => ?_)
        · rw [St.get_cons]
          by_cases hk' : ni = k
          · subst hk'
            rw [if_pos rfl]
            constructor
            · intro hc; cases hc; exact .inr ⟨x.i, q8, (hD' _).2 (.inl rfl)⟩
            · rintro (q | ⟨i, q, _⟩)
              · have := h.pnone _ q8; simp only at this; rw [this] at q; cases q
              · have := PNd.inj h.pnd q8 q rfl
                simp only [Prod.mk.injEq] at this
                rw [this.2.2]
          · rw [if_neg hk']
            show T.get k = some c1 ↔ _
            rw [hTm]
            constructor
            · rintro (q | ⟨i, q, q'⟩)
              · exact .inl q
              · exact .inr ⟨i, q, (hD' i).2 (.inr q')⟩
            · rintro (q | ⟨i, q, q'⟩)
              · exact .inl q
              · rcases (hD' i).1 q' with q'' | q''
                · have := k2 _ q q''
                  rw [q7] at this
                  simp only [Option.some.injEq, Prod.mk.injEq] at this
                  exact absurd this.1 hk'
                · exact .inr ⟨i, q, q''⟩
        · obtain ⟨j, c', base, h1, h2⟩ := hown
          rw [St.get_cons] at h1
          split at h1
          · rename_i he
            subst he
            rw [ι.set_same] at h2
            simp only [Option.some.injEq, Prod.mk.injEq] at h2
            omega
          · rename_i he
            rw [ι.set_other _ _ _ (fun e => he e.symm)] at h2
            exact ⟨j, c', base, h1, h2⟩
        · have hne : q.2.1 ≠ ni := fun e => by
            have := PNd.inj h.pnd hq q8 e
            rw [this] at hd
            rw [(hD' _).2 (.inl rfl)] at hd
            cases hd
          rw [ι.set_other _ _ _ hne]
          exact h.pun q hq (hund _ hd)
        · have := k2 q hq hqi
          rw [q7] at this
          simp only [Option.some.injEq] at this
          rw [← this]
          exact ⟨_, ι.set_same _ _⟩
end
end Go.Ab
set_option linter.unusedVariables false
set_option linter.unusedSimpArgs false
set_option autoImplicit false
namespace Go.Ab
section
variable {P : Program} {F : From} {ops : List Oper} {anc : List Nat} {ins : List AIns} {p : List AStep} {K : Env → St → Prop} {D D' : Nat → Bool} {pre rest : List AStep} {e0 e E : Env} {s T : St} {pd : Pend} {act : Act} {ι : Iota} {w : World} {M : Nat → Prop}
def doneL (D : Nat → Bool) : Pend → Mem
  | [] => []
  | q :: r => bif D q.1 then (q.2.1, some q.2.2) :: doneL D r else doneL D r
theorem doneL_get (D : Nat → Bool) : ∀ (pd : Pend), PNd pd → ∀ h c, (doneL D pd).get h = some c ↔ ∃ i, (i, h, c) ∈ pd ∧ D i = true
  | [], _, h, c => by simp [doneL, Mem.get]
  | q :: r, hn, h, c => by
    obtain ⟨h1, h2⟩ := List.pairwise_cons.1 hn
    have ih := doneL_get D r h2 h c
    simp only [doneL]
    cases hd : D q.1 with
    | true =>
      simp only [cond_true, Mem.get_cons]
      by_cases he : q.2.1 = h
      · rw [if_pos he]
        simp only [Option.some.injEq]
        constructor
        · intro hc; exact ⟨q.1, by rw [← he, ← hc]; simp, hd⟩
        · rintro ⟨i, hi, _⟩
          rcases List.mem_cons.1 hi with k | k
          · rw [← k]
          · exact absurd he (h1 _ k)
      · rw [if_neg he, ih]
        constructor
        · rintro ⟨i, hi, k⟩; exact ⟨i, List.mem_cons_of_mem _ hi, k⟩
        · rintro ⟨i, hi, k⟩
          rcases List.mem_cons.1 hi with k' | k'
          · exact absurd (by rw [← k']) he
          · exact ⟨i, k', k⟩
    | false =>
      simp only [cond_false]
      rw [ih]
      constructor
      · rintro ⟨i, hi, k⟩; exact ⟨i, List.mem_cons_of_mem _ hi, k⟩
      · rintro ⟨i, hi, k⟩
        rcases List.mem_cons.1 hi with k' | k'
        · rw [← k'] at hd; simp only at hd; rw [hd] at k; cases k
        · exact ⟨i, k', k⟩
theorem doneL_append (D : Nat → Bool) (m : Mem) : ∀ (pd : Pend) h, (doneL D pd ++ m).get h = match (doneL D pd).get h with
    | some c => some c
    | none => m.get h
  | [], h => rfl
  | q :: r, h => by
    have ih := doneL_append D m r h
    simp only [doneL]
    cases hd : D q.1 with
    | true =>
      simp only [cond_true, List.cons_append, Mem.get_cons]
      by_cases he : q.2.1 = h
      · rw [if_pos he, if_pos he]
      · rw [if_neg he, if_neg he]; exact ih
    | false => exact ih
theorem J.execE (hp : PlanF P ops anc ins p) {x : AStep} {r : List AStep} {v : AV} {V : Value} {s' : St} {m : Mem} {pd' : Pend} {ι' : Iota} {w' : World} {M' : Nat → Prop} (h : J P F anc ins p K D pre (x :: r) e0 e E s T pd act ι w M)
    (hxe : x.e = true) (hanc : ∀ j, (anc.getD x.i 0).testBit j = true → D j = true) (hD' : ∀ j, D' j = true ↔ j = x.i ∨ D j = true) (hslot : slotIn F.N x.ins.dst = true)
    (hab : absorb x.ab pd s.m = (m, pd')) (hW : drawW P r (putE e x.ins.dst v) s' pd' K) (hV : VRel ι' w' M' v V) (hR : Rep ι' s' w' M') (hgo : Go s.next ι ⟨s.next, m⟩ w M ι' s' w' M')
    (hext : ∀ h p, ι h = some p → ι' h = some p) (hi : Imm w M w' M')
    (hwatch : ∀ o ∈ x.wt, ∀ k, addrA (AOpd.ev e o) = some k → getP ⟨s.next, m⟩ pd' k = getP s' pd' k) :
    ∃ T', J P F anc ins p K D' (pre ++ [x]) r e0 (putE e x.ins.dst v) (putE E x.ins.dst v) s' T' pd' (act.put x.ins.dst V) ι' w' M' := by
  have hxi : x.i ∉ pre.map (·.i) := (hp.order pre x r h.split).2.1
  have hxp : x ∈ p := by rw [h.split]; simp
  have hpre : ∀ x ∈ pre, x ∈ p := fun x hx => by rw [h.split]; simp [hx]
  have hxins := hp.at hxp
  have hxD : D x.i = false := by
    cases hd : D x.i with
    | false => rfl
    | true => exact absurd (h.dpre _ hd) hxi
  have hst := (hp.steps pre x r h.split).2
  have hxab : ∀ j, memN x.ab j = true → (anc.getD x.i 0).testBit j = true := fun j hj => by
    rw [memN_iff] at hj
    rw [hst] at hj
    unfold stepOf at hj
    cases hE : x.ins.op.isE with
    | false => simp [hE] at hj
    | true =>
      simp only [hE, cond_true, List.mem_filter, Bool.and_eq_true] at hj
      exact hj.2.1
  have hxwt : ∀ z ∈ pre, (anc.getD x.i 0).testBit z.i = false → ∀ o, z.ins.op.looks = some o → o ∈ x.wt := fun z hz hzb o ho => by
    rw [hst]
    have hE : x.ins.op.isE = true := by
      have h2 := (stepOf_i anc ins (pre.map (·.i)) x.i x.ins).2.2
      rw [← hst, hxe] at h2
      exact h2.symm
    unfold stepOf
    simp only [hE, cond_true, List.mem_filterMap]
    exact ⟨z.i, List.mem_map_of_mem hz, by simp only [hzb, cond_false, hp.at (hpre z hz)]; exact ho⟩
  have hrest : pd' = pd.filter fun q => !memN x.ab q.1 := by have := absorb_rest x.ab pd s.m; rw [hab] at this; exact this
  have hmget : ∀ k c, (St.mk s.next m).get k = some c ↔ s.get k = some c ∨ ∃ i, (i, k, c) ∈ pd ∧ memN x.ab i = true := fun k c => by
    have := absorb_get x.ab pd s.m h.pnd h.pnone k c
    rw [hab] at this
    exact this
  have hmem' : ∀ q, q ∈ pd' ↔ q ∈ pd ∧ memN x.ab q.1 = false := fun q => by rw [hrest]; simp
  have hmT : ∀ k c, (St.mk s.next m).get k = some c → T.get k = some c := fun k c hc => by
    rw [h.tget]
    rcases (hmget k c).1 hc with q | ⟨i, q, q'⟩
    · exact .inl q
    · exact .inr ⟨i, q, hanc i (hxab i q')⟩
  have hnd' : PNd pd' := by rw [hrest]; exact h.pnd.sublist List.filter_sublist
  have hm0 : ∀ q ∈ pd', (St.mk s.next m).get q.2.1 = none := fun q hq => by
    cases hg : (St.mk s.next m).get q.2.1 with
    | none => rfl
    | some c =>
      obtain ⟨q1, q2⟩ := (hmem' q).1 hq
      rcases (hmget _ c).1 hg with k | ⟨i, k, k'⟩
      · rw [h.pnone q q1] at k; cases k
      · have := PNd.inj h.pnd q1 k rfl
        rw [this, k'] at q2; cases q2
  have hext' : ∀ k, k < s.next → ι' k = ι k := hgo.ext
  have hnx : s.next ≤ s'.next := hgo.next
  have hdisj : ∀ q ∈ pd', s'.get q.2.1 = none := fun q hq => by
    obtain ⟨q1, q2⟩ := (hmem' q).1 hq
    cases hg : s'.get q.2.1 with
    | none => rfl
    | some c =>
      exfalso
      have hlt := (h.plt q q1).1
      cases hd : D q.1 with
      | false =>
        have h0 := h.pun q q1 hd
        rcases hR.own _ c hg with ⟨k, _⟩ | ⟨b, base, k, _⟩ <;> rw [hext' _ hlt, h0] at k <;> cases k
      | true =>
        obtain ⟨⟨b, base⟩, hpp⟩ := h.pdn q q1 hd
        have hTg : T.get q.2.1 = some q.2.2 := (h.tget _ _).2 (.inr ⟨q.1, q1, hd⟩)
        have hMb := h.rep.ownM ⟨_, _, _, hTg, hpp⟩
        have hOwn : Own ι ⟨s.next, m⟩ b := hgo.own b (h.rep.lt b hMb) ⟨_, c, base, hg, (hext' _ hlt).trans hpp⟩
        obtain ⟨j, c', base', k1, k2⟩ := hOwn
        have hne : q.2.1 ≠ j := fun e => by rw [← e, hm0 q hq] at k1; cases k1
        exact h.rep.inj _ j _ c' _ _ hTg (hmT j c' k1) hne hpp k2 rfl
  have hFr : ∀ k c, (doneL D pd').get k = some c → T.get k = some c ∧ (St.mk s.next m).get k = none := fun k c hc => by
    obtain ⟨i, q, q'⟩ := (doneL_get D pd' hnd' k c).1 hc
    exact ⟨(h.tget k c).2 (.inr ⟨i, ((hmem' _).1 q).1, q'⟩), hm0 _ q⟩
  obtain ⟨f1, f2, f3⟩ := frame (doneL D pd') h.rep hmT h.tnext.symm hR hgo hext hi hFr
  have hDpd : ∀ q ∈ pd', (D' q.1 = true ↔ D q.1 = true) := fun q hq => by
    rw [hD']
    constructor
    · rintro (k | k)
      · exact absurd (by rw [← k]; exact h.ppre q ((hmem' q).1 hq).1) hxi
      · exact k
    · exact .inr
  have hD : ∀ j, D' j = false → D j = false ∧ j ≠ x.i := fun j hj => by
    constructor
    · cases hd : D j with
      | false => rfl
      | true => rw [(hD' j).2 (.inr hd)] at hj; cases hj
    · intro e; rw [(hD' j).2 (.inl e)] at hj; cases hj
  have hnd : ∀ z ∈ pre, ∀ d, z.ins.dst = some d → x.ins.dst ≠ some d := fun z hz d h1 h2 => by
    have := hp.slot1 _ _ _ _ d (hp.at (hpre z hz)) hxins h1 h2
    exact hxi (this ▸ List.mem_map_of_mem hz)
  refine ⟨⟨s'.next, doneL D pd' ++ s'.m⟩, by rw [h.split]; simp, fun i hi => ?_, fun i j hi hj => ?_, fun z hz he => ?_, hW, f1, fun k c => ?_, rfl, hnd', hdisj, fun q hq => ?_, fun q hq hd => ?_, fun q hq hd => ?_, fun q hq => ?_, (h.env.mono hi hext).put hV hslot h.size, fun z hz u hd hu => ?_, fun u hu => ?_, fun u hu => ?_, fun z hz hd => ?_, by rw [put_size]; exact h.size, by rw [put_defers]; exact h.dfr, h.go.trans (f2.weak (by have := h.go.next; rw [h.tnext] at this; exact this)) F.lt⟩
  · simp only [List.map_append, List.mem_append, List.map_cons, List.map_nil, List.mem_singleton]
    rcases (hD' i).1 hi with k | k
    · exact .inr k
    · exact .inl (h.dpre i k)
  · rcases (hD' i).1 hi with rfl | k
    · exact (hD' j).2 (.inr (hanc j hj))
    · exact (hD' j).2 (.inr (h.dcl i j k hj))
  · rcases List.mem_append.1 hz with hz | hz
    · exact (hD' _).2 (.inr (h.eDone z hz he))
    · simp only [List.mem_singleton] at hz; subst hz; exact (hD' _).2 (.inl rfl)
  · show (doneL D pd' ++ s'.m).get k = some c ↔ _
    rw [doneL_append]
    cases hg : (doneL D pd').get k with
    | some c1 =>
      obtain ⟨i, q, q'⟩ := (doneL_get D pd' hnd' k c1).1 hg
      simp only [Option.some.injEq]
      constructor
      · rintro rfl; exact .inr ⟨i, q, (hDpd _ q).2 q'⟩
      · rintro (k' | ⟨i', q1, _⟩)
        · have := hdisj _ q; simp only at this; rw [this] at k'; cases k'
        · have := PNd.inj hnd' q q1 rfl
          simp only [Prod.mk.injEq] at this
          exact this.2.2
    | none =>
      simp only
      constructor
      · intro hc; exact .inl hc
      · rintro (k' | ⟨i', q1, q2⟩)
        · exact k'
        · have := (doneL_get D pd' hnd' k c).2 ⟨i', q1, (hDpd _ q1).1 q2⟩
          rw [hg] at this; cases this
  · have := h.plt q ((hmem' q).1 hq).1
    exact ⟨by omega, this.2⟩
  · obtain ⟨q1, _⟩ := (hmem' q).1 hq
    rw [hext' _ (h.plt q q1).1]
    exact h.pun q q1 (hD _ hd).1
  · obtain ⟨q1, _⟩ := (hmem' q).1 hq
    rw [hext' _ (h.plt q q1).1]
    exact h.pdn q q1 ((hDpd q hq).1 hd)
  · simp only [List.map_append, List.mem_append]
    exact .inl (h.ppre q ((hmem' q).1 hq).1)
  · rcases List.mem_append.1 hz with hz | hz
    · rw [putE_get, if_neg (hnd z hz u hu)]
      exact h.eE1 z hz u (hD _ hd).1 hu
    · simp only [List.mem_singleton] at hz; subst hz
      exact absurd rfl (hD _ hd).2
  · rw [putE_get, putE_get]
    split
    · rfl
    · refine h.eE2 u fun z hz hzd hzu => hu z (by simp [hz]) ?_ hzu
      cases hd : D' z.i with
      | false => rfl
      | true =>
        rcases (hD' _).1 hd with k | k
        · exact absurd (k ▸ List.mem_map_of_mem hz) hxi
        · rw [hzd] at k; cases k
  · rw [putE_get, if_neg (hu x (by simp))]
    exact h.e00 u fun z hz => hu z (by simp [hz])
  · rcases List.mem_append.1 hz with hz | hz
    · have hzd := (hD _ hd).1
      have hzb : (anc.getD x.i 0).testBit z.i = false := by
        cases hb : (anc.getD x.i 0).testBit z.i with
        | false => rfl
        | true => rw [hanc _ hb] at hzd; cases hzd
      refine (h.recs z hz hzd).mono (fun u k y k1 k2 k3 => ?_) (fun d hd' => ?_) (fun o ho => ?_) (fun o k c ho ha hc => ?_) fun q hq => ?_
      · rw [putE_get, if_neg]
        intro hxu
        have := hp.slot1 _ _ _ _ u k1 hxins k2 hxu
        subst this
        exact hxi (hp.before h.split hz k3)
      · rw [putE_get, if_neg (hnd z hz d hd')]
      · obtain ⟨u, rfl⟩ := hp.slot4 _ _ _ (hp.at (hpre z hz)) ho
        show (putE e x.ins.dst v).get u = e.get u
        rw [putE_get, if_neg]
        intro hxu
        exact hxi (hp.before h.split hz (hp.slot3 _ _ _ _ u hxins (hp.at (hpre z hz)) hxu ho))
      · rw [← hwatch o (hxwt z hz hzb o ho) k ha]
        rw [getP_iff hnd' hm0, hmget]
        rw [getP_iff h.pnd h.pnone] at hc
        rcases hc with hc | ⟨i, hc⟩
        · exact .inl (.inl hc)
        · cases hm : memN x.ab i with
          | true => exact .inl (.inr ⟨i, hc, hm⟩)
          | false => exact .inr ⟨i, (hmem' _).2 ⟨hc, hm⟩⟩
      · rw [hmem']
        constructor
        · exact fun k => k.1
        · intro k
          refine ⟨k, ?_⟩
          cases hm : memN x.ab q.1 with
          | false => rfl
          | true =>
            have := hxab _ hm
            rw [hq, hzb] at this; cases this
    · simp only [List.mem_singleton] at hz; subst hz
      exact absurd rfl (hD _ hd).2
theorem exec_eff (hp : PlanF P ops anc ins p) {x : AStep} {r : List AStep} {Q : Exit → Act → World → Prop} {next : Act → World → Prop} (h : J P F anc ins p K D pre (x :: r) e0 e E s T pd act ι w M)
    (hxe : x.e = true) (hanc : ∀ j, (anc.getD x.i 0).testBit j = true → D j = true) (hD' : ∀ j, D' j = true ↔ j = x.i ∨ D j = true) (hslot : slotIn F.N x.ins.dst = true)
    (hk : ∀ e' E' s' T' pd' act' ι' w' M', J P F anc ins p K D' (pre ++ [x]) r e0 e' E' s' T' pd' act' ι' w' M' → next act' w') : wpOp P ops.toArray Q x.i next act w := by
  have hxi : x.i ∉ pre.map (·.i) := (hp.order pre x r h.split).2.1
  have hxp : x ∈ p := by rw [h.split]; simp
  have hpre : ∀ x ∈ pre, x ∈ p := fun x hx => by rw [h.split]; simp [hx]
  have hxins := hp.at hxp
  obtain ⟨o, ho, hio⟩ := hp.insOk _ _ hxins
  obtain ⟨hop, hdst⟩ := insOf_op hio
  have hE : ∀ u ∈ x.ins.reads, e.get u = E.get u := fun u hu => by
    refine (h.eE2 u fun z hz hzd hzu => ?_).symm
    rcases (hp.slot2 _ _ _ _ u (hp.at (hpre z hz)) hxins hzu hu).2 with k | k
    · rw [hanc _ k] at hzd; cases hzd
    · exact hxi (hp.before h.split hz k)
  have hst := (hp.steps pre x r h.split).2
  have hW := h.W
  rw [drawW_cons, hxe, cond_true] at hW
  cases hab : absorb x.ab pd s.m with
  | mk m pd' =>
  simp only [hab] at hW
  have hxab : ∀ j, memN x.ab j = true → (anc.getD x.i 0).testBit j = true := fun j hj => by
    rw [memN_iff] at hj
    rw [hst] at hj
    unfold stepOf at hj
    cases hE : x.ins.op.isE with
    | false => simp [hE] at hj
    | true =>
      simp only [hE, cond_true, List.mem_filter, Bool.and_eq_true] at hj
      exact hj.2.1
  have hmT : ∀ k c, (St.mk s.next m).get k = some c → T.get k = some c := fun k c hc => by
    rw [h.tget]
    have := absorb_get x.ab pd s.m h.pnd h.pnone k c
    rw [hab] at this
    rcases this.1 hc with q | ⟨i, q, q'⟩
    · exact .inl q
    · exact .inr ⟨i, q, hanc i (hxab i q')⟩
  have hRm : Rep ι ⟨s.next, m⟩ w M := h.rep.sub hmT h.tnext.symm
  have hgetO : ops.toArray[x.i]? = some o := by simpa using ho
  unfold wpOp
  rw [hgetO]
  simp only
  rcases guardW_spec hW with ⟨hg, hW⟩ | ⟨hg, hW⟩
  · rw [guardOk_congr hE] at hg
    rcases guard_sound hio h.env (guardW_of hg) with ⟨hw, _⟩ | ⟨_, hc⟩
    case inr => cases hc
    rw [if_pos hw]
    refine .inl ?_
    unfold Oper.wp
    rcases insW_spec hW with ⟨v, eff, hd, hW⟩ | ⟨f, args, hd, hW⟩
    · rw [appW_eq] at hW
      obtain ⟨hwt, hW⟩ := watch_spec _ _ hW
      rw [putW_eq] at hW
      rw [opD_congr _ (ev_congr hE)] at hd
      obtain ⟨V, ι', w', M', hrun, h1, h2, h3, h4, h5⟩ := op_does (n0 := s.next) hop hRm h.env (Nat.le_refl _) hd
      obtain ⟨T', hJ⟩ := h.execE hp hxe hanc hD' hslot hab hW h1 h2 h3 h4 h5 hwt
      rw [hdst] at hJ
      rcases hrun with hrun | ⟨hrun, rfl⟩
      · rw [hrun, Oper.upon_value]; exact hk _ _ _ _ _ _ _ _ _ hJ
      · rw [hrun, Oper.upon_skip]; exact hk _ _ _ _ _ _ _ _ _ hJ
    · unfold Tr at hW
      obtain ⟨hb, hW⟩ := hW
      rw [opD_congr _ (ev_congr hE)] at hd
      obtain ⟨Vs, hrun, hVs⟩ := op_calls hop hRm h.env hd hb
      rw [hrun, Oper.upon_enter]
      refine Calls.mono (hW ι w M Vs hRm hVs) fun en w' he => ?_
      obtain ⟨V, ι', M', v, s', rfl, hK, h1, h2, h3⟩ := he
      obtain ⟨hwt, hK⟩ := watch_spec _ _ hK
      rw [forceV_eq, putW_eq] at hK
      obtain ⟨T', hJ⟩ := h.execE hp hxe hanc hD' hslot hab hK h1 h2 h3 (Rep.ext_all (n0 := 0) hRm h3) (GoImm h3 fun b hb => hRm.ownM hb) hwt
      rw [hdst] at hJ
      exact hk _ _ _ _ _ _ _ _ _ hJ
  · rw [guardOk_congr hE] at hg
    rcases guard_sound hio h.env (guardW_of hg) with ⟨_, hc⟩ | ⟨hw, _⟩
    · cases hc
    · rw [if_neg (by simp [hw])]
      rw [putW_eq] at hW
      obtain ⟨T', hJ⟩ := h.execE hp hxe hanc hD' hslot hab hW VRel.skip hRm (Go.refl _ _ _ _ (Nat.le_refl _)) (fun _ _ h => h) (Imm.refl _ _) (fun _ _ _ _ => rfl)
      rw [hdst] at hJ
      exact hk _ _ _ _ _ _ _ _ _ hJ
theorem count_lt {f f' : Nat → Bool} : ∀ (l : List Nat) (i : Nat), i ∈ l → (∀ j, f' j = true → f j = true) → f i = true → f' i = false → (l.filter f').length < (l.filter f).length
  | [], i, h, _, _, _ => by simp at h
  | a :: r, i, h, hm, h1, h2 => by
    have hle : (r.filter f').length ≤ (r.filter f).length := by
      have : ∀ l : List Nat, (l.filter f').length ≤ (l.filter f).length := by
        intro l
        induction l with
        | nil => simp
        | cons b q ih =>
          simp only [List.filter_cons]
          cases hb' : f' b with
          | true => simp [hm b hb', ih]
          | false =>
            cases hb : f b with
            | true => simp; omega
            | false => simp; exact ih
      exact this r
    simp only [List.filter_cons]
    rcases List.mem_cons.1 h with rfl | h
    · simp [h1, h2]; omega
    · have ih := count_lt r i h hm h1 h2
      cases ha' : f' a with
      | true => simp [hm a ha', ih]
      | false =>
        cases ha : f a with
        | true => simp; omega
        | false => simpa using ih
theorem draw_run {Q : Exit → Act → World → Prop} (hp : PlanF P ops anc ins p) (hslots : ∀ x ∈ p, slotIn F.N x.ins.dst = true)
    (hQ : ∀ e' s' act' ι' w' M', Inv F e' s' act' ι' w' M' → K e' s' → Q .normal act' w') :
    ∀ (fuel : Nat) (listed : Array Bool), listed.size = ops.length → ((List.range ops.length).filter fun i => !listed.getD i false).length ≤ fuel →
      ∀ {pre rest e E s T pd act ι w M}, J P F anc ins p K (fun i => listed.getD i false) pre rest e0 e E s T pd act ι w M → (rest = [] ∨ ∃ y r, rest = y :: r ∧ y.e = true) →
      wpAny P .any ops.toArray Q fuel listed act w := by
  -- all are done
  have fin : ∀ (listed : Array Bool), listed.size = ops.length → Region.ready .any ops.toArray listed = [] →
      ∀ {pre rest e E s T pd act ι w M}, J P F anc ins p K (fun i => listed.getD i false) pre rest e0 e E s T pd act ι w M → Q .normal act w := by
    intro listed hsz hr pre rest e E s T pd act ι w M h
    have hall : ∀ (l a : List AStep), p = a ++ l → (∀ z ∈ a, listed.getD z.i false = true) → ∀ z ∈ p, listed.getD z.i false = true := by
      intro l
      induction l with
      | nil => intro a ha hd z hz; rw [ha] at hz; exact hd z (by simpa using hz)
      | cons y r ih =>
        intro a ha hd
        refine ih (a ++ [y]) (by rw [ha]; simp) fun z hz => ?_
        rcases List.mem_append.1 hz with hz | hz
        · exact hd z hz
        · simp only [List.mem_singleton] at hz
          subst hz
          have hzp : z ∈ p := by rw [ha]; simp
          obtain ⟨o, ho, hio⟩ := hp.insOk _ _ (hp.at hzp)
          have hlt : z.i < ops.length := (List.getElem?_eq_some_iff.1 ho).1
          cases hl : listed.getD z.i false with
          | true => rfl
          | false =>
            exfalso
            have hmem : z.i ∈ Region.ready .any ops.toArray listed := by
              rw [mem_ready]
              refine ⟨?_, o, by simpa using ho, fun ed hed hb => ?_⟩
              · have hlt' : z.i < listed.size := by omega
                simp only [Array.getD, hlt', dif_pos] at hl ⊢
                exact hl
              · have hdep : ed.on ∈ depsOf o := by
                  unfold depsOf
                  exact List.mem_map_of_mem (List.mem_filter.2 ⟨by simpa using hed, hb⟩)
                have hbit : (anc.getD z.i 0).testBit ed.on = true := by
                  rw [hp.deps _ o ho, orAll_bit]
                  exact ⟨_, hdep, .inl rfl⟩
                have hin := (hp.order a z r ha).1 _ hbit
                obtain ⟨y', hy', hyi⟩ := List.mem_map.1 hin
                rw [← hyi]
                exact hd y' hy'
            rw [hr] at hmem
            simp at hmem
    have hdone := hall p [] (by simp) (by simp)
    have hrest : rest = [] := by
      cases hrr : rest with
      | nil => rfl
      | cons y r =>
        have hs := h.split
        rw [hrr] at hs
        have := hdone y (by rw [hs]; simp)
        exact absurd (h.dpre _ this) (hp.order pre y r hs).2.1
    subst hrest
    have hW := h.W
    rw [drawW_nil] at hW
    have hpp : pre = p := by rw [h.split]; simp
    have hsub : ∀ k c, (St.mk s.next (flush pd s.m)).get k = some c → T.get k = some c := fun k c hc => by
      rw [h.tget]
      rcases flush_get pd s.m k c hc with q | ⟨i, q⟩
      · exact .inl q
      · refine .inr ⟨i, q, ?_⟩
        obtain ⟨y, hy, hyi⟩ := List.mem_map.1 (h.ppre _ q)
        have := hdone y (hpp ▸ hy)
        rw [hyi] at this
        exact this
    refine hQ _ _ _ ι w M ⟨h.rep.sub hsub h.tnext.symm, fun u => ?_, h.size, h.dfr, h.go.sub hsub (by rw [h.tnext]; exact Nat.le_refl _)⟩ hW
    rw [← h.eE2 u fun z hz hzd => by rw [hdone z (hpp ▸ hz)] at hzd; cases hzd]
    exact h.env u
  intro fuel
  induction fuel with
  | zero =>
    intro listed hsz hc pre rest e E s T pd act ι w M h _
    have hr : Region.ready .any ops.toArray listed = [] := by
      cases hrd : Region.ready .any ops.toArray listed with
      | nil => rfl
      | cons i q =>
        exfalso
        have hi : i ∈ Region.ready .any ops.toArray listed := by rw [hrd]; simp
        obtain ⟨h1, o, h2, _⟩ := mem_ready.1 hi
        have hlt : i < ops.length := by
          have := (Array.getElem?_eq_some_iff.1 h2).1
          simpa using this
        have hl : listed.getD i false = false := by
          have hlt' : i < listed.size := by omega
          simp only [Array.getD, hlt', dif_pos] at h1 ⊢
          exact h1
        have : i ∈ (List.range ops.length).filter fun i => !listed.getD i false := List.mem_filter.2 ⟨List.mem_range.2 hlt, by simp only [hl]; rfl⟩
        have := List.length_pos_of_mem this
        omega
    exact ⟨hr, fin listed hsz hr h⟩
  | succ fuel ih =>
    intro listed hsz hc pre rest e E s T pd act ι w M h hrest
    refine ⟨fun hr => fin listed hsz hr h, fun i hi => ?_⟩
    obtain ⟨h1, o, h2, h3⟩ := mem_ready.1 hi
    have ho : ops[i]? = some o := by simpa using h2
    have hlt : i < ops.length := (List.getElem?_eq_some_iff.1 ho).1
    have hlt' : i < listed.size := by omega
    have hl : listed.getD i false = false := by
      simp only [Array.getD, hlt', dif_pos] at h1 ⊢
      exact h1
    obtain ⟨x, hxp, rfl⟩ := hp.cover i hlt
    have hanc : ∀ j, (anc.getD x.i 0).testBit j = true → listed.getD j false = true := fun j hj => by
      rw [hp.deps _ o ho, orAll_bit] at hj
      obtain ⟨d, hd, hj⟩ := hj
      have hdd : listed.getD d false = true := by
        unfold depsOf at hd
        obtain ⟨ed, hed, rfl⟩ := List.mem_map.1 hd
        obtain ⟨q1, q2⟩ := List.mem_filter.1 hed
        exact h3 ed (by simpa using q1) q2
      rcases hj with rfl | hj
      · exact hdd
      · exact h.dcl d j hdd hj
    have hset : ∀ j, (listed.setIfInBounds x.i true).getD j false = true ↔ j = x.i ∨ listed.getD j false = true := fun j => by
      by_cases hj : j = x.i
      · subst hj
        simp [Array.getD, hlt']
      · have : (listed.setIfInBounds x.i true).getD j false = listed.getD j false := by
          simp only [Array.getD_eq_getD_getElem?, Array.getElem?_setIfInBounds_ne (fun e => hj e.symm)]
        rw [this]
        simp [hj]
    have hcnt : ((List.range ops.length).filter fun i => !(listed.setIfInBounds x.i true).getD i false).length ≤ fuel := by
      have := count_lt (f := fun i => !listed.getD i false) (f' := fun i => !(listed.setIfInBounds x.i true).getD i false) (List.range ops.length) x.i (List.mem_range.2 hlt) (fun j hj => by
        simp only [Bool.not_eq_true'] at hj ⊢
        cases hjj : listed.getD j false with
        | false => rfl
        | true => rw [(hset j).2 (.inr hjj)] at hj; cases hj) (by simp only [hl]; rfl) (by simp only [(hset x.i).2 (.inl rfl)]; rfl)
      omega
    have hsz' : (listed.setIfInBounds x.i true).size = ops.length := by simp [hsz]
    have next : ∀ {pre rest e E s T pd act ι w M}, J P F anc ins p K (fun i => (listed.setIfInBounds x.i true).getD i false) pre rest e0 e E s T pd act ι w M → wpAny P .any ops.toArray Q fuel (listed.setIfInBounds x.i true) act w := by
      intro pre rest e E s T pd act ι w M hJ
      obtain ⟨pre', rest', e', s', T', pd', hJ', hr'⟩ := advance hp rest pre hJ
      exact ih _ hsz' hcnt hJ' hr'
    -- in the plan's past, or next
    have hx : x ∈ pre ∨ x ∈ rest := by
      have := hxp
      rw [h.split] at this
      exact List.mem_append.1 this
    rcases hx with hx | hx
    · exact exec_plain hp h hx hl hanc hset (hslots x hxp) fun E' T' act' ι' w' M' hJ => next hJ
    · rcases hrest with hr | ⟨y, r, hr, hye⟩
      · rw [hr] at hx; simp at hx
      · subst hr
        rcases List.mem_cons.1 hx with rfl | hx
        · exact exec_eff hp h hye hanc hset (hslots x hxp) fun e' E' s' T' pd' act' ι' w' M' hJ => next hJ
        · exfalso
          have hb := (hp.order pre y r h.split).2.2 hye x hx
          have := h.dpre _ (hanc _ hb)
          exact (hp.order pre y r h.split).2.1 this
end
theorem drawOk {P : Program} (hm : P.follows .mixedOrders = true) : DrawOk P := by
  intro F id ops p hc hd e s act ι w M K Q hI hW hQ
  unfold compReg at hc
  split at hc
  · rename_i l hl
    simp only [cond_true] at hc
    cases hpk : planOk P ops.toList l (ancs ops.toList []) (plan (ancs ops.toList []) l l.length [] 0) with
    | false => simp [hpk] at hc
    | true =>
      simp only [hpk, cond_true, Option.some.injEq, ACode.draw.injEq] at hc
      have hp := planF hl (p := p) hc.symm (by rw [← hc]; exact hpk)
      have hslots : ∀ x ∈ p, slotIn F.N x.ins.dst = true := by
        simp only [dstOk, List.all_eq_true] at hd
        exact hd
      refine wp_region_any hm ?_
      have hI' : Inv F e s act ι w.drew M := ⟨hI.rep.drew, hI.env.mono .drew (fun _ _ h => h), hI.size, hI.dfr, hI.go.trans (Go.drew hI.go.next) F.lt⟩
      have hfalse : ∀ i, (Array.replicate ops.size false).getD i false = false := fun i => by
        by_cases hi : i < ops.size <;> simp [Array.getD, hi]
      have hJ : J P F (ancs ops.toList []) l p K (fun i => (Array.replicate ops.size false).getD i false) [] p e e e s s [] act ι w.drew M := by
        refine ⟨rfl, fun i hi => ?_, fun i j hi => ?_, fun x hx => by simp at hx, hW, hI'.rep, fun h c => by simp, rfl, List.Pairwise.nil, fun q hq => by simp at hq, fun q hq => by simp at hq, fun q hq => by simp at hq, fun q hq => by simp at hq, fun q hq => by simp at hq, hI'.env, fun x hx => by simp at hx, fun _ _ => rfl, fun _ _ => rfl, fun x hx => by simp at hx, hI'.size, hI'.dfr, hI'.go⟩
        · rw [hfalse] at hi; cases hi
        · rw [hfalse] at hi; cases hi
      obtain ⟨pre', rest', e', s', T', pd', hJ', hr'⟩ := advance hp p [] hJ
      have hrun := draw_run (Q := Q) hp hslots hQ ops.size (Array.replicate ops.size false) (by simp) (by
        refine Nat.le_trans (List.length_filter_le _ _) ?_
        simp) hJ' hr'
      simpa using hrun
  · simp at hc
end Go.Ab
set_option linter.unusedVariables false
set_option linter.unusedSimpArgs false
set_option autoImplicit false
namespace Go.Ab
section
variable {P : Program}
theorem Tr.mono {f : Nat} {args : List AV} {s : St} {K K' : AV → St → Prop} (h : Tr P f args s K) (hk : ∀ v s', K v s' → K' v s') : Tr P f args s K' := by
  unfold Tr at *
  obtain ⟨hb, h⟩ := h
  refine ⟨hb, fun ι w M Vs hR hV => Calls.mono (h ι w M Vs hR hV) fun e w' he => ?_⟩
  obtain ⟨V, ι', M', v, s', he, hK, h1, h2, h3⟩ := he
  exact ⟨V, ι', M', v, s', he, hk _ _ hK, h1, h2, h3⟩
/-! ### by other names -/
section
variable {ι ι' : Iota} {w : World} {M : Nat → Prop} {ρ : Nat → Option Nat}
def Fwd (ι ι' : Iota) (ρ : Nat → Option Nat) : Prop := ∀ h p, ι h = some p → match ρ h with
  | some h' => ι' h' = some p
  | none => p = none
mutual
theorem ren_fwd (hf : Fwd ι ι' ρ) : ∀ (v : AV) (V : Value), VRel ι w M v V → VRel ι' w M (v.ren ρ) V
  | .ptr h o, V, hr => by
    obtain ⟨b, base, h4, rfl⟩ := hr.ptr_inv
    have := hf h _ h4
    cases h3 : ρ h with
    | some h' => rw [h3] at this; simp only [AV.ren, h3]; exact .ptr h' o b base this
    | none => rw [h3] at this; cases this
  | .sl e h o m, V, hr => by
    rcases hr.sl_inv with ⟨b, base, oo, cap, T, N, h4, h5, h6, h7, h8, rfl⟩ | ⟨h4, rfl, rfl⟩
    · have := hf h _ h4
      cases h3 : ρ h with
      | some h' => rw [h3] at this; simp only [AV.ren, h3]; exact .sl e h' o m b base oo cap T N this h5 h6 h7 h8
      | none => rw [h3] at this; cases this
    · have := hf h _ h4
      cases h3 : ρ h with
      | some h' => rw [h3] at this; simp only [AV.ren, h3]; exact .slv e h' o this
      | none => simp only [AV.ren, h3]; exact .g _ _ .nils
  | .agg l, V, hr => by
    obtain ⟨cs, rfl, h1, h2⟩ := hr.agg_inv
    exact .agg _ cs (by rw [renL_length]; exact h1) fun j hj => by
      rw [renL_length] at hj
      rw [renL_getD l j hj]
      exact renL_fwd hf l j hj _ (h2 j hj)
  | .tup l, V, hr => by
    obtain ⟨cs, rfl, h1, h2⟩ := hr.tup_inv
    exact .tup _ cs (by rw [renL_length]; exact h1) fun j hj => by
      rw [renL_length] at hj
      rw [renL_getD l j hj]
      exact renL_fwd hf l j hj _ (h2 j hj)
  | .iface t v, V, hr => by
    obtain ⟨V', rfl, h1⟩ := hr.iface_inv
    exact .iface t _ V' (ren_fwd hf v V' h1)
  | .fn f l, V, hr => by
    obtain ⟨cs, rfl, h1, h2⟩ := hr.fn_inv
    exact .fn f _ cs (by rw [renL_length]; exact h1) fun j hj => by
      rw [renL_length] at hj
      rw [renL_getD l j hj]
      exact renL_fwd hf l j hj _ (h2 j hj)
  | .undef, V, hr => .undef V
  | .aggI n k g, V, hr => VRel.same (v := .aggI n k g) hr (by simp) (by simp) (by simp) (by simp) (by simp) (by simp)
  | .bool b, V, hr => VRel.same (v := .bool b) hr (by simp) (by simp) (by simp) (by simp) (by simp) (by simp)
  | .int k m, V, hr => VRel.same (v := .int k m) hr (by simp) (by simp) (by simp) (by simp) (by simp) (by simp)
  | .str x, V, hr => VRel.same (v := .str x) hr (by simp) (by simp) (by simp) (by simp) (by simp) (by simp)
  | .nilp, V, hr => VRel.same (v := .nilp) hr (by simp) (by simp) (by simp) (by simp) (by simp) (by simp)
  | .nils, V, hr => VRel.same (v := .nils) hr (by simp) (by simp) (by simp) (by simp) (by simp) (by simp)
  | .nili, V, hr => VRel.same (v := .nili) hr (by simp) (by simp) (by simp) (by simp) (by simp) (by simp)
  | .nilf, V, hr => VRel.same (v := .nilf) hr (by simp) (by simp) (by simp) (by simp) (by simp) (by simp)
  | .nilm, V, hr => VRel.same (v := .nilm) hr (by simp) (by simp) (by simp) (by simp) (by simp) (by simp)
  | .cptr v, V, hr => VRel.same (v := .cptr v) hr (by simp) (by simp) (by simp) (by simp) (by simp) (by simp)
  | .roI k l, V, hr => VRel.same (v := .roI k l) hr (by simp) (by simp) (by simp) (by simp) (by simp) (by simp)
  | .roB l, V, hr => VRel.same (v := .roB l) hr (by simp) (by simp) (by simp) (by simp) (by simp) (by simp)
  | .ro e l, V, hr => VRel.same (v := .ro e l) hr (by simp) (by simp) (by simp) (by simp) (by simp) (by simp)
  | .raw x, V, hr => VRel.same (v := .raw x) hr (by simp) (by simp) (by simp) (by simp) (by simp) (by simp)
termination_by structural v => v
theorem renL_fwd (hf : Fwd ι ι' ρ) : ∀ (l : List AV) (j : Nat), j < l.length → ∀ V, VRel ι w M (l.getD j .undef) V → VRel ι' w M ((l.getD j .undef).ren ρ) V
  | [], j, hj, V, hr => by simp at hj
  | v :: r, 0, hj, V, hr => ren_fwd hf v V (by simpa using hr)
  | v :: r, j + 1, hj, V, hr => by simpa using renL_fwd hf r j (by simpa using hj) V (by simpa using hr)
termination_by structural l => l
end
theorem crel_fwd (hf : Fwd ι ι' ρ) {c : Chunk} {b base : Nat} (h : CRel ι w M c b base) : CRel ι' w M (c.ren ρ) b base := by
  obtain ⟨cs, T, fr, h1, h2, h3, h4⟩ := h
  refine ⟨cs, T, fr, h1, h2, by rw [Chunk.ren_size]; exact h3, fun j hj => ?_⟩
  rw [Chunk.ren_size] at hj
  have := h4 j hj
  cases c with
  | obj l =>
    simp only [Chunk.ren, Chunk.get, Chunk.size] at *
    rw [renL_getD l j hj]
    exact renL_fwd hf l j hj _ this
  | fn m f => exact ren_fwd hf _ _ this
  | rowI k l => exact ren_fwd hf _ _ this
  | rowB l => exact ren_fwd hf _ _ this
  | blk n k g => exact ren_fwd hf _ _ this
end
def back (ρ : Nat → Option Nat) (n0 n : Nat) (h : Nat) : Option Nat := bif Nat.blt h n0 then ρ h else some (n + (h - n0))
def memRen (ρ : Nat → Option Nat) : Mem → Mem
  | [] => []
  | (h, c) :: r => match ρ h with
    | some h' => (h', c.map (·.ren ρ)) :: memRen ρ r
    | none => memRen ρ r
def dropL : List Nat → Mem → Mem
  | [], m => m
  | h :: r, m => (h, none) :: dropL r m
def backSt (ρ : Nat → Option Nat) (s0 s s0' : St) : St :=
  ⟨s.next + (s0'.next - s0.next), memRen (back ρ s0.next s.next) s0'.m ++ dropL (liveOf ρ s0.m) s.m⟩
theorem dropL_get : ∀ (l : List Nat) (m : Mem) (k : Nat) (c : Chunk), (dropL l m).get k = some c → m.get k = some c ∧ k ∉ l
  | [], m, k, c, h => ⟨h, by simp⟩
  | a :: r, m, k, c, h => by
    simp only [dropL, Mem.get_cons] at h
    split at h
    · cases h
    · rename_i hne
      obtain ⟨h1, h2⟩ := dropL_get r m k c h
      exact ⟨h1, by simp only [List.mem_cons, not_or]; exact ⟨fun e => hne e.symm, h2⟩⟩
theorem memRen_get (ρ : Nat → Option Nat) (m2 : Mem) : ∀ (m : Mem) (k : Nat) (c : Chunk), (memRen ρ m ++ m2).get k = some c → (∃ h c0, m.get h = some c0 ∧ ρ h = some k ∧ c = c0.ren ρ) ∨ m2.get k = some c
  | [], k, c, h => .inr h
  | (a, d) :: r, k, c, h => by
    simp only [memRen] at h
    cases ha : ρ a with
    | none =>
      rw [ha] at h
      rcases memRen_get ρ m2 r k c h with ⟨h1, c0, k1, k2, k3⟩ | k1
      · refine .inl ⟨h1, c0, ?_, k2, k3⟩
        rw [Mem.get_cons, if_neg (fun e => by rw [← e, ha] at k2; cases k2)]
        exact k1
      · exact .inr k1
    | some a' =>
      rw [ha] at h
      simp only [List.cons_append, Mem.get_cons] at h
      split at h
      · rename_i he
        subst he
        obtain ⟨c0, hd, hc⟩ := map_some h
        exact .inl ⟨a, c0, by rw [Mem.get_cons, if_pos rfl]; exact hd, ha, hc.symm⟩
      · rename_i he
        rcases memRen_get ρ m2 r k c h with ⟨h1, c0, k1, k2, k3⟩ | k1
        · refine .inl ⟨h1, c0, ?_, k2, k3⟩
          rw [Mem.get_cons, if_neg (fun e => by rw [← e, ha] at k2; exact he (by simpa using k2))]
          exact k1
        · exact .inr k1
theorem Tr.call {f : Nat} {args0 args : List AV} {s0 s : St} {K0 K : AV → St → Prop} (rn : List (Nat × Option Nat)) (h : Tr P f args0 s0 K0) (ha : args = renL (rnm rn) args0) (hok : hokL s0.next (rnm rn) args0 = true)
    (hm : memSub (rnm rn) s0.next s s0.m) (hn : nodupN (liveOf (rnm rn) s0.m) = true) (hK : ∀ v0 s0', K0 v0 s0' → K (v0.ren (back (rnm rn) s0.next s.next)) (backSt (rnm rn) s0 s s0')) : Tr P f args s K := by
  subst ha
  unfold Tr at *
  obtain ⟨hb, h⟩ := h
  refine ⟨hb, fun ι w M Vs hR hV => ?_⟩
  generalize hρ : rnm rn = ρ at *
  have hmem := memSub_mem s0.m hm
  have key : ∀ k c, s0.get k = some c → (ι.ren ρ s0.next k = some none ∧ c.size = 0) ∨ ∃ h', ρ k = some h' ∧ ι.ren ρ s0.next k = ι h' ∧ s.get h' = some (c.ren ρ) := fun k c hg => by
    obtain ⟨k1, k2, k3⟩ := hmem k c (mem_get _ _ _ hg)
    cases hr : ρ k with
    | none => rw [hr] at k3; exact .inl ⟨Iota.ren_none k2 hr, k3⟩
    | some h' => rw [hr] at k3; exact .inr ⟨h', rfl, Iota.ren_some k2 hr, k3⟩
  have hownL : ∀ b, Own (ι.ren ρ s0.next) s0 b → ∃ h' c base, h' ∈ liveOf ρ s0.m ∧ s.get h' = some c ∧ ι h' = some (some (b, base)) := fun b ho => by
    obtain ⟨k, c, base, k1, k2⟩ := ho
    rcases key k c k1 with ⟨k3, _⟩ | ⟨h', k5, k3, k4⟩
    · rw [k2] at k3; cases k3
    · rw [k2] at k3; exact ⟨h', _, base, live_mem _ _ _ _ (mem_get _ _ _ k1) k5, k4, k3.symm⟩
  have hown : ∀ b, Own (ι.ren ρ s0.next) s0 b → Own ι s b := fun b ho => by
    obtain ⟨h', c, base, _, k1, k2⟩ := hownL b ho
    exact ⟨h', c, base, k1, k2⟩
  have hR0 : Rep (ι.ren ρ s0.next) s0 w M := by
    refine ⟨fun h hh => Iota.ren_ge hh, fun h c hg => ?_, fun h h' c c' p p' hg hg' hne hp hp' => ?_, hR.lt⟩
    · rcases key h c hg with k | ⟨h', _, k3, k4⟩
      · exact .inl k
      · rw [k3]
        rcases hR.own h' _ k4 with ⟨k5, k6⟩ | ⟨b, base, k5, k6, k7⟩
        · exact .inl ⟨k5, by rw [Chunk.ren_size] at k6; exact k6⟩
        · exact .inr ⟨b, base, k5, k6, ren_crel (hmem h c (mem_get _ _ _ hg)).1 k7⟩
    · rcases key h c hg with ⟨k3, _⟩ | ⟨h1', r1, k3, k4⟩
      · rw [hp] at k3; cases k3
      · rcases key h' c' hg' with ⟨k5, _⟩ | ⟨h2', r2, k5, k6⟩
        · rw [hp'] at k5; cases k5
        · rw [hp] at k3
          rw [hp'] at k5
          refine hR.inj h1' h2' _ _ p p' k4 k6 (fun he => hne ?_) k3.symm k5.symm
          subst he
          exact live_inj s0.m hn h h' c c' h1' (mem_get _ _ _ hg) (mem_get _ _ _ hg') r1 r2
  have hV0 : VRels (ι.ren ρ s0.next) w M args0 Vs := by
    obtain ⟨k1, k2⟩ := hV
    rw [renL_length] at k1 k2
    exact ⟨k1, fun j hj => renL_rel args0 hok j hj _ (by rw [← renL_getD args0 j hj]; exact k2 j hj)⟩
  refine Calls.mono (h _ w M Vs hR0 hV0) fun en w1 he => ?_
  obtain ⟨V, ι1, M1, v0, s0', rfl, hK0, h1, h2, h3⟩ := he
  -- the names behind it
  let ι' : Iota := fun k => if k < s.next then ι k else ι1 (s0.next + (k - s.next))
  have hlo : ∀ k, k < s.next → ι' k = ι k := fun k hk => by simp [ι', hk]
  have hhi : ∀ k, s.next ≤ k → ι' k = ι1 (s0.next + (k - s.next)) := fun k hk => by simp [ι', Nat.not_lt.2 hk]
  have hf : Fwd ι1 ι' (back ρ s0.next s.next) := fun k p hp => by
    unfold back
    rw [blt_eq]
    by_cases hk : k < s0.next
    · simp only [hk, decide_true, cond_true]
      rw [h3.ext k hk] at hp
      cases hr : ρ k with
      | none => rw [Iota.ren_none hk hr] at hp; cases hp; rfl
      | some k' =>
        rw [Iota.ren_some hk hr] at hp
        have hlt : k' < s.next := by
          rcases Nat.lt_or_ge k' s.next with hl | hl
          · exact hl
          · rw [hR.fresh k' hl] at hp; cases hp
        simp only
        rw [hlo k' hlt]; exact hp
    · simp only [hk, decide_false, cond_false]
      rw [hhi _ (by omega), show s0.next + (s.next + (k - s0.next) - s.next) = k by omega]
      exact hp
  have hx : ∀ k p, ι k = some p → ι' k = some p := fun k p hp => by
    rcases Nat.lt_or_ge k s.next with hl | hl
    · rw [hlo k hl]; exact hp
    · rw [hR.fresh k hl] at hp; cases hp
  have hI : Imm w M w1 M1 := GoImm h3 fun b hb => hR.ownM (hown b hb)
  have hn1 : s0.next ≤ s0'.next := h3.next
  have hget : ∀ k c, (backSt ρ s0 s s0').get k = some c → (∃ h0 c0, s0'.get h0 = some c0 ∧ back ρ s0.next s.next h0 = some k ∧ c = c0.ren (back ρ s0.next s.next)) ∨ (s.get k = some c ∧ k ∉ liveOf ρ s0.m) := fun k c hc => by
    rcases memRen_get _ _ _ _ _ hc with k1 | k1
    · exact .inl k1
    · exact .inr (dropL_get _ _ _ _ k1)
  -- the caller's other blocks
  have hoth : ∀ k c b base, s.get k = some c → k ∉ liveOf ρ s0.m → ι k = some (some (b, base)) → ¬ Own (ι.ren ρ s0.next) s0 b := fun k c b base hk hl hi ho => by
    obtain ⟨h', c', base', k1, k2, k3⟩ := hownL b ho
    have hne : h' ≠ k := fun e => hl (e ▸ k1)
    exact hR.inj h' k c' c _ _ k2 hk hne k3 hi rfl
  have htie : ∀ h0 c0 k p, s0'.get h0 = some c0 → back ρ s0.next s.next h0 = some k → ι' k = some p → ι1 h0 = some p := fun h0 c0 k p hg hb hp => by
    rcases h2.own h0 c0 hg with ⟨q, _⟩ | ⟨b, base, q, _⟩
    · have := hf h0 _ q; rw [hb] at this; rw [this] at hp; rw [q, hp]
    · have := hf h0 _ q; rw [hb] at this; rw [this] at hp; rw [q, hp]
  refine ⟨V, ι', M1, _, backSt ρ s0 s s0', rfl, hK v0 s0' hK0, ren_fwd hf v0 V h1, ⟨fun k hk => ?_, fun k c hc => ?_, fun k k' c c' p p' hc hc' hne hp hp' => ?_, h2.lt⟩, ⟨h3.size, h3.tape, h3.os, h3.output, fun b hb ho => h3.block b hb fun h => ho (hown b h), h3.shape, h3.back, fun b hM ho => h3.keep b hM fun h => ho (hown b h), fun b hb ho => ?_, by simp only [backSt]; omega, fun k hk => hlo k hk⟩⟩
  · simp only [backSt] at hk
    rw [hhi k (by omega)]
    exact h2.fresh _ (by omega)
  · rcases hget k c hc with ⟨h0, c0, q1, q2, rfl⟩ | ⟨q1, q2⟩
    · rcases h2.own h0 c0 q1 with ⟨r1, r2⟩ | ⟨b, base, r1, r2, r3⟩
      · have := hf h0 _ r1; rw [q2] at this
        exact .inl ⟨this, by rw [Chunk.ren_size]; exact r2⟩
      · have := hf h0 _ r1; rw [q2] at this
        exact .inr ⟨b, base, this, r2, crel_fwd hf r3⟩
    · rcases hR.own k c q1 with ⟨r1, r2⟩ | ⟨b, base, r1, r2, r3⟩
      · exact .inl ⟨hx _ _ r1, r2⟩
      · have hno := hoth k c b base q1 q2 r1
        exact .inr ⟨b, base, hx _ _ r1, h3.keep b r2 hno, r3.mono hI hx (h3.block b (hR.lt b r2) hno)⟩
  · rcases hget k c hc with ⟨h0, c0, q1, q2, _⟩ | ⟨q1, q2⟩ <;> rcases hget k' c' hc' with ⟨h0', c0', q1', q2', _⟩ | ⟨q1', q2'⟩
    · refine h2.inj h0 h0' c0 c0' p p' q1 q1' (fun e => hne ?_) (htie _ _ _ _ q1 q2 hp) (htie _ _ _ _ q1' q2' hp')
      subst e
      rw [q2] at q2'
      simpa using q2'
    · have hp2 : ι k' = some (some p') := by
        have hlt := hR.none_of_get q1'
        rw [hlo k' hlt] at hp'; exact hp'
      have hMb : M p'.1 := hR.ownM ⟨k', c', p'.2, q1', hp2⟩
      intro e
      exact hoth k' c' p'.1 p'.2 q1' q2' hp2 (h3.own p'.1 (hR.lt _ hMb) ⟨h0, c0, p.2, q1, by rw [htie _ _ _ _ q1 q2 hp, ← e]⟩)
    · have hp2 : ι k = some (some p) := by
        have hlt := hR.none_of_get q1
        rw [hlo k hlt] at hp; exact hp
      have hMb : M p.1 := hR.ownM ⟨k, c, p.2, q1, hp2⟩
      intro e
      exact hoth k c p.1 p.2 q1 q2 hp2 (h3.own p.1 (hR.lt _ hMb) ⟨h0', c0', p'.2, q1', by rw [htie _ _ _ _ q1' q2' hp', e]⟩)
    · have hlt := hR.none_of_get q1
      have hlt' := hR.none_of_get q1'
      rw [hlo k hlt] at hp
      rw [hlo k' hlt'] at hp'
      exact hR.inj k k' c c' p p' q1 q1' hne hp hp'
  · obtain ⟨k, c, base, k1, k2⟩ := ho
    rcases hget k c k1 with ⟨h0, c0, q1, q2, _⟩ | ⟨q1, q2⟩
    · exact hown b (h3.own b hb ⟨h0, c0, base, q1, htie _ _ _ _ q1 q2 k2⟩)
    · have hlt := hR.none_of_get q1
      rw [hlo k hlt] at k2
      exact ⟨k, c, base, q1, k2⟩
end
end Go.Ab
set_option linter.unusedVariables false
set_option linter.unusedSimpArgs false
set_option autoImplicit false
namespace Go.Ab
def frzS (c : Chunk) (es off len : Nat) : Option AV :=
  match c with
  | .rowI k l => bif Nat.beq es 1 && Nat.ble (off + len) l.length then some (.roI k ((l.drop off).take len)) else none
  | .rowB l => bif Nat.beq es 1 && Nat.ble (off + len) l.length then some (.roB ((l.drop off).take len)) else none
  | _ => none
mutual
def AV.frz (h : Nat) (c : Chunk) : AV → AV
  | .sl e h' o n => bif Nat.beq h' h then (match frzS c e o n with
    | some v => v
    | none => .sl e h' o n) else .sl e h' o n
  | .agg l => .agg (frzL h c l)
  | .tup l => .tup (frzL h c l)
  | .iface t v => .iface t (AV.frz h c v)
  | .fn f l => .fn f (frzL h c l)
  | .ptr h o => .ptr h o
  | .undef => .undef
  | .aggI n k g => .aggI n k g
  | .bool b => .bool b
  | .int k n => .int k n
  | .str s => .str s
  | .nilp => .nilp
  | .nils => .nils
  | .nili => .nili
  | .nilf => .nilf
  | .nilm => .nilm
  | .cptr v => .cptr v
  | .roI k l => .roI k l
  | .roB l => .roB l
  | .ro e l => .ro e l
  | .raw v => .raw v
termination_by structural v => v
def frzL (h : Nat) (c : Chunk) : List AV → List AV
  | [] => []
  | v :: r => AV.frz h c v :: frzL h c r
termination_by structural l => l
end
def St.drop (s : St) (h : Nat) : St := ⟨s.next, (h, none) :: s.m⟩
section
variable {P : Program} {ι : Iota} {s : St} {w : World} {M : Nat → Prop}
def subM (ι : Iota) (h : Nat) (M : Nat → Prop) : Nat → Prop := fun b => M b ∧ ∀ base, ι h ≠ some (some (b, base))
theorem Imm.subM (h : Nat) : Imm w M w (subM ι h M) := ⟨Nat.le_refl _, fun b _ hb => ⟨fun k => hb k.1, rfl⟩, fun _ _ => rfl⟩
theorem frzS_rel {c : Chunk} {h e o n : Nat} {v : AV} {V : Value} (hR : Rep ι s w M) (hg : s.get h = some c) (hv : frzS c e o n = some v) (hr : VRel ι w M (.sl e h o n) V) : VRel ι w (subM ι h M) v V := by
  have key : ∀ (f : Nat → AV) (nl : Nat), e = 1 → v.rov = some (1, n, f) → (∀ i, v.elen i = 1) → (∀ j, j < n → f j = c.get (o + j)) → (∀ j, ∀ W, VRel ι w M (c.get j) W → GRel w (subM ι h M) (c.get j) W) → o + n ≤ c.size → VRel ι w (subM ι h M) v V := by
    intro f nl he hrov hel hf hG hle
    subst he
    rcases hr.sl_inv with ⟨b, base, oo, cap, T, N, hi, ho, hl, hs, hnn, rfl⟩ | ⟨hi, rfl, rfl⟩
    · rcases hR.own h c hg with ⟨k1, _⟩ | ⟨b', base', k1, k2, hC⟩
      · rw [hi] at k1; cases k1
      · rw [hi] at k1
        simp only [Option.some.injEq, Prod.mk.injEq] at k1
        obtain ⟨rfl, rfl⟩ := k1
        have hcc : ∀ j, j < n → ∃ W, w.cell? ⟨b, oo + j, none⟩ = some W ∧ VRel ι w M (c.get (o + j)) W := fun j hj => by
          have ho' : oo = base + o := by
            rcases ho with h | h
            · exact h
            · omega
          subst ho'
          have := hC.cell (j := o + j) (by omega)
          rwa [← Nat.add_assoc] at this
        let g : Nat → Value := fun j => if hj : j < n then (hcc j hj).choose else default
        refine .g _ _ (.slice v 1 n f ⟨b, oo, none⟩ cap g hrov (fun _ => ⟨rfl, fun hm => hm.2 base hi, hR.lt b k2⟩) hl (fun i _ => hel i) (fun j hj => ?_) fun j hj => ?_)
        · have hj : j < n := by omega
          simp only [g, hj, dif_pos]; exact (hcc j hj).choose_spec.1
        · have hj : j < n := by omega
          rw [hf j hj]
          simp only [g, hj, dif_pos]
          exact hG _ _ (hcc j hj).choose_spec.2
    · exact .g _ _ (.sliceNil v 1 f hrov)
  cases c with
  | rowI k l =>
    simp only [frzS] at hv
    cases hb : (Nat.beq e 1 && Nat.ble (o + n) l.length) with
    | false => simp [hb] at hv
    | true =>
      simp only [hb, cond_true, Option.some.injEq] at hv
      simp only [Bool.and_eq_true] at hb
      subst hv
      have hle := Nat.le_of_ble_eq_true hb.2
      refine key (fun j => .int k (((l.drop o).take n).getD j 0)) 0 (Nat.eq_of_beq_eq_true hb.1) ?_ (fun _ => rfl) (fun j hj => ?_) (fun j W hW => ?_) hle
      · simp only [AV.rov, List.length_take, List.length_drop]
        congr 3
        omega
      · simp only [Chunk.get]
        rw [getD_drop_take _ _ _ _ _ hj]
      · simp only [Chunk.get] at hW ⊢
        rw [hW.int_inv]
        exact .int _ _
  | rowB l =>
    simp only [frzS] at hv
    cases hb : (Nat.beq e 1 && Nat.ble (o + n) l.length) with
    | false => simp [hb] at hv
    | true =>
      simp only [hb, cond_true, Option.some.injEq] at hv
      simp only [Bool.and_eq_true] at hb
      subst hv
      have hle := Nat.le_of_ble_eq_true hb.2
      refine key (fun j => .bool (((l.drop o).take n).getD j false)) 0 (Nat.eq_of_beq_eq_true hb.1) ?_ (fun _ => rfl) (fun j hj => ?_) (fun j W hW => ?_) hle
      · simp only [AV.rov, List.length_take, List.length_drop]
        congr 3
        omega
      · simp only [Chunk.get]
        rw [getD_drop_take _ _ _ _ _ hj]
      · simp only [Chunk.get] at hW ⊢
        rw [hW.bool_inv]
        exact .bool _
  | obj l => simp [frzS] at hv
  | fn m f => simp [frzS] at hv
  | blk m k g => simp [frzS] at hv
theorem frzL_length (h : Nat) (c : Chunk) : ∀ l : List AV, (frzL h c l).length = l.length
  | [] => rfl
  | v :: r => by simp [frzL, frzL_length h c r]
theorem frzL_getD (h : Nat) (c : Chunk) : ∀ (l : List AV) (j : Nat), j < l.length → (frzL h c l).getD j .undef = (l.getD j .undef).frz h c
  | [], j, hj => by simp at hj
  | v :: r, 0, hj => by simp [frzL]
  | v :: r, j + 1, hj => by simpa [frzL] using frzL_getD h c r j (by simpa using hj)
mutual
theorem frz_rel {c : Chunk} {h : Nat} (hR : Rep ι s w M) (hg : s.get h = some c) : ∀ (v : AV) (V : Value), VRel ι w M v V → VRel ι w (subM ι h M) (v.frz h c) V
  | .sl e h' o n, V, hr => by
    simp only [AV.frz]
    cases hb : Nat.beq h' h with
    | false => exact hr.mono (Imm.subM h) (fun _ _ h => h)
    | true =>
      have := Nat.eq_of_beq_eq_true hb
      subst this
      simp only [cond_true]
      cases hf : frzS c e o n with
      | none => exact hr.mono (Imm.subM h') (fun _ _ h => h)
      | some v => exact frzS_rel hR hg hf hr
  | .agg l, V, hr => by
    obtain ⟨cs, rfl, h1, h2⟩ := hr.agg_inv
    exact .agg _ cs (by rw [frzL_length]; exact h1) fun j hj => by
      rw [frzL_length] at hj
      rw [frzL_getD h c l j hj]
      exact frzL_rel hR hg l j hj _ (h2 j hj)
  | .tup l, V, hr => by
    obtain ⟨cs, rfl, h1, h2⟩ := hr.tup_inv
    exact .tup _ cs (by rw [frzL_length]; exact h1) fun j hj => by
      rw [frzL_length] at hj
      rw [frzL_getD h c l j hj]
      exact frzL_rel hR hg l j hj _ (h2 j hj)
  | .iface t v, V, hr => by
    obtain ⟨V', rfl, h1⟩ := hr.iface_inv
    exact .iface t _ V' (frz_rel hR hg v V' h1)
  | .fn f l, V, hr => by
    obtain ⟨cs, rfl, h1, h2⟩ := hr.fn_inv
    exact .fn f _ cs (by rw [frzL_length]; exact h1) fun j hj => by
      rw [frzL_length] at hj
      rw [frzL_getD h c l j hj]
      exact frzL_rel hR hg l j hj _ (h2 j hj)
  | .ptr h' o, V, hr => hr.mono (Imm.subM h) (fun _ _ h => h)
  | .undef, V, hr => .undef V
  | .aggI n k g, V, hr => hr.mono (Imm.subM h) (fun _ _ h => h)
  | .bool b, V, hr => hr.mono (Imm.subM h) (fun _ _ h => h)
  | .int k m, V, hr => hr.mono (Imm.subM h) (fun _ _ h => h)
  | .str x, V, hr => hr.mono (Imm.subM h) (fun _ _ h => h)
  | .nilp, V, hr => hr.mono (Imm.subM h) (fun _ _ h => h)
  | .nils, V, hr => hr.mono (Imm.subM h) (fun _ _ h => h)
  | .nili, V, hr => hr.mono (Imm.subM h) (fun _ _ h => h)
  | .nilf, V, hr => hr.mono (Imm.subM h) (fun _ _ h => h)
  | .nilm, V, hr => hr.mono (Imm.subM h) (fun _ _ h => h)
  | .cptr v, V, hr => hr.mono (Imm.subM h) (fun _ _ h => h)
  | .roI k l, V, hr => hr.mono (Imm.subM h) (fun _ _ h => h)
  | .roB l, V, hr => hr.mono (Imm.subM h) (fun _ _ h => h)
  | .ro e l, V, hr => hr.mono (Imm.subM h) (fun _ _ h => h)
  | .raw x, V, hr => hr.mono (Imm.subM h) (fun _ _ h => h)
termination_by structural v => v
theorem frzL_rel {c : Chunk} {h : Nat} (hR : Rep ι s w M) (hg : s.get h = some c) : ∀ (l : List AV) (j : Nat), j < l.length → ∀ V, VRel ι w M (l.getD j .undef) V → VRel ι w (subM ι h M) ((l.getD j .undef).frz h c) V
  | [], j, hj, V, hr => by simp at hj
  | v :: r, 0, hj, V, hr => frz_rel hR hg v V (by simpa using hr)
  | v :: r, j + 1, hj, V, hr => by simpa using frzL_rel hR hg r j (by simpa using hj) V (by simpa using hr)
termination_by structural l => l
end
theorem drop_get {h k : Nat} {c : Chunk} (hc : (s.drop h).get k = some c) : k ≠ h ∧ s.get k = some c := by
  unfold St.drop at hc
  rw [St.get_cons] at hc
  split at hc
  · cases hc
  · rename_i hne; exact ⟨fun e => hne e.symm, hc⟩
theorem Rep.freeze {c : Chunk} {h : Nat} (hR : Rep ι s w M) (hg : s.get h = some c) : Rep ι (s.drop h) w (subM ι h M) := by
  refine ⟨hR.fresh, fun k c' hc => ?_, fun k k' c1 c2 p p' hc hc' hne hp hp' => hR.inj k k' c1 c2 p p' (drop_get hc).2 (drop_get hc').2 hne hp hp', fun b hb => hR.lt b hb.1⟩
  obtain ⟨hne, hc'⟩ := drop_get hc
  rcases hR.own k c' hc' with k1 | ⟨b, base, k1, k2, k3⟩
  · exact .inl k1
  · exact .inr ⟨b, base, k1, ⟨k2, fun base' hb => hR.inj k h c' c _ _ hc' hg hne k1 hb rfl⟩, k3.mono (Imm.subM h) (fun _ _ h => h) rfl⟩
theorem Go.freeze {c : Chunk} {h : Nat} (hg : s.get h = some c) {n0 : Nat} (hn : n0 ≤ s.next) : Go n0 ι s w M ι (s.drop h) w (subM ι h M) :=
  ⟨Nat.le_refl _, rfl, rfl, rfl, fun _ _ _ => rfl, fun _ _ => rfl, fun _ _ hm => hm.1, fun b hm ho => ⟨hm, fun base hb => ho ⟨h, c, base, hg, hb⟩⟩, fun b _ ho => by
    obtain ⟨k, c', base, k1, k2⟩ := ho
    exact ⟨k, c', base, (drop_get k1).2, k2⟩, hn, fun _ _ => rfl⟩
theorem Tr.lend {f : Nat} {args : List AV} {s : St} {K : AV → St → Prop} (h : Nat) {c : Chunk} (hg : s.get h = some c) (ht : Tr P f (frzL h c args) (s.drop h) K) : Tr P f args s K := by
  unfold Tr at *
  obtain ⟨hb, ht⟩ := ht
  refine ⟨hb, fun ι w M Vs hR hV => ?_⟩
  have hV' : VRels ι w (subM ι h M) (frzL h c args) Vs := ⟨by rw [frzL_length]; exact hV.1, fun j hj => by
    rw [frzL_length] at hj
    rw [frzL_getD h c args j hj]
    exact frzL_rel hR hg args j hj _ (hV.2 j hj)⟩
  refine Calls.mono (ht ι w _ Vs (hR.freeze hg) hV') fun en w' he => ?_
  obtain ⟨V, ι', M', v, s', rfl, hK, h1, h2, h3⟩ := he
  exact ⟨V, ι', M', v, s', rfl, hK, h1, h2, (Go.freeze hg (Nat.le_refl _)).trans h3 hR.lt⟩
inductive Frz : AV → St → AV → St → Prop
  | refl (v : AV) (s : St) : Frz v s v s
  | step (v : AV) (s : St) (h : Nat) (c : Chunk) (v' : AV) (s' : St) (hg : s.get h = some c) (ht : Frz (v.frz h c) (s.drop h) v' s') : Frz v s v' s'
theorem Frz.sound {v v' : AV} {s s' : St} (hf : Frz v s v' s') : ∀ {ι : Iota} {w : World} {M : Nat → Prop} {V : Value}, VRel ι w M v V → Rep ι s w M → ∃ M', VRel ι w M' v' V ∧ Rep ι s' w M' ∧ ∀ n0, n0 ≤ s.next → Go n0 ι s w M ι s' w M' := by
  induction hf with
  | refl v s => intro ι w M V hv hR; exact ⟨M, hv, hR, fun n0 hn => Go.refl _ _ _ _ hn⟩
  | step v s h c v' s' hg ht ih =>
    intro ι w M V hv hR
    obtain ⟨M', h1, h2, h3⟩ := ih (frz_rel hR hg v V hv) (hR.freeze hg)
    exact ⟨M', h1, h2, fun n0 hn => (Go.freeze hg hn).trans (h3 n0 hn) hR.lt⟩
theorem Tr.freeze {f : Nat} {args : List AV} {s : St} {K K' : AV → St → Prop} (ht : Tr P f args s K) (hk : ∀ v s', K v s' → ∃ v2 s2, Frz v s' v2 s2 ∧ K' v2 s2) : Tr P f args s K' := by
  unfold Tr at *
  obtain ⟨hb, ht⟩ := ht
  refine ⟨hb, fun ι w M Vs hR hV => Calls.mono (ht ι w M Vs hR hV) fun en w' he => ?_⟩
  obtain ⟨V, ι', M', v, s', rfl, hK, h1, h2, h3⟩ := he
  obtain ⟨v2, s2, hf, hK2⟩ := hk v s' hK
  obtain ⟨M2, k1, k2, k3⟩ := hf.sound h1 h2
  exact ⟨V, ι', M2, v2, s2, rfl, hK2, k1, k2, h3.trans (k3 _ h3.next) hR.lt⟩
theorem Tr.norm {f : Nat} {args : List AV} {s : St} {K K' : AV → St → Prop} (ht : Tr P f args s K) (hk : ∀ v s', K v s' → ∃ v2 s2, SubW s.next [(0, v)] s' [(0, v2)] s2 ∧ K' v2 s2) : Tr P f args s K' := by
  unfold Tr at *
  obtain ⟨hb, ht⟩ := ht
  refine ⟨hb, fun ι w M Vs hR hV => Calls.mono (ht ι w M Vs hR hV) fun en w' he => ?_⟩
  obtain ⟨V, ι', M', v, s', rfl, hK, h1, h2, h3⟩ := he
  obtain ⟨v2, s2, hs, hK2⟩ := hk v s' hK
  let F : From := ⟨ι, s, w, M, hR.lt, s.next, 0⟩
  have hI : Inv F [(0, v)] s' { tmps := #[V], defers := [] } ι' w' M' := by
    refine ⟨h2, fun u => ?_, Nat.zero_le _, rfl, h3⟩
    rw [Env.get_cons]
    by_cases hu : 0 = u
    · subst hu; simpa using h1
    · rw [if_neg hu]; exact .undef _
  obtain ⟨ι2, hI2⟩ := sub_sound hI hs
  have hv := hI2.env 0
  rw [Env.get_cons, if_pos rfl] at hv
  exact ⟨V, ι2, M', v2, s2, rfl, hK2, by simpa using hv, hI2.rep, hI2.go⟩
def Le (v v' : AV) : Prop := ∀ (ι : Iota) (w : World) (M : Nat → Prop) (V : Value), VRel ι w M v V → VRel ι w M v' V
theorem Le.refl (v : AV) : Le v v := fun _ _ _ _ h => h
theorem Le.nilI (k : IntKind) : Le .nils (.roI k []) := fun ι w M V h => by
  rw [h.nils_inv]
  exact .g _ _ (.sliceNil _ 1 (fun j => .int k (([] : List Int).getD j 0)) rfl)
theorem Le.nilB : Le .nils (.roB []) := fun ι w M V h => by
  rw [h.nils_inv]
  exact .g _ _ (.sliceNil _ 1 (fun j => .bool (([] : List Bool).getD j false)) rfl)
theorem Le.undef (v : AV) : Le v .undef := fun _ _ _ V _ => .undef V
def LeL : List AV → List AV → Prop
  | [], [] => True
  | v :: r, v' :: r' => Le v v' ∧ LeL r r'
  | _, _ => False
theorem LeL.get : ∀ {l l' : List AV}, LeL l l' → l.length = l'.length ∧ ∀ j, Le (l.getD j .undef) (l'.getD j .undef)
  | [], [], _ => ⟨rfl, fun j => Le.refl _⟩
  | v :: r, v' :: r', h => by
    obtain ⟨h1, h2⟩ := LeL.get h.2
    refine ⟨by simp [h1], fun j => ?_⟩
    cases j with
    | zero => simpa using h.1
    | succ j => simpa using h2 j
  | [], _ :: _, h => h.elim
  | _ :: _, [], h => h.elim
theorem Le.agg {l l' : List AV} (h : LeL l l') : Le (.agg l) (.agg l') := fun ι w M V hV => by
  obtain ⟨cs, rfl, h1, h2⟩ := hV.agg_inv
  obtain ⟨k1, k2⟩ := h.get
  exact .agg _ cs (by omega) fun j hj => k2 j _ _ _ _ (h2 j (by omega))
theorem Tr.le {f : Nat} {args args' : List AV} {s : St} {K : AV → St → Prop} (h : LeL args args') (ht : Tr P f args' s K) : Tr P f args s K := by
  unfold Tr at *
  obtain ⟨hb, ht⟩ := ht
  obtain ⟨k1, k2⟩ := h.get
  exact ⟨hb, fun ι w M Vs hR hV => ht ι w M Vs hR ⟨by rw [hV.1, k1], fun j hj => k2 j _ _ _ _ (hV.2 j (by omega))⟩⟩
theorem Le.tup {l l' : List AV} (h : LeL l l') : Le (.tup l) (.tup l') := fun ι w M V hV => by
  obtain ⟨cs, rfl, h1, h2⟩ := hV.tup_inv
  obtain ⟨k1, k2⟩ := h.get
  exact .tup _ cs (by omega) fun j hj => k2 j _ _ _ _ (h2 j (by omega))
theorem Tr.leRes {f : Nat} {args : List AV} {s : St} {K K' : AV → St → Prop} (ht : Tr P f args s K) (hk : ∀ v s', K v s' → ∃ v', Le v v' ∧ K' v' s') : Tr P f args s K' := by
  unfold Tr at *
  obtain ⟨hb, ht⟩ := ht
  refine ⟨hb, fun ι w M Vs hR hV => Calls.mono (ht ι w M Vs hR hV) fun en w' he => ?_⟩
  obtain ⟨V, ι', M', v, s', rfl, hK, h1, h2, h3⟩ := he
  obtain ⟨v', hle, hK'⟩ := hk v s' hK
  exact ⟨V, ι', M', v', s', rfl, hK', hle _ _ _ _ h1, h2, h3⟩
end
end Go.Ab
set_option linter.unusedVariables false
set_option linter.unusedSimpArgs false
set_option autoImplicit false
namespace Go.Ab
noncomputable def forceN (n : Nat) : (Nat → Prop) → Prop := Nat.rec (motive := fun _ => (Nat → Prop) → Prop) (fun K => K 0) (fun n _ K => K (n + 1)) n
theorem forceN_eq (n : Nat) (K : Nat → Prop) : forceN n K = K n := by cases n <;> rfl
noncomputable def forceA (v : AV) (K : AV → Prop) : Prop :=
  match v with
  | .undef => K .undef
  | .bool b => K (.bool b)
  | .int k n => K (.int k n)
  | .str s => K (.str s)
  | .nilp => K .nilp
  | .nils => K .nils
  | .nili => K .nili
  | .nilf => K .nilf
  | .nilm => K .nilm
  | .ptr h o => forceN h fun h => K (.ptr h o)
  | .cptr v => K (.cptr v)
  | .sl e h o n => forceN h fun h => K (.sl e h o n)
  | .roI k l => K (.roI k l)
  | .roB l => K (.roB l)
  | .ro e l => K (.ro e l)
  | .agg l => K (.agg l)
  | .aggI n k g => K (.aggI n k g)
  | .tup l => K (.tup l)
  | .iface t v => K (.iface t v)
  | .fn f c => K (.fn f c)
  | .raw v => K (.raw v)
theorem forceA_eq (v : AV) (K : AV → Prop) : forceA v K = K v := by cases v <;> first | rfl | exact forceN_eq _ _
noncomputable def forceM (l : List AV) : (List AV → Prop) → Prop :=
  List.rec (motive := fun _ => (List AV → Prop) → Prop) (fun K => K []) (fun v _ ih K => forceA v fun v => ih fun r => K (v :: r)) l
theorem forceM_eq (l : List AV) : ∀ K : List AV → Prop, forceM l K = K l := by
  induction l with
  | nil => intro K; rfl
  | cons v r ih => intro K; show (forceA v fun v => forceM r fun r => K (v :: r)) = _; rw [forceA_eq]; exact ih _
noncomputable def forceW (v : AV) (K : AV → Prop) : Prop :=
  forceA v fun v => match v with
    | .agg l => forceM l fun l => K (.agg l)
    | .tup l => forceM l fun l => K (.tup l)
    | .iface t v => forceA v fun v => K (.iface t v)
    | .cptr v => forceA v fun v => K (.cptr v)
    | .fn f l => forceM l fun l => K (.fn f l)
    | v => K v
theorem forceW_eq (v : AV) (K : AV → Prop) : forceW v K = K v := by
  unfold forceW
  rw [forceA_eq]
  cases v <;> simp only [forceM_eq, forceA_eq]
noncomputable def forceC (c : Chunk) (K : Chunk → Prop) : Prop :=
  match c with
  | .obj l => forceM l fun l => K (.obj l)
  | .rowI k l => K (.rowI k l)
  | .rowB l => K (.rowB l)
  | .fn n f => K (.fn n f)
  | .blk n k g => K (.blk n k g)
theorem forceC_eq (c : Chunk) (K : Chunk → Prop) : forceC c K = K c := by
  cases c <;> simp only [forceC, forceM_eq]
noncomputable def forceE (f : Eff) (K : Eff → Prop) : Prop :=
  match f with
  | .no => K .no
  | .new c => forceC c fun c => K (.new c)
  | .set h c => forceN h fun h => forceC c fun c => K (.set h c)
  | .app h c => forceN h fun h => K (.app h c)
theorem forceE_eq (f : Eff) (K : Eff → Prop) : forceE f K = K f := by
  cases f <;> simp only [forceE, forceC_eq, forceN_eq]
noncomputable def opF (get : Nat → Option Chunk) (nx : Nat) (e : Env) (o : AOp) (K : Res → Prop) : Prop :=
  match o with
  | .store sz x y => forceA (x.ev e) fun vx => forceW (y.ev e) fun vy => K (storeA get sz vx vy)
  | o => K (opD get nx (AOpd.ev e) o)
theorem opF_eq (get : Nat → Option Chunk) (nx : Nat) (e : Env) (o : AOp) (K : Res → Prop) : opF get nx e o K = K (opD get nx (AOpd.ev e) o) := by
  cases o <;> simp only [opF, forceA_eq, forceW_eq] <;> rfl
noncomputable def insF (s : St) (get : Nat → Option Chunk) (e : Env) (i : AIns) (K : AV → Eff → Prop) (C : Nat → List AV → Prop) : Prop :=
  opF get s.next e i.op fun r => match r with
  | .ok c v eff => bif c then
      forceE eff fun eff => forceW v fun v => bif i.split then (match v with
        | .bool b => bif b then K (.bool true) eff else K (.bool false) eff
        | _ => False) else K v eff
      else False
  | .call f args => forceM args fun args => C f args
  | .bad => False
theorem insF_eq (s : St) (get : Nat → Option Chunk) (e : Env) (i : AIns) (K : AV → Eff → Prop) (C : Nat → List AV → Prop) : insF s get e i K C = insW s get e i K C := by
  unfold insF insW
  rw [opF_eq]
  cases opD get s.next (AOpd.ev e) i.op with
  | ok c v eff => simp only [forceE_eq, forceW_eq, forceV_eq]; rfl
  | call f args => simp only [forceM_eq]
  | bad => rfl
def openS (s : St) (F : Nat → Mem → Prop) : Prop := match s with
  | ⟨n, m⟩ => F n m
theorem openS_eq (s : St) (F : Nat → Mem → Prop) : openS s F = F s.next s.m := rfl
noncomputable def regF (P : Program) (l : List AIns) : Env → St → (Env → St → Prop) → Prop :=
  List.rec (motive := fun _ => Env → St → (Env → St → Prop) → Prop) (fun e s K => K e s)
    (fun i _ ih e s K => guardW e i
      (insF s s.get e i
        (fun v eff => putW e i.dst v fun e => appW s eff fun s => ih e s K)
        (fun f args => Tr P f args s fun v s => forceW v fun v => putW e i.dst v fun e => ih e s K))
      (putW e i.dst (.tup []) fun e => ih e s K)) l
theorem regF_eq (P : Program) (l : List AIns) : regF P l = regW P l := by
  induction l with
  | nil => rfl
  | cons i r ih =>
    funext e s K
    show guardW e i (insF s s.get e i (fun v eff => putW e i.dst v fun e => appW s eff fun s => regF P r e s K) (fun f args => Tr P f args s fun v s => forceW v fun v => putW e i.dst v fun e => regF P r e s K)) (putW e i.dst (.tup []) fun e => regF P r e s K) = _
    rw [regW_cons, ih]
    simp only [insF_eq, forceW_eq, forceV_eq]
noncomputable def absorbF (ab : List Nat) (pd : Pend) : Mem → (Mem → Pend → Prop) → Prop :=
  List.rec (motive := fun _ => Mem → (Mem → Pend → Prop) → Prop) (fun m K => K m [])
    (fun p _ ih m K => match p with
      | (i, h, c) => ih m fun m r => bif memN ab i then K ((h, some c) :: m) r else K m ((i, h, c) :: r)) pd
theorem absorbF_eq (ab : List Nat) : ∀ (pd : Pend) (m : Mem) (K : Mem → Pend → Prop), absorbF ab pd m K = K (absorb ab pd m).1 (absorb ab pd m).2 := by
  intro pd
  induction pd with
  | nil => intro m K; rfl
  | cons p r ih =>
    intro m K
    obtain ⟨i, h, c⟩ := p
    show (absorbF ab r m fun m r => bif memN ab i then K ((h, some c) :: m) r else K m ((i, h, c) :: r)) = _
    rw [ih]
    simp only [absorb]
    cases memN ab i <;> rfl
noncomputable def flushF (pd : Pend) : Mem → (Mem → Prop) → Prop :=
  List.rec (motive := fun _ => Mem → (Mem → Prop) → Prop) (fun m K => K m)
    (fun p _ ih m K => match p with
      | (i, h, c) => ih m fun m => K ((h, some c) :: m)) pd
theorem flushF_eq : ∀ (pd : Pend) (m : Mem) (K : Mem → Prop), flushF pd m K = K (flush pd m) := by
  intro pd
  induction pd with
  | nil => intro m K; rfl
  | cons p r ih =>
    intro m K
    obtain ⟨i, h, c⟩ := p
    show (flushF r m fun m => K ((h, some c) :: m)) = _
    rw [ih]; rfl
noncomputable def drawF (P : Program) (l : List AStep) : Env → St → Pend → (Env → St → Prop) → Prop :=
  List.rec (motive := fun _ => Env → St → Pend → (Env → St → Prop) → Prop) (fun e s p K => openS s fun n m => flushF p m fun m => K e ⟨n, m⟩)
    (fun x _ ih e s p K => openS s fun n m => bif x.e then
      absorbF x.ab p m fun m p => guardW e x.ins
          (insF ⟨n, m⟩ (St.get ⟨n, m⟩) e x.ins
            (fun v eff => appW ⟨n, m⟩ eff fun s' => watchW e (getP ⟨n, m⟩ p) (getP s' p) x.wt (putW e x.ins.dst v fun e => ih e s' p K))
            (fun f args => Tr P f args ⟨n, m⟩ fun v s' => watchW e (getP ⟨n, m⟩ p) (getP s' p) x.wt (forceW v fun v => putW e x.ins.dst v fun e => ih e s' p K)))
          (putW e x.ins.dst (.tup []) fun e => ih e ⟨n, m⟩ p K)
    else guardW e x.ins
      (insF ⟨n, m⟩ (getP ⟨n, m⟩ p) e x.ins
        (fun v eff => putW e x.ins.dst v fun e => match eff with
          | .no => ih e ⟨n, m⟩ p K
          | .new c => ih e ⟨n + 1, m⟩ ((x.i, n, c) :: p) K
          | _ => False)
        (fun _ _ => False))
      (putW e x.ins.dst (.tup []) fun e => ih e ⟨n, m⟩ p K)) l
theorem drawF_eq (P : Program) (l : List AStep) : drawF P l = drawW P l := by
  induction l with
  | nil =>
    funext e s p K
    show (openS s fun n m => flushF p m fun m => K e ⟨n, m⟩) = _
    rw [openS_eq, flushF_eq]; rfl
  | cons x r ih =>
    funext e s p K
    obtain ⟨n, m⟩ := s
    show (bif x.e then
      absorbF x.ab p m fun m p => guardW e x.ins
          (insF ⟨n, m⟩ (St.get ⟨n, m⟩) e x.ins
            (fun v eff => appW ⟨n, m⟩ eff fun s' => watchW e (getP ⟨n, m⟩ p) (getP s' p) x.wt (putW e x.ins.dst v fun e => drawF P r e s' p K))
            (fun f args => Tr P f args ⟨n, m⟩ fun v s' => watchW e (getP ⟨n, m⟩ p) (getP s' p) x.wt (forceW v fun v => putW e x.ins.dst v fun e => drawF P r e s' p K)))
          (putW e x.ins.dst (.tup []) fun e => drawF P r e ⟨n, m⟩ p K)
    else guardW e x.ins
      (insF ⟨n, m⟩ (getP ⟨n, m⟩ p) e x.ins
        (fun v eff => putW e x.ins.dst v fun e => match eff with
          | .no => drawF P r e ⟨n, m⟩ p K
          | .new c => drawF P r e ⟨n + 1, m⟩ ((x.i, n, c) :: p) K
          | _ => False)
        (fun _ _ => False))
      (putW e x.ins.dst (.tup []) fun e => drawF P r e ⟨n, m⟩ p K)) = (bif x.e then
      match absorb x.ab p m with
      | (m, p) => guardW e x.ins
          (insW ⟨n, m⟩ (St.get ⟨n, m⟩) e x.ins
            (fun v eff => appW ⟨n, m⟩ eff fun s' => watchW e (getP ⟨n, m⟩ p) (getP s' p) x.wt (putW e x.ins.dst v fun e => drawW P r e s' p K))
            (fun f args => Tr P f args ⟨n, m⟩ fun v s' => watchW e (getP ⟨n, m⟩ p) (getP s' p) x.wt (forceV v fun v => putW e x.ins.dst v fun e => drawW P r e s' p K)))
          (putW e x.ins.dst (.tup []) fun e => drawW P r e ⟨n, m⟩ p K)
    else guardW e x.ins
      (insW ⟨n, m⟩ (getP ⟨n, m⟩ p) e x.ins
        (fun v eff => putW e x.ins.dst v fun e => match eff with
          | .no => drawW P r e ⟨n, m⟩ p K
          | .new c => drawW P r e ⟨n + 1, m⟩ ((x.i, n, c) :: p) K
          | _ => False)
        (fun _ _ => False))
      (putW e x.ins.dst (.tup []) fun e => drawW P r e ⟨n, m⟩ p K))
    rw [ih]
    simp only [absorbF_eq, insF_eq, forceW_eq, forceV_eq]
noncomputable def wpF (P : Program) (n0 : Nat) (c : ACode) : Env → St → (Ex → Env → St → Prop) → Prop :=
  ACode.rec (motive := fun _ => Env → St → (Ex → Env → St → Prop) → Prop)
    (fun e s K => K .normal e s)
    (fun l e s K => regF P l e s fun e s => K .normal e s)
    (fun l e s K => drawF P l e s [] fun e s => K .normal e s)
    (fun _ _ iha ihb e s K => iha e s fun x e s => match x with
      | .normal => ihb e s K
      | .exit j => K (.exit j) e s
      | .ret => K .ret e s)
    (fun c _ _ iha ihb e s K => match c.ev e with
      | .bool t => bif t then iha e s K else ihb e s K
      | _ => False)
    (fun id _ iha e s K => iha e s fun x e s => match x with
      | .normal => K .normal e s
      | .exit j => bif Nat.beq j id then K .normal e s else K (.exit j) e s
      | .ret => K .ret e s)
    (fun _ iha e s K => LoopW n0 iha e s K)
    (fun id e s K => K (.exit id) e s)
    (fun e s K => K .ret e s) c
theorem wpF_eq (P : Program) (n0 : Nat) (c : ACode) : wpF P n0 c = wpA P n0 c := by
  induction c with
  | skip => rfl
  | reg l => funext e s K; show regF P l e s _ = _; rw [regF_eq]; rfl
  | draw l => funext e s K; show drawF P l e s [] _ = _; rw [drawF_eq]; rfl
  | seq a b iha ihb =>
    funext e s K
    show wpF P n0 a e s _ = wpA P n0 a e s _
    rw [iha]
    refine congrArg _ ?_
    funext x e s
    cases x
    · show wpF P n0 b e s K = wpA P n0 b e s K; rw [ihb]
    · rfl
    · rfl
  | cond c a b iha ihb =>
    funext e s K
    show (match c.ev e with | .bool t => bif t then wpF P n0 a e s K else wpF P n0 b e s K | _ => False) = (match c.ev e with | .bool t => bif t then wpA P n0 a e s K else wpA P n0 b e s K | _ => False)
    rw [iha, ihb]
  | block id a iha => funext e s K; show wpF P n0 a e s _ = wpA P n0 a e s _; rw [iha]; rfl
  | loop a iha => funext e s K; show LoopW n0 (wpF P n0 a) e s K = LoopW n0 (wpA P n0 a) e s K; rw [iha]
  | exit id => rfl
  | ret => rfl
noncomputable def resF (e : Env) (s : St) (l : List ARes) : (List AV → Prop) → Prop :=
  List.rec (motive := fun _ => (List AV → Prop) → Prop) (fun K => K [])
    (fun r _ ih K => match r with
      | .t n => forceW (e.get n) fun v => ih fun l => K (v :: l)
      | .cell n agg sz => match e.get n with
        | .ptr h off => match s.get h with
          | some c => bif (c.ld agg off sz).1 then forceW (c.ld agg off sz).2 fun v => ih fun l => K (v :: l) else False
          | none => False
        | _ => False) l
theorem resF_eq (e : Env) (s : St) (l : List ARes) : resF e s l = resW e s l := by
  induction l with
  | nil => rfl
  | cons r l ih =>
    funext K
    cases r with
    | t n =>
      show (forceW (e.get n) fun v => resF e s l fun l => K (v :: l)) = (forceV (e.get n) fun v => resW e s l fun l => K (v :: l))
      rw [forceW_eq, forceV_eq, ih]
    | cell n agg sz =>
      show (match e.get n with
        | .ptr h off => match s.get h with
          | some c => bif (c.ld agg off sz).1 then forceW (c.ld agg off sz).2 fun v => resF e s l fun l => K (v :: l) else False
          | none => False
        | _ => False) = (match e.get n with
        | .ptr h off => match s.get h with
          | some c => bif (c.ld agg off sz).1 then forceV (c.ld agg off sz).2 fun v => resW e s l fun l => K (v :: l) else False
          | none => False
        | _ => False)
      simp only [forceW_eq, forceV_eq, ih]
noncomputable def fnF (P : Program) (c : ACode) (rs : List ARes) (args : List AV) (s : St) (K : AV → St → Prop) : Prop :=
  wpF P s.next c (argsE 0 args) s fun x e s => match x with
    | .exit _ => False
    | _ => resF e s rs (retW K s)
theorem fnF_eq (P : Program) (c : ACode) (rs : List ARes) (args : List AV) (s : St) (K : AV → St → Prop) : fnF P c rs args s K = fnW P c rs args s K := by
  unfold fnF fnW
  rw [wpF_eq]
  simp only [resF_eq]
  rfl
end Go.Ab
set_option linter.unusedVariables false
set_option linter.unusedSimpArgs false
set_option autoImplicit false
namespace Go.Ab
def firstReg : List AIns → Option Nat
  | [] => none
  | i :: r => match i.dst with
    | some d => some d
    | none => firstReg r
def firstDraw : List AStep → Option Nat
  | [] => none
  | i :: r => match i.ins.dst with
    | some d => some d
    | none => firstDraw r
def firstDst : ACode → Option Nat
  | .reg l => firstReg l
  | .draw l => firstDraw l
  | .seq a b => match firstDst a with
    | some d => some d
    | none => firstDst b
  | .block _ a => firstDst a
  | .loop a => firstDst a
  | _ => none
def atJoin (z : List Nat) (c : ACode) : Bool :=
  match firstDst c with
  | some d => memN z d
  | none => false
def JoinW (n0 : Nat) (A B : Env → St → (Ex → Env → St → Prop) → Prop) (e : Env) (s : St) (K : Ex → Env → St → Prop) : Prop :=
  ∃ (α : Type) (E : α → Env) (S : α → St), (A e s fun x e s => match x with
      | .normal => ∃ x, SubW n0 e s (E x) (S x)
      | .exit j => K (.exit j) e s
      | .ret => K .ret e s) ∧ ∀ x, B (E x) (S x) K
theorem joinI {n0 : Nat} {A B : Env → St → (Ex → Env → St → Prop) → Prop} {e : Env} {s : St} {K : Ex → Env → St → Prop} {α : Type} (E : α → Env) (S : α → St)
    (ha : A e s fun x e s => match x with
      | .normal => ∃ x, SubW n0 e s (E x) (S x)
      | .exit j => K (.exit j) e s
      | .ret => K .ret e s) (hb : ∀ x, B (E x) (S x) K) : JoinW n0 A B e s K := ⟨α, E, S, ha, hb⟩
/-! ### rows that are values from here on -/
def frzC (h : Nat) (c : Chunk) : Chunk → Chunk
  | .obj l => .obj (frzL h c l)
  | d => d
noncomputable def envF (h : Nat) (c : Chunk) (e : Env) : (Env → Prop) → Prop :=
  List.rec (motive := fun _ => (Env → Prop) → Prop) (fun K => K []) (fun p _ ih K => match p with
    | (u, v) => forceA (v.frz h c) fun v => ih fun r => K ((u, v) :: r)) e
def frzE (h : Nat) (c : Chunk) (e : Env) : Env := e.map fun p => (p.1, p.2.frz h c)
theorem envF_eq (h : Nat) (c : Chunk) : ∀ (e : Env) (K : Env → Prop), envF h c e K = K (frzE h c e) := by
  intro e
  induction e with
  | nil => intro K; rfl
  | cons p r ih =>
    intro K
    obtain ⟨u, v⟩ := p
    show (forceA (v.frz h c) fun v => envF h c r fun r => K ((u, v) :: r)) = _
    rw [forceA_eq, ih]; rfl
noncomputable def memF (h : Nat) (c : Chunk) (m : Mem) : (Mem → Prop) → Prop :=
  List.rec (motive := fun _ => (Mem → Prop) → Prop) (fun K => K []) (fun p _ ih K => match p with
    | (u, some d) => forceC (frzC h c d) fun d => ih fun r => K ((u, some d) :: r)
    | (u, none) => ih fun r => K ((u, none) :: r)) m
def frzMem (h : Nat) (c : Chunk) (m : Mem) : Mem := m.map fun p => (p.1, p.2.map (frzC h c))
theorem memF_eq (h : Nat) (c : Chunk) : ∀ (m : Mem) (K : Mem → Prop), memF h c m K = K (frzMem h c m) := by
  intro m
  induction m with
  | nil => intro K; rfl
  | cons p r ih =>
    intro K
    obtain ⟨u, v⟩ := p
    cases v with
    | none =>
      show (memF h c r fun r => K ((u, none) :: r)) = _
      rw [ih]; rfl
    | some d =>
      show (forceC (frzC h c d) fun d => memF h c r fun r => K ((u, some d) :: r)) = _
      rw [forceC_eq, ih]; rfl
theorem frzE_get (h : Nat) (c : Chunk) : ∀ (e : Env) (u : Nat), (frzE h c e).get u = (e.get u).frz h c
  | [], u => rfl
  | (d, v) :: r, u => by
    simp only [frzE, List.map_cons, Env.get_cons]
    by_cases hd : d = u
    · simp [hd]
    · rw [if_neg hd, if_neg hd]; exact frzE_get h c r u
theorem frzMem_get (h : Nat) (c : Chunk) : ∀ (m : Mem) (u : Nat), (frzMem h c m).get u = (m.get u).map (frzC h c)
  | [], u => rfl
  | (d, v) :: r, u => by
    simp only [frzMem, List.map_cons, Mem.get_cons]
    by_cases hd : d = u
    · simp [hd]
    · rw [if_neg hd, if_neg hd]; exact frzMem_get h c r u
theorem frzC_size (h : Nat) (c d : Chunk) : (frzC h c d).size = d.size := by
  cases d <;> simp [frzC, Chunk.size, frzL_length]
theorem frz_crel {ι : Iota} {s : St} {w : World} {M : Nat → Prop} {c : Chunk} {h : Nat} (hR : Rep ι s w M) (hg : s.get h = some c) {d : Chunk} {b base : Nat} (hd : CRel ι w M d b base) : CRel ι w (subM ι h M) (frzC h c d) b base := by
  obtain ⟨cs, T, fr, h1, h2, h3, h4⟩ := hd
  refine ⟨cs, T, fr, h1, h2, by rw [frzC_size]; exact h3, fun j hj => ?_⟩
  rw [frzC_size] at hj
  have hv := h4 j hj
  cases d with
  | obj l =>
    show VRel ι w _ ((frzL h c l).getD j .undef) _
    have hj' : j < l.length := hj
    rw [frzL_getD h c l j hj']
    exact frz_rel hR hg _ _ hv
  | rowI k l => exact (frz_rel hR hg _ _ hv : VRel ι w _ ((Chunk.get (.rowI k l) j).frz h c) _)
  | rowB l => exact (frz_rel hR hg _ _ hv : VRel ι w _ ((Chunk.get (.rowB l) j).frz h c) _)
  | blk n k g => exact (frz_rel hR hg _ _ hv : VRel ι w _ ((Chunk.get (.blk n k g) j).frz h c) _)
  | fn n f => exact VRel.mono (Imm.subM h) (fun _ _ hp => hp) hv
def St.frz (s : St) (h : Nat) (c : Chunk) : St := ⟨s.next, (h, none) :: frzMem h c s.m⟩
theorem Rep.frz {ι : Iota} {s : St} {w : World} {M : Nat → Prop} {c : Chunk} {h : Nat} (hR : Rep ι s w M) (hg : s.get h = some c) : Rep ι (s.frz h c) w (subM ι h M) := by
  have hF := hR.freeze hg
  have get1 : ∀ k d, (s.frz h c).get k = some d → k ≠ h ∧ ∃ d0, s.get k = some d0 ∧ d = frzC h c d0 := by
    intro k d hk
    simp only [St.frz, St.get_cons] at hk
    split at hk
    · cases hk
    · rename_i hne
      refine ⟨fun e => hne e.symm, ?_⟩
      have : ((frzMem h c s.m).get k) = some d := hk
      rw [frzMem_get] at this
      obtain ⟨d0, k1, k2⟩ := Option.map_eq_some_iff.1 this
      exact ⟨d0, k1, k2.symm⟩
  have drop : ∀ k d0, k ≠ h → s.get k = some d0 → (s.drop h).get k = some d0 := by
    intro k d0 hne hk
    show St.get ⟨s.next, (h, none) :: s.m⟩ k = _
    rw [St.get_cons, if_neg (fun e => hne e.symm)]
    exact hk
  refine ⟨hR.fresh, fun k d hk => ?_, fun k k' d d' p p' hk hk' hne hp hp' => ?_, hF.lt⟩
  · obtain ⟨hne, d0, k1, rfl⟩ := get1 k d hk
    rw [frzC_size]
    rcases hF.own k d0 (drop k d0 hne k1) with q | ⟨b, base, q1, q2, q3⟩
    · exact .inl q
    · rcases hR.own k d0 k1 with ⟨q4, _⟩ | ⟨b', base', q4, q5, q6⟩
      · rw [q1] at q4; cases q4
      · rw [q1] at q4
        simp only [Option.some.injEq, Prod.mk.injEq] at q4
        obtain ⟨rfl, rfl⟩ := q4
        exact .inr ⟨b, base, q1, q2, frz_crel hR hg q6⟩
  · obtain ⟨_, d0, k1, _⟩ := get1 k d hk
    obtain ⟨_, d1, k2, _⟩ := get1 k' d' hk'
    exact hR.inj k k' d0 d1 p p' k1 k2 hne hp hp'
theorem Go.frz {ι : Iota} {s : St} {w : World} {M : Nat → Prop} {c : Chunk} {h : Nat} (hR : Rep ι s w M) (hg : s.get h = some c) {n0 : Nat} (hn : n0 ≤ s.next) : Go n0 ι s w M ι (s.frz h c) w (subM ι h M) := by
  have hG := Go.freeze (ι := ι) (w := w) (M := M) hg hn
  refine ⟨hG.size, hG.tape, hG.os, hG.output, hG.block, hG.shape, hG.back, hG.keep, fun b hb ho => ?_, hn, hG.ext⟩
  obtain ⟨k, d, base, k1, k2⟩ := ho
  simp only [St.frz, St.get_cons] at k1
  split at k1
  · cases k1
  · have : ((frzMem h c s.m).get k) = some d := k1
    rw [frzMem_get] at this
    obtain ⟨d0, k3, _⟩ := Option.map_eq_some_iff.1 this
    exact ⟨k, d0, base, k3, k2⟩
noncomputable def frzW (d : Nat) (e : Env) (s : St) (K : Env → St → Prop) : Prop :=
  match e.get d with
  | .sl _ h _ _ => match s.get h with
    | some c => envF h c e fun e => memF h c s.m fun m => openS s fun n _ => K e ⟨n, (h, none) :: m⟩
    | none => K e s
  | _ => K e s
noncomputable def frzWs (l : List Nat) : Env → St → (Env → St → Prop) → Prop :=
  List.rec (motive := fun _ => Env → St → (Env → St → Prop) → Prop) (fun e s K => K e s) (fun d _ ih e s K => frzW d e s fun e s => ih e s K) l
theorem frzWs_cons (d : Nat) (l : List Nat) (e : Env) (s : St) (K : Env → St → Prop) : frzWs (d :: l) e s K = frzW d e s fun e s => frzWs l e s K := rfl
def hits (fz : List Nat) (l : List AIns) : List Nat := fz.filter fun d => l.any fun i => match i.dst with
  | some d' => Nat.beq d' d
  | none => false
section
variable {P : Program} {F : From}
theorem frzW_sound {d : Nat} {e : Env} {s : St} {act : Act} {ι : Iota} {w : World} {M : Nat → Prop} {K : Env → St → Prop} (hI : Inv F e s act ι w M) (h : frzW d e s K) : ∃ e' s' M', Inv F e' s' act ι w M' ∧ K e' s' := by
  unfold frzW at h
  split at h
  · rename_i es h0 off n he
    split at h
    · rename_i c hg
      rw [envF_eq, memF_eq, openS_eq] at h
      refine ⟨_, _, subM ι h0 M, ⟨hI.rep.frz hg, fun u => ?_, hI.size, hI.dfr, hI.go.trans (Go.frz hI.rep hg hI.go.next) F.lt⟩, h⟩
      rw [frzE_get]
      exact frz_rel hI.rep hg _ _ (hI.env u)
    · exact ⟨e, s, M, hI, h⟩
  · exact ⟨e, s, M, hI, h⟩
theorem frzWs_sound {act : Act} {ι : Iota} {w : World} {K : Env → St → Prop} : ∀ (l : List Nat) {e : Env} {s : St} {M : Nat → Prop}, Inv F e s act ι w M → frzWs l e s K → ∃ e' s' M', Inv F e' s' act ι w M' ∧ K e' s'
  | [], e, s, M, hI, h => ⟨e, s, M, hI, h⟩
  | d :: l, e, s, M, hI, h => by
    rw [frzWs_cons] at h
    obtain ⟨e', s', M', hI', h'⟩ := frzW_sound hI h
    exact frzWs_sound l hI' h'
noncomputable def wpZ (P : Program) (z fz : List Nat) (n0 : Nat) (c : ACode) : Env → St → (Ex → Env → St → Prop) → Prop :=
  ACode.rec (motive := fun _ => Env → St → (Ex → Env → St → Prop) → Prop)
    (fun e s K => K .normal e s)
    (fun l e s K => regF P l e s fun e s => frzWs (hits fz l) e s fun e s => K .normal e s)
    (fun l e s K => drawF P l e s [] fun e s => K .normal e s)
    (fun _ b iha ihb e s K => bif atJoin z b then JoinW n0 iha ihb e s K else iha e s fun x e s => match x with
      | .normal => ihb e s K
      | .exit j => K (.exit j) e s
      | .ret => K .ret e s)
    (fun c _ _ iha ihb e s K => match c.ev e with
      | .bool t => bif t then iha e s K else ihb e s K
      | _ => False)
    (fun id _ iha e s K => iha e s fun x e s => match x with
      | .normal => K .normal e s
      | .exit j => bif Nat.beq j id then K .normal e s else K (.exit j) e s
      | .ret => K .ret e s)
    (fun _ iha e s K => LoopW n0 iha e s K)
    (fun id e s K => K (.exit id) e s)
    (fun e s K => K .ret e s) c
theorem wpZ_sound (hD : DrawOk P) (z fz : List Nat) : ∀ (c : Code) (a : ACode), comp P c = some a → dstOk F.N a = true →
    ∀ {e s act ι w M} (K : Ex → Env → St → Prop) (Q : Exit → Act → World → Prop), Inv F e s act ι w M → wpZ P z fz F.n0 a e s K →
      (∀ x e' s' act' ι' w' M', Inv F e' s' act' ι' w' M' → K x e' s' → Q x.out act' w') → c.wp P Q act w := by
  intro c
  induction c with
  | skip =>
    intro a hc hd e s act ι w M K Q hI h hk
    simp only [comp, Option.some.injEq] at hc
    subst hc
    exact wp_skip (hk .normal _ _ _ _ _ _ hI h)
  | region id ops draw =>
    intro a hc hd e s act ι w M K Q hI h hk
    simp only [comp] at hc
    have hc' := hc
    unfold compReg at hc
    split at hc
    · rename_i l hl
      cases draw with
      | false =>
        simp only [cond_false, Option.some.injEq] at hc
        subst hc
        simp only [dstOk] at hd
        refine wp_region_list ?_
        have h' : regF P l e s fun e s => frzWs (hits fz l) e s fun e s => K .normal e s := h
        rw [regF_eq] at h'
        have := regW_sound (Q := Q) (K := fun e s => frzWs (hits fz l) e s fun e s => K .normal e s) ops.toList 0 l hl hd hI h' fun e' s' act' ι' w' M' hI' hK => by
          obtain ⟨e2, s2, M2, hI2, hK2⟩ := frzWs_sound _ hI' hK
          exact hk .normal _ _ _ _ _ _ hI2 hK2
        simpa using this
      | true =>
        simp only [cond_true] at hc
        cases hp : planOk P ops.toList l (ancs ops.toList []) (plan (ancs ops.toList []) l l.length [] 0) with
        | true =>
          simp only [hp, cond_true, Option.some.injEq] at hc
          subst hc
          have h' : drawF P _ e s [] fun e s => K .normal e s := h
          rw [drawF_eq] at h'
          exact hD F id ops _ hc' hd (fun e s => K .normal e s) Q hI h' fun e' s' act' ι' w' M' hI' hK => hk .normal _ _ _ _ _ _ hI' hK
        | false => simp [hp] at hc
    · simp at hc
  | seq x y ihx ihy =>
    intro a hc hd e s act ι w M K Q hI h hk
    simp only [comp] at hc
    split at hc
    · rename_i a' b' ha hb
      simp only [Option.some.injEq] at hc
      subst hc
      simp only [dstOk, Bool.and_eq_true] at hd
      have h' : bif atJoin z b' then JoinW F.n0 (wpZ P z fz F.n0 a') (wpZ P z fz F.n0 b') e s K else wpZ P z fz F.n0 a' e s fun x e s => match x with
        | .normal => wpZ P z fz F.n0 b' e s K
        | .exit j => K (.exit j) e s
        | .ret => K .ret e s := h
      cases hj : atJoin z b' with
      | true =>
        rw [hj] at h'
        obtain ⟨α, E, S, h1, h2⟩ := h'
        refine wp_seq (ihx a' ha hd.1 _ _ hI h1 fun ex e' s' act' ι' w' M' hI' hK => ?_)
        cases ex with
        | normal =>
          obtain ⟨x', hs⟩ := hK
          obtain ⟨ι2, hI2⟩ := sub_sound hI' hs
          exact ihy b' hb hd.2 _ _ hI2 (h2 x') hk
        | exit j => exact hk _ _ _ _ _ _ _ hI' hK
        | ret => exact hk _ _ _ _ _ _ _ hI' hK
      | false =>
        rw [hj] at h'
        refine wp_seq (ihx a' ha hd.1 _ _ hI h' fun ex e' s' act' ι' w' M' hI' hK => ?_)
        cases ex with
        | normal => exact ihy b' hb hd.2 _ _ hI' hK hk
        | exit j => exact hk _ _ _ _ _ _ _ hI' hK
        | ret => exact hk _ _ _ _ _ _ _ hI' hK
    · simp at hc
  | cond cx x y ihx ihy =>
    intro a hc hd e s act ι w M K Q hI h hk
    simp only [comp] at hc
    split at hc
    · rename_i c' a' b' hcc ha hb
      simp only [Option.some.injEq] at hc
      subst hc
      simp only [dstOk, Bool.and_eq_true] at hd
      have h : (match c'.ev e with
        | .bool t => bif t then wpZ P z fz F.n0 a' e s K else wpZ P z fz F.n0 b' e s K
        | _ => False) := h
      have hv := hI.env.orel _ _ hcc
      cases hb' : c'.ev e <;> simp only [hb'] at h
      rename_i t
      rw [hb'] at hv
      refine wp_cond hv.bool_inv ?_
      cases t
      · exact ihy b' hb hd.2 _ _ hI h hk
      · exact ihx a' ha hd.1 _ _ hI h hk
    · simp at hc
  | block id x ih =>
    intro a hc hd e s act ι w M K Q hI h hk
    simp only [comp] at hc
    obtain ⟨a', ha, rfl⟩ := map_some hc
    refine wp_block (ih a' ha hd (fun x e s => match x with
      | .normal => K .normal e s
      | .exit j => bif Nat.beq j id then K .normal e s else K (.exit j) e s
      | .ret => K .ret e s) _ hI h fun ex e' s' act' ι' w' M' hI' hK => ?_)
    cases ex with
    | normal => exact hk .normal _ _ _ _ _ _ hI' hK
    | exit j =>
      simp only [Ex.out, Exit.inBlock]
      by_cases hj : j = id
      · subst hj
        have hb : Nat.beq j j = true := by simp
        simp only [hb, cond_true] at hK
        rw [if_pos rfl]
        exact hk .normal _ _ _ _ _ _ hI' hK
      · have hb : Nat.beq j id = false := by
          rw [Bool.eq_false_iff]
          exact fun e => hj (Nat.eq_of_beq_eq_true e)
        simp only [hb, cond_false] at hK
        rw [if_neg hj]
        exact hk (.exit j) _ _ _ _ _ _ hI' hK
    | ret => exact hk .ret _ _ _ _ _ _ hI' hK
  | loop x ih =>
    intro a hc hd e s act ι w M K Q hI h hk
    simp only [comp] at hc
    obtain ⟨a', ha, rfl⟩ := map_some hc
    have h : LoopW F.n0 (wpZ P z fz F.n0 a') e s K := h
    unfold LoopW at h
    obtain ⟨α, E, S, μ, x0, h0, hr⟩ := h
    refine wp_loop_ghost (fun x act w => ∃ ι M, Inv F (E x) (S x) act ι w M) μ x0 ?_ fun x act w hx => ?_
    · obtain ⟨ι', hI'⟩ := sub_sound hI h0
      exact ⟨ι', M, hI'⟩
    · obtain ⟨ι1, M1, hI1⟩ := hx
      refine ih a' ha hd _ _ hI1 (hr x) fun ex e' s' act' ι' w' M' hI' hK => ?_
      cases ex with
      | normal =>
        obtain ⟨x', hs, hm⟩ := hK
        obtain ⟨ι2, hI2⟩ := sub_sound hI' hs
        exact ⟨x', ⟨ι2, M', hI2⟩, hm⟩
      | exit j => exact hk _ _ _ _ _ _ _ hI' hK
      | ret => exact hk _ _ _ _ _ _ _ hI' hK
  | exit id =>
    intro a hc hd e s act ι w M K Q hI h hk
    simp only [comp, Option.some.injEq] at hc
    subst hc
    exact wp_exit (hk (.exit id) _ _ _ _ _ _ hI h)
  | ret =>
    intro a hc hd e s act ι w M K Q hI h hk
    simp only [comp, Option.some.injEq] at hc
    subst hc
    exact wp_ret (hk .ret _ _ _ _ _ _ hI h)
  | rangeFunc f ps as body _ _ => intro a hc; simp [comp] at hc
  | scope body _ => intro a hc; simp [comp] at hc
  | label l => intro a hc; simp [comp] at hc
  | goto l => intro a hc; simp [comp] at hc
  | refuse why => intro a hc; simp [comp] at hc
noncomputable def fnZ (P : Program) (z fz : List Nat) (c : ACode) (rs : List ARes) (args : List AV) (s : St) (K : AV → St → Prop) : Prop :=
  wpZ P z fz s.next c (argsE 0 args) s fun x e s => match x with
    | .exit _ => False
    | _ => resF e s rs (retW K s)
theorem fnZ_sound (hD : DrawOk P) (z fz : List Nat) {f : Nat} {fn : Func} {a : ACode} {rs : List ARes} {args : List AV} {s : St} {K : AV → St → Prop} (hf : P.funcs[f]? = some fn) (hb : hasBody P f = true) (hc : compF P fn = some (a, rs)) (h : fnZ P z fz a rs args s K) : Tr P f args s K := by
  unfold compF at hc
  split at hc
  · rename_i c hbody
    split at hc
    · rename_i a' rs' ha hrs
      split at hc
      · rename_i hd
        simp only [Option.some.injEq, Prod.mk.injEq] at hc
        obtain ⟨rfl, rfl⟩ := hc
        unfold Tr
        refine ⟨hb, fun ι w M Vs hR hV => calls_of_wp hf hbody ?_⟩
        let F : From := ⟨ι, s, w, M, hR.lt, s.next, fn.ntmps⟩
        have hI : Inv F (argsE 0 args) s { tmps := Vs ++ Array.replicate (fn.ntmps - Vs.size) undef, defers := [] } ι w M :=
          ⟨hR, args_erel hV, by simp [F]; omega, rfl, Go.refl ι s w M (Nat.le_refl _)⟩
        refine wpZ_sound (F := F) hD z fz c a' ha hd _ _ hI h fun x e' s' act' ι' w' M' hI' hK => ?_
        have fin : resF e' s' rs' (retW K s') → act'.defers = [] ∧ ∃ v, (results fn act'.tmps).run P w' = .ok v w' ∧ ∃ V ι' M' v' s', Ending.returned v = .returned V ∧ K v' s' ∧ VRel ι' w' M' v' V ∧ Rep ι' s' w' M' ∧ Go s.next ι s w M ι' s' w' M' := by
          intro hres
          rw [resF_eq] at hres
          refine ⟨hI'.dfr, ?_⟩
          obtain ⟨l, vs, h1, h2, h3⟩ := res_sound (P := P) hI' _ _ hrs _ hres
          obtain ⟨v, h4, h5⟩ := ret_rel h2 h3
          refine ⟨_, ?_, _, ι', M', v, s', rfl, h5, h4, hI'.rep, hI'.go⟩
          rw [results_eq, Array.mapM_eq_mapM_toList]
          simp only [Sem.run_bind, map_eq_pure_bind]
          rw [h1]
          simp only [Result.andThen_ok, Sem.run_pure]
        cases x with
        | normal => exact fin hK
        | exit j => exact hK.elim
        | ret => exact fin hK
      · simp at hc
    · simp at hc
  · simp at hc
end
attribute [irreducible] JoinW
end Go.Ab
