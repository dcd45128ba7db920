/- The engine's soundness: states of memory, one after the other. -/
import Derived.Test.YtomodeliimnddaaAbOps4
set_option linter.unusedVariables false
set_option linter.unusedSimpArgs false
set_option autoImplicit false
namespace Go.Ab

def addM (M : Nat → Prop) (b : Nat) : Nat → Prop := fun k => M k ∨ k = b

theorem Mem.get_cons (h u : Nat) (c : Option Chunk) (m : Mem) : Mem.get ((h, c) :: m) u = if h = u then c else m.get u := by
  simp only [Mem.get]
  by_cases hu : h = u
  · subst hu; simp
  · rw [if_neg hu]
    have : Nat.beq h u = false := by
      rw [Bool.eq_false_iff]
      exact fun e => hu (Nat.eq_of_beq_eq_true e)
    simp [this]
section
variable {ι : Iota} {s : St} {w : World} {M : Nat → Prop}

theorem Iota.set_same (ι : Iota) (h : Nat) (p : Option (Nat × Nat)) : ι.set h p h = some p := by simp [Iota.set]
theorem Iota.set_other (ι : Iota) (h j : Nat) (p : Option (Nat × Nat)) (hj : j ≠ h) : ι.set h p j = ι j := by simp [Iota.set, hj]
theorem Iota.set_ext (ι : Iota) (h : Nat) (p : Option (Nat × Nat)) (hn : ι h = none) : ∀ j q, ι j = some q → ι.set h p j = some q := fun j q hq => by
  by_cases hj : j = h
  · subst hj; rw [hn] at hq; cases hq
  · rw [ι.set_other h j p hj]; exact hq

theorem Imm.alloc (o : Obj) : Imm w M (w.alloc o) (addM M w.heap.size) :=
  ⟨by simp, fun b hb hm => ⟨fun h => by
      rcases h with h | h
      · exact hm h
      · omega, heap_alloc_old w o hb⟩, fun b hb => by unfold World.shape?; rw [heap_alloc_old w o hb]⟩
theorem Imm.drew : Imm w M w.drew M := ⟨Nat.le_refl _, fun b hb hm => ⟨hm, rfl⟩, fun b hb => rfl⟩

/-- the state, with a handle more, over a world with a block more -/
theorem Rep.alloc {cs : Array Value} {T : Nat} {h : Nat} (hR : Rep ι s w M) (hn : ι h = none) (hlt : h < s.next) (hg : s.get h = none) : Rep (ι.set h (some (w.heap.size, 0))) s (w.alloc (.cells cs T)) (addM M w.heap.size) := by
  have hi := Imm.alloc (w := w) (M := M) (.cells cs T)
  have hx := ι.set_ext h (some (w.heap.size, 0)) hn
  refine ⟨fun j hj => by rw [ι.set_other _ _ _ (by omega)]; exact hR.fresh j hj, fun j c hc => ?_, fun j j' c c' p p' hc hc' hne hp hp' => ?_, fun b hb => ?_⟩
  · have hne : j ≠ h := fun e => by subst e; rw [hg] at hc; cases hc
    rw [ι.set_other _ _ _ hne]
    rcases hR.own j c hc with h1 | ⟨b, base, h1, h2, h3⟩
    · exact .inl h1
    · exact .inr ⟨b, base, h1, .inl h2, h3.mono hi hx (heap_alloc_old w _ (hR.lt b h2))⟩
  · have hne1 : j ≠ h := fun e => by subst e; rw [hg] at hc; cases hc
    have hne2 : j' ≠ h := fun e => by subst e; rw [hg] at hc'; cases hc'
    rw [ι.set_other _ _ _ hne1] at hp
    rw [ι.set_other _ _ _ hne2] at hp'
    exact hR.inj j j' c c' p p' hc hc' hne hp hp'
  · rcases hb with hb | hb
    · have := hR.lt b hb; simp; omega
    · subst hb; simp

theorem St.get_cons (n h u : Nat) (c : Option Chunk) (m : Mem) : (St.mk n ((h, c) :: m)).get u = if h = u then c else (St.mk n m).get u := Mem.get_cons h u c m
theorem St.get_next (s : St) (n u : Nat) : (St.mk n s.m).get u = s.get u := rfl

theorem Rep.next (hR : Rep ι s w M) {n : Nat} (hn : s.next ≤ n) : Rep ι ⟨n, s.m⟩ w M :=
  ⟨fun j hj => hR.fresh j (Nat.le_trans hn hj), hR.own, hR.inj, hR.lt⟩
theorem Rep.none_of_get (hR : Rep ι s w M) {h : Nat} {c : Chunk} (hg : s.get h = some c) : h < s.next := by
  rcases Nat.lt_or_ge h s.next with hl | hl
  · exact hl
  · have := hR.fresh h hl
    rcases hR.own h c hg with ⟨h1, _⟩ | ⟨b, base, h1, _⟩ <;> rw [this] at h1 <;> cases h1
/-- one is known of no more -/
theorem Rep.drop (hR : Rep ι s w M) (h : Nat) : Rep ι ⟨s.next, (h, none) :: s.m⟩ w M := by
  have key : ∀ j c, (St.mk s.next ((h, none) :: s.m)).get j = some c → s.get j = some c := fun j c hc => by
    rw [St.get_cons] at hc
    split at hc
    · cases hc
    · exact hc
  exact ⟨hR.fresh, fun j c hc => hR.own j c (key j c hc), fun j j' c c' p p' hc hc' => hR.inj j j' c c' p p' (key j c hc) (key j' c' hc'), hR.lt⟩
/-- one is known of besides -/
theorem Rep.put (hR : Rep ι s w M) {h : Nat} {c : Chunk} (hp : (ι h = some none ∧ c.size = 0) ∨ ∃ b base, ι h = some (some (b, base)) ∧ M b ∧ CRel ι w M c b base ∧ ∀ j c' p, j ≠ h → s.get j = some c' → ι j = some (some p) → p.1 ≠ b) :
    Rep ι ⟨s.next, (h, some c) :: s.m⟩ w M := by
  refine ⟨hR.fresh, fun j c' hc => ?_, fun j j' c1 c2 p p' hc hc' hne hp1 hp2 => ?_, hR.lt⟩
  · rw [St.get_cons] at hc
    split at hc
    · rename_i he
      subst he
      cases hc
      rcases hp with h1 | ⟨b, base, h1, h2, h3, _⟩
      · exact .inl h1
      · exact .inr ⟨b, base, h1, h2, h3⟩
    · exact hR.own j c' hc
  · rw [St.get_cons] at hc hc'
    split at hc <;> split at hc'
    · omega
    · rename_i he he'
      subst he
      rcases hp with ⟨h1, _⟩ | ⟨b, base, h1, h2, h3, h4⟩
      · rw [h1] at hp1; cases hp1
      · rw [h1] at hp1
        simp only [Option.some.injEq] at hp1
        have := h4 j' c2 p' (fun e => he' e.symm) hc' hp2
        subst hp1
        exact fun e => this e.symm
    · rename_i he he'
      subst he'
      rcases hp with ⟨h1, _⟩ | ⟨b, base, h1, h2, h3, h4⟩
      · rw [h1] at hp2; cases hp2
      · rw [h1] at hp2
        simp only [Option.some.injEq] at hp2
        have := h4 j c1 p (fun e => he e.symm) hc hp1
        subst hp2
        exact this
    · exact hR.inj j j' c1 c2 p p' hc hc' hne hp1 hp2
theorem Rep.drew (hR : Rep ι s w M) : Rep ι s w.drew M :=
  ⟨hR.fresh, fun j c hc => by
    rcases hR.own j c hc with h1 | ⟨b, base, h1, h2, h3⟩
    · exact .inl h1
    · exact .inr ⟨b, base, h1, h2, h3.mono .drew (fun _ _ h => h) rfl⟩, hR.inj, hR.lt⟩
theorem Go.drew {n0 : Nat} (hn : n0 ≤ s.next) : Go n0 ι s w M ι s w.drew M :=
  ⟨Nat.le_refl _, rfl, rfl, rfl, fun _ _ _ => rfl, fun _ _ => rfl, fun _ _ h => h, fun _ h _ => h, fun _ _ h => h, hn, fun _ _ => rfl⟩
theorem Go.alloc {n0 h : Nat} {o : Obj} {p : Option (Nat × Nat)} (hn : n0 ≤ s.next) (hh : n0 ≤ h) (hg : s.get h = none) (hi : ι h = none) : Go n0 ι s w M (ι.set h p) s (w.alloc o) (addM M w.heap.size) :=
  ⟨by simp, rfl, rfl, rfl, fun b hb _ => heap_alloc_old w o hb, fun b hb => by unfold World.shape?; rw [heap_alloc_old w o hb],
   fun b hb hm => by
    rcases hm with hm | hm
    · exact hm
    · omega,
   fun b hm _ => .inl hm,
   fun b hb ho => by
    obtain ⟨j, c, base, h1, h2⟩ := ho
    have hne : j ≠ h := fun e => by subst e; rw [hg] at h1; cases h1
    rw [ι.set_other _ _ _ hne] at h2
    exact ⟨j, c, base, h1, h2⟩,
   hn, fun j hj => ι.set_other h j p (by omega)⟩
/-- names alone -/
theorem Go.names {n0 : Nat} {s' : St} (hn : n0 ≤ s'.next) (ho : ∀ b, Own ι s' b → Own ι s b) : Go n0 ι s w M ι s' w M :=
  ⟨Nat.le_refl _, rfl, rfl, rfl, fun _ _ _ => rfl, fun _ _ => rfl, fun _ _ h => h, fun _ h _ => h, fun b _ h => ho b h, hn, fun _ _ => rfl⟩
/-- the block of one chunk is written to -/
theorem Imm.set {b : Nat} {w' : World} (hM : M b) (hs : w'.heap.size = w.heap.size) (hb : ∀ k, k ≠ b → w'.heap[k]? = w.heap[k]?) (hsh : ∀ k, w'.shape? k = w.shape? k) : Imm w M w' M :=
  ⟨by omega, fun k hk hm => ⟨hm, hb k fun e => hm (e ▸ hM)⟩, fun k _ => hsh k⟩
theorem Rep.set {h b base : Nat} {c c' : Chunk} {w' : World} (hR : Rep ι s w M) (hg : s.get h = some c) (hi : ι h = some (some (b, base))) (hs : w'.heap.size = w.heap.size) (hb : ∀ k, k ≠ b → w'.heap[k]? = w.heap[k]?) (hsh : ∀ k, w'.shape? k = w.shape? k)
    (hC : CRel ι w' M c' b base) : Rep ι ⟨s.next, (h, some c') :: s.m⟩ w' M := by
  have hMb : M b := hR.ownM ⟨h, c, base, hg, hi⟩
  have hI := Imm.set (w := w) hMb hs hb hsh
  refine ⟨hR.fresh, fun j c1 hc => ?_, fun j j' c1 c2 p p' hc hc' hne hp hp' => ?_, fun k hk => by rw [hs]; exact hR.lt k hk⟩
  · rw [St.get_cons] at hc
    split at hc
    · rename_i he
      subst he
      cases hc
      exact .inr ⟨b, base, hi, hMb, hC⟩
    · rename_i he
      rcases hR.own j c1 hc with h1 | ⟨b1, base1, h1, h2, h3⟩
      · exact .inl h1
      · refine .inr ⟨b1, base1, h1, h2, h3.mono hI (fun _ _ h => h) (hb b1 ?_)⟩
        have := hR.inj h j c c1 _ _ hg hc he hi h1
        exact fun e => this e.symm
  · have key : ∀ j c, (St.mk s.next ((h, some c') :: s.m)).get j = some c → ∃ c1, s.get j = some c1 := fun j c hc => by
      rw [St.get_cons] at hc
      split at hc
      · rename_i he; subst he; exact ⟨_, hg⟩
      · exact ⟨_, hc⟩
    obtain ⟨d, hd⟩ := key j c1 hc
    obtain ⟨d', hd'⟩ := key j' c2 hc'
    exact hR.inj j j' d d' p p' hd hd' hne hp hp'
theorem Go.set {n0 h b base : Nat} {c c' : Chunk} {w' : World} (hR : Rep ι s w M) (hn : n0 ≤ s.next) (hg : s.get h = some c) (hi : ι h = some (some (b, base))) (hs : w'.heap.size = w.heap.size) (hb : ∀ k, k ≠ b → w'.heap[k]? = w.heap[k]?) (hsh : ∀ k, w'.shape? k = w.shape? k)
    (ht : w'.tape = w.tape) (ho : w'.os = w.os) (hu : w'.output = w.output) : Go n0 ι s w M ι ⟨s.next, (h, some c') :: s.m⟩ w' M :=
  ⟨by omega, ht, ho, hu, fun k hk hno => hb k fun e => hno (e ▸ ⟨h, c, base, hg, hi⟩), fun k _ => hsh k, fun _ _ h => h, fun _ h _ => h, fun k _ ho => by
    obtain ⟨j, c1, base1, h1, h2⟩ := ho
    rw [St.get_cons] at h1
    split at h1
    · rename_i he; subst he; exact ⟨_, _, _, hg, h2⟩
    · exact ⟨_, _, _, h1, h2⟩, hn, fun _ _ => rfl⟩

end
end Go.Ab
